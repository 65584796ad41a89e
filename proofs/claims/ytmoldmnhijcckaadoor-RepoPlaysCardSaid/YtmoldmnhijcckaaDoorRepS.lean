/- The contract of repo's Names. -/
import Derived.Test.YtmoldmnhijcckaaDoorRepG
import Derived.Sort.OwnSorted
import Derived.Sort.KeysCollected
import Derived.Maps.RangeRun
set_option linter.unusedVariables false
set_option linter.unusedSectionVars false
set_option linter.unusedSimpArgs false
namespace Go.Proofs.YtmoldmnhijcckaaDoor
open Go.RowKit
open Go.Proofs (encStr)
open Go.ChangeMaps (setBlock)
/-- The name of a place within another one. -/
def tailB (d u : ByteArray) : List UInt8 := Lib.trimPrefix u.data.toList d.data.toList
def nameIn (d u : ByteArray) : Option (List UInt8) := if Lib.hasPrefix u.data.toList d.data.toList && (!(tailB d u).isEmpty && !decide (0 ≤ Lib.indexByte (tailB d u) 47)) then some (tailB d u) else none
def namesRaw (es : List Blb) (d : ByteArray) : List (List UInt8) := es.filterMap fun e => nameIn d e.u
def namesOf (es : List Blb) (d : ByteArray) : List (List UInt8) := (namesRaw es d).mergeSort leB
def pick (es : List Blb) (d : ByteArray) (l : List Nat) : List (List UInt8) := l.filterMap fun i => (es[i]?).bind fun e => nameIn d e.u
theorem pick_range (d : ByteArray) (es : List Blb) : pick es d (List.range es.length) = namesRaw es d := by
  unfold pick namesRaw
  have h : (List.range es.length).map (fun i => es[i]?) = es.map some := by
    apply List.ext_getElem (by simp)
    intro i h1 h2
    simp at h1 ⊢
    try exact List.getElem?_eq_getElem h1
  calc (List.range es.length).filterMap (fun i => (es[i]?).bind fun e => nameIn d e.u) = ((List.range es.length).map (fun i => es[i]?)).filterMap (fun o => o.bind fun e => nameIn d e.u) := by rw [List.filterMap_map]; rfl
    _ = (es.map some).filterMap (fun o => o.bind fun e => nameIn d e.u) := by rw [h]
    _ = _ := by rw [List.filterMap_map]; rfl
theorem mapEsFrom_mem {l : List (ByteArray × Value)} : ∀ {n : Nat} {x : MapEntry}, x ∈ mapEsFrom n l → ∃ i, ∃ h : i < l.length, x = ⟨.string l[i].1, l[i].2, n + i⟩ := by
  induction l with
  | nil => intro n x h; simp [mapEsFrom] at h
  | cons a l ih =>
    intro n x h
    simp only [mapEsFrom, List.mem_cons] at h
    rcases h with rfl | h
    · exact ⟨0, by simp, rfl⟩
    · obtain ⟨i, hi, rfl⟩ := ih h
      exact ⟨i + 1, by simp; omega, by simp; omega⟩
theorem mapEsFrom_born (l : List (ByteArray × Value)) : ∀ n, (mapEsFrom n l).map (·.born) = List.range' n l.length := by
  induction l with
  | nil => intro n; rfl
  | cons a l ih => intro n; simp [mapEsFrom, ih, List.range'_succ]
theorem mapEsFrom_at : ∀ (l : List (ByteArray × Value)) (n i : Nat) (h : i < l.length), (⟨.string l[i].1, l[i].2, n + i⟩ : MapEntry) ∈ mapEsFrom n l
  | a :: l, n, 0, h => by simp [mapEsFrom]
  | a :: l, n, i + 1, h => by
    have := mapEsFrom_at l (n + 1) i (by simpa using h)
    simp only [mapEsFrom, List.mem_cons, List.getElem_cons_succ]
    right
    rw [show n + (i + 1) = n + 1 + i by omega]
    exact this
theorem left_mem {a : Array MapEntry} {seen : Array Nat} {x : MapEntry} : x ∈ (leftOf a seen).toList ↔ x ∈ a.toList ∧ x.born ∉ seen.toList := by
  unfold leftOf
  simp
/-- The loop over the map. -/
structure NS (w : World) (r b1 : Nat) (es : List Blb) (d : ByteArray) (v : Value) (seen : Array Nat) (todo : List Nat) (W : World) : Prop where
  it : W.heap[r]? = some (.mapIter (some b1) es.length seen es.length)
  m : MapAt W b1 (es.map Blb.kv)
  o : W.ownsRow w.heap.size 9 1 v (pick es d seen.toList).length ((pick es d seen.toList).map encStr)
  lo : Below w.heap.size w W
  p : (seen.toList ++ todo).Perm (List.range es.length)
  hr : w.heap.size ≤ r
  hb : b1 < w.heap.size
theorem NS.next {w : World} {r b1 : Nat} {es : List Blb} {d : ByteArray} {v : Value} {seen : Array Nat} {todo : List Nat} {W : World} (h : NS w r b1 es d v seen todo W) (ty : TypeId) :
    (todo = [] ∧ (Instr.next (.pointer (some ⟨r, 0, none⟩)) false ty).run Tryd.prog W = .ok (.tuple #[.bool false]) W) ∨
    ∃ i, ∃ hi : i < es.length, ∃ W1 todo', (Instr.next (.pointer (some ⟨r, 0, none⟩)) false ty).run Tryd.prog W = .ok (.tuple #[.bool true, .string es[i].u, .slice es[i].A es[i].bs.length es[i].c]) W1 ∧
      (Instr.entry (.pointer (some ⟨r, 0, none⟩))).run Tryd.prog W1 = .ok (.tuple #[.string es[i].u, .slice es[i].A es[i].bs.length es[i].c]) W1 ∧
      W1.heap[r]? = some (.mapIter (some b1) es.length (seen.push i) es.length) ∧ MapAt W1 b1 (es.map Blb.kv) ∧ W1.ownsRow w.heap.size 9 1 v (pick es d seen.toList).length ((pick es d seen.toList).map encStr) ∧ Below w.heap.size w W1 ∧
      ((seen.push i).toList ++ todo').Perm (List.range es.length) ∧ todo'.length + 1 = todo.length := by
  have hm : W.heap[b1]? = some (.map (mapEs (es.map Blb.kv)) (es.map Blb.kv).length) := h.m
  have hborn : ∀ x ∈ (mapEs (es.map Blb.kv)).toList, x.born < es.length := fun x hx => by
    obtain ⟨i, hi, rfl⟩ := mapEsFrom_mem (show x ∈ mapEsFrom 0 (es.map Blb.kv) by simpa [mapEs] using hx)
    simp at hi ⊢
    exact hi
  have hnd : ((mapEs (es.map Blb.kv)).toList.map (·.born)).Nodup := by
    have : (mapEs (es.map Blb.kv)).toList = mapEsFrom 0 (es.map Blb.kv) := by simp [mapEs]
    rw [this, mapEsFrom_born]
    exact List.nodup_range'
  have hpn : (seen.toList ++ todo).Nodup := (h.p.nodup_iff).2 List.nodup_range
  rcases run_next_at (P := Tryd.prog) W ty r b1 es.length es.length seen _ _ h.it hm hborn (Nat.le_refl _) with ⟨h0, hrun⟩ | ⟨e, he, w1, hw1, hrun⟩
  · refine .inl ⟨?_, hrun⟩
    cases todo with
    | nil => rfl
    | cons i todo =>
      exfalso
      have hi : i < es.length := by
        have := h.p.mem_iff (a := i)
        simp at this
        exact this
      have hns : i ∉ seen.toList := by
        intro hin
        have := (List.nodup_append.1 hpn).2.2 i hin i (by simp)
        exact this rfl
      have hi2 : i < (es.map Blb.kv).length := by simpa using hi
      have hx : (⟨.string (es.map Blb.kv)[i].1, (es.map Blb.kv)[i].2, 0 + i⟩ : MapEntry) ∈ (leftOf (mapEs (es.map Blb.kv)) seen).toList := left_mem.2 ⟨mapEsFrom_at (es.map Blb.kv) 0 i hi2, by simpa using hns⟩
      have : (leftOf (mapEs (es.map Blb.kv)) seen).toList ≠ [] := fun e => by rw [e] at hx; simp at hx
      apply this
      simpa using Array.eq_empty_of_size_eq_zero h0
  · obtain ⟨he1, he2⟩ := left_mem.1 he
    obtain ⟨i, hi, rfl⟩ := mapEsFrom_mem (show e ∈ mapEsFrom 0 (es.map Blb.kv) by simpa [mapEs] using he1)
    have hi' : i < es.length := by simpa using hi
    simp only [Nat.zero_add] at he2 hrun
    have hit : i ∈ todo := by
      have h2 := (h.p.mem_iff (a := i)).2 (by simpa using hi')
      rcases List.mem_append.1 h2 with h3 | h3
      · exact absurd h3 he2
      · exact h3
    have hheap : w1.heap = W.heap := by rcases hw1 with rfl | rfl <;> rfl
    have hsize : r < w1.heap.size := by rw [hheap]; exact (Array.getElem?_eq_some_iff.1 h.it).1
    have hit1 : (setBlock w1 r (.mapIter (some b1) es.length (seen.push i) es.length)).heap[r]? = some (.mapIter (some b1) es.length (seen.push i) es.length) := by
      unfold setBlock
      simp [hsize]
    have hne : b1 ≠ r := by have := h.hr; have := h.hb; omega
    have hm1 : MapAt (setBlock w1 r (.mapIter (some b1) es.length (seen.push i) es.length)) b1 (es.map Blb.kv) := by
      have : MapAt w1 b1 (es.map Blb.kv) := by unfold MapAt; rw [hheap]; exact h.m
      exact this.setBlock_far _ hne
    have hlo1 : Below w.heap.size w w1 := by rcases hw1 with rfl | rfl; exact h.lo; exact h.lo.drew
    have ho1 : w1.ownsRow w.heap.size 9 1 v (pick es d seen.toList).length ((pick es d seen.toList).map encStr) := own_kept h.o fun k _ => by rw [hheap]
    have e1 : (es.map Blb.kv)[i] = (es[i].u, .slice es[i].A es[i].bs.length es[i].c) := by simp [Blb.kv]
    have elen : (es.map Blb.kv).length = es.length := by simp
    rw [e1, elen] at hrun
    refine .inr ⟨i, hi', _, todo.erase i, hrun, ?_, hit1, hm1, own_kept ho1 fun k hk => heap_setBlock_far w1 _ ?_, Below.setBlock' hlo1 _ h.hr, ?_, ?_⟩
    · have := run_entry_at (P := Tryd.prog) (setBlock w1 r (.mapIter (some b1) es.length (seen.push i) es.length)) r b1 es.length seen (mapEs (es.map Blb.kv)) (es.map Blb.kv).length ⟨.string (es.map Blb.kv)[i].1, (es.map Blb.kv)[i].2, 0 + i⟩ (by simp only [Nat.zero_add]; rw [elen]; exact hit1) hm1 he1 hnd
      rw [e1] at this
      exact this
    · intro hkr
      subst hkr
      rcases ho1.2 with ⟨rfl, _⟩ | ⟨g', cap, cur, rfl, _, hh, _⟩
      · simp [Value.ownBlock] at hk
      · have : g' = k := by simpa [Value.ownBlock] using hk
        subst this
        rw [hheap, h.it] at hh
        cases hh
    · have hp : (i :: todo.erase i).Perm todo := (List.perm_cons_erase hit).symm
      have : (seen.push i).toList ++ todo.erase i = seen.toList ++ (i :: todo.erase i) := by simp
      rw [this]
      exact (hp.append_left seen.toList).trans h.p
    · rw [List.length_erase_of_mem hit]
      have := List.length_pos_of_mem hit
      omega
theorem own_ne_iter {w : World} {base n size r : Nat} {e : TypeId} {v : Value} {xs : List Value} {a : Option Nat} {b c : Nat} {sn : Array Nat} (h : w.ownsRow base e size v n xs) (hr : w.heap[r]? = some (.mapIter a b sn c)) : v.ownBlock ≠ some r := by
  intro hk
  rcases h.2 with ⟨rfl, _⟩ | ⟨g', cap, cur, rfl, _, hh, _⟩
  · simp [Value.ownBlock] at hk
  · have : g' = r := by simpa [Value.ownBlock] using hk
    subst this
    rw [hr] at hh
    cases hh
theorem pick_push (es : List Blb) (d : ByteArray) (seen : Array Nat) (i : Nat) (hi : i < es.length) : pick es d (seen.push i).toList = pick es d seen.toList ++ (match nameIn d es[i].u with | some t => [t] | none => []) := by
  unfold pick
  rw [Array.toList_push, List.filterMap_append]
  congr 1
  rw [List.filterMap_cons, List.getElem?_eq_getElem hi]
  simp only [Option.bind_some, List.filterMap_nil]
  cases nameIn d es[i].u <;> rfl
theorem perm_pick {es : List Blb} {d : ByteArray} {l : List Nat} (h : l.Perm (List.range es.length)) : (pick es d l).Perm (namesRaw es d) := by
  rw [← pick_range]
  exact h.filterMap _
theorem cont_any (s : ByteArray) (c : UInt8) (w : World) : Calls Tryd.prog 52 #[.string s, .string ⟨#[c]⟩] w fun e w' => e = .returned (.bool (decide (0 ≤ Lib.indexByte s.data.toList c))) ∧ w = w' :=
  (Tryd.strings_Contains_one s c w).mono fun e w' ⟨he, hw⟩ => ⟨he, hw.symm⟩
def NamesPost (w : World) (es : List Blb) (d : ByteArray) (e : Ending) (w' : World) : Prop :=
  if dirB d then ∃ A c, e = .returned (.slice A (namesRaw es d).length c) ∧ w'.ownsRow w.heap.size 9 1 (.slice A (namesRaw es d).length c) (namesRaw es d).length ((namesOf es d).map encStr)
  else e = .returned (.slice none 0 0)
set_option maxRecDepth 100000 in
set_option maxHeartbeats 4000000 in
theorem names_any (d : ByteArray) (hd : d.size ≤ 9223372036854775807) (m : Int) (w : World) (h0 : 0 < w.heap.size) (hm : w.cell? ⟨0, 0, none⟩ = some (.int .i64 m)) (lo g b1 b2 : Nat) (es : List Blb) (ks : List ByteArray) (h : RepoAt w lo g b1 b2 es ks) (hes : es.length ≤ 1000000) :
    Calls Tryd.prog 19 #[.pointer (some ⟨g, 0, none⟩), .string d] w fun e w' => NamesPost w es d e w' ∧ Below w.heap.size w w' := by
  cases hdd : dirB d
  · have HD := Lib.hid hdd
    clear hdd
    go_enter Tryd.func19, Tryd.ntmps19
    go_wp2_with fail
    refine (dir_any d hd m _ h0 hm).mono ?_
    rintro e w1 ⟨rfl, hb⟩
    rw [HD.out]
    go_wp2_with fail
    go_ret
    exact ⟨by unfold NamesPost; rw [HD.out]; rfl, hb⟩
  · have HD := Lib.hid hdd
    clear hdd
    go_enter Tryd.func19, Tryd.ntmps19
    go_wp2_with fail
    refine (dir_any d hd m _ h0 hm).mono ?_
    rintro e w1 ⟨rfl, hb⟩
    rw [HD.out]
    have h1 := h.next hb
    obtain ⟨v, hB, _⟩ := h1.blk
    have cg : w1.cell? ⟨g, 0, none⟩ = some (.map (some b1)) := hB.cell 0
    have hm1 : w1.heap[b1]? = some (.map (mapEs (es.map Blb.kv)) (es.map Blb.kv).length) := h1.m1
    have hrg := run_range_map (P := Tryd.prog) w1 72 _ _ b1 _ _ Tryd.underlying72 hm1
    have elen : (es.map Blb.kv).length = es.length := by simp
    rw [elen] at hrg
    have hN : NS w w1.heap.size b1 es d (.slice none 0 0) #[] (List.range es.length) (w1.alloc (.mapIter (some b1) es.length #[] es.length)) :=
      ⟨heap_alloc_new _ _, MapAt.alloc h1.m1 _, World.ownsRow_nil _ _ _ _, hb.alloc hb.size _, by simp, hb.size, h.m1.lt⟩
    clear hB h1 hm1 elen
    go_wp2_with fail
    clear cg hrg
    generalize w1.heap.size = r at hN
    go_loopw [5, 6, 7, 8] (fun v5 v6 v7 v8 wr => ∃ seen todo, NS w r b1 es d v5 seen todo wr) (fun _ _ _ _ wr => es.length - (wr.iterSeen r).size)
    case atStart => exact ⟨_, _, hN⟩
    case round =>
      clear hN
      obtain ⟨seen, todo, hN⟩ := hrel
      have hsn := hN.it
      rcases hN.next 0 with ⟨rfl, hrun⟩ | ⟨i, hi, W1, todo', hrun, hent, hit1, hm1, ho1, hlo1, hp1, htl⟩
      · have hperm : seen.toList.Perm (List.range es.length) := by simpa using hN.p
        have hpk := perm_pick (d := d) hperm
        have ho := hN.o
        have hlo := hN.lo
        have HL := Lib.hid hpk.length_eq
        have hsl : (pick es d seen.toList).length ≤ 1000000 := by rw [hpk.length_eq]; exact Nat.le_trans (List.length_filterMap_le _ _) hes
        have HS := Lib.hid (show (pick es d seen.toList).mergeSort leB = namesOf es d from mergeSort_of_perm hpk)
        clear hN hsn
        generalize pick es d seen.toList = ss at ho HL HS hpk hsl
        rcases ho.2 with ⟨rfl, hz⟩ | ⟨gg, cap, cur, rfl, hbase, hbb, q1, q2, q3, q4⟩
        · go_wp2_with fail
          refine (Tryd.slices_Sort_string_none none 0 _).mono ?_
          rintro e w9 ⟨rfl, rfl⟩
          go_wp2_with fail
          go_ret
          refine ⟨?_, hlo⟩
          have e0 : ss = [] := List.eq_nil_of_length_eq_zero hz
          subst e0
          have e1 : (namesRaw es d).length = 0 := HL.out.symm
          have e2 : namesOf es d = [] := by rw [← HS.out]; simp
          unfold NamesPost
          rw [HD.out, e1, e2]
          exact ⟨none, 0, rfl, World.ownsRow_nil _ _ _ _⟩
        · go_wp2_with fail
          refine (Tryd.slices_Sort_string gg 0 cap ss wr (holds_of_block hbb (by simpa using q4)) (Array.getElem?_eq_some_iff.1 hbb).1 ?_).mono ?_
          · omega
          rintro e w9 ⟨rfl, nn, os, rfl⟩
          go_wp2_with fail
          go_ret
          have hown := ownsRow_sorted (n := nn) (os := os) (ts := ss.mergeSort leB) (by simp) hbase hbb q1 q2 q3
          refine ⟨?_, Below.grown hlo (grownBy_sorted _) hlo.size fun k hk => ?_⟩
          · unfold NamesPost
            rw [HD.out, ← HL.out, ← HS.out]
            exact ⟨_, _, rfl, hown⟩
          · cases hk; exact hbase
      · have hpp := pick_push es d seen i hi
        have hhr := hN.hr
        have hhb := hN.hb
        have hsz : (wr.iterSeen r).size = seen.size := by unfold World.iterSeen; rw [hsn]
        have hss : seen.size + todo.length = es.length := by have := hN.p.length_eq; simpa using this
        clear hN hsn
        have HU := Lib.hid (show nameIn d es[i].u = if Lib.hasPrefix es[i].u.data.toList d.data.toList && (!(tailB d es[i].u).isEmpty && !decide (0 ≤ Lib.indexByte (tailB d es[i].u) 47)) then some (tailB d es[i].u) else none from rfl)
        generalize es[i].u = u at hrun hent hpp HU
        generalize es[i].A = eA at hrun hent
        generalize es[i].bs.length = eN at hrun hent
        generalize es[i].c = eC at hrun hent
        have HPP := Lib.hid hpp
        clear hpp
        obtain ⟨nm, hnm⟩ : ∃ nm : ByteArray, nm = ⟨(Lib.trimPrefix u.data.toList d.data.toList).toArray⟩ := ⟨_, rfl⟩
        have HT := Lib.hid (show tailB d u = nm.data.toList by rw [hnm]; rfl)
        have HNM := Lib.hid hnm.symm
        clear hnm
        cases hpx : Lib.hasPrefix u.data.toList d.data.toList
        · have HPX := Lib.hid hpx
          have HX := Lib.hid (show pick es d (seen.push i).toList = pick es d seen.toList by rw [HPP.out, HU.out, hpx]; simp)
          clear hpx
          go_wp2_with (go_at_call 51; refine (cutp_any u d _).mono ?_; rintro e w2 ⟨rfl, rfl⟩; rw [HPX.out, HNM.out])
          go_roundw
          case rel => exact ⟨seen.push i, todo', hit1, hm1, by rw [HX.out]; exact ho1, hlo1, hp1, hhr, hhb⟩
          case measure => rw [hsz, show (W1.iterSeen r).size = seen.size + 1 by unfold World.iterSeen; rw [hit1]; simp]; omega
        · have HPX := Lib.hid hpx
          by_cases hz : nm.size = 0
          · obtain rfl : nm = ⟨#[]⟩ := by
              apply ByteArray.ext
              exact Array.eq_empty_of_size_eq_zero hz
            have HX := Lib.hid (show pick es d (seen.push i).toList = pick es d seen.toList by rw [HPP.out, HU.out, hpx, HT.out]; simp)
            clear hpx hz
            go_wp2_with (go_at_call 51; refine (cutp_any u d _).mono ?_; rintro e w2 ⟨rfl, rfl⟩; rw [HPX.out, HNM.out])
            go_roundw
            case rel => exact ⟨seen.push i, todo', hit1, hm1, by rw [HX.out]; exact ho1, hlo1, hp1, hhr, hhb⟩
            case measure => rw [hsz, show (W1.iterSeen r).size = seen.size + 1 by unfold World.iterSeen; rw [hit1]; simp]; omega
          · have hemp : nm.toList.isEmpty = false := by
              rw [← decide_eq_emptyBytes]
              exact decide_eq_false (fun h => hz (by rw [h]; rfl))
            have hne : nm.data.toList.isEmpty = false := by
              cases he : nm.data.toList with
              | nil => exact absurd (show nm.data.size = 0 by rw [← Array.length_toList, he]; rfl) hz
              | cons a l => rfl
            cases hct : decide (0 ≤ Lib.indexByte nm.data.toList 47)
            · have HX := Lib.hid (show pick es d (seen.push i).toList = pick es d seen.toList ++ [nm.data.toList] by rw [HPP.out, HU.out, hpx, HT.out, hct, hne]; rfl)
              have HC := Lib.hid hct
              clear hpx hz hne hct
              have hpl : (pick es d seen.toList).length ≤ 1000000 := by
                have h1 : (pick es d seen.toList).length ≤ seen.toList.length := List.length_filterMap_le _ _
                have h2 : seen.toList.length = seen.size := Array.length_toList
                omega
              have hW1 := hlo1.size
              obtain ⟨i0, hi0, hz0, hz1, hz2⟩ := info_parts info_str
              have henc : encStr nm.data.toList = .string nm := rfl
              have hne4 := own_ne_iter ho1 hit1
              have hrW : r < W1.heap.size := (Array.getElem?_eq_some_iff.1 hit1).1
              have hba : ∀ k, u5.ownBlock = some k → w.heap.size ≤ k := fun k hk => (own_base_le ho1 k hk).1
              go_wp2_with (first | (go_at_call 51; refine (cutp_any u d _).mono ?_; rintro e w2 ⟨rfl, rfl⟩; rw [HPX.out, HNM.out]) | (go_at_call 52; refine (cont_any nm 47 _).mono ?_; rintro e w2 ⟨rfl, rfl⟩; rw [HC.out]) | (at_builtin; go_must (refine wpList_append_any _ rfl _ _ 35 rfl w.heap.size 9 i0 _ 1 16 Tryd.underlying35 hi0 hz0 hz1 hz2 rfl (by omega) _ (pick es d seen.toList).length _ rfl (own_below ho1 ((Below.refl _ _).alloc (Nat.le_refl _) _)) (W1.heap.size + 1) (some ⟨W1.heap.size, 0, none⟩) 1 1 _ rfl (reads_new1 _ _ rfl) (by intro u hu; simp at hu; subst hu; rfl) (by simp only [maxLen]; omega) (by omega) (by simp; omega) ?_; intro v4 w4 ho4 hg4 _)))
              have hit4 : w4.heap[r]? = some (.mapIter (some b1) es.length (seen.push i) es.length) := by
                rw [hg4.block r (by rw [World.size_alloc]; omega) (fun e => hne4 e.symm), Below.heap_alloc _ _ _ hrW]
                exact hit1
              have hm4 := (MapAt.alloc hm1 (.cells #[.string nm] 9)).grown hg4 (fun e => by have := hba b1 e.symm; omega)
              have hlo4 := Below.grown (hlo1.alloc hlo1.size (.cells #[.string nm] 9)) hg4 (by rw [World.size_alloc]; omega) (fun k hk => hba k hk)
              go_roundw
              case rel => exact ⟨seen.push i, todo', hit4, hm4, by rw [HX.out, List.length_append, List.map_append]; exact ho4, hlo4, hp1, hhr, hhb⟩
              case measure => rw [hsz, show (w4.iterSeen r).size = seen.size + 1 by unfold World.iterSeen; rw [hit4]; simp]; omega
            · have HX := Lib.hid (show pick es d (seen.push i).toList = pick es d seen.toList by rw [HPP.out, HU.out, hpx, HT.out, hct, hne]; simp)
              have HC := Lib.hid hct
              clear hpx hz hne hct
              go_wp2_with (first | (go_at_call 51; refine (cutp_any u d _).mono ?_; rintro e w2 ⟨rfl, rfl⟩; rw [HPX.out, HNM.out]) | (go_at_call 52; refine (cont_any nm 47 _).mono ?_; rintro e w2 ⟨rfl, rfl⟩; rw [HC.out]))
              go_roundw
              case rel => exact ⟨seen.push i, todo', hit1, hm1, by rw [HX.out]; exact ho1, hlo1, hp1, hhr, hhb⟩
              case measure => rw [hsz, show (W1.iterSeen r).size = seen.size + 1 by unfold World.iterSeen; rw [hit1]; simp]; omega
end Go.Proofs.YtmoldmnhijcckaaDoor
