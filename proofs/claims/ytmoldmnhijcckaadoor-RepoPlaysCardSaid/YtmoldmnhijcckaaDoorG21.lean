/- The contract of lanyardref21's Get. -/
import Derived.Test.YtmoldmnhijcckaaDoorR21
import Derived.Test.YtmoldmnhijcckaaDoorRfW
set_option linter.unusedVariables false
set_option linter.unusedSectionVars false
set_option linter.unusedSimpArgs false
namespace Go.Proofs.YtmoldmnhijcckaaDoor
open Go.RowKit
/-- The row of what was asked for does not lie in a block. -/
def Off21 (w : World) (g k : Nat) : Prop := ∀ v, w.cell? ⟨g, 1, none⟩ = some v → v.ownBlock ≠ some k
structure Fr21 (w w' : World) (g : Nat) : Prop where
  lo : Below g w w'
  keep : ∀ k, k < w.heap.size → k ≠ g → Off21 w g k → w'.heap[k]? = w.heap[k]?
  off : ∀ k, k < w.heap.size → Off21 w g k → Off21 w' g k
theorem R21.offOf {w : World} {g : Nat} {v a : Value} (hB : Blk w g 44 [v, a]) {k : Nat} (h : Off21 w g k) : a.ownBlock ≠ some k := h a (hB.cell 1)
theorem Off21.of {w : World} {g : Nat} {v a : Value} (hB : Blk w g 44 [v, a]) {k : Nat} (h : a.ownBlock ≠ some k) : Off21 w g k := fun a' ha => by
  have := hB.cell 1
  rw [ha] at this
  obtain rfl : a' = a := by simpa using this
  exact h
theorem Fr21.refl (w : World) (g : Nat) : Fr21 w w g := ⟨Below.refl _ _, fun _ _ _ _ => rfl, fun _ _ h => h⟩
/-- What only makes memory. -/
theorem Fr21.then {w w1 w2 : World} {g : Nat} (h : Fr21 w w1 g) (hg : g < w1.heap.size) (hb : Below w1.heap.size w1 w2) : Fr21 w w2 g :=
  ⟨h.lo.trans (hb.mono (Nat.le_of_lt hg)), fun k hk h1 h2 => (hb.block k (Nat.lt_of_lt_of_le hk (by have := h.lo.size; omega))).trans (h.keep k hk h1 h2), fun k hk ho v hv => h.off k hk ho v (by rw [← hv]; exact (hb.cell (p := ⟨g, 1, none⟩) hg).symm)⟩
theorem R21.asked {w W4 : World} {g : Nat} {ls : List Blb} {ks : List ByteArray} {v a : Value} (hB : Blk w g 44 [v, a]) (hv : w.ownsRow (g + 1) 27 2 v ls.length (ls.flatMap Blb.cells))
    (ha : w.ownsRow (g + 1) 9 1 a ks.length (ks.map Value.string)) (hrd : ∀ e ∈ ls, OwnB w (g + 1) e) (u : ByteArray) {v4 : Value} {o : Obj} (hg4 : (w.alloc o).grownBy W4 a.ownBlock)
    (ho4 : W4.ownsRow (g + 1) 9 1 v4 (ks.length + 1) ((ks ++ [u]).map Value.string)) (how : v4.ownBlock = a.ownBlock ∨ v4.ownBlock = some (w.alloc o).heap.size) :
    R21 (W4.setCell ⟨g, 1, none⟩ v4) g ls (ks ++ [u]) ∧ Fr21 w (W4.setCell ⟨g, 1, none⟩ v4) g := by
  have hsz : (w.alloc o).heap.size = w.heap.size + 1 := World.size_alloc _ _
  have hgw := hB.lt
  have hs4 := hg4.size
  have hne1 : ∀ k, a.ownBlock = some k → g + 1 ≤ k := fun k hk => (own_base_le ha k hk).1
  have hkeep : ∀ k, k < w.heap.size → k ≠ g → a.ownBlock ≠ some k → (W4.setCell ⟨g, 1, none⟩ v4).heap[k]? = w.heap[k]? := fun k hk h1 h3 => by
    rw [Below.heap_setCell W4 ⟨g, 1, none⟩ v4 k h1, hg4.block k (by omega) (fun e => h3 e.symm), Below.heap_alloc _ _ _ hk]
  have hB4 : Blk (W4.setCell ⟨g, 1, none⟩ v4) g 44 [v, v4] := ((hB.alloc o).grown hg4 (fun e => by have := hne1 g e.symm; omega)).set_ 1 v4
  refine ⟨⟨⟨v, v4, hB4, own_kept hv fun k hk => ?_, ?_⟩, fun e he => ⟨own_kept (hrd e he).1 fun k hk => ?_, (hrd e he).2⟩⟩, ⟨hg4.os, hg4.tape, hg4.output, ?_, fun k hk => hkeep k (by omega) (by omega) (fun e => by have := hne1 k e; omega)⟩, fun k hk h1 h2 => hkeep k hk h1 (R21.offOf hB h2), fun k hk h2 => Off21.of hB4 ?_⟩
  · have h1 := own_base_le hv k hk
    exact hkeep k h1.2 (by omega) (own_own_ne hv ha (by decide) k hk)
  · rw [List.length_append]
    exact own_kept ho4 fun k hk => Below.heap_setCell W4 _ v4 k (by have := (own_base_le ho4 k hk).1; show k ≠ g; omega)
  · have h1 := own_base_le (hrd e he).1 k hk
    exact hkeep k h1.2 (by omega) (own_own_ne (hrd e he).1 ha (by decide) k hk)
  · rw [World.size_setCell]; omega
  · have h3 := R21.offOf hB h2
    rcases how with e | e
    · rw [e]; exact h3
    · rw [e]
      intro e2
      have := Option.some.inj e2
      omega
theorem getK_at {ls : List Blb} {u : ByteArray} {i : Nat} (hi : i < ls.length) (h1 : ls[i].u = u) (h2 : ∀ t (ht : t < i), (ls[t]'(by omega)).u ≠ u) : getK ls u = some ls[i].bs := by
  unfold getK
  have : (ls.find? fun e => u == e.u) = some ls[i] := by
    rw [List.find?_eq_some_iff_getElem]
    refine ⟨by rw [h1]; simp, i, hi, rfl, fun j hj => ?_⟩
    simpa using fun e => h2 j hj e.symm
  rw [this]
  rfl
theorem getK_no {ls : List Blb} {u : ByteArray} (h : ∀ y ∈ ls, y.u ≠ u) : getK ls u = none := by
  unfold getK
  rw [Option.map_eq_none_iff, List.find?_eq_none]
  intro y hy
  simpa using fun e => h y hy e.symm
/-- What Get answers. -/
def Get21Post (w : World) (g : Nat) (ls : List Blb) (ks : List ByteArray) (u : ByteArray) (e : Ending) (w' : World) : Prop :=
  ∃ A c bs is, e = .returned (.tuple #[.slice A bs.length c, .bool is]) ∧ getK ls u = (if is then some bs else none) ∧ (is = false → bs = []) ∧ w'.ownsRow w.heap.size 5 1 (.slice A bs.length c) bs.length (bs.map bv) ∧ R21 w' g ls (askF ks u) ∧ Fr21 w w' g
set_option maxRecDepth 100000 in
set_option maxHeartbeats 4000000 in
theorem get21_any (u : ByteArray) (w : World) (g : Nat) (ls : List Blb) (ks : List ByteArray) (h : R21 w g ls ks) (hl : ls.length ≤ 1000000) (hk : ks.length ≤ 1000000) :
    Calls Tryd.prog 22 #[.pointer (some ⟨g, 0, none⟩), .string u] w (Get21Post w g ls ks u) := by
  obtain ⟨v, a, hB, hv, ha⟩ := h.blk
  obtain ⟨Aa, ca, rfl⟩ := own_slice' ha
  have c1 : w.cell? ⟨g, 1, none⟩ = some (.slice Aa ks.length ca) := hB.cell 1
  go_enter Tryd.func22, Tryd.ntmps22
  go_wp2_with fail
  go_loopw [6, 7] (fun mt i wr => ∃ k : Nat, k ≤ ks.length ∧ i = .int .i64 k ∧ mt = .bool ((ks.take k).any fun q => u == q) ∧ w = wr) (fun _ i _ => ks.length - (intOf i).toNat)
  case atStart => exact ⟨0, by omega, rfl, rfl, rfl⟩
  case round =>
    obtain ⟨k, hkk, rfl, rfl, rfl⟩ := hrel
    by_cases hlt : k < ks.length
    · have hk0 : (0 : Int) ≤ (k : Int) := by omega
      have hk1 : (k : Int) < (ks.length : Int) := by omega
      obtain ⟨ga, rfl, _, hcl⟩ := own_at ha (by omega)
      have c2 : w.cell? ⟨ga, k, none⟩ = some (.string ks[k]) := hcl k _ (by simp [hlt])
      have HT := Lib.hid (show ((ks.take (k + 1)).any fun q => u == q) = (((ks.take k).any fun q => u == q) || u == ks[k]) by rw [List.take_succ_eq_append_getElem hlt, List.any_append]; simp)
      generalize ks[k] = q at c2 HT
      clear hcl
      cases hm : (ks.take k).any fun q => u == q
      · rw [hm] at HT
        by_cases hx : q = u
        · have be : (q.toList == u.toList) = true := by rw [eqS]; exact decide_eq_true hx
          have HX := Lib.hid (show ((ks.take (k + 1)).any fun q => u == q) = true by rw [HT.out, hx]; simp)
          clear hx hm HT
          go_wp2_with fail
          go_roundw
          case rel => exact ⟨k + 1, by omega, by go_num, by rw [HX.out], by first | rfl | trivial⟩
          case measure => simp [intOf]; omega
        · have be : (q.toList == u.toList) = false := by rw [eqS]; exact decide_eq_false hx
          have HX := Lib.hid (show ((ks.take (k + 1)).any fun q => u == q) = false by rw [HT.out]; simp; exact fun e => hx e.symm)
          clear hx hm HT
          go_wp2_with fail
          go_roundw
          case rel => exact ⟨k + 1, by omega, by go_num, by rw [HX.out], by first | rfl | trivial⟩
          case measure => simp [intOf]; omega
      · rw [hm] at HT
        have HX := Lib.hid (show ((ks.take (k + 1)).any fun q => u == q) = true by rw [HT.out]; rfl)
        clear hm HT
        go_wp2_with fail
        go_roundw
        case rel => exact ⟨k + 1, by omega, by go_num, by rw [HX.out], by first | rfl | trivial⟩
        case measure => simp [intOf]; omega
    · have hkk' : k = ks.length := by omega
      subst hkk'
      rw [List.take_length]
      cases hm : ks.any fun q => u == q
      · have HK := Lib.hid (show askF ks u = ks ++ [u] by unfold askF; rw [hm]; rfl)
        have hrd0 := h.rd
        have hgs := h.gsize
        obtain ⟨i0, hi0, hz0, hz1, hz2⟩ := info_parts info_str
        clear hm hlt hkk h
        go_wp2_with (at_builtin; go_must (refine wpList_append_any _ rfl _ _ 35 rfl (g + 1) 9 i0 _ 1 16 Tryd.underlying35 hi0 hz0 hz1 hz2 rfl (by omega) _ ks.length _ rfl (own_below ha ((Below.refl _ _).alloc (Nat.le_refl _) _)) (w.heap.size + 1) (some ⟨w.heap.size, 0, none⟩) 1 1 _ rfl (reads_new1 _ _ rfl) (by intro u hu; simp at hu; subst hu; rfl) (by simp only [maxLen]; omega) (by omega) (by simp; omega) ?_; intro v4 w4 ho4 hg4 how4; obtain ⟨A4, c4, rfl⟩ := own_slice' ho4; have hB4 := (hB.alloc (.cells #[.string u] 9)).grown hg4 (fun e => (own_blk_ne ha hB (by decide)) e.symm); have f2 := hB4.frozen 1; have c24 : w4.cell? ⟨g, 1, none⟩ = some (.slice Aa ks.length ca) := hB4.cell 1; clear hB4))
        have hfin := R21.asked hB hv ha hrd0 u hg4 (by rw [List.map_append]; exact ho4) how4
        rw [← HK.out] at hfin
        obtain ⟨hR, hF⟩ := hfin
        clear hg4 ho4 how4 c24 f2 c1 hB hv ha hrd0
        generalize w4.setCell ⟨g, 1, none⟩ (.slice A4 (ks.length + 1) c4) = W at hR hF ⊢
        have hFW := hF.lo.size
        refine (at21_any u W g ls _ hR hl).mono ?_
        rintro e w2 ⟨hpost, rfl⟩
        rcases hpost with ⟨i, hi, rfl, hiu, hno⟩ | ⟨rfl, hno⟩
        · have HG := Lib.hid (getK_at hi hiu hno)
          obtain ⟨v', a', hB', hv', ha'⟩ := hR.blk
          obtain ⟨A', c', rfl⟩ := own_slice' hv'
          obtain ⟨ad, rfl, _, _⟩ := (Reads.of_own hv').2 (by omega)
          have hbW : Below W.heap.size W (W.alloc (.cells #[] 5)) := (Below.refl _ _).alloc (Nat.le_refl _) _
          have c0 : (W.alloc (.cells #[] 5)).cell? ⟨g, 0, none⟩ = some (.slice (some ad) ls.length c') := (hbW.cell (p := ⟨g, 0, none⟩) hB'.lt).trans (hB'.cell 0)
          have hat1 := (Reads.of_own (own_below hv' hbW)).elem Blb.len hi rfl 1 _ rfl
          rw [add_pos _ (by decide)] at hat1
          have hrd := hR.rd ls[i] (List.getElem_mem hi)
          have hi0 : (0 : Int) ≤ (i : Int) := by omega
          have hi1 : (i : Int) < (ls.length : Int) := by omega
          have d0 : decide ((i : Int) < 0) = false := decide_eq_false (by omega)
          generalize ls[i] = x at hat1 hrd HG
          obtain ⟨iu, hiu', huz0, huz1, huz2⟩ := info_parts info5b
          have hxl := hrd.2
          have hxr := Reads.of_own (own_below hrd.1 hbW)
          have hl0 := own_lit0 W W.heap.size 5 1 (Nat.le_refl _)
          have hgs := hR.gsize
          have hFs := hF.lo.size
          clear hiu hno hB' hv' ha' hrd
          go_wp2_with (at_builtin; go_must (refine wpList_append_any _ rfl _ _ 25 rfl W.heap.size 5 iu _ 1 1 Tryd.underlying25 hiu' huz0 huz1 huz2 rfl (by omega) _ 0 _ rfl hl0 _ x.A x.bs.length x.c _ rfl hxr (bv_one _) (by simp only [maxLen]; omega) (by omega) (by rw [World.size_alloc]; omega) ?_; intro v5 w5 ho5 hg5 _; rw [Nat.zero_add, List.nil_append] at ho5; obtain ⟨A5, c5, rfl⟩ := own_slice' ho5; have hb5 : Below W.heap.size W w5 := Below.grown hbW hg5 (by rw [World.size_alloc]; omega) (fun k hk => (own_base_le hl0 k hk).1); clear hg5))
          exact bodyPost_ret (v := .tuple #[.slice A5 x.bs.length c5, .bool true]) (by simp [results, Tryd.results22, go_sem]) rfl ⟨A5, c5, x.bs, true, rfl, HG.out, (fun h => by cases h), own_base_mono ho5 hFW, hR.next hb5, hF.then (by omega) hb5⟩
        · have HG := Lib.hid (getK_no hno)
          clear hno
          go_wp2_with fail
          exact bodyPost_ret (v := .tuple #[.slice none 0 0, .bool false]) (by simp [results, Tryd.results22, go_sem]) rfl ⟨none, 0, [], false, rfl, HG.out, fun _ => rfl, World.ownsRow_nil _ _ _ _, hR, hF⟩
      · have HK := Lib.hid (show askF ks u = ks by unfold askF; rw [hm]; rfl)
        have hR : R21 w g ls (askF ks u) := by rw [HK.out]; exact h
        have hF := Fr21.refl w g
        obtain ⟨W, hW⟩ : ∃ W, W = w := ⟨_, rfl⟩
        clear hm hlt hkk
        go_wp2_with fail
        rw [← hW] at hR ⊢
        have hF : Fr21 w W g := by rw [hW]; exact hF
        have hFW : w.heap.size ≤ W.heap.size := by rw [hW]; exact Nat.le_refl _
        clear hW h hB hv ha c1
        refine (at21_any u W g ls _ hR hl).mono ?_
        rintro e w2 ⟨hpost, rfl⟩
        rcases hpost with ⟨i, hi, rfl, hiu, hno⟩ | ⟨rfl, hno⟩
        · have HG := Lib.hid (getK_at hi hiu hno)
          obtain ⟨v', a', hB', hv', ha'⟩ := hR.blk
          obtain ⟨A', c', rfl⟩ := own_slice' hv'
          obtain ⟨ad, rfl, _, _⟩ := (Reads.of_own hv').2 (by omega)
          have hbW : Below W.heap.size W (W.alloc (.cells #[] 5)) := (Below.refl _ _).alloc (Nat.le_refl _) _
          have c0 : (W.alloc (.cells #[] 5)).cell? ⟨g, 0, none⟩ = some (.slice (some ad) ls.length c') := (hbW.cell (p := ⟨g, 0, none⟩) hB'.lt).trans (hB'.cell 0)
          have hat1 := (Reads.of_own (own_below hv' hbW)).elem Blb.len hi rfl 1 _ rfl
          rw [add_pos _ (by decide)] at hat1
          have hrd := hR.rd ls[i] (List.getElem_mem hi)
          have hi0 : (0 : Int) ≤ (i : Int) := by omega
          have hi1 : (i : Int) < (ls.length : Int) := by omega
          have d0 : decide ((i : Int) < 0) = false := decide_eq_false (by omega)
          generalize ls[i] = x at hat1 hrd HG
          obtain ⟨iu, hiu', huz0, huz1, huz2⟩ := info_parts info5b
          have hxl := hrd.2
          have hxr := Reads.of_own (own_below hrd.1 hbW)
          have hl0 := own_lit0 W W.heap.size 5 1 (Nat.le_refl _)
          have hgs := hR.gsize
          have hFs := hF.lo.size
          clear hiu hno hB' hv' ha' hrd
          go_wp2_with (at_builtin; go_must (refine wpList_append_any _ rfl _ _ 25 rfl W.heap.size 5 iu _ 1 1 Tryd.underlying25 hiu' huz0 huz1 huz2 rfl (by omega) _ 0 _ rfl hl0 _ x.A x.bs.length x.c _ rfl hxr (bv_one _) (by simp only [maxLen]; omega) (by omega) (by rw [World.size_alloc]; omega) ?_; intro v5 w5 ho5 hg5 _; rw [Nat.zero_add, List.nil_append] at ho5; obtain ⟨A5, c5, rfl⟩ := own_slice' ho5; have hb5 : Below W.heap.size W w5 := Below.grown hbW hg5 (by rw [World.size_alloc]; omega) (fun k hk => (own_base_le hl0 k hk).1); clear hg5))
          exact bodyPost_ret (v := .tuple #[.slice A5 x.bs.length c5, .bool true]) (by simp [results, Tryd.results22, go_sem]) rfl ⟨A5, c5, x.bs, true, rfl, HG.out, (fun h => by cases h), own_base_mono ho5 hFW, hR.next hb5, hF.then (by omega) hb5⟩
        · have HG := Lib.hid (getK_no hno)
          clear hno
          go_wp2_with fail
          exact bodyPost_ret (v := .tuple #[.slice none 0 0, .bool false]) (by simp [results, Tryd.results22, go_sem]) rfl ⟨none, 0, [], false, rfl, HG.out, fun _ => rfl, World.ownsRow_nil _ _ _ _, hR, hF⟩
end Go.Proofs.YtmoldmnhijcckaaDoor
