/- The contracts of repo's Asked and of lanyardlaw21.awake. -/
import Derived.Test.YtmoldmnhijcckaaDoorRepS
import Derived.Test.YtmoldmnhijcckaaDoorBld
import Derived.Laws.IdiomStrings
import Derived.Lib.BufferRead
set_option linter.unusedVariables false
set_option linter.unusedSectionVars false
set_option linter.unusedSimpArgs false
namespace Go.Proofs.YtmoldmnhijcckaaDoor
open Go.RowKit
open Go.Proofs (encStr)
theorem asked_any (w : World) (lo g b1 b2 : Nat) (es : List Blb) (ks : List ByteArray) (h : RepoAt w lo g b1 b2 es ks) (hk : ks.length ≤ 1000000) :
    Calls Tryd.prog 24 #[.pointer (some ⟨g, 0, none⟩)] w fun e w' => ∃ A c, e = .returned (.slice A ks.length c) ∧ w'.ownsRow w.heap.size 9 1 (.slice A ks.length c) ks.length (ks.map Value.string) ∧ Below w.heap.size w w' := by
  obtain ⟨v, hB, ho⟩ := h.blk
  have c2 : w.cell? ⟨g, 2, none⟩ = some v := hB.cell 2
  rcases ho.2 with ⟨rfl, hz⟩ | ⟨gg, cap, cur, rfl, hbase, hbb, q1, q2, q3, q4⟩
  · go_enter Tryd.func24, Tryd.ntmps24
    go_wp2_with fail
    refine (Tryd.slices_Clone_string_nil 0 0 _).mono ?_
    rintro e w9 ⟨rfl, rfl⟩
    go_wp2_with fail
    go_ret
    have e0 : ks = [] := List.eq_nil_of_length_eq_zero hz
    subst e0
    exact ⟨none, 0, rfl, World.ownsRow_nil _ _ _ _, Below.refl _ _⟩
  · have hcells : ∀ j, j < ks.length → w.cell? ⟨gg, 0 + j, none⟩ = some (.string (ks.getD j ByteArray.empty)) := fun j hj => by
      have := ho.cellAt j (by omega)
      rw [Nat.zero_add]
      simpa [List.getD_eq_getElem?_getD, List.getElem?_eq_getElem hj] using this
    go_enter Tryd.func24, Tryd.ntmps24
    go_wp2_with fail
    refine (Tryd.slices_Clone_string gg 0 ks.length cap ks w (Nat.le_refl _) (by omega) hcells).mono ?_
    rintro e w9 ⟨v', rfl, hov, _, hb⟩
    rw [List.take_length] at hov
    obtain ⟨A, c, rfl⟩ := own_slice' hov
    go_wp2_with fail
    go_ret
    exact ⟨A, c, rfl, hov, hb⟩
/-- '[]byte("1")': the literal, marked as a text's. -/
theorem conv_lit (w : World) (v : Value) : (convert 25 25 (.slice (some ⟨w.heap.size, 0, none⟩) 1 1)).run Tryd.prog (w.alloc (.cells #[v] 5)) = .ok (.slice (some ⟨w.heap.size, 0, none⟩) 1 1) (w.alloc (.cells #[v] 5 (1, 2))) := by
  have hsh : (w.alloc (.cells #[v] 5)).shape? w.heap.size = some (5, 1) := by
    have : (w.alloc (.cells #[v] 5)).heap[w.heap.size]? = some (.cells #[v] 5) := heap_alloc_new w _
    unfold World.shape?
    rw [this]
    rfl
  have hfr : (w.alloc (.cells #[v] 5)).freeze ⟨w.heap.size, 1, none⟩ 1 = w.alloc (.cells #[v] 5 (1, 2)) := by
    have hm : ∀ (a : Array Obj) (x : Obj) (f : Obj → Obj), (a.push x).modify a.size f = a.push (f x) := by
      intro a x f
      apply Array.ext
      · simp
      · intro i h1 h2
        simp only [Array.getElem_modify, Array.getElem_push]
        by_cases h : a.size = i
        · subst h
          simp
        · have hi : i < a.size := by simp at h1; omega
          simp [h, hi]
    unfold World.freeze
    rw [if_neg (by decide)]
    show ({ w.alloc (.cells #[v] 5) with heap := (w.heap.push (.cells #[v] 5)).modify w.heap.size _ } : World) = _
    rw [hm]
    rfl
  simp [convert, run_underlying Tryd.underlying25, run_underlying Tryd.underlying5, markStringish, hsh]
  exact hfr
set_option maxRecDepth 100000 in
theorem conv_own {w : World} {base c : Nat} {A : Option Addr} {bs : List UInt8} (h : w.ownsRow base 5 1 (.slice A bs.length c) bs.length (bs.map bv)) : (convert 25 9 (.slice A bs.length c)).run Tryd.prog w = .ok (.string ⟨bs.toArray⟩) w := by
  rcases h.2 with ⟨e, hz⟩ | ⟨g, cap, cur, e, _⟩
  · injection e with e1 e2 e3
    subst e1
    subst e3
    rw [hz]
    have e0 : bs = [] := List.eq_nil_of_length_eq_zero hz
    subst e0
    exact Lib.run_convert_nil_bytes w _ _ _ 0 Tryd.underlying25 Tryd.underlying5 Tryd.underlying9
  · injection e with e1 e2 e3
    subst e1
    exact run_convert_bytes_back w _ _ _ _ _ bs Tryd.underlying25 Tryd.underlying5 Tryd.underlying9 fun j hj => by
      have := (Reads.of_own h).2 (by omega)
      obtain ⟨ad, e2, _, hc⟩ := this
      cases e2
      exact hc j _ (by simp [bv, hj])
set_option maxRecDepth 100000 in
theorem own_at {w : World} {base c n size : Nat} {e : TypeId} {A : Option Addr} {xs : List Value} (h : w.ownsRow base e size (.slice A n c) n xs) (hn : 0 < n) : ∃ g, A = some ⟨g, 0, none⟩ ∧ base ≤ g ∧ ∀ j u, xs[j]? = some u → w.cell? ⟨g, j, none⟩ = some u := by
  rcases h.2 with ⟨e, hz⟩ | ⟨g, cap, cur, e, hb, _⟩
  · omega
  · injection e with e1 e2 e3
    subst e1
    refine ⟨g, rfl, hb, fun j u hu => ?_⟩
    have hs : 0 < size ∨ size = 0 := by omega
    rcases hs with hs | hs
    · obtain ⟨ad, e4, _, hc⟩ := (Reads.of_own h).2 (by omega)
      cases e4
      have := hc j u hu
      rwa [add_plain', Nat.zero_add] at this
    · have := h.1
      rw [hs, Nat.mul_zero] at this
      have := (List.getElem?_eq_some_iff.1 hu).1
      omega
def aw1 : ByteArray := ⟨#[114, 115, 121, 110, 99, 58, 47, 47, 97, 47, 120]⟩
def aw2 : ByteArray := ⟨#[114, 115, 121, 110, 99, 58, 47, 47, 97, 47, 98, 47, 121]⟩
def aw3 : ByteArray := ⟨#[114, 115, 121, 110, 99, 58, 47, 47, 97, 47]⟩
theorem getK_map (es : List Blb) (u : ByteArray) : getK es u = ((es.map fun e => (e.u, e.bs)).find? fun q => u == q.1).map (·.2) := by
  unfold getK
  rw [List.find?_map, Option.map_map]
  rfl
theorem namesRaw_map (es : List Blb) (d : ByteArray) : namesRaw es d = (es.map fun e => (e.u, e.bs)).filterMap fun q => nameIn d q.1 := by
  unfold namesRaw
  rw [List.filterMap_map]
  rfl
theorem aw_good : uriB aw1 = true ∧ dirB aw1 = false ∧ uriB aw2 = true ∧ dirB aw2 = false ∧ dirB aw3 = true ∧ (aw2 == aw1) = false ∧ nameIn aw3 aw1 = some [120] ∧ nameIn aw3 aw2 = none ∧ (aw1 == aw1) = true := by decide +kernel
set_option maxRecDepth 100000 in
set_option maxHeartbeats 2000000 in
theorem awake21_any (m : Int) (w : World) (h0 : 0 < w.heap.size) (hm : w.cell? ⟨0, 0, none⟩ = some (.int .i64 m)) :
    Calls Tryd.prog 15 #[] w fun e w' => e = .returned (.bool true) ∧ Below w.heap.size w w' := by
  have hcv := conv_lit w (.int .u8 49)
  go_enter Tryd.func15, Tryd.ntmps15
  go_wp2_with fail
  have hlo : Below w.heap.size w ((w.alloc (.cells #[.int .u8 49] 5 (1, 2))).alloc (.cells ([.string aw1, .slice (some ⟨w.heap.size, 0, none⟩) 1 1, .string aw2, .slice none 0 0] : List Value).toArray 27)) := ((Below.refl _ _).alloc (Nat.le_refl _) _).alloc (by simp) _
  have hR1 : Reads ((w.alloc (.cells #[.int .u8 49] 5 (1, 2))).alloc (.cells ([.string aw1, .slice (some ⟨w.heap.size, 0, none⟩) 1 1, .string aw2, .slice none 0 0] : List Value).toArray 27)) (w.heap.size + 2) 1 (some ⟨w.heap.size, 0, none⟩) 1 [bv 49] := by
    refine ⟨rfl, fun _ => ⟨_, rfl, by show w.heap.size < w.heap.size + 2; omega, fun j u hu => ?_⟩⟩
    have hj : j = 0 := by have := (List.getElem?_eq_some_iff.1 hu).1; simp at this; omega
    subst hj
    rw [← hu]
    have : ((w.alloc (.cells #[.int .u8 49] 5 (1, 2))).alloc (.cells ([.string aw1, .slice (some ⟨w.heap.size, 0, none⟩) 1 1, .string aw2, .slice none 0 0] : List Value).toArray 27)).heap[w.heap.size]? = some (.cells #[.int .u8 49] 5 (1, 2)) := by
      rw [Below.heap_alloc _ _ _ (by simp)]
      exact heap_alloc_new w _
    rw [add_plain', cell_of_row _ _ _ _ _ _ this]
    rfl
  have hR2 : Blk ((w.alloc (.cells #[.int .u8 49] 5 (1, 2))).alloc (.cells ([.string aw1, .slice (some ⟨w.heap.size, 0, none⟩) 1 1, .string aw2, .slice none 0 0] : List Value).toArray 27)) (w.heap.size + 1) 27 [.string aw1, .slice (some ⟨w.heap.size, 0, none⟩) 1 1, .string aw2, .slice none 0 0] := blk_new' _ _ _ _ (by simp)
  refine (show ∀ W, (Below w.heap.size w W ∧ Reads W (w.heap.size + 2) 1 (some ⟨w.heap.size, 0, none⟩) 1 [bv 49] ∧ Blk W (w.heap.size + 1) 27 [.string aw1, .slice (some ⟨w.heap.size, 0, none⟩) 1 1, .string aw2, .slice none 0 0]) → Calls _ _ _ W _ from fun W hW => ?_) _ ⟨hlo, hR1, hR2⟩
  clear hlo hR1 hR2 hcv
  obtain ⟨hlo, hR1, hR2⟩ := hW
  obtain ⟨xs, hxs⟩ : ∃ xs : List Blb, xs = [⟨aw1, some ⟨w.heap.size, 0, none⟩, 1, [49]⟩, ⟨aw2, none, 0, []⟩] := ⟨_, rfl⟩
  obtain ⟨g1, g2, g3, g4, g5, g6, g7, g8, g9⟩ := aw_good
  have hlen : xs.length = 2 := by rw [hxs]; rfl
  have hpre : NewPre W m (some ⟨w.heap.size + 1, 0, none⟩) xs := by
    subst hxs
    refine ⟨Nat.lt_of_lt_of_le h0 hlo.size, (hlo.cell (p := ⟨0, 0, none⟩) h0).trans hm, ⟨rfl, fun _ => ⟨_, rfl, hR2.lt, fun j u hu => ?_⟩⟩, fun x hx => ?_, (show 2 ≤ 100000000 by decide)⟩
    · rw [add_plain', Nat.zero_add, hR2.cell]
      exact hu
    · simp at hx
      rcases hx with rfl | rfl
      · exact ⟨hR1.more (by have := hR2.lt; omega), (show aw1.size ≤ 9223372036854775807 by decide), (show 1 ≤ 140737488355000 by decide)⟩
      · exact ⟨Reads.none_, by decide, by decide⟩
  have hok : (xs.all goodB && !largeB xs) = true := by
    rw [hxs]
    simp [goodB, largeB, g1, g2, g3, g4]
  have hfirst : firstsOf xs = [(aw1, [49]), (aw2, [])] := by
    rw [hxs]
    simp [firstsOf, addF, g6]
  have hnew := new_any xs (some ⟨w.heap.size + 1, 0, none⟩) 2 (by omega) m W hpre
  rw [hlen] at hnew
  refine hnew.mono ?_
  clear hnew hpre hxs hR1 hR2
  rintro e w2 ⟨hpost, hb⟩
  unfold NewPost at hpost
  rw [hok] at hpost
  simp only [if_true] at hpost
  obtain ⟨g, b1, b2, es, rfl, hR, hes⟩ := hpost
  rw [hfirst] at hes
  have hlo2 := below_then hlo (Nat.le_refl _) hb
  clear hb hok hfirst hlen
  go_wp2_with fail
  refine (get_any aw1 w2 _ g b1 b2 es [] hR (by decide)).mono ?_
  rintro e w3 ⟨A, c, bs, is, rfl, hgk, hno, hown, hR3, hfr, _⟩
  have hgk2 : getK es aw1 = some [49] := by rw [getK_map, hes]; simp [g9]
  obtain ⟨rfl, rfl⟩ : is = true ∧ bs = [49] := by
    rw [hgk2] at hgk
    cases is
    · simp at hgk
    · simp at hgk
      exact ⟨rfl, hgk.symm⟩
  have hlo3 : Below w.heap.size w w3 := hlo2.trans (hfr.lo.mono hlo.size)
  have hks : askF [] aw1 = [aw1] := by simp [askF]
  rw [hks] at hR3
  clear hgk hno hgk2 hfr hR hlo2 hks
  go_wp2_with fail
  have hes1 : es.length ≤ 1000000 := by have := congrArg List.length hes; simp at this; omega
  refine (names_any aw3 (by decide) m w3 (Nat.lt_of_lt_of_le h0 hlo3.size) ((hlo3.cell (p := ⟨0, 0, none⟩) h0).trans hm) _ g b1 b2 es _ hR3 hes1).mono ?_
  rintro e w4 ⟨hnp, hb⟩
  have hraw : namesRaw es aw3 = [[120]] := by rw [namesRaw_map, hes]; simp [g7, g8]
  unfold NamesPost namesOf at hnp
  rw [g5, hraw] at hnp
  simp only [if_true, List.mergeSort_singleton, List.length_cons, List.length_nil, List.map_cons, List.map_nil, Nat.zero_add] at hnp
  obtain ⟨A2, c2, rfl, hn⟩ := hnp
  have hown4 := own_below hown hb
  have hR4 := hR3.next hb
  have hlo4 := below_then hlo3 (Nat.le_refl _) hb
  clear hown hb hlo3 hR3
  have hcv : (convert 25 9 (.slice A 1 c)).run Tryd.prog w4 = .ok (.string ⟨#[49]⟩) w4 := conv_own (bs := [49]) hown4
  obtain ⟨gg, rfl, _, hcell⟩ := own_at hn (by decide)
  have cx : w4.cell? ⟨gg, 0, none⟩ = some (.string ⟨#[120]⟩) := hcell 0 _ rfl
  have ek : ([aw1] : List ByteArray).length = 1 := rfl
  clear hcell hn hown4
  go_wp2_with fail
  refine (asked_any w4 _ g b1 b2 es [aw1] hR4 (by decide)).mono ?_
  rintro e w5 ⟨A5, c5, rfl, _, hb⟩
  go_wp2_with fail
  go_ret
  exact ⟨rfl, below_then hlo4 (Nat.le_refl _) hb⟩
end Go.Proofs.YtmoldmnhijcckaaDoor
