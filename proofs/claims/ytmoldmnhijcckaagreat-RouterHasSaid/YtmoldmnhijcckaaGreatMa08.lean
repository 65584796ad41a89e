/- slices.DeleteFunc at a row of api.Vrp. -/
import Derived.Test.YtmoldmnhijcckaaGreatMa07
set_option linter.unusedVariables false
set_option linter.unusedSectionVars false
set_option linter.unusedSimpArgs false
namespace Go.Proofs.YtmoldmnhijcckaaGreat
open Go.RowKit
theorem grown_below {w w' : World} {row : Option Nat} (h : Below w.heap.size w w') : w.grownBy w' row := ⟨h.os, h.tape, h.output, h.size, fun k hk _ => h.block k hk⟩
theorem grown_refl (w : World) (row : Option Nat) : w.grownBy w row := grown_below (Below.refl _ _)
theorem heap_setCells {g : Nat} : ∀ (vs : List Value) (w : World) (o k : Nat), k ≠ g → (w.setCells g o vs).heap[k]? = w.heap[k]?
  | [], _, _, _, _ => rfl
  | v :: vs, w, o, k, h => (heap_setCells vs (w.setCell ⟨g, o, none⟩ v) (o + 1) k h).trans (Below.heap_setCell w ⟨g, o, none⟩ v k h)
theorem grown_setCells {w W : World} {g : Nat} (h : w.grownBy W (some g)) (o : Nat) (vs : List Value) : w.grownBy (W.setCells g o vs) (some g) := by
  have hb : Below 0 W (W.setCells g o vs) := Below.setCells (Nat.zero_le _) vs o (Below.refl _ _)
  refine ⟨hb.os.trans h.os, hb.tape.trans h.tape, hb.output.trans h.output, Nat.le_trans h.size hb.size, fun k hk hne => ?_⟩
  rw [heap_setCells vs W o k (fun e => hne (by rw [e]))]
  exact h.block k hk hne
/-- clear at elements of several cells: some zero cells are laid, nothing else turns. -/
theorem run_clearK {P : Program} (w : World) (t e : TypeId) (z : Value) (zc : List Value) (ht : P.underlying t = some (.slice e)) (hv : ∀ w, (zeroValue e).run P w = .ok z w) (hz : z.cells = zc.toArray) (h1 : ∀ v ∈ zc, v.oneCell' = true) (hz0 : 0 < zc.length) (b o n c : Nat) (hn : 0 < n)
    (hc : ∀ j, j < n * zc.length → (w.cell? ⟨b, o + j, none⟩).isSome = true) (hf : ∀ j, j < n * zc.length → w.frozen? ⟨b, o + j, none⟩ = false) :
    ∃ vs : List Value, vs.length = n * zc.length ∧ ∀ ty, (Builtin.clear_ #[t] ty #[.slice (some ⟨b, o, none⟩) n c]).run P w = .ok (.tuple #[]) (w.setCells b o vs) := by
  refine ⟨(Builtin.zeroCells z.cells n).toList, by simp [Builtin.zeroCells, hz], fun ty => ?_⟩
  have hl : (Builtin.zeroCells z.cells n).toList.length = n * zc.length := by simp [Builtin.zeroCells, hz]
  have hst := run_storeCells_cells (P := P) b o (Builtin.zeroCells z.cells n).toList 0 w (by rw [hl]; simpa using hc) (by rw [hl]; simpa using hf) (by
    intro v hv'
    simp only [Builtin.zeroCells, Array.toList_map, List.mem_map, hz] at hv'
    obtain ⟨i, _, rfl⟩ := hv'
    apply h1
    have hi : i % zc.length < zc.length := Nat.mod_lt _ hz0
    rw [List.size_toArray, getElem!_pos _ _ (by simpa using hi)]
    simp)
  simp only [Nat.add_zero] at hst
  obtain ⟨m, rfl⟩ : ∃ m, n = m + 1 := ⟨n - 1, by omega⟩
  simp [Builtin.clear_, run_underlying ht, hv, hst]
def zV : List Value := [.int .u32 0, .bool false, .int .u8 0, .int .u8 0, .int .u8 0, .int .u8 0, .int .u8 0, .int .u8 0, .int .u8 0, .int .u8 0, .int .u8 0, .int .u8 0, .int .u8 0, .int .u8 0, .int .u8 0, .int .u8 0, .int .u8 0, .int .u8 0, .int .i64 0, .int .i64 0]
theorem rowV_reads {w : World} {g : Nat} {t : TypeId} {xs : List Vrp} {sp : List Value} (h : Blk w g t (xs.flatMap Vrp.cells ++ sp)) : Reads w (g + 1) 20 (some ⟨g, 0, none⟩) xs.length (xs.flatMap Vrp.cells) :=
  ⟨flatV_len xs, fun _ => ⟨_, rfl, Nat.lt_succ_self _, fun j u hu => by rw [add_plain', Nat.zero_add, h.cell, List.getElem?_append_left ((List.getElem?_eq_some_iff.1 hu).1), hu]⟩⟩
/-- The loop of DeleteFunc. -/
structure DS (w : World) (g : Nat) (xs : List Vrp) (sp : List Value) (i j : Nat) (ys : List Vrp) (W : World) : Prop where
  b : Blk W g 67 (ys.flatMap Vrp.cells ++ sp)
  f : w.grownBy W (some g)
  l : ys.length = xs.length
  h : ys.take i = (xs.take j).filter vrpOk
  r : ys.drop j = xs.drop j
  ij : i < j
theorem DS.next {w W W' : World} {g : Nat} {xs ys : List Vrp} {sp : List Value} {i j : Nat} (h : DS w g xs sp i j ys W) (hb : Below W.heap.size W W') : DS w g xs sp i j ys W' :=
  ⟨h.b.below hb h.b.lt, h.f.trans (grown_below hb), h.l, h.h, h.r, h.ij⟩
theorem DS.at_ {w W : World} {g : Nat} {xs ys : List Vrp} {sp : List Value} {i j : Nat} (h : DS w g xs sp i j ys W) (hj : j < xs.length) : W.rangeAt g (j * 20) xs[j].cells := by
  have hy : j < ys.length := by rw [h.l]; exact hj
  have e : ys[j] = xs[j] := by
    have h1 := congrArg (fun l => l[0]?) h.r
    simp only [List.getElem?_drop, Nat.add_zero] at h1
    rw [List.getElem?_eq_getElem hy, List.getElem?_eq_getElem hj] at h1
    exact Option.some.inj h1
  rw [← e]
  exact rowV_at h.b hy
theorem DS.skip {w W : World} {g : Nat} {xs ys : List Vrp} {sp : List Value} {i j : Nat} (h : DS w g xs sp i j ys W) (hj : j < xs.length) (hx : vrpOk xs[j] = false) : DS w g xs sp i (j + 1) ys W := by
  refine ⟨h.b, h.f, h.l, ?_, ?_, by have := h.ij; omega⟩
  · rw [List.take_succ_eq_append_getElem hj, List.filter_append, h.h]
    simp [hx]
  · rw [← List.drop_drop, ← List.drop_drop, h.r]
theorem DS.put {w W : World} {g : Nat} {xs ys : List Vrp} {sp : List Value} {i j : Nat} (h : DS w g xs sp i j ys W) (hj : j < xs.length) (hx : vrpOk xs[j] = true) : DS w g xs sp (i + 1) (j + 1) (ys.set i xs[j]) (W.setCells g (i * 20) xs[j].cells) := by
  have hij := h.ij
  have hi : i < ys.length := by rw [h.l]; omega
  refine ⟨rowV_put h.b hi _, grown_setCells h.f _ _, by rw [List.length_set]; exact h.l, ?_, ?_, by omega⟩
  · rw [List.take_succ_eq_append_getElem hj, List.filter_append, ← h.h, List.take_succ_eq_append_getElem (by rw [List.length_set]; exact hi), List.take_set_of_le (Nat.le_refl _)]
    simp [hx]
  · rw [List.drop_set_of_lt (by omega), ← List.drop_drop, ← List.drop_drop, h.r]
def DelPost (w : World) (g cap : Nat) (xs : List Vrp) (sp : List Value) (e : Ending) (w' : World) : Prop :=
  e = .returned (.slice (some ⟨g, 0, none⟩) (xs.filter vrpOk).length cap) ∧ (∃ sp', Blk w' g 67 ((xs.filter vrpOk).flatMap Vrp.cells ++ sp') ∧ (xs.filter vrpOk).length * 20 + sp'.length = xs.length * 20 + sp.length) ∧ w.grownBy w' (some g)
set_option maxRecDepth 100000 in
set_option maxHeartbeats 2000000 in
theorem delV_any (xs : List Vrp) (g cap : Nat) (sp : List Value) (hlen : xs.length ≤ 1000000) (hcap : xs.length ≤ cap) (w : World) (hB : Blk w g 67 (xs.flatMap Vrp.cells ++ sp)) :
    Calls Tryz.prog 94 #[.slice (some ⟨g, 0, none⟩) xs.length cap, .func (.func 95) #[] #[]] w (DelPost w g cap xs sp) := by
  go_enter Tryz.func94, Tryz.ntmps94
  go_wp2_with fail
  refine (idxV_any xs (some ⟨g, 0, none⟩) cap (g + 1) hlen w hB.lt (rowV_reads hB)).mono ?_
  rintro e w1 ⟨hi, hb⟩
  rcases hi with ⟨i, hi, rfl, hxi, hall⟩ | ⟨rfl, hall⟩
  · have hne : ((i : Int) == -1) = false := beq_eq_false_iff_ne.2 (by omega)
    have hS : DS w g xs sp i (i + 1) xs w1 := by
      refine ⟨hB.below hb hB.lt, grown_below hb, rfl, ?_, rfl, by omega⟩
      rw [List.take_succ_eq_append_getElem hi, List.filter_append]
      have h1 : (xs.take i).filter vrpOk = xs.take i := List.filter_eq_self.2 fun x hx => by
        obtain ⟨t, ht, rfl⟩ := List.getElem_of_mem hx
        rw [List.length_take] at ht
        rw [List.getElem_take]
        exact hall t (by omega)
      rw [h1]
      simp [hxi]
    clear hxi hall hb hB
    go_wp2_with fail
    go_loopw [5, 6, 7] (fun v5 v6 v7 wr => ∃ (i j : Nat) (ys : List Vrp), v5 = .int .i64 i ∧ v6 = .int .i64 j ∧ j ≤ xs.length ∧ DS w g xs sp i j ys wr) (fun _ v6 _ _ => xs.length - (intOf v6).toNat)
    case atStart => exact ⟨i, i + 1, xs, rfl, by go_num, by omega, hS⟩
    case round =>
      clear hS
      obtain ⟨i, j, ys, rfl, rfl, hj, hS⟩ := hrel
      have hij := hS.ij
      by_cases hlt : j < xs.length
      · have hj0 : (0 : Int) ≤ (j : Int) := by omega
        have hj1 : (j : Int) < (xs.length : Int) := by omega
        have hi0 : (0 : Int) ≤ (i : Int) := by omega
        have hi1 : (i : Int) < (xs.length : Int) := by omega
        have hat := hS.at_ hlt
        go_upto_region 8 with (first | (refine wpList_load_at rfl 67 _ rfl g (j * 20) 20 rfl _ _ hat (Vrp.cells_length _) Tryz.underlying67 rfl info_vrp1 ?_) | (refine wpList_store_at rfl 67 _ _ rfl wr.heap.size 0 20 67 _ zV rfl rfl (Blk.new _ _ _) (Vrp.cells_length _) (by decide) info_vrp1 (Vrp.one _) ?_))
        refine wp_gen (fun W => DS w g xs sp i j ys W ∧ Blk W wr.heap.size 67 xs[j].cells) ⟨hS.next (Below.setCells (Nat.le_refl _) _ _ ((Below.refl _ _).alloc (Nat.le_refl _) _)), (Blk.new _ _ _).setCells_all (Vrp.cells_length _)⟩ ?_
        have hbg : wr.heap.size ≠ g := by have := hS.b.lt; omega
        clear hS hat
        generalize wr.heap.size = bx at hbg ⊢
        rintro w2 ⟨hS, hX⟩
        cases hx : vrpOk xs[j]
        · have hS2 : ∀ W, DS w g xs sp i j ys W → DS w g xs sp i (j + 1) ys W := fun W hW => hW.skip hlt hx
          have HX := Lib.hid hx
          clear hx
          go_wp2_with (refine wpList_load_at rfl 67 _ rfl bx 0 20 rfl _ _ hX.range (Vrp.cells_length _) Tryz.underlying67 rfl info_vrp1 ?_)
          refine (row1_any xs[j] _).mono ?_
          rintro e w3 ⟨rfl, hb⟩
          rw [HX.out]
          replace hS := hS.next hb
          clear hb
          go_wp2_with fail
          go_roundw
          case rel => exact ⟨i, j + 1, ys, rfl, by go_num, by omega, hS2 _ hS⟩
          case measure => simp [intOf]; omega
        · have hS2 : ∀ W, DS w g xs sp i j ys W → DS w g xs sp (i + 1) (j + 1) (ys.set i xs[j]) (W.setCells g (i * 20) xs[j].cells) := fun W hW => hW.put hlt hx
          have HX := Lib.hid hx
          clear hx
          go_wp2_with (refine wpList_load_at rfl 67 _ rfl bx 0 20 rfl _ _ hX.range (Vrp.cells_length _) Tryz.underlying67 rfl info_vrp1 ?_)
          refine (row1_any xs[j] _).mono ?_
          rintro e w3 ⟨rfl, hb⟩
          rw [HX.out]
          replace hS := hS.next hb
          replace hX := hX.below hb hX.lt
          clear hb
          have hyl := hS.l
          go_wp2_with (first | (refine wpList_load_at rfl 67 _ rfl bx 0 20 rfl _ _ hX.range (Vrp.cells_length _) Tryz.underlying67 rfl info_vrp1 ?_) | (refine wpList_store_at rfl 67 _ _ rfl g (i * 20) 20 67 _ (ys.flatMap Vrp.cells ++ sp) rfl rfl hS.b (Vrp.cells_length _) (by rw [List.length_append, flatV_len]; omega) info_vrp1 (Vrp.one _) ?_))
          go_roundw
          case rel => exact ⟨i + 1, j + 1, _, by go_num, by go_num, by omega, hS2 _ hS⟩
          case measure => simp [intOf]; omega
      · have hjj : j = xs.length := by omega
        subst hjj
        have hyl := hS.l
        have hil : i < xs.length := hij
        have hfi : ys.take i = xs.filter vrpOk := by have := hS.h; rwa [List.take_length] at this
        have hfl : (xs.filter vrpOk).length = i := by rw [← hfi, List.length_take]; omega
        have hB := hS.b
        obtain ⟨vs, hvl, hclr⟩ := run_clearK (P := Tryz.prog) wr 27 67 (.agg zV.toArray) zV Tryz.underlying27 Tryz.zeroValue67 rfl (by decide) (by decide) g (i * 20) (xs.length - i) (cap - i) (by omega)
          (fun t ht => by rw [show zV.length = 20 from rfl] at ht; rw [hB.cell, List.getElem?_eq_getElem (by rw [List.length_append, flatV_len]; omega)]; rfl) (fun t _ => hB.frozen _)
        have hz20 : zV.length = 20 := rfl
        rw [hz20] at hvl
        have hpost : DelPost w g cap xs sp (.returned (.slice (some ⟨g, 0, none⟩) i cap)) (wr.setCells g (i * 20) vs) := by
          refine ⟨by rw [hfl], ⟨vs ++ sp, ?_, by rw [List.length_append, hfl, hvl]; omega⟩, grown_setCells hS.f _ _⟩
          have h1 := Blk.setCells vs (i * 20) hB (by rw [List.length_append, flatV_len, hvl]; omega)
          have e1 : (ys.flatMap Vrp.cells ++ sp).take (i * 20) = (xs.filter vrpOk).flatMap Vrp.cells := by
            rw [List.take_append_of_le_length (by rw [flatV_len]; omega), ← hfi]
            have e0 : ys.flatMap Vrp.cells = (ys.take i).flatMap Vrp.cells ++ (ys.drop i).flatMap Vrp.cells := by rw [← List.flatMap_append, List.take_append_drop]
            rw [e0, List.take_left' (by rw [flatV_len, List.length_take]; congr 1; omega)]
          have e2 : (ys.flatMap Vrp.cells ++ sp).drop (i * 20 + vs.length) = sp := by
            rw [List.drop_left' (by rw [flatV_len, hvl]; omega)]
          rw [e1, e2] at h1
          simpa using h1
        have hi0 : (0 : Int) ≤ (i : Int) := by omega
        have hi1 : (i : Int) ≤ (xs.length : Int) := by omega
        have hi2 : (i : Int) ≤ (cap : Int) := by omega
        have hci : ¬ cap = i := by omega
        have HPOST := Lib.hid hpost
        clear hfi hfl hpost hvl hz20 hS hB hlt
        go_wp2_with fail
        go_ret
        exact HPOST.out
  · have hf : xs.filter vrpOk = xs := List.filter_eq_self.2 hall
    have HF := Lib.hid (show DelPost w g cap xs sp (.returned (.slice (some ⟨g, 0, none⟩) xs.length cap)) w1 by
      unfold DelPost
      rw [hf]
      exact ⟨rfl, ⟨sp, hB.below hb hB.lt, rfl⟩, grown_below hb⟩)
    clear hf hall
    go_wp2_with fail
    go_ret
    exact HF.out
end Go.Proofs.YtmoldmnhijcckaaGreat
