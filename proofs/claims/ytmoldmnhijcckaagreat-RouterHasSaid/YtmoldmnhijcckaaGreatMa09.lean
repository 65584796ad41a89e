/- slices.Compact at a row of api.Vrp. -/
import Derived.Test.YtmoldmnhijcckaaGreatMa08
set_option linter.unusedVariables false
set_option linter.unusedSectionVars false
set_option linter.unusedSimpArgs false
namespace Go.Proofs.YtmoldmnhijcckaaGreat
open Go.RowKit
/-- One of each run. -/
def addD (acc : List Vrp) (x : Vrp) : List Vrp := if acc.getLast? = some x then acc else acc ++ [x]
def dedF (xs : List Vrp) : List Vrp := xs.foldl addD []
theorem dedF_snoc (xs : List Vrp) (x : Vrp) : dedF (xs ++ [x]) = addD (dedF xs) x := by unfold dedF; rw [List.foldl_append]; rfl
theorem addD_last (acc : List Vrp) (x : Vrp) : (addD acc x).getLast? = some x := by
  unfold addD
  split
  · assumption
  · simp
theorem dedF_last (xs : List Vrp) (k : Nat) (hk : k < xs.length) : (dedF (xs.take (k + 1))).getLast? = some xs[k] := by
  rw [List.take_succ_eq_append_getElem hk, dedF_snoc, addD_last]
theorem dedF_same (xs : List Vrp) (k : Nat) (h0 : 0 < k) (hk : k < xs.length) (h : xs[k] = xs[k - 1]'(by omega)) : dedF (xs.take (k + 1)) = dedF (xs.take k) := by
  rw [List.take_succ_eq_append_getElem hk, dedF_snoc]
  have h1 := dedF_last xs (k - 1) (by omega)
  rw [show k - 1 + 1 = k by omega, ← h] at h1
  unfold addD
  rw [if_pos h1]
theorem dedF_other (xs : List Vrp) (k : Nat) (h0 : 0 < k) (hk : k < xs.length) (h : xs[k] ≠ xs[k - 1]'(by omega)) : dedF (xs.take (k + 1)) = dedF (xs.take k) ++ [xs[k]] := by
  rw [List.take_succ_eq_append_getElem hk, dedF_snoc]
  have h1 := dedF_last xs (k - 1) (by omega)
  rw [show k - 1 + 1 = k by omega] at h1
  unfold addD
  rw [if_neg]
  rw [h1]
  intro e
  exact h (Option.some.inj e).symm
structure CS (w : World) (g : Nat) (xs : List Vrp) (sp : List Value) (kk m : Nat) (ys : List Vrp) (W : World) : Prop where
  b : Blk W g 67 (ys.flatMap Vrp.cells ++ sp)
  f : w.grownBy W (some g)
  l : ys.length = xs.length
  h : ys.take kk = dedF (xs.take m)
  r : ys.drop (m - 1) = xs.drop (m - 1)
  km : kk + 1 ≤ m
theorem CS.drew {w W : World} {g : Nat} {xs ys : List Vrp} {sp : List Value} {i j : Nat} (h : CS w g xs sp i j ys W) : CS w g xs sp i j ys W.drew := ⟨h.b, ⟨h.f.os, h.f.tape, h.f.output, h.f.size, h.f.block⟩, h.l, h.h, h.r, h.km⟩
theorem CS.at_ {w W : World} {g : Nat} {xs ys : List Vrp} {sp : List Value} {i j : Nat} (h : CS w g xs sp i j ys W) {t : Nat} (h1 : j - 1 ≤ t) (ht : t < xs.length) : W.rangeAt g (t * 20) xs[t].cells := by
  have hy : t < ys.length := by rw [h.l]; exact ht
  have e : ys[t] = xs[t] := by
    have h2 := congrArg (fun l => l[t - (j - 1)]?) h.r
    simp only [List.getElem?_drop] at h2
    rw [show j - 1 + (t - (j - 1)) = t by omega, List.getElem?_eq_getElem hy, List.getElem?_eq_getElem ht] at h2
    exact Option.some.inj h2
  rw [← e]
  exact rowV_at h.b hy
theorem CS.skip {w W : World} {g : Nat} {xs ys : List Vrp} {sp : List Value} {i j : Nat} (h : CS w g xs sp i j ys W) (hj : j < xs.length) (hx : xs[j] = xs[j - 1]'(by omega)) : CS w g xs sp i (j + 1) ys W := by
  have hkm := h.km
  refine ⟨h.b, h.f, h.l, by rw [dedF_same xs j (by omega) hj hx]; exact h.h, ?_, by omega⟩
  rw [show j + 1 - 1 = j - 1 + 1 by omega, ← List.drop_drop, ← List.drop_drop, h.r]
theorem CS.put {w W : World} {g : Nat} {xs ys : List Vrp} {sp : List Value} {i j : Nat} (h : CS w g xs sp i j ys W) (hj : j < xs.length) (hx : xs[j] ≠ xs[j - 1]'(by omega)) : CS w g xs sp (i + 1) (j + 1) (ys.set i xs[j]) (W.setCells g (i * 20) xs[j].cells) := by
  have hkm := h.km
  have hi : i < ys.length := by rw [h.l]; omega
  refine ⟨rowV_put h.b hi _, grown_setCells h.f _ _, by rw [List.length_set]; exact h.l, ?_, ?_, by omega⟩
  · rw [dedF_other xs j (by omega) hj hx, ← h.h, List.take_succ_eq_append_getElem (by rw [List.length_set]; exact hi), List.take_set_of_le (Nat.le_refl _)]
    simp
  · rw [List.drop_set_of_lt (by omega), show j + 1 - 1 = j - 1 + 1 by omega, ← List.drop_drop, ← List.drop_drop, h.r]
def CompPost (w : World) (g cap : Nat) (xs : List Vrp) (sp : List Value) (e : Ending) (w' : World) : Prop :=
  e = .returned (.slice (some ⟨g, 0, none⟩) (dedF xs).length cap) ∧ (∃ sp', Blk w' g 67 ((dedF xs).flatMap Vrp.cells ++ sp') ∧ (dedF xs).length * 20 + sp'.length = xs.length * 20 + sp.length) ∧ w.grownBy w' (some g)
theorem dedF_small {xs : List Vrp} (h : xs.length < 2) : dedF xs = xs := by
  match xs, h with
  | [], _ => rfl
  | [x], _ => rfl
set_option maxRecDepth 100000 in
set_option maxHeartbeats 4000000 in
theorem compV_any (xs : List Vrp) (g cap : Nat) (sp : List Value) (hlen : xs.length ≤ 1000000) (hcap : xs.length ≤ cap) (w : World) (hB : Blk w g 67 (xs.flatMap Vrp.cells ++ sp)) :
    Calls Tryz.prog 99 #[.slice (some ⟨g, 0, none⟩) xs.length cap] w (CompPost w g cap xs sp) := by
  by_cases h2 : xs.length < 2
  · have HF := Lib.hid (show CompPost w g cap xs sp (.returned (.slice (some ⟨g, 0, none⟩) xs.length cap)) w by
      unfold CompPost
      rw [dedF_small h2]
      exact ⟨rfl, ⟨sp, hB, rfl⟩, grown_refl _ _⟩)
    have d2 : decide ((xs.length : Int) < 2) = true := decide_eq_true (by omega)
    clear hB h2
    go_enter Tryz.func99, Tryz.ntmps99
    go_wp2_with fail
    go_ret
    exact HF.out
  have d2 : decide ((xs.length : Int) < 2) = false := decide_eq_false (by omega)
  have hf0 := grown_refl w (some g)
  go_enter Tryz.func99, Tryz.ntmps99
  go_wp2_with fail
  clear d2
  go_loopw [3, 4, 5] (fun v3 v4 v5 wr => ∃ k : Nat, v3 = .int .i64 k ∧ 1 ≤ k ∧ k ≤ xs.length ∧ (Blk wr g 67 (xs.flatMap Vrp.cells ++ sp) ∧ w.grownBy wr (some g)) ∧ Hid (dedF (xs.take k) = xs.take k)) (fun v3 _ _ _ => xs.length - (intOf v3).toNat)
  case atStart => exact ⟨1, rfl, by omega, by omega, ⟨hB, hf0⟩, Lib.hid (dedF_small (by rw [List.length_take]; omega))⟩
  case round =>
    clear hB hf0
    obtain ⟨k, rfl, hk1, hk, hS, HD⟩ := hrel
    by_cases hlt : k < xs.length
    · have hi0 : (0 : Int) ≤ (k : Int) := by omega
      have hi1 : (k : Int) < (xs.length : Int) := by omega
      have hkm : IntKind.i64.wrap ((k : Int) - 1) = ((k - 1 : Nat) : Int) := by rw [IntWalk.i64_in _ (by omega)]; omega
      have hk3 : ((k - 1 : Nat) : Int) < (xs.length : Int) := by omega
      have hk4 : (0 : Int) ≤ ((k - 1 : Nat) : Int) := by omega
      have hkp : k - 1 < xs.length := by omega
      have hdd : dedF (xs.take (k + 1)) = if xs[k] = xs[k - 1] then xs.take k else xs.take (k + 1) := by
        split
        · rename_i h; rw [dedF_same xs k (by omega) hlt h, HD.out]
        · rename_i h; rw [dedF_other xs k (by omega) hlt h, HD.out, List.take_succ_eq_append_getElem hlt]
      by_cases hx : xs[k] = xs[k - 1]
      · have he : ∀ W, (Go.binOp .eql 67 (.agg xs[k].cells.toArray) (.agg xs[k - 1].cells.toArray)).run Tryz.prog W = .ok (.bool true) W := fun W => by rw [eq_vrp, decide_eq_true hx]
        rw [if_pos hx] at hdd
        have HS0 : ∀ W, Blk W g 67 (xs.flatMap Vrp.cells ++ sp) → w.grownBy W (some g) → CS w g xs sp k (k + 1) xs W := fun W h1 h2 => ⟨h1, h2, rfl, hdd.symm, rfl, by omega⟩
        have ha : ∀ W, Blk W g 67 (xs.flatMap Vrp.cells ++ sp) → W.rangeAt g (k * 20) xs[k].cells ∧ W.rangeAt g ((k - 1) * 20) xs[k - 1].cells := fun W hW => ⟨rowV_at hW hlt, rowV_at hW hkp⟩
        have hHX := Lib.hid hx
        clear hx hdd HD
        go_upto_region 6 with fail
        refine reg_sch2 10 [(true, 0), (true, 1), (true, 2), (true, 3), (true, 4), (true, 5), (true, 6), (true, 7), (true, 8), (true, 9)] (by kernel_rfl) (by kernel_rfl) (fun W => Blk W g 67 (xs.flatMap Vrp.cells ++ sp) ∧ w.grownBy W (some g)) (fun W => Blk W g 67 (xs.flatMap Vrp.cells ++ sp) ∧ w.grownBy W (some g)) ?_ ?_ ?_
        · exact ⟨hS.1, ⟨hS.2.os, hS.2.tape, hS.2.output, hS.2.size, hS.2.block⟩⟩
        · exact fun _ h => h
        intro W hSW
        simp only [List.map_cons, List.map_nil, List.getD_cons_zero, List.getD_cons_succ, List.drop_succ_cons, List.drop_zero]
        refine hd_pure (v := ?_) (by rfl) (fun W' hS' => ?_) ?_ -- 0
        rotate_left
        · clear hS'; (go_simp; first | with_reducible rfl | rfl)
        try simp only [Act.put, List.setIfInBounds_toArray, List.set_cons_zero, List.set_cons_succ]
        refine hd_pure (v := ?_) (by rfl) (fun W' hS' => ?_) ?_ -- 1
        rotate_left
        · clear hS'; (go_simp; first | with_reducible rfl | rfl)
        try simp only [Act.put, List.setIfInBounds_toArray, List.set_cons_zero, List.set_cons_succ]
        refine hd_pure (v := ?_) (by rfl) (fun W' hS' => ?_) ?_ -- 2
        rotate_left
        · clear hS'; (go_simp; first | with_reducible rfl | rfl)
        try simp only [Act.put, List.setIfInBounds_toArray, List.set_cons_zero, List.set_cons_succ]
        refine hd_pure (v := .agg xs[k].cells.toArray) (by rfl) (fun W' hS' => exec_load_at 67 _ (by rfl) g (k * 20) 20 (by rfl) _ _ (ha _ hS'.1).1 (Vrp.cells_length _) Tryz.underlying67 rfl info_vrp1) ?_ -- 3
        try simp only [Act.put, List.setIfInBounds_toArray, List.set_cons_zero, List.set_cons_succ]
        refine hd_pure (v := ?_) (by rfl) (fun W' hS' => ?_) ?_ -- 4
        rotate_left
        · clear hS'; (go_simp; first | with_reducible rfl | rfl)
        try simp only [Act.put, List.setIfInBounds_toArray, List.set_cons_zero, List.set_cons_succ]
        refine hd_pure (v := ?_) (by rfl) (fun W' hS' => ?_) ?_ -- 5
        rotate_left
        · clear hS'; (go_simp; first | with_reducible rfl | rfl)
        try simp only [Act.put, List.setIfInBounds_toArray, List.set_cons_zero, List.set_cons_succ]
        refine hd_pure (v := ?_) (by rfl) (fun W' hS' => ?_) ?_ -- 6
        rotate_left
        · clear hS'; (go_simp; first | with_reducible rfl | rfl)
        try simp only [Act.put, List.setIfInBounds_toArray, List.set_cons_zero, List.set_cons_succ]
        refine hd_pure (v := ?_) (by rfl) (fun W' hS' => ?_) ?_ -- 7
        rotate_left
        · clear hS'; (go_simp; first | with_reducible rfl | rfl)
        try simp only [Act.put, List.setIfInBounds_toArray, List.set_cons_zero, List.set_cons_succ]
        refine hd_pure (v := .agg xs[k - 1].cells.toArray) (by rfl) (fun W' hS' => exec_load_at 67 _ (by rfl) g ((k - 1) * 20) 20 (by rfl) _ _ (ha _ hS'.1).2 (Vrp.cells_length _) Tryz.underlying67 rfl info_vrp1) ?_ -- 8
        try simp only [Act.put, List.setIfInBounds_toArray, List.set_cons_zero, List.set_cons_succ]
        refine hd_pure (v := ?_) (by rfl) (fun W' hS' => ?_) ?_ -- 9
        rotate_left
        · clear hS'; (go_simp; first | with_reducible rfl | rfl)
        try simp only [Act.put, List.setIfInBounds_toArray, List.set_cons_zero, List.set_cons_succ]
        refine hd_nil ?_
        replace hS := hSW; clear hSW
        refine wpList_nil (NoPanic.normal ?_)
        have hS0 := HS0 _ hS.1 hS.2
        have hkc : (k : Int) ≤ (xs.length : Int) := by omega
        have hci : ¬ cap = k := by omega
        clear he ha HS0 hS
        go_wp2_with fail
        go_loopw [3, 5] (fun v3 v5 wr => ∃ (kk k2 : Nat) (ys : List Vrp), v3 = .int .i64 kk ∧ v5 = .int .i64 k2 ∧ 1 ≤ k2 ∧ k + k2 ≤ xs.length ∧ CS w g xs sp kk (k + k2) ys wr) (fun _ v5 _ => xs.length - (intOf v5).toNat)
        case atStart => exact ⟨k, 1, xs, rfl, rfl, by omega, by omega, hS0⟩
        case round =>
          clear hS0
          obtain ⟨kk, k2, ys, rfl, rfl, hk2, hkl, hC⟩ := hrel
          have hkm2 := hC.km
          have hyl := hC.l
          by_cases hlt2 : k + k2 < xs.length
          · have dlt : decide (k2 < xs.length - k) = true := decide_eq_true (by omega)
            have hj0 : (0 : Int) ≤ (k2 : Int) := by omega
            have hj1 : (k2 : Int) < ((xs.length - k : Nat) : Int) := by omega
            have hjm : IntKind.i64.wrap ((k2 : Int) - 1) = ((k2 - 1 : Nat) : Int) := by rw [IntWalk.i64_in _ (by omega)]; omega
            have hj3 : ((k2 - 1 : Nat) : Int) < ((xs.length - k : Nat) : Int) := by omega
            have hj4 : (0 : Int) ≤ ((k2 - 1 : Nat) : Int) := by omega
            have hp2 : k + k2 - 1 < xs.length := by omega
            have ha : ∀ W, CS w g xs sp kk (k + k2) ys W → W.rangeAt g (k * 20 + k2 * 20) xs[k + k2].cells ∧ W.rangeAt g (k * 20 + (k2 - 1) * 20) xs[k + k2 - 1].cells := fun W hW => ⟨by rw [← Nat.add_mul]; exact hW.at_ (by omega) hlt2, by rw [← Nat.add_mul, show k + (k2 - 1) = k + k2 - 1 by omega]; exact hW.at_ (Nat.le_refl _) hp2⟩
            by_cases hx : xs[k + k2] = xs[k + k2 - 1]
            · have he : ∀ W, (Go.binOp .neq 67 (.agg xs[k + k2].cells.toArray) (.agg xs[k + k2 - 1].cells.toArray)).run Tryz.prog W = .ok (.bool false) W := fun W => by rw [neq_vrp, decide_eq_true hx]; rfl
              have hN : ∀ W, CS w g xs sp kk (k + k2) ys W → CS w g xs sp kk (k + (k2 + 1)) ys W := fun W hW => hW.skip hlt2 hx
              clear hx
              go_upto_region 11 with fail
              refine reg_sch2 10 [(true, 0), (true, 1), (true, 2), (true, 3), (true, 4), (true, 5), (true, 6), (true, 7), (true, 8), (true, 9)] (by kernel_rfl) (by kernel_rfl) (CS w g xs sp kk (k + k2) ys) (CS w g xs sp kk (k + k2) ys) ?_ ?_ ?_
              · exact hC.drew
              · exact fun _ h => h
              intro W hSW
              simp only [List.map_cons, List.map_nil, List.getD_cons_zero, List.getD_cons_succ, List.drop_succ_cons, List.drop_zero]
              refine hd_pure (v := ?_) (by rfl) (fun W' hS' => ?_) ?_ -- 0
              rotate_left
              · clear hS'; (go_simp; first | with_reducible rfl | rfl)
              try simp only [Act.put, List.setIfInBounds_toArray, List.set_cons_zero, List.set_cons_succ]
              refine hd_pure (v := ?_) (by rfl) (fun W' hS' => ?_) ?_ -- 1
              rotate_left
              · clear hS'; (go_simp; first | with_reducible rfl | rfl)
              try simp only [Act.put, List.setIfInBounds_toArray, List.set_cons_zero, List.set_cons_succ]
              refine hd_pure (v := ?_) (by rfl) (fun W' hS' => ?_) ?_ -- 2
              rotate_left
              · clear hS'; (go_simp; first | with_reducible rfl | rfl)
              try simp only [Act.put, List.setIfInBounds_toArray, List.set_cons_zero, List.set_cons_succ]
              refine hd_pure (v := .agg xs[k + k2].cells.toArray) (by rfl) (fun W' hS' => exec_load_at 67 _ (by rfl) g (k * 20 + k2 * 20) 20 (by rfl) _ _ (ha _ hS').1 (Vrp.cells_length _) Tryz.underlying67 rfl info_vrp1) ?_ -- 3
              try simp only [Act.put, List.setIfInBounds_toArray, List.set_cons_zero, List.set_cons_succ]
              refine hd_pure (v := ?_) (by rfl) (fun W' hS' => ?_) ?_ -- 4
              rotate_left
              · clear hS'; (go_simp; first | with_reducible rfl | rfl)
              try simp only [Act.put, List.setIfInBounds_toArray, List.set_cons_zero, List.set_cons_succ]
              refine hd_pure (v := ?_) (by rfl) (fun W' hS' => ?_) ?_ -- 5
              rotate_left
              · clear hS'; (go_simp; first | with_reducible rfl | rfl)
              try simp only [Act.put, List.setIfInBounds_toArray, List.set_cons_zero, List.set_cons_succ]
              refine hd_pure (v := ?_) (by rfl) (fun W' hS' => ?_) ?_ -- 6
              rotate_left
              · clear hS'; (go_simp; first | with_reducible rfl | rfl)
              try simp only [Act.put, List.setIfInBounds_toArray, List.set_cons_zero, List.set_cons_succ]
              refine hd_pure (v := ?_) (by rfl) (fun W' hS' => ?_) ?_ -- 7
              rotate_left
              · clear hS'; (go_simp; first | with_reducible rfl | rfl)
              try simp only [Act.put, List.setIfInBounds_toArray, List.set_cons_zero, List.set_cons_succ]
              refine hd_pure (v := .agg xs[k + k2 - 1].cells.toArray) (by rfl) (fun W' hS' => exec_load_at 67 _ (by rfl) g (k * 20 + (k2 - 1) * 20) 20 (by rfl) _ _ (ha _ hS').2 (Vrp.cells_length _) Tryz.underlying67 rfl info_vrp1) ?_ -- 8
              try simp only [Act.put, List.setIfInBounds_toArray, List.set_cons_zero, List.set_cons_succ]
              refine hd_pure (v := ?_) (by rfl) (fun W' hS' => ?_) ?_ -- 9
              rotate_left
              · clear hS'; (go_simp; first | with_reducible rfl | rfl)
              try simp only [Act.put, List.setIfInBounds_toArray, List.set_cons_zero, List.set_cons_succ]
              refine hd_nil ?_
              replace hC := hSW; clear hSW
              refine wpList_nil (NoPanic.normal ?_)
              clear he ha
              go_wp2_with fail
              go_roundw
              case rel => exact ⟨kk, k2 + 1, ys, rfl, by go_num, by omega, by omega, hN _ hC⟩
              case measure => simp [intOf]; omega
            · have he : ∀ W, (Go.binOp .neq 67 (.agg xs[k + k2].cells.toArray) (.agg xs[k + k2 - 1].cells.toArray)).run Tryz.prog W = .ok (.bool true) W := fun W => by rw [neq_vrp, decide_eq_false hx]; rfl
              have hN : ∀ W, CS w g xs sp kk (k + k2) ys W → CS w g xs sp (kk + 1) (k + (k2 + 1)) (ys.set kk xs[k + k2]) (W.setCells g (kk * 20) xs[k + k2].cells) := fun W hW => hW.put hlt2 hx
              clear hx
              go_upto_region 11 with fail
              refine reg_sch2 10 [(true, 0), (true, 1), (true, 2), (true, 3), (true, 4), (true, 5), (true, 6), (true, 7), (true, 8), (true, 9)] (by kernel_rfl) (by kernel_rfl) (CS w g xs sp kk (k + k2) ys) (CS w g xs sp kk (k + k2) ys) ?_ ?_ ?_
              · exact hC.drew
              · exact fun _ h => h
              intro W hSW
              simp only [List.map_cons, List.map_nil, List.getD_cons_zero, List.getD_cons_succ, List.drop_succ_cons, List.drop_zero]
              refine hd_pure (v := ?_) (by rfl) (fun W' hS' => ?_) ?_ -- 0
              rotate_left
              · clear hS'; (go_simp; first | with_reducible rfl | rfl)
              try simp only [Act.put, List.setIfInBounds_toArray, List.set_cons_zero, List.set_cons_succ]
              refine hd_pure (v := ?_) (by rfl) (fun W' hS' => ?_) ?_ -- 1
              rotate_left
              · clear hS'; (go_simp; first | with_reducible rfl | rfl)
              try simp only [Act.put, List.setIfInBounds_toArray, List.set_cons_zero, List.set_cons_succ]
              refine hd_pure (v := ?_) (by rfl) (fun W' hS' => ?_) ?_ -- 2
              rotate_left
              · clear hS'; (go_simp; first | with_reducible rfl | rfl)
              try simp only [Act.put, List.setIfInBounds_toArray, List.set_cons_zero, List.set_cons_succ]
              refine hd_pure (v := .agg xs[k + k2].cells.toArray) (by rfl) (fun W' hS' => exec_load_at 67 _ (by rfl) g (k * 20 + k2 * 20) 20 (by rfl) _ _ (ha _ hS').1 (Vrp.cells_length _) Tryz.underlying67 rfl info_vrp1) ?_ -- 3
              try simp only [Act.put, List.setIfInBounds_toArray, List.set_cons_zero, List.set_cons_succ]
              refine hd_pure (v := ?_) (by rfl) (fun W' hS' => ?_) ?_ -- 4
              rotate_left
              · clear hS'; (go_simp; first | with_reducible rfl | rfl)
              try simp only [Act.put, List.setIfInBounds_toArray, List.set_cons_zero, List.set_cons_succ]
              refine hd_pure (v := ?_) (by rfl) (fun W' hS' => ?_) ?_ -- 5
              rotate_left
              · clear hS'; (go_simp; first | with_reducible rfl | rfl)
              try simp only [Act.put, List.setIfInBounds_toArray, List.set_cons_zero, List.set_cons_succ]
              refine hd_pure (v := ?_) (by rfl) (fun W' hS' => ?_) ?_ -- 6
              rotate_left
              · clear hS'; (go_simp; first | with_reducible rfl | rfl)
              try simp only [Act.put, List.setIfInBounds_toArray, List.set_cons_zero, List.set_cons_succ]
              refine hd_pure (v := ?_) (by rfl) (fun W' hS' => ?_) ?_ -- 7
              rotate_left
              · clear hS'; (go_simp; first | with_reducible rfl | rfl)
              try simp only [Act.put, List.setIfInBounds_toArray, List.set_cons_zero, List.set_cons_succ]
              refine hd_pure (v := .agg xs[k + k2 - 1].cells.toArray) (by rfl) (fun W' hS' => exec_load_at 67 _ (by rfl) g (k * 20 + (k2 - 1) * 20) 20 (by rfl) _ _ (ha _ hS').2 (Vrp.cells_length _) Tryz.underlying67 rfl info_vrp1) ?_ -- 8
              try simp only [Act.put, List.setIfInBounds_toArray, List.set_cons_zero, List.set_cons_succ]
              refine hd_pure (v := ?_) (by rfl) (fun W' hS' => ?_) ?_ -- 9
              rotate_left
              · clear hS'; (go_simp; first | with_reducible rfl | rfl)
              try simp only [Act.put, List.setIfInBounds_toArray, List.set_cons_zero, List.set_cons_succ]
              refine hd_nil ?_
              replace hC := hSW; clear hSW
              refine wpList_nil (NoPanic.normal ?_)
              have ha2 := (ha _ hC).1
              have hq0 : (0 : Int) ≤ (kk : Int) := by omega
              have hq1 : (kk : Int) < (xs.length : Int) := by omega
              clear he ha
              go_wp2_with (first | (refine wpList_load_at rfl 67 _ rfl g (k * 20 + k2 * 20) 20 rfl _ _ ha2 (Vrp.cells_length _) Tryz.underlying67 rfl info_vrp1 ?_) | (refine wpList_store_at rfl 67 _ _ rfl g (kk * 20) 20 67 _ (ys.flatMap Vrp.cells ++ sp) rfl rfl hC.b (Vrp.cells_length _) (by rw [List.length_append, flatV_len]; omega) info_vrp1 (Vrp.one _) ?_))
              go_roundw
              case rel => exact ⟨kk + 1, k2 + 1, _, by go_num, by go_num, by omega, by omega, hN _ hC⟩
              case measure => simp [intOf]; omega
          · have hend : k + k2 = xs.length := by omega
            have dlt : decide (k2 < xs.length - k) = false := decide_eq_false (by omega)
            have hil : kk < xs.length := by omega
            have hfi : ys.take kk = dedF xs := by have := hC.h; rwa [hend, List.take_length] at this
            have hfl : (dedF xs).length = kk := by rw [← hfi, List.length_take]; omega
            have hB := hC.b
            obtain ⟨vs, hvl, hclr⟩ := run_clearK (P := Tryz.prog) wr 27 67 (.agg zV.toArray) zV Tryz.underlying27 Tryz.zeroValue67 rfl (by decide) (by decide) g (kk * 20) (xs.length - kk) (cap - kk) (by omega)
              (fun t ht => by rw [show zV.length = 20 from rfl] at ht; rw [hB.cell, List.getElem?_eq_getElem (by rw [List.length_append, flatV_len]; omega)]; rfl) (fun t _ => hB.frozen _)
            have hz20 : zV.length = 20 := rfl
            rw [hz20] at hvl
            have hpost : CompPost w g cap xs sp (.returned (.slice (some ⟨g, 0, none⟩) kk cap)) (wr.setCells g (kk * 20) vs) := by
              refine ⟨by rw [hfl], ⟨vs ++ sp, ?_, by rw [List.length_append, hfl, hvl]; omega⟩, grown_setCells hC.f _ _⟩
              have h1 := Blk.setCells vs (kk * 20) hB (by rw [List.length_append, flatV_len, hvl]; omega)
              have e1 : (ys.flatMap Vrp.cells ++ sp).take (kk * 20) = (dedF xs).flatMap Vrp.cells := by
                rw [List.take_append_of_le_length (by rw [flatV_len]; omega), ← hfi]
                have e0 : ys.flatMap Vrp.cells = (ys.take kk).flatMap Vrp.cells ++ (ys.drop kk).flatMap Vrp.cells := by rw [← List.flatMap_append, List.take_append_drop]
                rw [e0, List.take_left' (by rw [flatV_len, List.length_take]; congr 1; omega)]
              have e2 : (ys.flatMap Vrp.cells ++ sp).drop (kk * 20 + vs.length) = sp := by
                rw [List.drop_left' (by rw [flatV_len, hvl]; omega)]
              rw [e1, e2] at h1
              simpa using h1
            have hq0 : (0 : Int) ≤ (kk : Int) := by omega
            have hq1 : (kk : Int) ≤ (xs.length : Int) := by omega
            have hq2 : (kk : Int) ≤ (cap : Int) := by omega
            have hcq : ¬ cap = kk := by omega
            have HPOST := Lib.hid hpost
            clear hfi hfl hpost hvl hz20 hC hB hend
            go_wp2_with fail
            go_ret
            exact HPOST.out
      · have he : ∀ W, (Go.binOp .eql 67 (.agg xs[k].cells.toArray) (.agg xs[k - 1].cells.toArray)).run Tryz.prog W = .ok (.bool false) W := fun W => by rw [eq_vrp, decide_eq_false hx]
        rw [if_neg hx] at hdd
        have HD2 := Lib.hid hdd
        have ha : ∀ W, Blk W g 67 (xs.flatMap Vrp.cells ++ sp) → W.rangeAt g (k * 20) xs[k].cells ∧ W.rangeAt g ((k - 1) * 20) xs[k - 1].cells := fun W hW => ⟨rowV_at hW hlt, rowV_at hW hkp⟩
        clear hx hdd HD
        go_upto_region 6 with fail
        refine reg_sch2 10 [(true, 0), (true, 1), (true, 2), (true, 3), (true, 4), (true, 5), (true, 6), (true, 7), (true, 8), (true, 9)] (by kernel_rfl) (by kernel_rfl) (fun W => Blk W g 67 (xs.flatMap Vrp.cells ++ sp) ∧ w.grownBy W (some g)) (fun W => Blk W g 67 (xs.flatMap Vrp.cells ++ sp) ∧ w.grownBy W (some g)) ?_ ?_ ?_
        · exact ⟨hS.1, ⟨hS.2.os, hS.2.tape, hS.2.output, hS.2.size, hS.2.block⟩⟩
        · exact fun _ h => h
        intro W hSW
        simp only [List.map_cons, List.map_nil, List.getD_cons_zero, List.getD_cons_succ, List.drop_succ_cons, List.drop_zero]
        refine hd_pure (v := ?_) (by rfl) (fun W' hS' => ?_) ?_ -- 0
        rotate_left
        · clear hS'; (go_simp; first | with_reducible rfl | rfl)
        try simp only [Act.put, List.setIfInBounds_toArray, List.set_cons_zero, List.set_cons_succ]
        refine hd_pure (v := ?_) (by rfl) (fun W' hS' => ?_) ?_ -- 1
        rotate_left
        · clear hS'; (go_simp; first | with_reducible rfl | rfl)
        try simp only [Act.put, List.setIfInBounds_toArray, List.set_cons_zero, List.set_cons_succ]
        refine hd_pure (v := ?_) (by rfl) (fun W' hS' => ?_) ?_ -- 2
        rotate_left
        · clear hS'; (go_simp; first | with_reducible rfl | rfl)
        try simp only [Act.put, List.setIfInBounds_toArray, List.set_cons_zero, List.set_cons_succ]
        refine hd_pure (v := .agg xs[k].cells.toArray) (by rfl) (fun W' hS' => exec_load_at 67 _ (by rfl) g (k * 20) 20 (by rfl) _ _ (ha _ hS'.1).1 (Vrp.cells_length _) Tryz.underlying67 rfl info_vrp1) ?_ -- 3
        try simp only [Act.put, List.setIfInBounds_toArray, List.set_cons_zero, List.set_cons_succ]
        refine hd_pure (v := ?_) (by rfl) (fun W' hS' => ?_) ?_ -- 4
        rotate_left
        · clear hS'; (go_simp; first | with_reducible rfl | rfl)
        try simp only [Act.put, List.setIfInBounds_toArray, List.set_cons_zero, List.set_cons_succ]
        refine hd_pure (v := ?_) (by rfl) (fun W' hS' => ?_) ?_ -- 5
        rotate_left
        · clear hS'; (go_simp; first | with_reducible rfl | rfl)
        try simp only [Act.put, List.setIfInBounds_toArray, List.set_cons_zero, List.set_cons_succ]
        refine hd_pure (v := ?_) (by rfl) (fun W' hS' => ?_) ?_ -- 6
        rotate_left
        · clear hS'; (go_simp; first | with_reducible rfl | rfl)
        try simp only [Act.put, List.setIfInBounds_toArray, List.set_cons_zero, List.set_cons_succ]
        refine hd_pure (v := ?_) (by rfl) (fun W' hS' => ?_) ?_ -- 7
        rotate_left
        · clear hS'; (go_simp; first | with_reducible rfl | rfl)
        try simp only [Act.put, List.setIfInBounds_toArray, List.set_cons_zero, List.set_cons_succ]
        refine hd_pure (v := .agg xs[k - 1].cells.toArray) (by rfl) (fun W' hS' => exec_load_at 67 _ (by rfl) g ((k - 1) * 20) 20 (by rfl) _ _ (ha _ hS'.1).2 (Vrp.cells_length _) Tryz.underlying67 rfl info_vrp1) ?_ -- 8
        try simp only [Act.put, List.setIfInBounds_toArray, List.set_cons_zero, List.set_cons_succ]
        refine hd_pure (v := ?_) (by rfl) (fun W' hS' => ?_) ?_ -- 9
        rotate_left
        · clear hS'; (go_simp; first | with_reducible rfl | rfl)
        try simp only [Act.put, List.setIfInBounds_toArray, List.set_cons_zero, List.set_cons_succ]
        refine hd_nil ?_
        replace hS := hSW; clear hSW
        refine wpList_nil (NoPanic.normal ?_)
        clear he ha
        go_wp2_with fail
        go_roundw
        case rel => exact ⟨k + 1, by go_num, by omega, by omega, hS, HD2⟩
        case measure => simp [intOf]; omega
    · have hkk : k = xs.length := by omega
      have HF := Lib.hid (show CompPost w g cap xs sp (.returned (.slice (some ⟨g, 0, none⟩) xs.length cap)) wr by
        have := HD.out
        rw [hkk, List.take_length] at this
        unfold CompPost
        rw [this]
        exact ⟨rfl, ⟨sp, hS.1, rfl⟩, hS.2⟩)
      subst hkk
      clear hS HD hlt hk hk1
      go_wp2_with fail
      go_ret
      exact HF.out
end Go.Proofs.YtmoldmnhijcckaaGreat
