/- vrp.has: a row searched by halves. -/
import Derived.Test.YtmoldmnhijcckaaGreatMa10
set_option linter.unusedVariables false
set_option linter.unusedSectionVars false
set_option linter.unusedSimpArgs false
namespace Go.Proofs.YtmoldmnhijcckaaGreat
open Go.RowKit
set_option maxRecDepth 100000 in
set_option maxHeartbeats 2000000 in
theorem hasF_any (a b : Vrp) (w : World) : Calls Tryz.prog 155 #[a.val, b.val] w fun e w' => e = .returned (.int .i64 (cmpV a b)) ∧ Below w.heap.size w w' := by
  simp only [Vrp.val]
  have hP := VQ2.new w a b
  go_enter Tryz.func155, Tryz.ntmps155
  go_upto_region 1 with fail
  refine wp_gen (VQ2 w a b) hP ?_
  clear hP
  intro W0 hP
  go_wp2_with (first | (refine wpList_load_at rfl 67 _ rfl w.heap.size 0 20 rfl _ _ hP.b1.range (Vrp.cells_length _) Tryz.underlying67 rfl info_vrp1 ?_) | (refine wpList_load_at rfl 67 _ rfl (w.heap.size + 1) 0 20 rfl _ _ hP.b2.range (Vrp.cells_length _) Tryz.underlying67 rfl info_vrp1 ?_))
  refine (vcmp_any a b _).mono ?_
  rintro e w1 ⟨rfl, hb⟩
  have hP := hP.next hb
  go_wp2_with fail
  go_ret
  exact ⟨rfl, hP.lo.lo⟩
def RiseV (xs : List Vrp) : Prop := xs.Pairwise fun a b => cmpV a b < 0
theorem cmpV_self (a : Vrp) : cmpV a a = 0 := by have := compV.anti a a; omega
theorem found_law {xs : List Vrp} (hs : RiseV xs) {t : Vrp} {i : Nat} (h1 : ∀ k (h : k < xs.length), k < i → cmpV xs[k] t < 0) (h2 : ∀ k (h : k < xs.length), i ≤ k → 0 ≤ cmpV xs[k] t) :
    decide (t ∈ xs) = if h : i < xs.length then decide (cmpV xs[i] t = 0) else false := by
  split
  · rename_i hi
    by_cases hc : cmpV xs[i] t = 0
    · rw [decide_eq_true hc]
      exact decide_eq_true (by rw [← cmpV_zero hc]; exact List.getElem_mem hi)
    · rw [decide_eq_false hc]
      refine decide_eq_false fun hm => ?_
      obtain ⟨k, hk, rfl⟩ := List.getElem_of_mem hm
      by_cases hki : k < i
      · have := h1 k hk hki; rw [cmpV_self] at this; omega
      · by_cases hk2 : k = i
        · subst hk2; exact hc (cmpV_self _)
        · have h3 := List.pairwise_iff_getElem.1 hs i k hi hk (by omega)
          have h4 := h2 i hi (Nat.le_refl _)
          omega
  · rename_i hi
    refine decide_eq_false fun hm => ?_
    obtain ⟨k, hk, rfl⟩ := List.getElem_of_mem hm
    have := h1 k hk (by omega)
    rw [cmpV_self] at this
    omega
theorem ltV_trans {a b c : Vrp} (h1 : cmpV a b < 0) (h2 : cmpV b c < 0) : cmpV a c < 0 := by
  have a1 := compV.bd a b
  have a2 := compV.bd b c
  have := compV.trans a b c (by omega)
  omega
structure BS (w : World) (t : Vrp) (W : World) : Prop where
  b : Blk W w.heap.size 67 t.cells
  lo : Below w.heap.size w W
theorem BS.next {w : World} {t : Vrp} {W W' : World} (h : BS w t W) (hb : Below W.heap.size W W') : BS w t W' := ⟨h.b.below hb h.b.lt, below_then h.lo (Nat.le_refl _) hb⟩
theorem BS.drew {w : World} {t : Vrp} {W : World} (h : BS w t W) : BS w t W.drew := ⟨h.b.drew, h.lo.drew⟩
set_option maxRecDepth 100000 in
set_option maxHeartbeats 4000000 in
theorem bsearch_any (xs : List Vrp) (n : Nat) (hn : xs.length = n) (t : Vrp) (A : Option Addr) (c B : Nat) (hlen : n ≤ 1000000) (hs : RiseV xs) (w : World) (hB : B ≤ w.heap.size) (hr : Reads w B 20 A n (xs.flatMap Vrp.cells)) :
    Calls Tryz.prog 154 #[.slice A n c, t.val, .func (.func 155) #[] #[]] w fun e w' => (∃ i : Nat, e = .returned (.tuple #[.int .i64 i, .bool (decide (t ∈ xs))])) ∧ Below w.heap.size w w' := by
  subst hn
  simp only [Vrp.val]
  have hS : BS w t (w.alloc (.cells t.cells.toArray 67)) := ⟨Blk.new _ _ _, (Below.refl _ _).alloc (Nat.le_refl _) _⟩
  go_enter Tryz.func154, Tryz.ntmps154
  go_upto_region 1 with fail
  refine wp_gen (BS w t) hS ?_
  clear hS
  intro W0 hS
  go_wp2_with fail
  go_loopw [9, 10, 11] (fun v9 v10 v11 W => ∃ i j : Nat, v9 = .int .i64 i ∧ v10 = .int .i64 j ∧ i ≤ j ∧ j ≤ xs.length ∧ BS w t W ∧ Hid ((∀ k (h : k < xs.length), k < i → cmpV xs[k] t < 0) ∧ ∀ k (h : k < xs.length), j ≤ k → 0 ≤ cmpV xs[k] t)) (fun v9 v10 _ _ => (intOf v10).toNat - (intOf v9).toNat)
  case atStart => exact ⟨0, xs.length, rfl, rfl, by omega, by omega, hS, Lib.hid ⟨fun k _ h => by omega, fun k h1 h2 => by omega⟩⟩
  case round =>
    clear hS
    obtain ⟨i, j, rfl, rfl, hij, hj, hS, HI⟩ := hrel
    by_cases hlt : i < j
    · have dlt : decide (i < j) = true := decide_eq_true hlt
      go_upto_region 5 with fail
      obtain ⟨h, hh⟩ : ∃ h, (i + j) / 2 = h := ⟨_, rfl⟩
      have e2 : ((i : Int) + (j : Int)) / 2 = (h : Int) := by omega
      rw [e2]
      have hih : i ≤ h := by omega
      have hhj : h < j := by omega
      have hhn : h < xs.length := by omega
      clear e2 hh
      have hh0 : (0 : Int) ≤ (h : Int) := by omega
      have hh1 : (h : Int) < (xs.length : Int) := by omega
      obtain ⟨ad, rfl, _, _⟩ := hr.2 (by omega)
      have hat : ∀ W, Below w.heap.size w W → AtAdr W (ad.add (h * 20)) xs[h].cells := fun W hW => (hr.below hW hB).elem Vrp.cells_length hhn rfl
      obtain ⟨z, hz⟩ : ∃ z, cmpV xs[h] t = z := ⟨_, rfl⟩
      have HZ := Lib.hid hz
      have HL := Lib.hid (show z < 0 → (∀ k (hk : k < xs.length), k < h + 1 → cmpV xs[k] t < 0) from fun hz0 k hk hkh => by
        by_cases h1 : k = h
        · subst h1; omega
        · exact ltV_trans (List.pairwise_iff_getElem.1 hs k h hk hhn (by omega)) (by omega))
      have HG := Lib.hid (show ¬ z < 0 → (∀ k (hk : k < xs.length), h ≤ k → 0 ≤ cmpV xs[k] t) from fun hz0 k hk hkh => by
        by_cases h1 : k = h
        · subst h1; omega
        · by_cases h2 : cmpV xs[k] t < 0
          · have := ltV_trans (List.pairwise_iff_getElem.1 hs h k hhn hk (by omega)) h2
            omega
          · omega)
      clear hz
      generalize xs[h] = x at hat HZ
      by_cases hz0 : z < 0
      · have dz := decide_eq_true hz0
        have HN := Lib.hid (HL.out hz0)
        clear HL HG hz0
        refine reg_sch2 8 [(true, 0), (true, 1), (true, 2), (true, 3), (true, 4), (true, 5), (false, 6), (true, 7)] (by kernel_rfl) (by kernel_rfl) (BS w t) (BS w t) ?_ ?_ ?_
        · exact hS.drew
        · exact fun _ h => h
        intro W hSW
        simp only [List.map_cons, List.map_nil, List.getD_cons_zero, List.getD_cons_succ, List.drop_succ_cons, List.drop_zero]
        refine hd_pure (v := ?_) (by rfl) (fun W' hS' => ?_) ?_ -- 0
        rotate_left
        · clear hS'; (go_simp; first | with_reducible rfl | rfl)
        try simp only [Act.put, List.setIfInBounds_toArray, List.set_cons_zero, List.set_cons_succ]
        refine hd_pure (v := ?_) (by rfl) (fun W' hS' => ?_) ?_ -- 1
        rotate_left
        · clear hS'; (go_simp; first | with_reducible rfl | rfl)
        try simp only [Act.put, List.setIfInBounds_toArray, List.set_cons_zero, List.set_cons_succ]
        refine hd_pure (v := ?_) (by rfl) (fun W' hS' => ?_) ?_ -- 2
        rotate_left
        · clear hS'; (go_simp; first | with_reducible rfl | rfl)
        try simp only [Act.put, List.setIfInBounds_toArray, List.set_cons_zero, List.set_cons_succ]
        refine hd_pure (v := ?_) (by rfl) (fun W' hS' => ?_) ?_ -- 3
        rotate_left
        · clear hS'; (go_simp; first | with_reducible rfl | rfl)
        try simp only [Act.put, List.setIfInBounds_toArray, List.set_cons_zero, List.set_cons_succ]
        refine hd_pure (v := .agg x.cells.toArray) (by rfl) (fun W' hS' => exec_load_adr 67 _ (by rfl) (ad.add (h * 20)) 20 (by rfl) _ _ (hat _ hS'.lo) (Vrp.cells_length _) Tryz.underlying67 rfl info_vrp1) ?_ -- 4
        try simp only [Act.put, List.setIfInBounds_toArray, List.set_cons_zero, List.set_cons_succ]
        refine hd_pure (v := .agg t.cells.toArray) (by rfl) (fun W' hS' => exec_load_at 67 _ (by rfl) w.heap.size 0 20 (by rfl) _ _ hS'.b.range (Vrp.cells_length _) Tryz.underlying67 rfl info_vrp1) ?_ -- 5
        try simp only [Act.put, List.setIfInBounds_toArray, List.set_cons_zero, List.set_cons_succ]
        refine hd_sole (by rfl) (fun K hK => ?_) -- 6
        go_simp
        refine (hasF_any x t _).mono ?_; rintro e w' ⟨rfl, hb⟩; rw [HZ.out]
        refine hK _ _ (hSW.next hb) ?_
        clear hK K hSW
        intro hSW
        clear hb
        try simp only [Act.put, List.setIfInBounds_toArray, List.set_cons_zero, List.set_cons_succ]
        refine hd_pure (v := ?_) (by rfl) (fun W' hS' => ?_) ?_ -- 7
        rotate_left
        · clear hS'; (go_simp; first | with_reducible rfl | rfl)
        try simp only [Act.put, List.setIfInBounds_toArray, List.set_cons_zero, List.set_cons_succ]
        refine hd_nil ?_
        replace hS := hSW; clear hSW
        refine wpList_nil (NoPanic.normal ?_)
        clear hat
        go_wp2_with fail
        go_roundw
        case rel => exact ⟨h + 1, j, by go_num, rfl, by omega, hj, hS, Lib.hid ⟨HN.out, HI.out.2⟩⟩
        case measure => simp [intOf]; omega
      · have dz := decide_eq_false hz0
        have HN := Lib.hid (HG.out hz0)
        clear HL HG hz0
        refine reg_sch2 8 [(true, 0), (true, 1), (true, 2), (true, 3), (true, 4), (true, 5), (false, 6), (true, 7)] (by kernel_rfl) (by kernel_rfl) (BS w t) (BS w t) ?_ ?_ ?_
        · exact hS.drew
        · exact fun _ h => h
        intro W hSW
        simp only [List.map_cons, List.map_nil, List.getD_cons_zero, List.getD_cons_succ, List.drop_succ_cons, List.drop_zero]
        refine hd_pure (v := ?_) (by rfl) (fun W' hS' => ?_) ?_ -- 0
        rotate_left
        · clear hS'; (go_simp; first | with_reducible rfl | rfl)
        try simp only [Act.put, List.setIfInBounds_toArray, List.set_cons_zero, List.set_cons_succ]
        refine hd_pure (v := ?_) (by rfl) (fun W' hS' => ?_) ?_ -- 1
        rotate_left
        · clear hS'; (go_simp; first | with_reducible rfl | rfl)
        try simp only [Act.put, List.setIfInBounds_toArray, List.set_cons_zero, List.set_cons_succ]
        refine hd_pure (v := ?_) (by rfl) (fun W' hS' => ?_) ?_ -- 2
        rotate_left
        · clear hS'; (go_simp; first | with_reducible rfl | rfl)
        try simp only [Act.put, List.setIfInBounds_toArray, List.set_cons_zero, List.set_cons_succ]
        refine hd_pure (v := ?_) (by rfl) (fun W' hS' => ?_) ?_ -- 3
        rotate_left
        · clear hS'; (go_simp; first | with_reducible rfl | rfl)
        try simp only [Act.put, List.setIfInBounds_toArray, List.set_cons_zero, List.set_cons_succ]
        refine hd_pure (v := .agg x.cells.toArray) (by rfl) (fun W' hS' => exec_load_adr 67 _ (by rfl) (ad.add (h * 20)) 20 (by rfl) _ _ (hat _ hS'.lo) (Vrp.cells_length _) Tryz.underlying67 rfl info_vrp1) ?_ -- 4
        try simp only [Act.put, List.setIfInBounds_toArray, List.set_cons_zero, List.set_cons_succ]
        refine hd_pure (v := .agg t.cells.toArray) (by rfl) (fun W' hS' => exec_load_at 67 _ (by rfl) w.heap.size 0 20 (by rfl) _ _ hS'.b.range (Vrp.cells_length _) Tryz.underlying67 rfl info_vrp1) ?_ -- 5
        try simp only [Act.put, List.setIfInBounds_toArray, List.set_cons_zero, List.set_cons_succ]
        refine hd_sole (by rfl) (fun K hK => ?_) -- 6
        go_simp
        refine (hasF_any x t _).mono ?_; rintro e w' ⟨rfl, hb⟩; rw [HZ.out]
        refine hK _ _ (hSW.next hb) ?_
        clear hK K hSW
        intro hSW
        clear hb
        try simp only [Act.put, List.setIfInBounds_toArray, List.set_cons_zero, List.set_cons_succ]
        refine hd_pure (v := ?_) (by rfl) (fun W' hS' => ?_) ?_ -- 7
        rotate_left
        · clear hS'; (go_simp; first | with_reducible rfl | rfl)
        try simp only [Act.put, List.setIfInBounds_toArray, List.set_cons_zero, List.set_cons_succ]
        refine hd_nil ?_
        replace hS := hSW; clear hSW
        refine wpList_nil (NoPanic.normal ?_)
        clear hat
        go_wp2_with fail
        go_roundw
        case rel => exact ⟨i, h, rfl, rfl, hih, by omega, hS, Lib.hid ⟨HI.out.1, HN.out⟩⟩
        case measure => simp [intOf]; omega
    · have hie : i = j := by omega
      subst hie
      have dlt : decide (i < i) = false := decide_eq_false (by omega)
      have HF := Lib.hid (found_law hs HI.out.1 HI.out.2)
      by_cases hin : i < xs.length
      · have hi0 : (0 : Int) ≤ (i : Int) := by omega
        have hi1 : (i : Int) < (xs.length : Int) := by omega
        have din : decide (i < xs.length) = true := decide_eq_true hin
        obtain ⟨ad, rfl, _, _⟩ := hr.2 (by omega)
        have hat : ∀ W, Below w.heap.size w W → AtAdr W (ad.add (i * 20)) xs[i].cells := fun W hW => (hr.below hW hB).elem Vrp.cells_length hin rfl
        obtain ⟨z, hz⟩ : ∃ z, cmpV xs[i] t = z := ⟨_, rfl⟩
        have HZ := Lib.hid hz
        obtain ⟨b, hb⟩ : ∃ b, decide (z = 0) = b := ⟨_, rfl⟩
        have HR := Lib.hid (show decide (t ∈ xs) = b by rw [HF.out, dif_pos hin, hz, hb])
        have dz : (z == 0) = b := by rw [← hb]; by_cases h : z = 0 <;> simp [h]
        clear hz hb HF HI
        generalize xs[i] = x at hat HZ
        go_upto_region 8 with fail
        refine reg_sch2 16 [(true, 0), (true, 1), (true, 2), (true, 3), (true, 4), (true, 5), (true, 6), (true, 7), (true, 8), (true, 9), (true, 10), (false, 11), (true, 12), (true, 13), (true, 14), (true, 15)] (by kernel_rfl) (by kernel_rfl) (BS w t) (BS w t) ?_ ?_ ?_
        · exact hS.drew
        · exact fun _ h => h
        intro W hSW
        simp only [List.map_cons, List.map_nil, List.getD_cons_zero, List.getD_cons_succ, List.drop_succ_cons, List.drop_zero]
        refine hd_pure (v := ?_) (by rfl) (fun W' hS' => ?_) ?_ -- 0
        rotate_left
        · clear hS'; (go_simp; first | with_reducible rfl | rfl)
        try simp only [Act.put, List.setIfInBounds_toArray, List.set_cons_zero, List.set_cons_succ]
        refine hd_pure (v := ?_) (by rfl) (fun W' hS' => ?_) ?_ -- 1
        rotate_left
        · clear hS'; (go_simp; first | with_reducible rfl | rfl)
        try simp only [Act.put, List.setIfInBounds_toArray, List.set_cons_zero, List.set_cons_succ]
        refine hd_pure (v := ?_) (by rfl) (fun W' hS' => ?_) ?_ -- 2
        rotate_left
        · clear hS'; (go_simp; first | with_reducible rfl | rfl)
        try simp only [Act.put, List.setIfInBounds_toArray, List.set_cons_zero, List.set_cons_succ]
        refine hd_pure (v := ?_) (by rfl) (fun W' hS' => ?_) ?_ -- 3
        rotate_left
        · clear hS'; (go_simp; first | with_reducible rfl | rfl)
        try simp only [Act.put, List.setIfInBounds_toArray, List.set_cons_zero, List.set_cons_succ]
        refine hd_pure (v := ?_) (by rfl) (fun W' hS' => ?_) ?_ -- 4
        rotate_left
        · clear hS'; (go_simp; first | with_reducible rfl | rfl)
        try simp only [Act.put, List.setIfInBounds_toArray, List.set_cons_zero, List.set_cons_succ]
        refine hd_pure (v := ?_) (by rfl) (fun W' hS' => ?_) ?_ -- 5
        rotate_left
        · clear hS'; (go_simp; first | with_reducible rfl | rfl)
        try simp only [Act.put, List.setIfInBounds_toArray, List.set_cons_zero, List.set_cons_succ]
        refine hd_pure (v := ?_) (by rfl) (fun W' hS' => ?_) ?_ -- 6
        rotate_left
        · clear hS'; (go_simp; first | with_reducible rfl | rfl)
        try simp only [Act.put, List.setIfInBounds_toArray, List.set_cons_zero, List.set_cons_succ]
        refine hd_pure (v := ?_) (by rfl) (fun W' hS' => ?_) ?_ -- 7
        rotate_left
        · clear hS'; (go_simp; first | with_reducible rfl | rfl)
        try simp only [Act.put, List.setIfInBounds_toArray, List.set_cons_zero, List.set_cons_succ]
        refine hd_pure (v := ?_) (by rfl) (fun W' hS' => ?_) ?_ -- 8
        rotate_left
        · clear hS'; (go_simp; first | with_reducible rfl | rfl)
        try simp only [Act.put, List.setIfInBounds_toArray, List.set_cons_zero, List.set_cons_succ]
        refine hd_pure (v := .agg x.cells.toArray) (by rfl) (fun W' hS' => exec_load_adr 67 _ (by rfl) (ad.add (i * 20)) 20 (by rfl) _ _ (hat _ hS'.lo) (Vrp.cells_length _) Tryz.underlying67 rfl info_vrp1) ?_ -- 9
        try simp only [Act.put, List.setIfInBounds_toArray, List.set_cons_zero, List.set_cons_succ]
        refine hd_pure (v := .agg t.cells.toArray) (by rfl) (fun W' hS' => exec_load_at 67 _ (by rfl) w.heap.size 0 20 (by rfl) _ _ hS'.b.range (Vrp.cells_length _) Tryz.underlying67 rfl info_vrp1) ?_ -- 10
        try simp only [Act.put, List.setIfInBounds_toArray, List.set_cons_zero, List.set_cons_succ]
        refine hd_sole (by rfl) (fun K hK => ?_) -- 11
        go_simp
        refine (hasF_any x t _).mono ?_; rintro e w' ⟨rfl, hb⟩; rw [HZ.out]
        refine hK _ _ (hSW.next hb) ?_
        clear hK K hSW
        intro hSW
        clear hb
        try simp only [Act.put, List.setIfInBounds_toArray, List.set_cons_zero, List.set_cons_succ]
        refine hd_pure (v := ?_) (by rfl) (fun W' hS' => ?_) ?_ -- 12
        rotate_left
        · clear hS'; (go_simp; first | with_reducible rfl | rfl)
        try simp only [Act.put, List.setIfInBounds_toArray, List.set_cons_zero, List.set_cons_succ]
        refine hd_pure (v := ?_) (by rfl) (fun W' hS' => ?_) ?_ -- 13
        rotate_left
        · clear hS'; (go_simp; first | with_reducible rfl | rfl)
        try simp only [Act.put, List.setIfInBounds_toArray, List.set_cons_zero, List.set_cons_succ]
        refine hd_pure (v := ?_) (by rfl) (fun W' hS' => ?_) ?_ -- 14
        rotate_left
        · clear hS'; (go_simp; first | with_reducible rfl | rfl)
        try simp only [Act.put, List.setIfInBounds_toArray, List.set_cons_zero, List.set_cons_succ]
        refine hd_pure (v := ?_) (by rfl) (fun W' hS' => ?_) ?_ -- 15
        rotate_left
        · clear hS'; (go_simp; first | with_reducible rfl | rfl)
        try simp only [Act.put, List.setIfInBounds_toArray, List.set_cons_zero, List.set_cons_succ]
        refine hd_nil ?_
        replace hS := hSW; clear hSW
        refine wpList_nil (NoPanic.normal ?_)
        clear hat
        go_wp2_with fail
        exact bodyPost_ret (v := .tuple #[.int .i64 i, .bool b]) (by simp [results, Tryz.results154, go_sem]) rfl ⟨⟨i, by rw [HR.out]⟩, hS.lo⟩
      · have din : decide (i < xs.length) = false := decide_eq_false hin
        have HR := Lib.hid (show decide (t ∈ xs) = false by rw [HF.out, dif_neg hin])
        clear HF HI
        go_upto_region 8 with fail
        refine reg_sch2 16 [(true, 0), (true, 1), (true, 2), (true, 3), (true, 4), (true, 5), (true, 6), (true, 7), (true, 8), (true, 9), (true, 10), (false, 11), (true, 12), (true, 13), (true, 14), (true, 15)] (by kernel_rfl) (by kernel_rfl) (BS w t) (BS w t) ?_ ?_ ?_
        · exact hS.drew
        · exact fun _ h => h
        intro W hSW
        simp only [List.map_cons, List.map_nil, List.getD_cons_zero, List.getD_cons_succ, List.drop_succ_cons, List.drop_zero]
        refine hd_pure (v := ?_) (by rfl) (fun W' hS' => ?_) ?_ -- 0
        rotate_left
        · clear hS'; (go_simp; first | with_reducible rfl | rfl)
        try simp only [Act.put, List.setIfInBounds_toArray, List.set_cons_zero, List.set_cons_succ]
        refine hd_pure (v := ?_) (by rfl) (fun W' hS' => ?_) ?_ -- 1
        rotate_left
        · clear hS'; (go_simp; first | with_reducible rfl | rfl)
        try simp only [Act.put, List.setIfInBounds_toArray, List.set_cons_zero, List.set_cons_succ]
        refine hd_pure (v := ?_) (by rfl) (fun W' hS' => ?_) ?_ -- 2
        rotate_left
        · clear hS'; (go_simp; first | with_reducible rfl | rfl)
        try simp only [Act.put, List.setIfInBounds_toArray, List.set_cons_zero, List.set_cons_succ]
        refine hd_pure (v := ?_) (by rfl) (fun W' hS' => ?_) ?_ -- 3
        rotate_left
        · clear hS'; (go_simp; first | with_reducible rfl | rfl)
        try simp only [Act.put, List.setIfInBounds_toArray, List.set_cons_zero, List.set_cons_succ]
        refine hd_pure (v := ?_) (by rfl) (fun W' hS' => ?_) ?_ -- 4
        rotate_left
        · clear hS'; (go_simp; first | with_reducible rfl | rfl)
        try simp only [Act.put, List.setIfInBounds_toArray, List.set_cons_zero, List.set_cons_succ]
        refine hd_skip (by rfl) ?_
        try simp only [Act.put, List.setIfInBounds_toArray, List.set_cons_zero, List.set_cons_succ]
        refine hd_skip (by rfl) ?_
        try simp only [Act.put, List.setIfInBounds_toArray, List.set_cons_zero, List.set_cons_succ]
        refine hd_skip (by rfl) ?_
        try simp only [Act.put, List.setIfInBounds_toArray, List.set_cons_zero, List.set_cons_succ]
        refine hd_skip (by rfl) ?_
        try simp only [Act.put, List.setIfInBounds_toArray, List.set_cons_zero, List.set_cons_succ]
        refine hd_skip (by rfl) ?_
        try simp only [Act.put, List.setIfInBounds_toArray, List.set_cons_zero, List.set_cons_succ]
        refine hd_skip (by rfl) ?_
        try simp only [Act.put, List.setIfInBounds_toArray, List.set_cons_zero, List.set_cons_succ]
        refine hd_sole_skip (by rfl) ?_
        try simp only [Act.put, List.setIfInBounds_toArray, List.set_cons_zero, List.set_cons_succ]
        refine hd_skip (by rfl) ?_
        try simp only [Act.put, List.setIfInBounds_toArray, List.set_cons_zero, List.set_cons_succ]
        refine hd_pure (v := ?_) (by rfl) (fun W' hS' => ?_) ?_ -- 13
        rotate_left
        · clear hS'; (go_simp; first | with_reducible rfl | rfl)
        try simp only [Act.put, List.setIfInBounds_toArray, List.set_cons_zero, List.set_cons_succ]
        refine hd_pure (v := ?_) (by rfl) (fun W' hS' => ?_) ?_ -- 14
        rotate_left
        · clear hS'; (go_simp; first | with_reducible rfl | rfl)
        try simp only [Act.put, List.setIfInBounds_toArray, List.set_cons_zero, List.set_cons_succ]
        refine hd_pure (v := ?_) (by rfl) (fun W' hS' => ?_) ?_ -- 15
        rotate_left
        · clear hS'; (go_simp; first | with_reducible rfl | rfl)
        try simp only [Act.put, List.setIfInBounds_toArray, List.set_cons_zero, List.set_cons_succ]
        refine hd_nil ?_
        replace hS := hSW; clear hSW
        refine wpList_nil (NoPanic.normal ?_)
        go_wp2_with fail
        exact bodyPost_ret (v := .tuple #[.int .i64 i, .bool false]) (by simp [results, Tryz.results154, go_sem]) rfl ⟨⟨i, by rw [HR.out]⟩, hS.lo⟩
set_option maxRecDepth 100000 in
set_option maxHeartbeats 2000000 in
theorem has_any (xs : List Vrp) (n : Nat) (hn : xs.length = n) (t : Vrp) (A : Option Addr) (c B : Nat) (hlen : n ≤ 1000000) (hs : RiseV xs) (w : World) (hB : B ≤ w.heap.size) (hr : Reads w B 20 A n (xs.flatMap Vrp.cells)) :
    Calls Tryz.prog 143 #[.slice A n c, t.val] w fun e w' => e = .returned (.bool (decide (t ∈ xs))) ∧ Below w.heap.size w w' := by
  simp only [Vrp.val]
  have hS : BS w t (w.alloc (.cells t.cells.toArray 67)) := ⟨Blk.new _ _ _, (Below.refl _ _).alloc (Nat.le_refl _) _⟩
  go_enter Tryz.func143, Tryz.ntmps143
  go_upto_region 1 with fail
  refine wp_gen (BS w t) hS ?_
  clear hS
  intro W0 hS
  go_wp2_with (refine wpList_load_at rfl 67 _ rfl w.heap.size 0 20 rfl _ _ hS.b.range (Vrp.cells_length _) Tryz.underlying67 rfl info_vrp1 ?_)
  refine (bsearch_any xs n hn t A c B hlen hs W0 (by have := hS.lo.size; omega) (hr.below hS.lo hB)).mono ?_
  rintro e w1 ⟨⟨i, rfl⟩, hb⟩
  replace hS := hS.next hb
  obtain ⟨b, hbb⟩ : ∃ b, decide (t ∈ xs) = b := ⟨_, rfl⟩
  have HB := Lib.hid hbb
  rw [hbb]
  clear hbb hb
  go_wp2_with fail
  go_ret
  exact ⟨by rw [HB.out]; rfl, hS.lo⟩
end Go.Proofs.YtmoldmnhijcckaaGreat
