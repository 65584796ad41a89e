/- The contract of lanyardref18.Same: whether two rows are the same. Condition: lengths that memory allows. -/
import Derived.Test.YtmoldmnhijcckaaGreatMa07
import Derived.Deep.DeepMust
import Derived.Deep.DeepCutAuto
set_option linter.unusedVariables false
set_option linter.unusedSectionVars false
set_option linter.unusedSimpArgs false
namespace Go.Proofs.YtmoldmnhijcckaaGreat
open Go.RowKit
theorem take_eq_suc {α : Type} {ps qs : List α} {k : Nat} (h1 : k < ps.length) (h2 : k < qs.length) (h : ps.take k = qs.take k) (he : ps[k] = qs[k]) : ps.take (k + 1) = qs.take (k + 1) := by
  rw [List.take_succ_eq_append_getElem h1, List.take_succ_eq_append_getElem h2, h, he]
structure SmV (w : World) (ps qs : List Vrp) (A A' : Option Addr) (B B' : Nat) (W : World) : Prop where
  ra : Reads W B 20 A ps.length (ps.flatMap Vrp.cells)
  rb : Reads W B' 20 A' qs.length (qs.flatMap Vrp.cells)
  b : Below w.heap.size w W
theorem SmV.drew {w : World} {ps qs : List Vrp} {A A' : Option Addr} {B B' : Nat} {W : World} (h : SmV w ps qs A A' B B' W) : SmV w ps qs A A' B B' W.drew := ⟨h.ra.drew, h.rb.drew, h.b.drew⟩
theorem samev_lens (ps qs : List Vrp) (A A' : Option Addr) (c c' : Nat) (w : World) (h : ps.length ≠ qs.length) :
    Calls Tryz.prog 14 #[.slice A ps.length c, .slice A' qs.length c'] w fun e w' => e = .returned (.bool (decide (ps = qs))) ∧ Below w.heap.size w w' := by
  have H := Lib.hid (show decide (ps = qs) = false from decide_eq_false (fun e => h (by rw [e])))
  have h1 : ((ps.length : Int) != (qs.length : Int)) = true := by simp; omega
  have h2 : ((ps.length : Int) == (qs.length : Int)) = false := by simp; omega
  clear h
  go_enter Tryz.func14, Tryz.ntmps14
  go_wp2
  go_ret
  exact ⟨by rw [H.out]; rfl, Below.refl _ _⟩
set_option maxRecDepth 100000 in
set_option maxHeartbeats 2000000 in
theorem samev_eqlen (ps qs : List Vrp) (n : Nat) (hn : ps.length = n) (hn' : qs.length = n) (hb : n ≤ 1000000000) (A A' : Option Addr) (c c' B B' : Nat) (w : World) (hB : B ≤ w.heap.size) (hB' : B' ≤ w.heap.size) (ra : Reads w B 20 A n (ps.flatMap Vrp.cells)) (rb : Reads w B' 20 A' n (qs.flatMap Vrp.cells)) :
    Calls Tryz.prog 14 #[.slice A n c, .slice A' n c'] w fun e w' => e = .returned (.bool (decide (ps = qs))) ∧ Below w.heap.size w w' := by
  have HN := Lib.hid hn
  have HN' := Lib.hid hn'
  have hst : SmV w ps qs A A' B B' w := ⟨by rw [hn]; exact ra, by rw [hn']; exact rb, Below.refl _ _⟩
  have h1 : ((n : Int) != (n : Int)) = false := by simp
  clear ra rb hn hn'
  go_enter Tryz.func14, Tryz.ntmps14
  go_wp2_with fail
  go_loopw [5] (fun i wr => ∃ k : Nat, k ≤ n ∧ i = .int .i64 k ∧ SmV w ps qs A A' B B' wr ∧ Hid (ps.take k = qs.take k)) (fun i _ => n - (intOf i).toNat)
  case atStart => exact ⟨0, Nat.zero_le _, rfl, hst, Lib.hid rfl⟩
  case round =>
    clear hst
    obtain ⟨k, hk, rfl, hW, HT⟩ := hrel
    by_cases hlt : k < n
    · have hk1 : k < ps.length := by rw [HN.out]; exact hlt
      have hk2 : k < qs.length := by rw [HN'.out]; exact hlt
      obtain ⟨ad, rfl, _, _⟩ := hW.ra.2 (by omega)
      obtain ⟨ad', rfl, _, _⟩ := hW.rb.2 (by omega)
      have hpk : (k : Int) < (n : Int) := by omega
      have hp0 : (0 : Int) ≤ (k : Int) := by omega
      have hq : ∀ W : World, (Go.binOp .neq 67 (.agg (ps[k]).cells.toArray) (.agg (qs[k]).cells.toArray)).run Tryz.prog W = .ok (.bool (!decide (ps[k] = qs[k]))) W := fun W => neq_vrp _ _ W
      cases he : decide (ps[k] = qs[k])
      ·
        have HE := Lib.hid he
        rw [he] at hq
        clear he
        go_wp2_with fail
        refine reg_sch2 9 [(true, 0), (true, 1), (true, 2), (true, 3), (true, 4), (true, 5), (true, 6), (true, 7), (true, 8)] (by kernel_rfl) (by kernel_rfl) (SmV w ps qs (some ad) (some ad') B B') (SmV w ps qs (some ad) (some ad') B B') ?_ ?_ ?_
        · exact hW.drew
        · exact fun _ h => h
        intro W hSW
        simp only [List.map_cons, List.map_nil, List.getD_cons_zero, List.getD_cons_succ, List.drop_succ_cons, List.drop_zero]
        refine hd_pure (v := ?_) (by rfl) (fun W' hS' => ?_) ?_ -- 0
        rotate_left
        · (go_simp; first | with_reducible rfl | rfl)
        try simp only [Act.put, List.setIfInBounds_toArray, List.set_cons_zero, List.set_cons_succ]
        refine hd_pure (v := ?_) (by rfl) (fun W' hS' => ?_) ?_ -- 1
        rotate_left
        · (go_simp; first | with_reducible rfl | rfl)
        try simp only [Act.put, List.setIfInBounds_toArray, List.set_cons_zero, List.set_cons_succ]
        refine hd_pure (v := ?_) (by rfl) (fun W' hS' => ?_) ?_ -- 2
        rotate_left
        · (go_simp; first | with_reducible rfl | rfl)
        try simp only [Act.put, List.setIfInBounds_toArray, List.set_cons_zero, List.set_cons_succ]
        refine hd_pure (v := .agg (ps[k]).cells.toArray) (by rfl) (fun W' hS' => exec_load_adr 67 _ (by rfl) (ad.add (k * 20)) 20 (by first | rfl | (simp [Act.eval]; done)) _ _ (hS'.ra.elem Vrp.cells_length hk1 rfl) (Vrp.cells_length _) Tryz.underlying67 rfl info_vrp) ?_ -- 3
        try simp only [Act.put, List.setIfInBounds_toArray, List.set_cons_zero, List.set_cons_succ]
        refine hd_pure (v := ?_) (by rfl) (fun W' hS' => ?_) ?_ -- 4
        rotate_left
        · (go_simp; first | with_reducible rfl | rfl)
        try simp only [Act.put, List.setIfInBounds_toArray, List.set_cons_zero, List.set_cons_succ]
        refine hd_pure (v := ?_) (by rfl) (fun W' hS' => ?_) ?_ -- 5
        rotate_left
        · (go_simp; first | with_reducible rfl | rfl)
        try simp only [Act.put, List.setIfInBounds_toArray, List.set_cons_zero, List.set_cons_succ]
        refine hd_pure (v := ?_) (by rfl) (fun W' hS' => ?_) ?_ -- 6
        rotate_left
        · (go_simp; first | with_reducible rfl | rfl)
        try simp only [Act.put, List.setIfInBounds_toArray, List.set_cons_zero, List.set_cons_succ]
        refine hd_pure (v := .agg (qs[k]).cells.toArray) (by rfl) (fun W' hS' => exec_load_adr 67 _ (by rfl) (ad'.add (k * 20)) 20 (by first | rfl | (simp [Act.eval]; done)) _ _ (hS'.rb.elem Vrp.cells_length hk2 rfl) (Vrp.cells_length _) Tryz.underlying67 rfl info_vrp) ?_ -- 7
        try simp only [Act.put, List.setIfInBounds_toArray, List.set_cons_zero, List.set_cons_succ]
        refine hd_pure (v := ?_) (by rfl) (fun W' hS' => ?_) ?_ -- 8
        rotate_left
        · (go_simp; first | with_reducible rfl | rfl)
        try simp only [Act.put, List.setIfInBounds_toArray, List.set_cons_zero, List.set_cons_succ]
        refine hd_nil ?_
        replace hW := hSW; clear hSW
        refine wpList_nil (NoPanic.normal ?_)
        clear hq
        go_wp2
        go_ret
        exact ⟨by rw [show decide (ps = qs) = false from decide_eq_false (fun e => by subst e; have := HE.out; simp at this)]; rfl, hW.b⟩
      ·
        have HE := Lib.hid he
        rw [he] at hq
        clear he
        go_wp2_with fail
        refine reg_sch2 9 [(true, 0), (true, 1), (true, 2), (true, 3), (true, 4), (true, 5), (true, 6), (true, 7), (true, 8)] (by kernel_rfl) (by kernel_rfl) (SmV w ps qs (some ad) (some ad') B B') (SmV w ps qs (some ad) (some ad') B B') ?_ ?_ ?_
        · exact hW.drew
        · exact fun _ h => h
        intro W hSW
        simp only [List.map_cons, List.map_nil, List.getD_cons_zero, List.getD_cons_succ, List.drop_succ_cons, List.drop_zero]
        refine hd_pure (v := ?_) (by rfl) (fun W' hS' => ?_) ?_ -- 0
        rotate_left
        · (go_simp; first | with_reducible rfl | rfl)
        try simp only [Act.put, List.setIfInBounds_toArray, List.set_cons_zero, List.set_cons_succ]
        refine hd_pure (v := ?_) (by rfl) (fun W' hS' => ?_) ?_ -- 1
        rotate_left
        · (go_simp; first | with_reducible rfl | rfl)
        try simp only [Act.put, List.setIfInBounds_toArray, List.set_cons_zero, List.set_cons_succ]
        refine hd_pure (v := ?_) (by rfl) (fun W' hS' => ?_) ?_ -- 2
        rotate_left
        · (go_simp; first | with_reducible rfl | rfl)
        try simp only [Act.put, List.setIfInBounds_toArray, List.set_cons_zero, List.set_cons_succ]
        refine hd_pure (v := .agg (ps[k]).cells.toArray) (by rfl) (fun W' hS' => exec_load_adr 67 _ (by rfl) (ad.add (k * 20)) 20 (by first | rfl | (simp [Act.eval]; done)) _ _ (hS'.ra.elem Vrp.cells_length hk1 rfl) (Vrp.cells_length _) Tryz.underlying67 rfl info_vrp) ?_ -- 3
        try simp only [Act.put, List.setIfInBounds_toArray, List.set_cons_zero, List.set_cons_succ]
        refine hd_pure (v := ?_) (by rfl) (fun W' hS' => ?_) ?_ -- 4
        rotate_left
        · (go_simp; first | with_reducible rfl | rfl)
        try simp only [Act.put, List.setIfInBounds_toArray, List.set_cons_zero, List.set_cons_succ]
        refine hd_pure (v := ?_) (by rfl) (fun W' hS' => ?_) ?_ -- 5
        rotate_left
        · (go_simp; first | with_reducible rfl | rfl)
        try simp only [Act.put, List.setIfInBounds_toArray, List.set_cons_zero, List.set_cons_succ]
        refine hd_pure (v := ?_) (by rfl) (fun W' hS' => ?_) ?_ -- 6
        rotate_left
        · (go_simp; first | with_reducible rfl | rfl)
        try simp only [Act.put, List.setIfInBounds_toArray, List.set_cons_zero, List.set_cons_succ]
        refine hd_pure (v := .agg (qs[k]).cells.toArray) (by rfl) (fun W' hS' => exec_load_adr 67 _ (by rfl) (ad'.add (k * 20)) 20 (by first | rfl | (simp [Act.eval]; done)) _ _ (hS'.rb.elem Vrp.cells_length hk2 rfl) (Vrp.cells_length _) Tryz.underlying67 rfl info_vrp) ?_ -- 7
        try simp only [Act.put, List.setIfInBounds_toArray, List.set_cons_zero, List.set_cons_succ]
        refine hd_pure (v := ?_) (by rfl) (fun W' hS' => ?_) ?_ -- 8
        rotate_left
        · (go_simp; first | with_reducible rfl | rfl)
        try simp only [Act.put, List.setIfInBounds_toArray, List.set_cons_zero, List.set_cons_succ]
        refine hd_nil ?_
        replace hW := hSW; clear hSW
        refine wpList_nil (NoPanic.normal ?_)
        clear hq
        go_wp2_with fail
        go_roundw
        case rel => exact ⟨k + 1, by omega, by go_num, hW, Lib.hid (take_eq_suc hk1 hk2 HT.out (of_decide_eq_true HE.out))⟩
        case measure => simp [intOf]; omega
    · have hkn : k = n := by omega
      have HE := Lib.hid (show decide (ps = qs) = true from decide_eq_true (by
        have h := HT.out
        rw [List.take_of_length_le (by rw [HN.out]; omega), List.take_of_length_le (by rw [HN'.out]; omega)] at h
        exact h))
      subst hkn
      clear hlt
      go_wp2
      go_ret
      exact ⟨by rw [HE.out]; rfl, hW.b⟩
theorem samev_any (ps qs : List Vrp) (hb : ps.length ≤ 1000000000) (A A' : Option Addr) (c c' B B' : Nat) (w : World) (hB : B ≤ w.heap.size) (hB' : B' ≤ w.heap.size) (ra : Reads w B 20 A ps.length (ps.flatMap Vrp.cells)) (rb : Reads w B' 20 A' qs.length (qs.flatMap Vrp.cells)) :
    Calls Tryz.prog 14 #[.slice A ps.length c, .slice A' qs.length c'] w fun e w' => e = .returned (.bool (decide (ps = qs))) ∧ Below w.heap.size w w' := by
  by_cases h : ps.length = qs.length
  · have := samev_eqlen ps qs ps.length rfl h.symm hb A A' c c' B B' w hB hB' ra (by rw [h]; exact rb)
    rw [← h]
    exact this
  · exact samev_lens ps qs A A' c c' w h
end Go.Proofs.YtmoldmnhijcckaaGreat
