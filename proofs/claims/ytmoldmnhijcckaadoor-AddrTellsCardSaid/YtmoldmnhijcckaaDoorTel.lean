/- The walk of lanyardlaw10.AddrTells: it returns true. -/
import Derived.Test.YtmoldmnhijcckaaDoorAwk
import Derived.Test.YtmoldmnhijcckaaDoorRefW
set_option linter.unusedVariables false
set_option linter.unusedSectionVars false
set_option linter.unusedSimpArgs false
namespace Go.Proofs.YtmoldmnhijcckaaDoor
open Go.RowKit
set_option maxRecDepth 100000 in
set_option maxHeartbeats 4000000 in
theorem tel_any (p q : Pfx) (m : Int) (w : World) (h0 : 0 < w.heap.size) (hm : w.cell? ⟨0, 0, none⟩ = some (.int .i64 m)) :
    Calls Tryd.prog 10 #[p.val, q.val] w fun e w' => e = .returned (.bool true) ∧ Below w.heap.size w w' := by
  have he := eq_pfx (cutOf p) (cutOf p)
  rw [decide_eq_true rfl] at he
  have hP := PQ.new w p q
  have hm2 := (hP.lo.cell (p := ⟨0, 0, none⟩) h0).trans hm
  have h02 := Nat.lt_of_lt_of_le h0 hP.lo.size
  clear hm h0
  simp only [Pfx.val]
  go_enter Tryd.func10, Tryd.ntmps10
  go_wp2_with fail
  refine (awake_any m _ h02 hm2).mono ?_
  rintro e w1 ⟨rfl, hb⟩
  replace hP := hP.next hb
  clear hb hm2 h02
  go_wp2_with fail
  obtain ⟨cv, hcv⟩ : ∃ x, coversOf p q = x := ⟨_, rfl⟩
  obtain ⟨cm, hcm⟩ : ∃ x, cmpOf p q = x := ⟨_, rfl⟩
  have HV := Lib.hid hcv
  have HM := Lib.hid hcm
  clear hcv hcm
  refine reg_sch2 27 [(true, 0), (true, 1), (true, 2), (true, 3), (true, 5), (true, 6), (false, 4), (false, 7), (true, 8), (true, 9), (true, 10), (true, 11), (true, 12), (true, 14), (true, 15), (false, 13), (false, 16), (true, 17), (true, 18), (true, 19), (true, 20), (true, 22), (false, 21), (false, 23), (true, 24), (true, 25), (true, 26)] (by kernel_rfl) (by kernel_rfl) (PQ w p q) (PQ w p q) ?_ ?_ ?_
  · exact hP.drew
  · exact fun _ h => h
  intro W hSW
  simp only [List.map_cons, List.map_nil, List.getD_cons_zero, List.getD_cons_succ, List.drop_succ_cons, List.drop_zero]
  refine hd_pure (v := ?_) (by rfl) (fun W' hS' => ?_) ?_ -- 0
  rotate_left
  · clear hS'; (go_simp; first | with_reducible rfl | rfl)
  try simp only [Act.put, List.setIfInBounds_toArray, List.set_cons_zero, List.set_cons_succ]
  refine hd_pure (v := ?_) (by rfl) (fun W' hS' => ?_) ?_ -- 1
  rotate_left
  · clear hS'; (go_simp; first | with_reducible rfl | rfl)
  try simp only [Act.put, List.setIfInBounds_toArray, List.set_cons_zero, List.set_cons_succ]
  refine hd_pure (v := .agg p.cells.toArray) (by rfl) (fun W' hS' => exec_load_at 50 _ (by rfl) w.heap.size 0 18 (by rfl) _ _ hS'.b1.range (Pfx.cells_length _) Tryd.underlying50 rfl info_pfx) ?_ -- 2
  try simp only [Act.put, List.setIfInBounds_toArray, List.set_cons_zero, List.set_cons_succ]
  refine hd_pure (v := .agg q.cells.toArray) (by rfl) (fun W' hS' => exec_load_at 50 _ (by rfl) (w.heap.size + 1) 0 18 (by rfl) _ _ hS'.b2.range (Pfx.cells_length _) Tryd.underlying50 rfl info_pfx) ?_ -- 3
  try simp only [Act.put, List.setIfInBounds_toArray, List.set_cons_zero, List.set_cons_succ]
  refine hd_pure (v := .agg p.cells.toArray) (by rfl) (fun W' hS' => exec_load_at 50 _ (by rfl) w.heap.size 0 18 (by rfl) _ _ hS'.b1.range (Pfx.cells_length _) Tryd.underlying50 rfl info_pfx) ?_ -- 5
  try simp only [Act.put, List.setIfInBounds_toArray, List.set_cons_zero, List.set_cons_succ]
  refine hd_pure (v := .agg q.cells.toArray) (by rfl) (fun W' hS' => exec_load_at 50 _ (by rfl) (w.heap.size + 1) 0 18 (by rfl) _ _ hS'.b2.range (Pfx.cells_length _) Tryd.underlying50 rfl info_pfx) ?_ -- 6
  try simp only [Act.put, List.setIfInBounds_toArray, List.set_cons_zero, List.set_cons_succ]
  refine hd_sole (by rfl) (fun K hK => ?_) -- 4
  go_simp
  refine (covers_any p q _).mono ?_; rintro e w' ⟨rfl, hb⟩
  refine hK _ _ (hSW.next hb) ?_
  clear hK K hSW
  intro hSW
  clear hb; rw [HV.out]
  try simp only [Act.put, List.setIfInBounds_toArray, List.set_cons_zero, List.set_cons_succ]
  refine hd_sole (by rfl) (fun K hK => ?_) -- 7
  go_simp
  refine (rcovers_any p q _).mono ?_; rintro e w' ⟨rfl, hb⟩
  refine hK _ _ (hSW.next hb) ?_
  clear hK K hSW
  intro hSW
  clear hb; rw [HV.out]
  try simp only [Act.put, List.setIfInBounds_toArray, List.set_cons_zero, List.set_cons_succ]
  refine hd_pure (v := ?_) (by rfl) (fun W' hS' => ?_) ?_ -- 8
  rotate_left
  · clear hS'; (go_simp; first | with_reducible rfl | rfl)
  try simp only [Act.put, List.setIfInBounds_toArray, List.set_cons_zero, List.set_cons_succ]
  refine hd_pure (v := ?_) (by rfl) (fun W' hS' => ?_) ?_ -- 9
  rotate_left
  · clear hS'; (go_simp; first | with_reducible rfl | rfl)
  try simp only [Act.put, List.setIfInBounds_toArray, List.set_cons_zero, List.set_cons_succ]
  refine hd_pure (v := ?_) (by rfl) (fun W' hS' => ?_) ?_ -- 10
  rotate_left
  · clear hS'; (go_simp; first | with_reducible rfl | rfl)
  try simp only [Act.put, List.setIfInBounds_toArray, List.set_cons_zero, List.set_cons_succ]
  refine hd_pure (v := .agg p.cells.toArray) (by rfl) (fun W' hS' => exec_load_at 50 _ (by rfl) w.heap.size 0 18 (by rfl) _ _ hS'.b1.range (Pfx.cells_length _) Tryd.underlying50 rfl info_pfx) ?_ -- 11
  try simp only [Act.put, List.setIfInBounds_toArray, List.set_cons_zero, List.set_cons_succ]
  refine hd_pure (v := .agg q.cells.toArray) (by rfl) (fun W' hS' => exec_load_at 50 _ (by rfl) (w.heap.size + 1) 0 18 (by rfl) _ _ hS'.b2.range (Pfx.cells_length _) Tryd.underlying50 rfl info_pfx) ?_ -- 12
  try simp only [Act.put, List.setIfInBounds_toArray, List.set_cons_zero, List.set_cons_succ]
  refine hd_pure (v := .agg p.cells.toArray) (by rfl) (fun W' hS' => exec_load_at 50 _ (by rfl) w.heap.size 0 18 (by rfl) _ _ hS'.b1.range (Pfx.cells_length _) Tryd.underlying50 rfl info_pfx) ?_ -- 14
  try simp only [Act.put, List.setIfInBounds_toArray, List.set_cons_zero, List.set_cons_succ]
  refine hd_pure (v := .agg q.cells.toArray) (by rfl) (fun W' hS' => exec_load_at 50 _ (by rfl) (w.heap.size + 1) 0 18 (by rfl) _ _ hS'.b2.range (Pfx.cells_length _) Tryd.underlying50 rfl info_pfx) ?_ -- 15
  try simp only [Act.put, List.setIfInBounds_toArray, List.set_cons_zero, List.set_cons_succ]
  refine hd_sole (by rfl) (fun K hK => ?_) -- 13
  go_simp
  refine (cmp_any p q _).mono ?_; rintro e w' ⟨rfl, hb⟩
  refine hK _ _ (hSW.next hb) ?_
  clear hK K hSW
  intro hSW
  clear hb; rw [HM.out]
  try simp only [Act.put, List.setIfInBounds_toArray, List.set_cons_zero, List.set_cons_succ]
  refine hd_sole (by rfl) (fun K hK => ?_) -- 16
  go_simp
  refine (rcmp_any p q _).mono ?_; rintro e w' ⟨rfl, hb⟩
  refine hK _ _ (hSW.next hb) ?_
  clear hK K hSW
  intro hSW
  clear hb; rw [HM.out]
  try simp only [Act.put, List.setIfInBounds_toArray, List.set_cons_zero, List.set_cons_succ]
  refine hd_pure (v := ?_) (by rfl) (fun W' hS' => ?_) ?_ -- 17
  rotate_left
  · clear hS'; (go_simp; first | with_reducible rfl | rfl)
  try simp only [Act.put, List.setIfInBounds_toArray, List.set_cons_zero, List.set_cons_succ]
  refine hd_pure (v := ?_) (by rfl) (fun W' hS' => ?_) ?_ -- 18
  rotate_left
  · clear hS'; (go_simp; first | with_reducible rfl | rfl)
  try simp only [Act.put, List.setIfInBounds_toArray, List.set_cons_zero, List.set_cons_succ]
  refine hd_pure (v := ?_) (by rfl) (fun W' hS' => ?_) ?_ -- 19
  rotate_left
  · clear hS'; (go_simp; first | with_reducible rfl | rfl)
  try simp only [Act.put, List.setIfInBounds_toArray, List.set_cons_zero, List.set_cons_succ]
  refine hd_pure (v := .agg p.cells.toArray) (by rfl) (fun W' hS' => exec_load_at 50 _ (by rfl) w.heap.size 0 18 (by rfl) _ _ hS'.b1.range (Pfx.cells_length _) Tryd.underlying50 rfl info_pfx) ?_ -- 20
  try simp only [Act.put, List.setIfInBounds_toArray, List.set_cons_zero, List.set_cons_succ]
  refine hd_pure (v := .agg p.cells.toArray) (by rfl) (fun W' hS' => exec_load_at 50 _ (by rfl) w.heap.size 0 18 (by rfl) _ _ hS'.b1.range (Pfx.cells_length _) Tryd.underlying50 rfl info_pfx) ?_ -- 22
  try simp only [Act.put, List.setIfInBounds_toArray, List.set_cons_zero, List.set_cons_succ]
  refine hd_sole (by rfl) (fun K hK => ?_) -- 21
  go_simp
  refine (cut_any p _).mono ?_; rintro e w' ⟨rfl, hb⟩
  refine hK _ _ (hSW.next hb) ?_
  clear hK K hSW
  intro hSW
  clear hb; simp only [Pfx.val]
  try simp only [Act.put, List.setIfInBounds_toArray, List.set_cons_zero, List.set_cons_succ]
  refine hd_sole (by rfl) (fun K hK => ?_) -- 23
  go_simp
  refine (rcut_any p _).mono ?_; rintro e w' ⟨rfl, hb⟩
  refine hK _ _ (hSW.next hb) ?_
  clear hK K hSW
  intro hSW
  clear hb; simp only [Pfx.val]
  try simp only [Act.put, List.setIfInBounds_toArray, List.set_cons_zero, List.set_cons_succ]
  refine hd_pure (v := ?_) (by rfl) (fun W' hS' => ?_) ?_ -- 24
  rotate_left
  · clear hS'; (go_simp; first | with_reducible rfl | rfl)
  try simp only [Act.put, List.setIfInBounds_toArray, List.set_cons_zero, List.set_cons_succ]
  refine hd_pure (v := ?_) (by rfl) (fun W' hS' => ?_) ?_ -- 25
  rotate_left
  · clear hS'; (go_simp; first | with_reducible rfl | rfl)
  try simp only [Act.put, List.setIfInBounds_toArray, List.set_cons_zero, List.set_cons_succ]
  refine hd_pure (v := ?_) (by rfl) (fun W' hS' => ?_) ?_ -- 26
  rotate_left
  · clear hS'; (go_simp; first | with_reducible rfl | rfl)
  try simp only [Act.put, List.setIfInBounds_toArray, List.set_cons_zero, List.set_cons_succ]
  refine hd_nil ?_
  have hb := hSW.lo; clear hSW
  refine wpList_nil (NoPanic.normal ?_)
  go_wp2
  go_ret
  exact ⟨rfl, hb⟩
end Go.Proofs.YtmoldmnhijcckaaDoor
