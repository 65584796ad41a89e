/- The contract of lanyardref25.Right. No conditions. -/
import Derived.Test.YtmoldmnhijcckaaRefN
import Derived.Test.YtmoldmnhijcckaaRefO
import Derived.Test.YtmoldmnhijcckaaRight
import Derived.Test.YtmoldmnhijcckaaWrite0
import Derived.Test.YtmoldmnhijcckaaGrd
set_option linter.unusedVariables false
set_option linter.unusedSectionVars false
set_option linter.unusedSimpArgs false
namespace Go.Proofs.Ytmoldmnhijcckaa
open Go.RowKit
set_option maxRecDepth 100000 in
set_option maxHeartbeats 4000000 in
theorem rr_kind (p : Pdu) (w : World) (hk : isKind p.kind = false) : Calls Try.prog 21 #[p.val] w fun e w' => e = .returned (.bool (pduOk p)) ∧ Below w.heap.size w w' := by
  have HR := Lib.hid (show pduOk p = false from by
    cases e : pduOk p
    · rfl
    · obtain ⟨o1, o2, o3, o4, o5, _⟩ := ok_parts e
      rw [imin_eq] at o3
      rw [imax_eq] at o4
      exfalso
      rw [o1] at hk; cases hk)
  have HK := Lib.hid hk
  have HQ := Lib.hid (show True from trivial)
  clear hk
  simp only [Pdu.val]
  go_enter Try.func21, Try.ntmps21
  go_wp2_with fail
  refine reg_sch2 36 [(true, 0), (true, 1), (false, 2), (true, 3), (true, 4), (true, 5), (true, 7), (false, 6), (true, 8), (true, 9), (true, 10), (true, 11), (true, 12), (true, 13), (true, 14), (true, 15), (true, 16), (true, 17), (true, 18), (true, 19), (true, 20), (true, 21), (true, 22), (true, 23), (true, 24), (true, 25), (true, 26), (true, 27), (true, 28), (true, 29), (true, 30), (true, 31), (true, 32), (true, 33), (true, 34), (true, 35)] (by kernel_rfl) (by kernel_rfl) (Bx w p) (Bx w p) ?_ ?_ ?_
  · exact (Bx.new w p).drew
  · exact fun _ h => h
  intro W hSW
  simp only [List.map_cons, List.map_nil, List.getD_cons_zero, List.getD_cons_succ, List.drop_succ_cons, List.drop_zero]
  refine hd_pure (v := ?_) (by rfl) (fun W' hS' => ?_) ?_ -- 0
  rotate_left
  · have c0 := (hS'.1.cell 0).trans p.c0; have c1 := (hS'.1.cell 1).trans p.c1; have c24 := (hS'.1.cell 24).trans p.c24; have c25 := (hS'.1.cell 25).trans p.c25; clear hS'; (go_simp; first | with_reducible rfl | rfl)
  try simp only [Act.put, List.setIfInBounds_toArray, List.set_cons_zero, List.set_cons_succ]
  refine hd_pure (v := ?_) (by rfl) (fun W' hS' => ?_) ?_ -- 1
  rotate_left
  · have c0 := (hS'.1.cell 0).trans p.c0; have c1 := (hS'.1.cell 1).trans p.c1; have c24 := (hS'.1.cell 24).trans p.c24; have c25 := (hS'.1.cell 25).trans p.c25; clear hS'; (go_simp; first | with_reducible rfl | rfl)
  try simp only [Act.put, List.setIfInBounds_toArray, List.set_cons_zero, List.set_cons_succ]
  refine hd_sole (by rfl) (fun K hK => ?_) -- 2
  go_simp
  refine (rkind_any _ _).mono ?_; rintro e w' ⟨rfl, rfl⟩
  refine hK _ _ (hSW) ?_
  clear hK K hSW
  intro hSW
  rw [HK.out]
  try simp only [Act.put, List.setIfInBounds_toArray, List.set_cons_zero, List.set_cons_succ]
  refine hd_pure (v := ?_) (by rfl) (fun W' hS' => ?_) ?_ -- 3
  rotate_left
  · have c0 := (hS'.1.cell 0).trans p.c0; have c1 := (hS'.1.cell 1).trans p.c1; have c24 := (hS'.1.cell 24).trans p.c24; have c25 := (hS'.1.cell 25).trans p.c25; clear hS'; (go_simp; first | with_reducible rfl | rfl)
  try simp only [Act.put, List.setIfInBounds_toArray, List.set_cons_zero, List.set_cons_succ]
  refine hd_pure (v := ?_) (by rfl) (fun W' hS' => ?_) ?_ -- 4
  rotate_left
  · have c0 := (hS'.1.cell 0).trans p.c0; have c1 := (hS'.1.cell 1).trans p.c1; have c24 := (hS'.1.cell 24).trans p.c24; have c25 := (hS'.1.cell 25).trans p.c25; clear hS'; (go_simp; first | with_reducible rfl | rfl)
  try simp only [Act.put, List.setIfInBounds_toArray, List.set_cons_zero, List.set_cons_succ]
  refine hd_skip (by rfl) ?_
  try simp only [Act.put, List.setIfInBounds_toArray, List.set_cons_zero, List.set_cons_succ]
  refine hd_skip (by rfl) ?_
  try simp only [Act.put, List.setIfInBounds_toArray, List.set_cons_zero, List.set_cons_succ]
  refine hd_sole_skip (by rfl) ?_
  try simp only [Act.put, List.setIfInBounds_toArray, List.set_cons_zero, List.set_cons_succ]
  refine hd_skip (by rfl) ?_
  try simp only [Act.put, List.setIfInBounds_toArray, List.set_cons_zero, List.set_cons_succ]
  refine hd_pure (v := ?_) (by rfl) (fun W' hS' => ?_) ?_ -- 9
  rotate_left
  · have c0 := (hS'.1.cell 0).trans p.c0; have c1 := (hS'.1.cell 1).trans p.c1; have c24 := (hS'.1.cell 24).trans p.c24; have c25 := (hS'.1.cell 25).trans p.c25; clear hS'; (go_simp; first | with_reducible rfl | rfl)
  try simp only [Act.put, List.setIfInBounds_toArray, List.set_cons_zero, List.set_cons_succ]
  refine hd_pure (v := ?_) (by rfl) (fun W' hS' => ?_) ?_ -- 10
  rotate_left
  · have c0 := (hS'.1.cell 0).trans p.c0; have c1 := (hS'.1.cell 1).trans p.c1; have c24 := (hS'.1.cell 24).trans p.c24; have c25 := (hS'.1.cell 25).trans p.c25; clear hS'; (go_simp; first | with_reducible rfl | rfl)
  try simp only [Act.put, List.setIfInBounds_toArray, List.set_cons_zero, List.set_cons_succ]
  refine hd_skip (by rfl) ?_
  try simp only [Act.put, List.setIfInBounds_toArray, List.set_cons_zero, List.set_cons_succ]
  refine hd_skip (by rfl) ?_
  try simp only [Act.put, List.setIfInBounds_toArray, List.set_cons_zero, List.set_cons_succ]
  refine hd_skip (by rfl) ?_
  try simp only [Act.put, List.setIfInBounds_toArray, List.set_cons_zero, List.set_cons_succ]
  refine hd_pure (v := ?_) (by rfl) (fun W' hS' => ?_) ?_ -- 14
  rotate_left
  · have c0 := (hS'.1.cell 0).trans p.c0; have c1 := (hS'.1.cell 1).trans p.c1; have c24 := (hS'.1.cell 24).trans p.c24; have c25 := (hS'.1.cell 25).trans p.c25; clear hS'; (go_simp; first | with_reducible rfl | rfl)
  try simp only [Act.put, List.setIfInBounds_toArray, List.set_cons_zero, List.set_cons_succ]
  refine hd_pure (v := ?_) (by rfl) (fun W' hS' => ?_) ?_ -- 15
  rotate_left
  · have c0 := (hS'.1.cell 0).trans p.c0; have c1 := (hS'.1.cell 1).trans p.c1; have c24 := (hS'.1.cell 24).trans p.c24; have c25 := (hS'.1.cell 25).trans p.c25; clear hS'; (go_simp; first | with_reducible rfl | rfl)
  try simp only [Act.put, List.setIfInBounds_toArray, List.set_cons_zero, List.set_cons_succ]
  refine hd_skip (by rfl) ?_
  try simp only [Act.put, List.setIfInBounds_toArray, List.set_cons_zero, List.set_cons_succ]
  refine hd_skip (by rfl) ?_
  try simp only [Act.put, List.setIfInBounds_toArray, List.set_cons_zero, List.set_cons_succ]
  refine hd_skip (by rfl) ?_
  try simp only [Act.put, List.setIfInBounds_toArray, List.set_cons_zero, List.set_cons_succ]
  refine hd_pure (v := ?_) (by rfl) (fun W' hS' => ?_) ?_ -- 19
  rotate_left
  · have c0 := (hS'.1.cell 0).trans p.c0; have c1 := (hS'.1.cell 1).trans p.c1; have c24 := (hS'.1.cell 24).trans p.c24; have c25 := (hS'.1.cell 25).trans p.c25; clear hS'; (go_simp; first | with_reducible rfl | rfl)
  try simp only [Act.put, List.setIfInBounds_toArray, List.set_cons_zero, List.set_cons_succ]
  refine hd_pure (v := ?_) (by rfl) (fun W' hS' => ?_) ?_ -- 20
  rotate_left
  · have c0 := (hS'.1.cell 0).trans p.c0; have c1 := (hS'.1.cell 1).trans p.c1; have c24 := (hS'.1.cell 24).trans p.c24; have c25 := (hS'.1.cell 25).trans p.c25; clear hS'; (go_simp; first | with_reducible rfl | rfl)
  try simp only [Act.put, List.setIfInBounds_toArray, List.set_cons_zero, List.set_cons_succ]
  refine hd_skip (by rfl) ?_
  try simp only [Act.put, List.setIfInBounds_toArray, List.set_cons_zero, List.set_cons_succ]
  refine hd_skip (by rfl) ?_
  try simp only [Act.put, List.setIfInBounds_toArray, List.set_cons_zero, List.set_cons_succ]
  refine hd_skip (by rfl) ?_
  try simp only [Act.put, List.setIfInBounds_toArray, List.set_cons_zero, List.set_cons_succ]
  refine hd_pure (v := ?_) (by rfl) (fun W' hS' => ?_) ?_ -- 24
  rotate_left
  · have c0 := (hS'.1.cell 0).trans p.c0; have c1 := (hS'.1.cell 1).trans p.c1; have c24 := (hS'.1.cell 24).trans p.c24; have c25 := (hS'.1.cell 25).trans p.c25; clear hS'; (go_simp; first | with_reducible rfl | rfl)
  try simp only [Act.put, List.setIfInBounds_toArray, List.set_cons_zero, List.set_cons_succ]
  refine hd_pure (v := ?_) (by rfl) (fun W' hS' => ?_) ?_ -- 25
  rotate_left
  · have c0 := (hS'.1.cell 0).trans p.c0; have c1 := (hS'.1.cell 1).trans p.c1; have c24 := (hS'.1.cell 24).trans p.c24; have c25 := (hS'.1.cell 25).trans p.c25; clear hS'; (go_simp; first | with_reducible rfl | rfl)
  try simp only [Act.put, List.setIfInBounds_toArray, List.set_cons_zero, List.set_cons_succ]
  refine hd_skip (by rfl) ?_
  try simp only [Act.put, List.setIfInBounds_toArray, List.set_cons_zero, List.set_cons_succ]
  refine hd_skip (by rfl) ?_
  try simp only [Act.put, List.setIfInBounds_toArray, List.set_cons_zero, List.set_cons_succ]
  refine hd_skip (by rfl) ?_
  try simp only [Act.put, List.setIfInBounds_toArray, List.set_cons_zero, List.set_cons_succ]
  refine hd_pure (v := ?_) (by rfl) (fun W' hS' => ?_) ?_ -- 29
  rotate_left
  · have c0 := (hS'.1.cell 0).trans p.c0; have c1 := (hS'.1.cell 1).trans p.c1; have c24 := (hS'.1.cell 24).trans p.c24; have c25 := (hS'.1.cell 25).trans p.c25; clear hS'; (go_simp; first | with_reducible rfl | rfl)
  try simp only [Act.put, List.setIfInBounds_toArray, List.set_cons_zero, List.set_cons_succ]
  refine hd_pure (v := ?_) (by rfl) (fun W' hS' => ?_) ?_ -- 30
  rotate_left
  · have c0 := (hS'.1.cell 0).trans p.c0; have c1 := (hS'.1.cell 1).trans p.c1; have c24 := (hS'.1.cell 24).trans p.c24; have c25 := (hS'.1.cell 25).trans p.c25; clear hS'; (go_simp; first | with_reducible rfl | rfl)
  try simp only [Act.put, List.setIfInBounds_toArray, List.set_cons_zero, List.set_cons_succ]
  refine hd_skip (by rfl) ?_
  try simp only [Act.put, List.setIfInBounds_toArray, List.set_cons_zero, List.set_cons_succ]
  refine hd_skip (by rfl) ?_
  try simp only [Act.put, List.setIfInBounds_toArray, List.set_cons_zero, List.set_cons_succ]
  refine hd_skip (by rfl) ?_
  try simp only [Act.put, List.setIfInBounds_toArray, List.set_cons_zero, List.set_cons_succ]
  refine hd_skip (by rfl) ?_
  try simp only [Act.put, List.setIfInBounds_toArray, List.set_cons_zero, List.set_cons_succ]
  refine hd_pure (v := ?_) (by rfl) (fun W' hS' => ?_) ?_ -- 35
  rotate_left
  · have c0 := (hS'.1.cell 0).trans p.c0; have c1 := (hS'.1.cell 1).trans p.c1; have c24 := (hS'.1.cell 24).trans p.c24; have c25 := (hS'.1.cell 25).trans p.c25; clear hS'; (go_simp; first | with_reducible rfl | rfl)
  try simp only [Act.put, List.setIfInBounds_toArray, List.set_cons_zero, List.set_cons_succ]
  refine hd_nil ?_
  have hX := hSW; clear hSW
  refine wpList_nil (NoPanic.normal ?_)
  go_wp2
  go_ret
  exact ⟨by rw [HR.out]; rfl, hX.2⟩
set_option maxRecDepth 100000 in
set_option maxHeartbeats 4000000 in
theorem rr_bare (p : Pdu) (w : World) (hk : isKind p.kind = true) (hn : decide (namedOf p = p) = false) : Calls Try.prog 21 #[p.val] w fun e w' => e = .returned (.bool (pduOk p)) ∧ Below w.heap.size w w' := by
  have HR := Lib.hid (show pduOk p = false from by
    cases e : pduOk p
    · rfl
    · obtain ⟨o1, o2, o3, o4, o5, _⟩ := ok_parts e
      rw [imin_eq] at o3
      rw [imax_eq] at o4
      exfalso
      exact of_decide_eq_false hn o2)
  have HK := Lib.hid hk
  have HQ := Lib.hid (show ∀ W : World, (Go.binOp .neq 29 (.agg (namedOf p).cells.toArray) (.agg p.cells.toArray)).run Try.prog W = .ok (.bool true) W from fun W => by rw [neq_pdu, hn]; rfl)
  clear hk hn
  simp only [Pdu.val]
  go_enter Try.func21, Try.ntmps21
  go_wp2_with fail
  refine reg_sch2 36 [(true, 0), (true, 1), (false, 2), (true, 3), (true, 4), (true, 5), (true, 7), (false, 6), (true, 8), (true, 9), (true, 10), (true, 11), (true, 12), (true, 13), (true, 14), (true, 15), (true, 16), (true, 17), (true, 18), (true, 19), (true, 20), (true, 21), (true, 22), (true, 23), (true, 24), (true, 25), (true, 26), (true, 27), (true, 28), (true, 29), (true, 30), (true, 31), (true, 32), (true, 33), (true, 34), (true, 35)] (by kernel_rfl) (by kernel_rfl) (Bx w p) (Bx w p) ?_ ?_ ?_
  · exact (Bx.new w p).drew
  · exact fun _ h => h
  intro W hSW
  simp only [List.map_cons, List.map_nil, List.getD_cons_zero, List.getD_cons_succ, List.drop_succ_cons, List.drop_zero]
  refine hd_pure (v := ?_) (by rfl) (fun W' hS' => ?_) ?_ -- 0
  rotate_left
  · have c0 := (hS'.1.cell 0).trans p.c0; have c1 := (hS'.1.cell 1).trans p.c1; have c24 := (hS'.1.cell 24).trans p.c24; have c25 := (hS'.1.cell 25).trans p.c25; clear hS'; (go_simp; first | with_reducible rfl | rfl)
  try simp only [Act.put, List.setIfInBounds_toArray, List.set_cons_zero, List.set_cons_succ]
  refine hd_pure (v := ?_) (by rfl) (fun W' hS' => ?_) ?_ -- 1
  rotate_left
  · have c0 := (hS'.1.cell 0).trans p.c0; have c1 := (hS'.1.cell 1).trans p.c1; have c24 := (hS'.1.cell 24).trans p.c24; have c25 := (hS'.1.cell 25).trans p.c25; clear hS'; (go_simp; first | with_reducible rfl | rfl)
  try simp only [Act.put, List.setIfInBounds_toArray, List.set_cons_zero, List.set_cons_succ]
  refine hd_sole (by rfl) (fun K hK => ?_) -- 2
  go_simp
  refine (rkind_any _ _).mono ?_; rintro e w' ⟨rfl, rfl⟩
  refine hK _ _ (hSW) ?_
  clear hK K hSW
  intro hSW
  rw [HK.out]
  try simp only [Act.put, List.setIfInBounds_toArray, List.set_cons_zero, List.set_cons_succ]
  refine hd_pure (v := ?_) (by rfl) (fun W' hS' => ?_) ?_ -- 3
  rotate_left
  · have c0 := (hS'.1.cell 0).trans p.c0; have c1 := (hS'.1.cell 1).trans p.c1; have c24 := (hS'.1.cell 24).trans p.c24; have c25 := (hS'.1.cell 25).trans p.c25; clear hS'; (go_simp; first | with_reducible rfl | rfl)
  try simp only [Act.put, List.setIfInBounds_toArray, List.set_cons_zero, List.set_cons_succ]
  refine hd_pure (v := ?_) (by rfl) (fun W' hS' => ?_) ?_ -- 4
  rotate_left
  · have c0 := (hS'.1.cell 0).trans p.c0; have c1 := (hS'.1.cell 1).trans p.c1; have c24 := (hS'.1.cell 24).trans p.c24; have c25 := (hS'.1.cell 25).trans p.c25; clear hS'; (go_simp; first | with_reducible rfl | rfl)
  try simp only [Act.put, List.setIfInBounds_toArray, List.set_cons_zero, List.set_cons_succ]
  refine hd_pure (v := .agg p.cells.toArray) (by rfl) (fun W' hS' => exec_load_at 29 _ (by rfl) w.heap.size 0 26 (by rfl) _ _ hS'.1.range (Pdu.cells_length _) Try.underlying29 rfl info_pdu) ?_ -- 5
  try simp only [Act.put, List.setIfInBounds_toArray, List.set_cons_zero, List.set_cons_succ]
  refine hd_pure (v := .agg p.cells.toArray) (by rfl) (fun W' hS' => exec_load_at 29 _ (by rfl) w.heap.size 0 26 (by rfl) _ _ hS'.1.range (Pdu.cells_length _) Try.underlying29 rfl info_pdu) ?_ -- 7
  try simp only [Act.put, List.setIfInBounds_toArray, List.set_cons_zero, List.set_cons_succ]
  refine hd_sole (by rfl) (fun K hK => ?_) -- 6
  go_simp
  refine (bare_any p _ HK.out).mono ?_; rintro e w' ⟨rfl, hb⟩
  refine hK _ _ (hSW.next hb) ?_
  clear hK K hSW
  intro hSW
  clear hb; simp only [Pdu.val]
  try simp only [Act.put, List.setIfInBounds_toArray, List.set_cons_zero, List.set_cons_succ]
  refine hd_pure (v := ?_) (by rfl) (fun W' hS' => ?_) ?_ -- 8
  rotate_left
  · (have hq := HQ.out; clear hS'; go_simp; first | with_reducible rfl | rfl)
  try simp only [Act.put, List.setIfInBounds_toArray, List.set_cons_zero, List.set_cons_succ]
  refine hd_pure (v := ?_) (by rfl) (fun W' hS' => ?_) ?_ -- 9
  rotate_left
  · have c0 := (hS'.1.cell 0).trans p.c0; have c1 := (hS'.1.cell 1).trans p.c1; have c24 := (hS'.1.cell 24).trans p.c24; have c25 := (hS'.1.cell 25).trans p.c25; clear hS'; (go_simp; first | with_reducible rfl | rfl)
  try simp only [Act.put, List.setIfInBounds_toArray, List.set_cons_zero, List.set_cons_succ]
  refine hd_pure (v := ?_) (by rfl) (fun W' hS' => ?_) ?_ -- 10
  rotate_left
  · have c0 := (hS'.1.cell 0).trans p.c0; have c1 := (hS'.1.cell 1).trans p.c1; have c24 := (hS'.1.cell 24).trans p.c24; have c25 := (hS'.1.cell 25).trans p.c25; clear hS'; (go_simp; first | with_reducible rfl | rfl)
  try simp only [Act.put, List.setIfInBounds_toArray, List.set_cons_zero, List.set_cons_succ]
  refine hd_skip (by rfl) ?_
  try simp only [Act.put, List.setIfInBounds_toArray, List.set_cons_zero, List.set_cons_succ]
  refine hd_skip (by rfl) ?_
  try simp only [Act.put, List.setIfInBounds_toArray, List.set_cons_zero, List.set_cons_succ]
  refine hd_skip (by rfl) ?_
  try simp only [Act.put, List.setIfInBounds_toArray, List.set_cons_zero, List.set_cons_succ]
  refine hd_pure (v := ?_) (by rfl) (fun W' hS' => ?_) ?_ -- 14
  rotate_left
  · have c0 := (hS'.1.cell 0).trans p.c0; have c1 := (hS'.1.cell 1).trans p.c1; have c24 := (hS'.1.cell 24).trans p.c24; have c25 := (hS'.1.cell 25).trans p.c25; clear hS'; (go_simp; first | with_reducible rfl | rfl)
  try simp only [Act.put, List.setIfInBounds_toArray, List.set_cons_zero, List.set_cons_succ]
  refine hd_pure (v := ?_) (by rfl) (fun W' hS' => ?_) ?_ -- 15
  rotate_left
  · have c0 := (hS'.1.cell 0).trans p.c0; have c1 := (hS'.1.cell 1).trans p.c1; have c24 := (hS'.1.cell 24).trans p.c24; have c25 := (hS'.1.cell 25).trans p.c25; clear hS'; (go_simp; first | with_reducible rfl | rfl)
  try simp only [Act.put, List.setIfInBounds_toArray, List.set_cons_zero, List.set_cons_succ]
  refine hd_skip (by rfl) ?_
  try simp only [Act.put, List.setIfInBounds_toArray, List.set_cons_zero, List.set_cons_succ]
  refine hd_skip (by rfl) ?_
  try simp only [Act.put, List.setIfInBounds_toArray, List.set_cons_zero, List.set_cons_succ]
  refine hd_skip (by rfl) ?_
  try simp only [Act.put, List.setIfInBounds_toArray, List.set_cons_zero, List.set_cons_succ]
  refine hd_pure (v := ?_) (by rfl) (fun W' hS' => ?_) ?_ -- 19
  rotate_left
  · have c0 := (hS'.1.cell 0).trans p.c0; have c1 := (hS'.1.cell 1).trans p.c1; have c24 := (hS'.1.cell 24).trans p.c24; have c25 := (hS'.1.cell 25).trans p.c25; clear hS'; (go_simp; first | with_reducible rfl | rfl)
  try simp only [Act.put, List.setIfInBounds_toArray, List.set_cons_zero, List.set_cons_succ]
  refine hd_pure (v := ?_) (by rfl) (fun W' hS' => ?_) ?_ -- 20
  rotate_left
  · have c0 := (hS'.1.cell 0).trans p.c0; have c1 := (hS'.1.cell 1).trans p.c1; have c24 := (hS'.1.cell 24).trans p.c24; have c25 := (hS'.1.cell 25).trans p.c25; clear hS'; (go_simp; first | with_reducible rfl | rfl)
  try simp only [Act.put, List.setIfInBounds_toArray, List.set_cons_zero, List.set_cons_succ]
  refine hd_skip (by rfl) ?_
  try simp only [Act.put, List.setIfInBounds_toArray, List.set_cons_zero, List.set_cons_succ]
  refine hd_skip (by rfl) ?_
  try simp only [Act.put, List.setIfInBounds_toArray, List.set_cons_zero, List.set_cons_succ]
  refine hd_skip (by rfl) ?_
  try simp only [Act.put, List.setIfInBounds_toArray, List.set_cons_zero, List.set_cons_succ]
  refine hd_pure (v := ?_) (by rfl) (fun W' hS' => ?_) ?_ -- 24
  rotate_left
  · have c0 := (hS'.1.cell 0).trans p.c0; have c1 := (hS'.1.cell 1).trans p.c1; have c24 := (hS'.1.cell 24).trans p.c24; have c25 := (hS'.1.cell 25).trans p.c25; clear hS'; (go_simp; first | with_reducible rfl | rfl)
  try simp only [Act.put, List.setIfInBounds_toArray, List.set_cons_zero, List.set_cons_succ]
  refine hd_pure (v := ?_) (by rfl) (fun W' hS' => ?_) ?_ -- 25
  rotate_left
  · have c0 := (hS'.1.cell 0).trans p.c0; have c1 := (hS'.1.cell 1).trans p.c1; have c24 := (hS'.1.cell 24).trans p.c24; have c25 := (hS'.1.cell 25).trans p.c25; clear hS'; (go_simp; first | with_reducible rfl | rfl)
  try simp only [Act.put, List.setIfInBounds_toArray, List.set_cons_zero, List.set_cons_succ]
  refine hd_skip (by rfl) ?_
  try simp only [Act.put, List.setIfInBounds_toArray, List.set_cons_zero, List.set_cons_succ]
  refine hd_skip (by rfl) ?_
  try simp only [Act.put, List.setIfInBounds_toArray, List.set_cons_zero, List.set_cons_succ]
  refine hd_skip (by rfl) ?_
  try simp only [Act.put, List.setIfInBounds_toArray, List.set_cons_zero, List.set_cons_succ]
  refine hd_pure (v := ?_) (by rfl) (fun W' hS' => ?_) ?_ -- 29
  rotate_left
  · have c0 := (hS'.1.cell 0).trans p.c0; have c1 := (hS'.1.cell 1).trans p.c1; have c24 := (hS'.1.cell 24).trans p.c24; have c25 := (hS'.1.cell 25).trans p.c25; clear hS'; (go_simp; first | with_reducible rfl | rfl)
  try simp only [Act.put, List.setIfInBounds_toArray, List.set_cons_zero, List.set_cons_succ]
  refine hd_pure (v := ?_) (by rfl) (fun W' hS' => ?_) ?_ -- 30
  rotate_left
  · have c0 := (hS'.1.cell 0).trans p.c0; have c1 := (hS'.1.cell 1).trans p.c1; have c24 := (hS'.1.cell 24).trans p.c24; have c25 := (hS'.1.cell 25).trans p.c25; clear hS'; (go_simp; first | with_reducible rfl | rfl)
  try simp only [Act.put, List.setIfInBounds_toArray, List.set_cons_zero, List.set_cons_succ]
  refine hd_skip (by rfl) ?_
  try simp only [Act.put, List.setIfInBounds_toArray, List.set_cons_zero, List.set_cons_succ]
  refine hd_skip (by rfl) ?_
  try simp only [Act.put, List.setIfInBounds_toArray, List.set_cons_zero, List.set_cons_succ]
  refine hd_skip (by rfl) ?_
  try simp only [Act.put, List.setIfInBounds_toArray, List.set_cons_zero, List.set_cons_succ]
  refine hd_skip (by rfl) ?_
  try simp only [Act.put, List.setIfInBounds_toArray, List.set_cons_zero, List.set_cons_succ]
  refine hd_pure (v := ?_) (by rfl) (fun W' hS' => ?_) ?_ -- 35
  rotate_left
  · have c0 := (hS'.1.cell 0).trans p.c0; have c1 := (hS'.1.cell 1).trans p.c1; have c24 := (hS'.1.cell 24).trans p.c24; have c25 := (hS'.1.cell 25).trans p.c25; clear hS'; (go_simp; first | with_reducible rfl | rfl)
  try simp only [Act.put, List.setIfInBounds_toArray, List.set_cons_zero, List.set_cons_succ]
  refine hd_nil ?_
  have hX := hSW; clear hSW
  refine wpList_nil (NoPanic.normal ?_)
  go_wp2
  go_ret
  exact ⟨by rw [HR.out]; rfl, hX.2⟩
set_option maxRecDepth 100000 in
set_option maxHeartbeats 4000000 in
theorem rr_s0 (p : Pdu) (w : World) (hk : isKind p.kind = true) (hn : decide (namedOf p = p) = true) (h : p.session < 0) : Calls Try.prog 21 #[p.val] w fun e w' => e = .returned (.bool (pduOk p)) ∧ Below w.heap.size w w' := by
  have HR := Lib.hid (show pduOk p = false from by
    cases e : pduOk p
    · rfl
    · obtain ⟨o1, o2, o3, o4, o5, _⟩ := ok_parts e
      rw [imin_eq] at o3
      rw [imax_eq] at o4
      exfalso
      omega)
  have HK := Lib.hid hk
  have HQ := Lib.hid (show ∀ W : World, (Go.binOp .neq 29 (.agg (namedOf p).cells.toArray) (.agg p.cells.toArray)).run Try.prog W = .ok (.bool false) W from fun W => by rw [neq_pdu, hn]; rfl)
  have d1 := decide_eq_true h
  clear hk hn h
  simp only [Pdu.val]
  go_enter Try.func21, Try.ntmps21
  go_wp2_with fail
  refine reg_sch2 36 [(true, 0), (true, 1), (false, 2), (true, 3), (true, 4), (true, 5), (true, 7), (false, 6), (true, 8), (true, 9), (true, 10), (true, 11), (true, 12), (true, 13), (true, 14), (true, 15), (true, 16), (true, 17), (true, 18), (true, 19), (true, 20), (true, 21), (true, 22), (true, 23), (true, 24), (true, 25), (true, 26), (true, 27), (true, 28), (true, 29), (true, 30), (true, 31), (true, 32), (true, 33), (true, 34), (true, 35)] (by kernel_rfl) (by kernel_rfl) (Bx w p) (Bx w p) ?_ ?_ ?_
  · exact (Bx.new w p).drew
  · exact fun _ h => h
  intro W hSW
  simp only [List.map_cons, List.map_nil, List.getD_cons_zero, List.getD_cons_succ, List.drop_succ_cons, List.drop_zero]
  refine hd_pure (v := ?_) (by rfl) (fun W' hS' => ?_) ?_ -- 0
  rotate_left
  · have c0 := (hS'.1.cell 0).trans p.c0; have c1 := (hS'.1.cell 1).trans p.c1; have c24 := (hS'.1.cell 24).trans p.c24; have c25 := (hS'.1.cell 25).trans p.c25; clear hS'; (go_simp; first | with_reducible rfl | rfl)
  try simp only [Act.put, List.setIfInBounds_toArray, List.set_cons_zero, List.set_cons_succ]
  refine hd_pure (v := ?_) (by rfl) (fun W' hS' => ?_) ?_ -- 1
  rotate_left
  · have c0 := (hS'.1.cell 0).trans p.c0; have c1 := (hS'.1.cell 1).trans p.c1; have c24 := (hS'.1.cell 24).trans p.c24; have c25 := (hS'.1.cell 25).trans p.c25; clear hS'; (go_simp; first | with_reducible rfl | rfl)
  try simp only [Act.put, List.setIfInBounds_toArray, List.set_cons_zero, List.set_cons_succ]
  refine hd_sole (by rfl) (fun K hK => ?_) -- 2
  go_simp
  refine (rkind_any _ _).mono ?_; rintro e w' ⟨rfl, rfl⟩
  refine hK _ _ (hSW) ?_
  clear hK K hSW
  intro hSW
  rw [HK.out]
  try simp only [Act.put, List.setIfInBounds_toArray, List.set_cons_zero, List.set_cons_succ]
  refine hd_pure (v := ?_) (by rfl) (fun W' hS' => ?_) ?_ -- 3
  rotate_left
  · have c0 := (hS'.1.cell 0).trans p.c0; have c1 := (hS'.1.cell 1).trans p.c1; have c24 := (hS'.1.cell 24).trans p.c24; have c25 := (hS'.1.cell 25).trans p.c25; clear hS'; (go_simp; first | with_reducible rfl | rfl)
  try simp only [Act.put, List.setIfInBounds_toArray, List.set_cons_zero, List.set_cons_succ]
  refine hd_pure (v := ?_) (by rfl) (fun W' hS' => ?_) ?_ -- 4
  rotate_left
  · have c0 := (hS'.1.cell 0).trans p.c0; have c1 := (hS'.1.cell 1).trans p.c1; have c24 := (hS'.1.cell 24).trans p.c24; have c25 := (hS'.1.cell 25).trans p.c25; clear hS'; (go_simp; first | with_reducible rfl | rfl)
  try simp only [Act.put, List.setIfInBounds_toArray, List.set_cons_zero, List.set_cons_succ]
  refine hd_pure (v := .agg p.cells.toArray) (by rfl) (fun W' hS' => exec_load_at 29 _ (by rfl) w.heap.size 0 26 (by rfl) _ _ hS'.1.range (Pdu.cells_length _) Try.underlying29 rfl info_pdu) ?_ -- 5
  try simp only [Act.put, List.setIfInBounds_toArray, List.set_cons_zero, List.set_cons_succ]
  refine hd_pure (v := .agg p.cells.toArray) (by rfl) (fun W' hS' => exec_load_at 29 _ (by rfl) w.heap.size 0 26 (by rfl) _ _ hS'.1.range (Pdu.cells_length _) Try.underlying29 rfl info_pdu) ?_ -- 7
  try simp only [Act.put, List.setIfInBounds_toArray, List.set_cons_zero, List.set_cons_succ]
  refine hd_sole (by rfl) (fun K hK => ?_) -- 6
  go_simp
  refine (bare_any p _ HK.out).mono ?_; rintro e w' ⟨rfl, hb⟩
  refine hK _ _ (hSW.next hb) ?_
  clear hK K hSW
  intro hSW
  clear hb; simp only [Pdu.val]
  try simp only [Act.put, List.setIfInBounds_toArray, List.set_cons_zero, List.set_cons_succ]
  refine hd_pure (v := ?_) (by rfl) (fun W' hS' => ?_) ?_ -- 8
  rotate_left
  · (have hq := HQ.out; clear hS'; go_simp; first | with_reducible rfl | rfl)
  try simp only [Act.put, List.setIfInBounds_toArray, List.set_cons_zero, List.set_cons_succ]
  refine hd_pure (v := ?_) (by rfl) (fun W' hS' => ?_) ?_ -- 9
  rotate_left
  · have c0 := (hS'.1.cell 0).trans p.c0; have c1 := (hS'.1.cell 1).trans p.c1; have c24 := (hS'.1.cell 24).trans p.c24; have c25 := (hS'.1.cell 25).trans p.c25; clear hS'; (go_simp; first | with_reducible rfl | rfl)
  try simp only [Act.put, List.setIfInBounds_toArray, List.set_cons_zero, List.set_cons_succ]
  refine hd_pure (v := ?_) (by rfl) (fun W' hS' => ?_) ?_ -- 10
  rotate_left
  · have c0 := (hS'.1.cell 0).trans p.c0; have c1 := (hS'.1.cell 1).trans p.c1; have c24 := (hS'.1.cell 24).trans p.c24; have c25 := (hS'.1.cell 25).trans p.c25; clear hS'; (go_simp; first | with_reducible rfl | rfl)
  try simp only [Act.put, List.setIfInBounds_toArray, List.set_cons_zero, List.set_cons_succ]
  refine hd_pure (v := ?_) (by rfl) (fun W' hS' => ?_) ?_ -- 11
  rotate_left
  · have c0 := (hS'.1.cell 0).trans p.c0; have c1 := (hS'.1.cell 1).trans p.c1; have c24 := (hS'.1.cell 24).trans p.c24; have c25 := (hS'.1.cell 25).trans p.c25; clear hS'; (go_simp; first | with_reducible rfl | rfl)
  try simp only [Act.put, List.setIfInBounds_toArray, List.set_cons_zero, List.set_cons_succ]
  refine hd_pure (v := ?_) (by rfl) (fun W' hS' => ?_) ?_ -- 12
  rotate_left
  · have c0 := (hS'.1.cell 0).trans p.c0; have c1 := (hS'.1.cell 1).trans p.c1; have c24 := (hS'.1.cell 24).trans p.c24; have c25 := (hS'.1.cell 25).trans p.c25; clear hS'; (go_simp; first | with_reducible rfl | rfl)
  try simp only [Act.put, List.setIfInBounds_toArray, List.set_cons_zero, List.set_cons_succ]
  refine hd_pure (v := ?_) (by rfl) (fun W' hS' => ?_) ?_ -- 13
  rotate_left
  · have c0 := (hS'.1.cell 0).trans p.c0; have c1 := (hS'.1.cell 1).trans p.c1; have c24 := (hS'.1.cell 24).trans p.c24; have c25 := (hS'.1.cell 25).trans p.c25; clear hS'; (go_simp; first | with_reducible rfl | rfl)
  try simp only [Act.put, List.setIfInBounds_toArray, List.set_cons_zero, List.set_cons_succ]
  refine hd_pure (v := ?_) (by rfl) (fun W' hS' => ?_) ?_ -- 14
  rotate_left
  · have c0 := (hS'.1.cell 0).trans p.c0; have c1 := (hS'.1.cell 1).trans p.c1; have c24 := (hS'.1.cell 24).trans p.c24; have c25 := (hS'.1.cell 25).trans p.c25; clear hS'; (go_simp; first | with_reducible rfl | rfl)
  try simp only [Act.put, List.setIfInBounds_toArray, List.set_cons_zero, List.set_cons_succ]
  refine hd_pure (v := ?_) (by rfl) (fun W' hS' => ?_) ?_ -- 15
  rotate_left
  · have c0 := (hS'.1.cell 0).trans p.c0; have c1 := (hS'.1.cell 1).trans p.c1; have c24 := (hS'.1.cell 24).trans p.c24; have c25 := (hS'.1.cell 25).trans p.c25; clear hS'; (go_simp; first | with_reducible rfl | rfl)
  try simp only [Act.put, List.setIfInBounds_toArray, List.set_cons_zero, List.set_cons_succ]
  refine hd_skip (by rfl) ?_
  try simp only [Act.put, List.setIfInBounds_toArray, List.set_cons_zero, List.set_cons_succ]
  refine hd_skip (by rfl) ?_
  try simp only [Act.put, List.setIfInBounds_toArray, List.set_cons_zero, List.set_cons_succ]
  refine hd_skip (by rfl) ?_
  try simp only [Act.put, List.setIfInBounds_toArray, List.set_cons_zero, List.set_cons_succ]
  refine hd_pure (v := ?_) (by rfl) (fun W' hS' => ?_) ?_ -- 19
  rotate_left
  · have c0 := (hS'.1.cell 0).trans p.c0; have c1 := (hS'.1.cell 1).trans p.c1; have c24 := (hS'.1.cell 24).trans p.c24; have c25 := (hS'.1.cell 25).trans p.c25; clear hS'; (go_simp; first | with_reducible rfl | rfl)
  try simp only [Act.put, List.setIfInBounds_toArray, List.set_cons_zero, List.set_cons_succ]
  refine hd_pure (v := ?_) (by rfl) (fun W' hS' => ?_) ?_ -- 20
  rotate_left
  · have c0 := (hS'.1.cell 0).trans p.c0; have c1 := (hS'.1.cell 1).trans p.c1; have c24 := (hS'.1.cell 24).trans p.c24; have c25 := (hS'.1.cell 25).trans p.c25; clear hS'; (go_simp; first | with_reducible rfl | rfl)
  try simp only [Act.put, List.setIfInBounds_toArray, List.set_cons_zero, List.set_cons_succ]
  refine hd_skip (by rfl) ?_
  try simp only [Act.put, List.setIfInBounds_toArray, List.set_cons_zero, List.set_cons_succ]
  refine hd_skip (by rfl) ?_
  try simp only [Act.put, List.setIfInBounds_toArray, List.set_cons_zero, List.set_cons_succ]
  refine hd_skip (by rfl) ?_
  try simp only [Act.put, List.setIfInBounds_toArray, List.set_cons_zero, List.set_cons_succ]
  refine hd_pure (v := ?_) (by rfl) (fun W' hS' => ?_) ?_ -- 24
  rotate_left
  · have c0 := (hS'.1.cell 0).trans p.c0; have c1 := (hS'.1.cell 1).trans p.c1; have c24 := (hS'.1.cell 24).trans p.c24; have c25 := (hS'.1.cell 25).trans p.c25; clear hS'; (go_simp; first | with_reducible rfl | rfl)
  try simp only [Act.put, List.setIfInBounds_toArray, List.set_cons_zero, List.set_cons_succ]
  refine hd_pure (v := ?_) (by rfl) (fun W' hS' => ?_) ?_ -- 25
  rotate_left
  · have c0 := (hS'.1.cell 0).trans p.c0; have c1 := (hS'.1.cell 1).trans p.c1; have c24 := (hS'.1.cell 24).trans p.c24; have c25 := (hS'.1.cell 25).trans p.c25; clear hS'; (go_simp; first | with_reducible rfl | rfl)
  try simp only [Act.put, List.setIfInBounds_toArray, List.set_cons_zero, List.set_cons_succ]
  refine hd_skip (by rfl) ?_
  try simp only [Act.put, List.setIfInBounds_toArray, List.set_cons_zero, List.set_cons_succ]
  refine hd_skip (by rfl) ?_
  try simp only [Act.put, List.setIfInBounds_toArray, List.set_cons_zero, List.set_cons_succ]
  refine hd_skip (by rfl) ?_
  try simp only [Act.put, List.setIfInBounds_toArray, List.set_cons_zero, List.set_cons_succ]
  refine hd_pure (v := ?_) (by rfl) (fun W' hS' => ?_) ?_ -- 29
  rotate_left
  · have c0 := (hS'.1.cell 0).trans p.c0; have c1 := (hS'.1.cell 1).trans p.c1; have c24 := (hS'.1.cell 24).trans p.c24; have c25 := (hS'.1.cell 25).trans p.c25; clear hS'; (go_simp; first | with_reducible rfl | rfl)
  try simp only [Act.put, List.setIfInBounds_toArray, List.set_cons_zero, List.set_cons_succ]
  refine hd_pure (v := ?_) (by rfl) (fun W' hS' => ?_) ?_ -- 30
  rotate_left
  · have c0 := (hS'.1.cell 0).trans p.c0; have c1 := (hS'.1.cell 1).trans p.c1; have c24 := (hS'.1.cell 24).trans p.c24; have c25 := (hS'.1.cell 25).trans p.c25; clear hS'; (go_simp; first | with_reducible rfl | rfl)
  try simp only [Act.put, List.setIfInBounds_toArray, List.set_cons_zero, List.set_cons_succ]
  refine hd_skip (by rfl) ?_
  try simp only [Act.put, List.setIfInBounds_toArray, List.set_cons_zero, List.set_cons_succ]
  refine hd_skip (by rfl) ?_
  try simp only [Act.put, List.setIfInBounds_toArray, List.set_cons_zero, List.set_cons_succ]
  refine hd_skip (by rfl) ?_
  try simp only [Act.put, List.setIfInBounds_toArray, List.set_cons_zero, List.set_cons_succ]
  refine hd_skip (by rfl) ?_
  try simp only [Act.put, List.setIfInBounds_toArray, List.set_cons_zero, List.set_cons_succ]
  refine hd_pure (v := ?_) (by rfl) (fun W' hS' => ?_) ?_ -- 35
  rotate_left
  · have c0 := (hS'.1.cell 0).trans p.c0; have c1 := (hS'.1.cell 1).trans p.c1; have c24 := (hS'.1.cell 24).trans p.c24; have c25 := (hS'.1.cell 25).trans p.c25; clear hS'; (go_simp; first | with_reducible rfl | rfl)
  try simp only [Act.put, List.setIfInBounds_toArray, List.set_cons_zero, List.set_cons_succ]
  refine hd_nil ?_
  have hX := hSW; clear hSW
  refine wpList_nil (NoPanic.normal ?_)
  go_wp2
  go_ret
  exact ⟨by rw [HR.out]; rfl, hX.2⟩
set_option maxRecDepth 100000 in
set_option maxHeartbeats 4000000 in
theorem rr_s1 (p : Pdu) (w : World) (hk : isKind p.kind = true) (hn : decide (namedOf p = p) = true) (h0 : ¬ p.session < 0) (h : 65535 < p.session) : Calls Try.prog 21 #[p.val] w fun e w' => e = .returned (.bool (pduOk p)) ∧ Below w.heap.size w w' := by
  have HR := Lib.hid (show pduOk p = false from by
    cases e : pduOk p
    · rfl
    · obtain ⟨o1, o2, o3, o4, o5, _⟩ := ok_parts e
      rw [imin_eq] at o3
      rw [imax_eq] at o4
      exfalso
      omega)
  have HK := Lib.hid hk
  have HQ := Lib.hid (show ∀ W : World, (Go.binOp .neq 29 (.agg (namedOf p).cells.toArray) (.agg p.cells.toArray)).run Try.prog W = .ok (.bool false) W from fun W => by rw [neq_pdu, hn]; rfl)
  have d1 := decide_eq_false h0
  have d2 := decide_eq_true h
  clear hk hn h h0
  simp only [Pdu.val]
  go_enter Try.func21, Try.ntmps21
  go_wp2_with fail
  refine reg_sch2 36 [(true, 0), (true, 1), (false, 2), (true, 3), (true, 4), (true, 5), (true, 7), (false, 6), (true, 8), (true, 9), (true, 10), (true, 11), (true, 12), (true, 13), (true, 14), (true, 15), (true, 16), (true, 17), (true, 18), (true, 19), (true, 20), (true, 21), (true, 22), (true, 23), (true, 24), (true, 25), (true, 26), (true, 27), (true, 28), (true, 29), (true, 30), (true, 31), (true, 32), (true, 33), (true, 34), (true, 35)] (by kernel_rfl) (by kernel_rfl) (Bx w p) (Bx w p) ?_ ?_ ?_
  · exact (Bx.new w p).drew
  · exact fun _ h => h
  intro W hSW
  simp only [List.map_cons, List.map_nil, List.getD_cons_zero, List.getD_cons_succ, List.drop_succ_cons, List.drop_zero]
  refine hd_pure (v := ?_) (by rfl) (fun W' hS' => ?_) ?_ -- 0
  rotate_left
  · have c0 := (hS'.1.cell 0).trans p.c0; have c1 := (hS'.1.cell 1).trans p.c1; have c24 := (hS'.1.cell 24).trans p.c24; have c25 := (hS'.1.cell 25).trans p.c25; clear hS'; (go_simp; first | with_reducible rfl | rfl)
  try simp only [Act.put, List.setIfInBounds_toArray, List.set_cons_zero, List.set_cons_succ]
  refine hd_pure (v := ?_) (by rfl) (fun W' hS' => ?_) ?_ -- 1
  rotate_left
  · have c0 := (hS'.1.cell 0).trans p.c0; have c1 := (hS'.1.cell 1).trans p.c1; have c24 := (hS'.1.cell 24).trans p.c24; have c25 := (hS'.1.cell 25).trans p.c25; clear hS'; (go_simp; first | with_reducible rfl | rfl)
  try simp only [Act.put, List.setIfInBounds_toArray, List.set_cons_zero, List.set_cons_succ]
  refine hd_sole (by rfl) (fun K hK => ?_) -- 2
  go_simp
  refine (rkind_any _ _).mono ?_; rintro e w' ⟨rfl, rfl⟩
  refine hK _ _ (hSW) ?_
  clear hK K hSW
  intro hSW
  rw [HK.out]
  try simp only [Act.put, List.setIfInBounds_toArray, List.set_cons_zero, List.set_cons_succ]
  refine hd_pure (v := ?_) (by rfl) (fun W' hS' => ?_) ?_ -- 3
  rotate_left
  · have c0 := (hS'.1.cell 0).trans p.c0; have c1 := (hS'.1.cell 1).trans p.c1; have c24 := (hS'.1.cell 24).trans p.c24; have c25 := (hS'.1.cell 25).trans p.c25; clear hS'; (go_simp; first | with_reducible rfl | rfl)
  try simp only [Act.put, List.setIfInBounds_toArray, List.set_cons_zero, List.set_cons_succ]
  refine hd_pure (v := ?_) (by rfl) (fun W' hS' => ?_) ?_ -- 4
  rotate_left
  · have c0 := (hS'.1.cell 0).trans p.c0; have c1 := (hS'.1.cell 1).trans p.c1; have c24 := (hS'.1.cell 24).trans p.c24; have c25 := (hS'.1.cell 25).trans p.c25; clear hS'; (go_simp; first | with_reducible rfl | rfl)
  try simp only [Act.put, List.setIfInBounds_toArray, List.set_cons_zero, List.set_cons_succ]
  refine hd_pure (v := .agg p.cells.toArray) (by rfl) (fun W' hS' => exec_load_at 29 _ (by rfl) w.heap.size 0 26 (by rfl) _ _ hS'.1.range (Pdu.cells_length _) Try.underlying29 rfl info_pdu) ?_ -- 5
  try simp only [Act.put, List.setIfInBounds_toArray, List.set_cons_zero, List.set_cons_succ]
  refine hd_pure (v := .agg p.cells.toArray) (by rfl) (fun W' hS' => exec_load_at 29 _ (by rfl) w.heap.size 0 26 (by rfl) _ _ hS'.1.range (Pdu.cells_length _) Try.underlying29 rfl info_pdu) ?_ -- 7
  try simp only [Act.put, List.setIfInBounds_toArray, List.set_cons_zero, List.set_cons_succ]
  refine hd_sole (by rfl) (fun K hK => ?_) -- 6
  go_simp
  refine (bare_any p _ HK.out).mono ?_; rintro e w' ⟨rfl, hb⟩
  refine hK _ _ (hSW.next hb) ?_
  clear hK K hSW
  intro hSW
  clear hb; simp only [Pdu.val]
  try simp only [Act.put, List.setIfInBounds_toArray, List.set_cons_zero, List.set_cons_succ]
  refine hd_pure (v := ?_) (by rfl) (fun W' hS' => ?_) ?_ -- 8
  rotate_left
  · (have hq := HQ.out; clear hS'; go_simp; first | with_reducible rfl | rfl)
  try simp only [Act.put, List.setIfInBounds_toArray, List.set_cons_zero, List.set_cons_succ]
  refine hd_pure (v := ?_) (by rfl) (fun W' hS' => ?_) ?_ -- 9
  rotate_left
  · have c0 := (hS'.1.cell 0).trans p.c0; have c1 := (hS'.1.cell 1).trans p.c1; have c24 := (hS'.1.cell 24).trans p.c24; have c25 := (hS'.1.cell 25).trans p.c25; clear hS'; (go_simp; first | with_reducible rfl | rfl)
  try simp only [Act.put, List.setIfInBounds_toArray, List.set_cons_zero, List.set_cons_succ]
  refine hd_pure (v := ?_) (by rfl) (fun W' hS' => ?_) ?_ -- 10
  rotate_left
  · have c0 := (hS'.1.cell 0).trans p.c0; have c1 := (hS'.1.cell 1).trans p.c1; have c24 := (hS'.1.cell 24).trans p.c24; have c25 := (hS'.1.cell 25).trans p.c25; clear hS'; (go_simp; first | with_reducible rfl | rfl)
  try simp only [Act.put, List.setIfInBounds_toArray, List.set_cons_zero, List.set_cons_succ]
  refine hd_pure (v := ?_) (by rfl) (fun W' hS' => ?_) ?_ -- 11
  rotate_left
  · have c0 := (hS'.1.cell 0).trans p.c0; have c1 := (hS'.1.cell 1).trans p.c1; have c24 := (hS'.1.cell 24).trans p.c24; have c25 := (hS'.1.cell 25).trans p.c25; clear hS'; (go_simp; first | with_reducible rfl | rfl)
  try simp only [Act.put, List.setIfInBounds_toArray, List.set_cons_zero, List.set_cons_succ]
  refine hd_pure (v := ?_) (by rfl) (fun W' hS' => ?_) ?_ -- 12
  rotate_left
  · have c0 := (hS'.1.cell 0).trans p.c0; have c1 := (hS'.1.cell 1).trans p.c1; have c24 := (hS'.1.cell 24).trans p.c24; have c25 := (hS'.1.cell 25).trans p.c25; clear hS'; (go_simp; first | with_reducible rfl | rfl)
  try simp only [Act.put, List.setIfInBounds_toArray, List.set_cons_zero, List.set_cons_succ]
  refine hd_pure (v := ?_) (by rfl) (fun W' hS' => ?_) ?_ -- 13
  rotate_left
  · have c0 := (hS'.1.cell 0).trans p.c0; have c1 := (hS'.1.cell 1).trans p.c1; have c24 := (hS'.1.cell 24).trans p.c24; have c25 := (hS'.1.cell 25).trans p.c25; clear hS'; (go_simp; first | with_reducible rfl | rfl)
  try simp only [Act.put, List.setIfInBounds_toArray, List.set_cons_zero, List.set_cons_succ]
  refine hd_pure (v := ?_) (by rfl) (fun W' hS' => ?_) ?_ -- 14
  rotate_left
  · have c0 := (hS'.1.cell 0).trans p.c0; have c1 := (hS'.1.cell 1).trans p.c1; have c24 := (hS'.1.cell 24).trans p.c24; have c25 := (hS'.1.cell 25).trans p.c25; clear hS'; (go_simp; first | with_reducible rfl | rfl)
  try simp only [Act.put, List.setIfInBounds_toArray, List.set_cons_zero, List.set_cons_succ]
  refine hd_pure (v := ?_) (by rfl) (fun W' hS' => ?_) ?_ -- 15
  rotate_left
  · have c0 := (hS'.1.cell 0).trans p.c0; have c1 := (hS'.1.cell 1).trans p.c1; have c24 := (hS'.1.cell 24).trans p.c24; have c25 := (hS'.1.cell 25).trans p.c25; clear hS'; (go_simp; first | with_reducible rfl | rfl)
  try simp only [Act.put, List.setIfInBounds_toArray, List.set_cons_zero, List.set_cons_succ]
  refine hd_pure (v := ?_) (by rfl) (fun W' hS' => ?_) ?_ -- 16
  rotate_left
  · have c0 := (hS'.1.cell 0).trans p.c0; have c1 := (hS'.1.cell 1).trans p.c1; have c24 := (hS'.1.cell 24).trans p.c24; have c25 := (hS'.1.cell 25).trans p.c25; clear hS'; (go_simp; first | with_reducible rfl | rfl)
  try simp only [Act.put, List.setIfInBounds_toArray, List.set_cons_zero, List.set_cons_succ]
  refine hd_pure (v := ?_) (by rfl) (fun W' hS' => ?_) ?_ -- 17
  rotate_left
  · have c0 := (hS'.1.cell 0).trans p.c0; have c1 := (hS'.1.cell 1).trans p.c1; have c24 := (hS'.1.cell 24).trans p.c24; have c25 := (hS'.1.cell 25).trans p.c25; clear hS'; (go_simp; first | with_reducible rfl | rfl)
  try simp only [Act.put, List.setIfInBounds_toArray, List.set_cons_zero, List.set_cons_succ]
  refine hd_pure (v := ?_) (by rfl) (fun W' hS' => ?_) ?_ -- 18
  rotate_left
  · have c0 := (hS'.1.cell 0).trans p.c0; have c1 := (hS'.1.cell 1).trans p.c1; have c24 := (hS'.1.cell 24).trans p.c24; have c25 := (hS'.1.cell 25).trans p.c25; clear hS'; (go_simp; first | with_reducible rfl | rfl)
  try simp only [Act.put, List.setIfInBounds_toArray, List.set_cons_zero, List.set_cons_succ]
  refine hd_pure (v := ?_) (by rfl) (fun W' hS' => ?_) ?_ -- 19
  rotate_left
  · have c0 := (hS'.1.cell 0).trans p.c0; have c1 := (hS'.1.cell 1).trans p.c1; have c24 := (hS'.1.cell 24).trans p.c24; have c25 := (hS'.1.cell 25).trans p.c25; clear hS'; (go_simp; first | with_reducible rfl | rfl)
  try simp only [Act.put, List.setIfInBounds_toArray, List.set_cons_zero, List.set_cons_succ]
  refine hd_pure (v := ?_) (by rfl) (fun W' hS' => ?_) ?_ -- 20
  rotate_left
  · have c0 := (hS'.1.cell 0).trans p.c0; have c1 := (hS'.1.cell 1).trans p.c1; have c24 := (hS'.1.cell 24).trans p.c24; have c25 := (hS'.1.cell 25).trans p.c25; clear hS'; (go_simp; first | with_reducible rfl | rfl)
  try simp only [Act.put, List.setIfInBounds_toArray, List.set_cons_zero, List.set_cons_succ]
  refine hd_skip (by rfl) ?_
  try simp only [Act.put, List.setIfInBounds_toArray, List.set_cons_zero, List.set_cons_succ]
  refine hd_skip (by rfl) ?_
  try simp only [Act.put, List.setIfInBounds_toArray, List.set_cons_zero, List.set_cons_succ]
  refine hd_skip (by rfl) ?_
  try simp only [Act.put, List.setIfInBounds_toArray, List.set_cons_zero, List.set_cons_succ]
  refine hd_pure (v := ?_) (by rfl) (fun W' hS' => ?_) ?_ -- 24
  rotate_left
  · have c0 := (hS'.1.cell 0).trans p.c0; have c1 := (hS'.1.cell 1).trans p.c1; have c24 := (hS'.1.cell 24).trans p.c24; have c25 := (hS'.1.cell 25).trans p.c25; clear hS'; (go_simp; first | with_reducible rfl | rfl)
  try simp only [Act.put, List.setIfInBounds_toArray, List.set_cons_zero, List.set_cons_succ]
  refine hd_pure (v := ?_) (by rfl) (fun W' hS' => ?_) ?_ -- 25
  rotate_left
  · have c0 := (hS'.1.cell 0).trans p.c0; have c1 := (hS'.1.cell 1).trans p.c1; have c24 := (hS'.1.cell 24).trans p.c24; have c25 := (hS'.1.cell 25).trans p.c25; clear hS'; (go_simp; first | with_reducible rfl | rfl)
  try simp only [Act.put, List.setIfInBounds_toArray, List.set_cons_zero, List.set_cons_succ]
  refine hd_skip (by rfl) ?_
  try simp only [Act.put, List.setIfInBounds_toArray, List.set_cons_zero, List.set_cons_succ]
  refine hd_skip (by rfl) ?_
  try simp only [Act.put, List.setIfInBounds_toArray, List.set_cons_zero, List.set_cons_succ]
  refine hd_skip (by rfl) ?_
  try simp only [Act.put, List.setIfInBounds_toArray, List.set_cons_zero, List.set_cons_succ]
  refine hd_pure (v := ?_) (by rfl) (fun W' hS' => ?_) ?_ -- 29
  rotate_left
  · have c0 := (hS'.1.cell 0).trans p.c0; have c1 := (hS'.1.cell 1).trans p.c1; have c24 := (hS'.1.cell 24).trans p.c24; have c25 := (hS'.1.cell 25).trans p.c25; clear hS'; (go_simp; first | with_reducible rfl | rfl)
  try simp only [Act.put, List.setIfInBounds_toArray, List.set_cons_zero, List.set_cons_succ]
  refine hd_pure (v := ?_) (by rfl) (fun W' hS' => ?_) ?_ -- 30
  rotate_left
  · have c0 := (hS'.1.cell 0).trans p.c0; have c1 := (hS'.1.cell 1).trans p.c1; have c24 := (hS'.1.cell 24).trans p.c24; have c25 := (hS'.1.cell 25).trans p.c25; clear hS'; (go_simp; first | with_reducible rfl | rfl)
  try simp only [Act.put, List.setIfInBounds_toArray, List.set_cons_zero, List.set_cons_succ]
  refine hd_skip (by rfl) ?_
  try simp only [Act.put, List.setIfInBounds_toArray, List.set_cons_zero, List.set_cons_succ]
  refine hd_skip (by rfl) ?_
  try simp only [Act.put, List.setIfInBounds_toArray, List.set_cons_zero, List.set_cons_succ]
  refine hd_skip (by rfl) ?_
  try simp only [Act.put, List.setIfInBounds_toArray, List.set_cons_zero, List.set_cons_succ]
  refine hd_skip (by rfl) ?_
  try simp only [Act.put, List.setIfInBounds_toArray, List.set_cons_zero, List.set_cons_succ]
  refine hd_pure (v := ?_) (by rfl) (fun W' hS' => ?_) ?_ -- 35
  rotate_left
  · have c0 := (hS'.1.cell 0).trans p.c0; have c1 := (hS'.1.cell 1).trans p.c1; have c24 := (hS'.1.cell 24).trans p.c24; have c25 := (hS'.1.cell 25).trans p.c25; clear hS'; (go_simp; first | with_reducible rfl | rfl)
  try simp only [Act.put, List.setIfInBounds_toArray, List.set_cons_zero, List.set_cons_succ]
  refine hd_nil ?_
  have hX := hSW; clear hSW
  refine wpList_nil (NoPanic.normal ?_)
  go_wp2
  go_ret
  exact ⟨by rw [HR.out]; rfl, hX.2⟩
set_option maxRecDepth 100000 in
set_option maxHeartbeats 4000000 in
theorem rr_c0 (p : Pdu) (w : World) (hk : isKind p.kind = true) (hn : decide (namedOf p = p) = true) (h0 : ¬ p.session < 0) (h1 : ¬ 65535 < p.session) (h : p.code < 0) : Calls Try.prog 21 #[p.val] w fun e w' => e = .returned (.bool (pduOk p)) ∧ Below w.heap.size w w' := by
  have HR := Lib.hid (show pduOk p = false from by
    cases e : pduOk p
    · rfl
    · obtain ⟨o1, o2, o3, o4, o5, _⟩ := ok_parts e
      rw [imin_eq] at o3
      rw [imax_eq] at o4
      exfalso
      omega)
  have HK := Lib.hid hk
  have HQ := Lib.hid (show ∀ W : World, (Go.binOp .neq 29 (.agg (namedOf p).cells.toArray) (.agg p.cells.toArray)).run Try.prog W = .ok (.bool false) W from fun W => by rw [neq_pdu, hn]; rfl)
  have d1 := decide_eq_false h0
  have d2 := decide_eq_false h1
  have d3 := decide_eq_true h
  clear hk hn h h0 h1
  simp only [Pdu.val]
  go_enter Try.func21, Try.ntmps21
  go_wp2_with fail
  refine reg_sch2 36 [(true, 0), (true, 1), (false, 2), (true, 3), (true, 4), (true, 5), (true, 7), (false, 6), (true, 8), (true, 9), (true, 10), (true, 11), (true, 12), (true, 13), (true, 14), (true, 15), (true, 16), (true, 17), (true, 18), (true, 19), (true, 20), (true, 21), (true, 22), (true, 23), (true, 24), (true, 25), (true, 26), (true, 27), (true, 28), (true, 29), (true, 30), (true, 31), (true, 32), (true, 33), (true, 34), (true, 35)] (by kernel_rfl) (by kernel_rfl) (Bx w p) (Bx w p) ?_ ?_ ?_
  · exact (Bx.new w p).drew
  · exact fun _ h => h
  intro W hSW
  simp only [List.map_cons, List.map_nil, List.getD_cons_zero, List.getD_cons_succ, List.drop_succ_cons, List.drop_zero]
  refine hd_pure (v := ?_) (by rfl) (fun W' hS' => ?_) ?_ -- 0
  rotate_left
  · have c0 := (hS'.1.cell 0).trans p.c0; have c1 := (hS'.1.cell 1).trans p.c1; have c24 := (hS'.1.cell 24).trans p.c24; have c25 := (hS'.1.cell 25).trans p.c25; clear hS'; (go_simp; first | with_reducible rfl | rfl)
  try simp only [Act.put, List.setIfInBounds_toArray, List.set_cons_zero, List.set_cons_succ]
  refine hd_pure (v := ?_) (by rfl) (fun W' hS' => ?_) ?_ -- 1
  rotate_left
  · have c0 := (hS'.1.cell 0).trans p.c0; have c1 := (hS'.1.cell 1).trans p.c1; have c24 := (hS'.1.cell 24).trans p.c24; have c25 := (hS'.1.cell 25).trans p.c25; clear hS'; (go_simp; first | with_reducible rfl | rfl)
  try simp only [Act.put, List.setIfInBounds_toArray, List.set_cons_zero, List.set_cons_succ]
  refine hd_sole (by rfl) (fun K hK => ?_) -- 2
  go_simp
  refine (rkind_any _ _).mono ?_; rintro e w' ⟨rfl, rfl⟩
  refine hK _ _ (hSW) ?_
  clear hK K hSW
  intro hSW
  rw [HK.out]
  try simp only [Act.put, List.setIfInBounds_toArray, List.set_cons_zero, List.set_cons_succ]
  refine hd_pure (v := ?_) (by rfl) (fun W' hS' => ?_) ?_ -- 3
  rotate_left
  · have c0 := (hS'.1.cell 0).trans p.c0; have c1 := (hS'.1.cell 1).trans p.c1; have c24 := (hS'.1.cell 24).trans p.c24; have c25 := (hS'.1.cell 25).trans p.c25; clear hS'; (go_simp; first | with_reducible rfl | rfl)
  try simp only [Act.put, List.setIfInBounds_toArray, List.set_cons_zero, List.set_cons_succ]
  refine hd_pure (v := ?_) (by rfl) (fun W' hS' => ?_) ?_ -- 4
  rotate_left
  · have c0 := (hS'.1.cell 0).trans p.c0; have c1 := (hS'.1.cell 1).trans p.c1; have c24 := (hS'.1.cell 24).trans p.c24; have c25 := (hS'.1.cell 25).trans p.c25; clear hS'; (go_simp; first | with_reducible rfl | rfl)
  try simp only [Act.put, List.setIfInBounds_toArray, List.set_cons_zero, List.set_cons_succ]
  refine hd_pure (v := .agg p.cells.toArray) (by rfl) (fun W' hS' => exec_load_at 29 _ (by rfl) w.heap.size 0 26 (by rfl) _ _ hS'.1.range (Pdu.cells_length _) Try.underlying29 rfl info_pdu) ?_ -- 5
  try simp only [Act.put, List.setIfInBounds_toArray, List.set_cons_zero, List.set_cons_succ]
  refine hd_pure (v := .agg p.cells.toArray) (by rfl) (fun W' hS' => exec_load_at 29 _ (by rfl) w.heap.size 0 26 (by rfl) _ _ hS'.1.range (Pdu.cells_length _) Try.underlying29 rfl info_pdu) ?_ -- 7
  try simp only [Act.put, List.setIfInBounds_toArray, List.set_cons_zero, List.set_cons_succ]
  refine hd_sole (by rfl) (fun K hK => ?_) -- 6
  go_simp
  refine (bare_any p _ HK.out).mono ?_; rintro e w' ⟨rfl, hb⟩
  refine hK _ _ (hSW.next hb) ?_
  clear hK K hSW
  intro hSW
  clear hb; simp only [Pdu.val]
  try simp only [Act.put, List.setIfInBounds_toArray, List.set_cons_zero, List.set_cons_succ]
  refine hd_pure (v := ?_) (by rfl) (fun W' hS' => ?_) ?_ -- 8
  rotate_left
  · (have hq := HQ.out; clear hS'; go_simp; first | with_reducible rfl | rfl)
  try simp only [Act.put, List.setIfInBounds_toArray, List.set_cons_zero, List.set_cons_succ]
  refine hd_pure (v := ?_) (by rfl) (fun W' hS' => ?_) ?_ -- 9
  rotate_left
  · have c0 := (hS'.1.cell 0).trans p.c0; have c1 := (hS'.1.cell 1).trans p.c1; have c24 := (hS'.1.cell 24).trans p.c24; have c25 := (hS'.1.cell 25).trans p.c25; clear hS'; (go_simp; first | with_reducible rfl | rfl)
  try simp only [Act.put, List.setIfInBounds_toArray, List.set_cons_zero, List.set_cons_succ]
  refine hd_pure (v := ?_) (by rfl) (fun W' hS' => ?_) ?_ -- 10
  rotate_left
  · have c0 := (hS'.1.cell 0).trans p.c0; have c1 := (hS'.1.cell 1).trans p.c1; have c24 := (hS'.1.cell 24).trans p.c24; have c25 := (hS'.1.cell 25).trans p.c25; clear hS'; (go_simp; first | with_reducible rfl | rfl)
  try simp only [Act.put, List.setIfInBounds_toArray, List.set_cons_zero, List.set_cons_succ]
  refine hd_pure (v := ?_) (by rfl) (fun W' hS' => ?_) ?_ -- 11
  rotate_left
  · have c0 := (hS'.1.cell 0).trans p.c0; have c1 := (hS'.1.cell 1).trans p.c1; have c24 := (hS'.1.cell 24).trans p.c24; have c25 := (hS'.1.cell 25).trans p.c25; clear hS'; (go_simp; first | with_reducible rfl | rfl)
  try simp only [Act.put, List.setIfInBounds_toArray, List.set_cons_zero, List.set_cons_succ]
  refine hd_pure (v := ?_) (by rfl) (fun W' hS' => ?_) ?_ -- 12
  rotate_left
  · have c0 := (hS'.1.cell 0).trans p.c0; have c1 := (hS'.1.cell 1).trans p.c1; have c24 := (hS'.1.cell 24).trans p.c24; have c25 := (hS'.1.cell 25).trans p.c25; clear hS'; (go_simp; first | with_reducible rfl | rfl)
  try simp only [Act.put, List.setIfInBounds_toArray, List.set_cons_zero, List.set_cons_succ]
  refine hd_pure (v := ?_) (by rfl) (fun W' hS' => ?_) ?_ -- 13
  rotate_left
  · have c0 := (hS'.1.cell 0).trans p.c0; have c1 := (hS'.1.cell 1).trans p.c1; have c24 := (hS'.1.cell 24).trans p.c24; have c25 := (hS'.1.cell 25).trans p.c25; clear hS'; (go_simp; first | with_reducible rfl | rfl)
  try simp only [Act.put, List.setIfInBounds_toArray, List.set_cons_zero, List.set_cons_succ]
  refine hd_pure (v := ?_) (by rfl) (fun W' hS' => ?_) ?_ -- 14
  rotate_left
  · have c0 := (hS'.1.cell 0).trans p.c0; have c1 := (hS'.1.cell 1).trans p.c1; have c24 := (hS'.1.cell 24).trans p.c24; have c25 := (hS'.1.cell 25).trans p.c25; clear hS'; (go_simp; first | with_reducible rfl | rfl)
  try simp only [Act.put, List.setIfInBounds_toArray, List.set_cons_zero, List.set_cons_succ]
  refine hd_pure (v := ?_) (by rfl) (fun W' hS' => ?_) ?_ -- 15
  rotate_left
  · have c0 := (hS'.1.cell 0).trans p.c0; have c1 := (hS'.1.cell 1).trans p.c1; have c24 := (hS'.1.cell 24).trans p.c24; have c25 := (hS'.1.cell 25).trans p.c25; clear hS'; (go_simp; first | with_reducible rfl | rfl)
  try simp only [Act.put, List.setIfInBounds_toArray, List.set_cons_zero, List.set_cons_succ]
  refine hd_pure (v := ?_) (by rfl) (fun W' hS' => ?_) ?_ -- 16
  rotate_left
  · have c0 := (hS'.1.cell 0).trans p.c0; have c1 := (hS'.1.cell 1).trans p.c1; have c24 := (hS'.1.cell 24).trans p.c24; have c25 := (hS'.1.cell 25).trans p.c25; clear hS'; (go_simp; first | with_reducible rfl | rfl)
  try simp only [Act.put, List.setIfInBounds_toArray, List.set_cons_zero, List.set_cons_succ]
  refine hd_pure (v := ?_) (by rfl) (fun W' hS' => ?_) ?_ -- 17
  rotate_left
  · have c0 := (hS'.1.cell 0).trans p.c0; have c1 := (hS'.1.cell 1).trans p.c1; have c24 := (hS'.1.cell 24).trans p.c24; have c25 := (hS'.1.cell 25).trans p.c25; clear hS'; (go_simp; first | with_reducible rfl | rfl)
  try simp only [Act.put, List.setIfInBounds_toArray, List.set_cons_zero, List.set_cons_succ]
  refine hd_pure (v := ?_) (by rfl) (fun W' hS' => ?_) ?_ -- 18
  rotate_left
  · have c0 := (hS'.1.cell 0).trans p.c0; have c1 := (hS'.1.cell 1).trans p.c1; have c24 := (hS'.1.cell 24).trans p.c24; have c25 := (hS'.1.cell 25).trans p.c25; clear hS'; (go_simp; first | with_reducible rfl | rfl)
  try simp only [Act.put, List.setIfInBounds_toArray, List.set_cons_zero, List.set_cons_succ]
  refine hd_pure (v := ?_) (by rfl) (fun W' hS' => ?_) ?_ -- 19
  rotate_left
  · have c0 := (hS'.1.cell 0).trans p.c0; have c1 := (hS'.1.cell 1).trans p.c1; have c24 := (hS'.1.cell 24).trans p.c24; have c25 := (hS'.1.cell 25).trans p.c25; clear hS'; (go_simp; first | with_reducible rfl | rfl)
  try simp only [Act.put, List.setIfInBounds_toArray, List.set_cons_zero, List.set_cons_succ]
  refine hd_pure (v := ?_) (by rfl) (fun W' hS' => ?_) ?_ -- 20
  rotate_left
  · have c0 := (hS'.1.cell 0).trans p.c0; have c1 := (hS'.1.cell 1).trans p.c1; have c24 := (hS'.1.cell 24).trans p.c24; have c25 := (hS'.1.cell 25).trans p.c25; clear hS'; (go_simp; first | with_reducible rfl | rfl)
  try simp only [Act.put, List.setIfInBounds_toArray, List.set_cons_zero, List.set_cons_succ]
  refine hd_pure (v := ?_) (by rfl) (fun W' hS' => ?_) ?_ -- 21
  rotate_left
  · have c0 := (hS'.1.cell 0).trans p.c0; have c1 := (hS'.1.cell 1).trans p.c1; have c24 := (hS'.1.cell 24).trans p.c24; have c25 := (hS'.1.cell 25).trans p.c25; clear hS'; (go_simp; first | with_reducible rfl | rfl)
  try simp only [Act.put, List.setIfInBounds_toArray, List.set_cons_zero, List.set_cons_succ]
  refine hd_pure (v := ?_) (by rfl) (fun W' hS' => ?_) ?_ -- 22
  rotate_left
  · have c0 := (hS'.1.cell 0).trans p.c0; have c1 := (hS'.1.cell 1).trans p.c1; have c24 := (hS'.1.cell 24).trans p.c24; have c25 := (hS'.1.cell 25).trans p.c25; clear hS'; (go_simp; first | with_reducible rfl | rfl)
  try simp only [Act.put, List.setIfInBounds_toArray, List.set_cons_zero, List.set_cons_succ]
  refine hd_pure (v := ?_) (by rfl) (fun W' hS' => ?_) ?_ -- 23
  rotate_left
  · have c0 := (hS'.1.cell 0).trans p.c0; have c1 := (hS'.1.cell 1).trans p.c1; have c24 := (hS'.1.cell 24).trans p.c24; have c25 := (hS'.1.cell 25).trans p.c25; clear hS'; (go_simp; first | with_reducible rfl | rfl)
  try simp only [Act.put, List.setIfInBounds_toArray, List.set_cons_zero, List.set_cons_succ]
  refine hd_pure (v := ?_) (by rfl) (fun W' hS' => ?_) ?_ -- 24
  rotate_left
  · have c0 := (hS'.1.cell 0).trans p.c0; have c1 := (hS'.1.cell 1).trans p.c1; have c24 := (hS'.1.cell 24).trans p.c24; have c25 := (hS'.1.cell 25).trans p.c25; clear hS'; (go_simp; first | with_reducible rfl | rfl)
  try simp only [Act.put, List.setIfInBounds_toArray, List.set_cons_zero, List.set_cons_succ]
  refine hd_pure (v := ?_) (by rfl) (fun W' hS' => ?_) ?_ -- 25
  rotate_left
  · have c0 := (hS'.1.cell 0).trans p.c0; have c1 := (hS'.1.cell 1).trans p.c1; have c24 := (hS'.1.cell 24).trans p.c24; have c25 := (hS'.1.cell 25).trans p.c25; clear hS'; (go_simp; first | with_reducible rfl | rfl)
  try simp only [Act.put, List.setIfInBounds_toArray, List.set_cons_zero, List.set_cons_succ]
  refine hd_skip (by rfl) ?_
  try simp only [Act.put, List.setIfInBounds_toArray, List.set_cons_zero, List.set_cons_succ]
  refine hd_skip (by rfl) ?_
  try simp only [Act.put, List.setIfInBounds_toArray, List.set_cons_zero, List.set_cons_succ]
  refine hd_skip (by rfl) ?_
  try simp only [Act.put, List.setIfInBounds_toArray, List.set_cons_zero, List.set_cons_succ]
  refine hd_pure (v := ?_) (by rfl) (fun W' hS' => ?_) ?_ -- 29
  rotate_left
  · have c0 := (hS'.1.cell 0).trans p.c0; have c1 := (hS'.1.cell 1).trans p.c1; have c24 := (hS'.1.cell 24).trans p.c24; have c25 := (hS'.1.cell 25).trans p.c25; clear hS'; (go_simp; first | with_reducible rfl | rfl)
  try simp only [Act.put, List.setIfInBounds_toArray, List.set_cons_zero, List.set_cons_succ]
  refine hd_pure (v := ?_) (by rfl) (fun W' hS' => ?_) ?_ -- 30
  rotate_left
  · have c0 := (hS'.1.cell 0).trans p.c0; have c1 := (hS'.1.cell 1).trans p.c1; have c24 := (hS'.1.cell 24).trans p.c24; have c25 := (hS'.1.cell 25).trans p.c25; clear hS'; (go_simp; first | with_reducible rfl | rfl)
  try simp only [Act.put, List.setIfInBounds_toArray, List.set_cons_zero, List.set_cons_succ]
  refine hd_skip (by rfl) ?_
  try simp only [Act.put, List.setIfInBounds_toArray, List.set_cons_zero, List.set_cons_succ]
  refine hd_skip (by rfl) ?_
  try simp only [Act.put, List.setIfInBounds_toArray, List.set_cons_zero, List.set_cons_succ]
  refine hd_skip (by rfl) ?_
  try simp only [Act.put, List.setIfInBounds_toArray, List.set_cons_zero, List.set_cons_succ]
  refine hd_skip (by rfl) ?_
  try simp only [Act.put, List.setIfInBounds_toArray, List.set_cons_zero, List.set_cons_succ]
  refine hd_pure (v := ?_) (by rfl) (fun W' hS' => ?_) ?_ -- 35
  rotate_left
  · have c0 := (hS'.1.cell 0).trans p.c0; have c1 := (hS'.1.cell 1).trans p.c1; have c24 := (hS'.1.cell 24).trans p.c24; have c25 := (hS'.1.cell 25).trans p.c25; clear hS'; (go_simp; first | with_reducible rfl | rfl)
  try simp only [Act.put, List.setIfInBounds_toArray, List.set_cons_zero, List.set_cons_succ]
  refine hd_nil ?_
  have hX := hSW; clear hSW
  refine wpList_nil (NoPanic.normal ?_)
  go_wp2
  go_ret
  exact ⟨by rw [HR.out]; rfl, hX.2⟩
set_option maxRecDepth 100000 in
set_option maxHeartbeats 4000000 in
theorem rr_c1 (p : Pdu) (w : World) (hk : isKind p.kind = true) (hn : decide (namedOf p = p) = true) (h0 : ¬ p.session < 0) (h1 : ¬ 65535 < p.session) (h2 : ¬ p.code < 0) (h : 65535 < p.code) : Calls Try.prog 21 #[p.val] w fun e w' => e = .returned (.bool (pduOk p)) ∧ Below w.heap.size w w' := by
  have HR := Lib.hid (show pduOk p = false from by
    cases e : pduOk p
    · rfl
    · obtain ⟨o1, o2, o3, o4, o5, _⟩ := ok_parts e
      rw [imin_eq] at o3
      rw [imax_eq] at o4
      exfalso
      omega)
  have HK := Lib.hid hk
  have HQ := Lib.hid (show ∀ W : World, (Go.binOp .neq 29 (.agg (namedOf p).cells.toArray) (.agg p.cells.toArray)).run Try.prog W = .ok (.bool false) W from fun W => by rw [neq_pdu, hn]; rfl)
  have d1 := decide_eq_false h0
  have d2 := decide_eq_false h1
  have d3 := decide_eq_false h2
  have d4 := decide_eq_true h
  clear hk hn h h0 h1 h2
  simp only [Pdu.val]
  go_enter Try.func21, Try.ntmps21
  go_wp2_with fail
  refine reg_sch2 36 [(true, 0), (true, 1), (false, 2), (true, 3), (true, 4), (true, 5), (true, 7), (false, 6), (true, 8), (true, 9), (true, 10), (true, 11), (true, 12), (true, 13), (true, 14), (true, 15), (true, 16), (true, 17), (true, 18), (true, 19), (true, 20), (true, 21), (true, 22), (true, 23), (true, 24), (true, 25), (true, 26), (true, 27), (true, 28), (true, 29), (true, 30), (true, 31), (true, 32), (true, 33), (true, 34), (true, 35)] (by kernel_rfl) (by kernel_rfl) (Bx w p) (Bx w p) ?_ ?_ ?_
  · exact (Bx.new w p).drew
  · exact fun _ h => h
  intro W hSW
  simp only [List.map_cons, List.map_nil, List.getD_cons_zero, List.getD_cons_succ, List.drop_succ_cons, List.drop_zero]
  refine hd_pure (v := ?_) (by rfl) (fun W' hS' => ?_) ?_ -- 0
  rotate_left
  · have c0 := (hS'.1.cell 0).trans p.c0; have c1 := (hS'.1.cell 1).trans p.c1; have c24 := (hS'.1.cell 24).trans p.c24; have c25 := (hS'.1.cell 25).trans p.c25; clear hS'; (go_simp; first | with_reducible rfl | rfl)
  try simp only [Act.put, List.setIfInBounds_toArray, List.set_cons_zero, List.set_cons_succ]
  refine hd_pure (v := ?_) (by rfl) (fun W' hS' => ?_) ?_ -- 1
  rotate_left
  · have c0 := (hS'.1.cell 0).trans p.c0; have c1 := (hS'.1.cell 1).trans p.c1; have c24 := (hS'.1.cell 24).trans p.c24; have c25 := (hS'.1.cell 25).trans p.c25; clear hS'; (go_simp; first | with_reducible rfl | rfl)
  try simp only [Act.put, List.setIfInBounds_toArray, List.set_cons_zero, List.set_cons_succ]
  refine hd_sole (by rfl) (fun K hK => ?_) -- 2
  go_simp
  refine (rkind_any _ _).mono ?_; rintro e w' ⟨rfl, rfl⟩
  refine hK _ _ (hSW) ?_
  clear hK K hSW
  intro hSW
  rw [HK.out]
  try simp only [Act.put, List.setIfInBounds_toArray, List.set_cons_zero, List.set_cons_succ]
  refine hd_pure (v := ?_) (by rfl) (fun W' hS' => ?_) ?_ -- 3
  rotate_left
  · have c0 := (hS'.1.cell 0).trans p.c0; have c1 := (hS'.1.cell 1).trans p.c1; have c24 := (hS'.1.cell 24).trans p.c24; have c25 := (hS'.1.cell 25).trans p.c25; clear hS'; (go_simp; first | with_reducible rfl | rfl)
  try simp only [Act.put, List.setIfInBounds_toArray, List.set_cons_zero, List.set_cons_succ]
  refine hd_pure (v := ?_) (by rfl) (fun W' hS' => ?_) ?_ -- 4
  rotate_left
  · have c0 := (hS'.1.cell 0).trans p.c0; have c1 := (hS'.1.cell 1).trans p.c1; have c24 := (hS'.1.cell 24).trans p.c24; have c25 := (hS'.1.cell 25).trans p.c25; clear hS'; (go_simp; first | with_reducible rfl | rfl)
  try simp only [Act.put, List.setIfInBounds_toArray, List.set_cons_zero, List.set_cons_succ]
  refine hd_pure (v := .agg p.cells.toArray) (by rfl) (fun W' hS' => exec_load_at 29 _ (by rfl) w.heap.size 0 26 (by rfl) _ _ hS'.1.range (Pdu.cells_length _) Try.underlying29 rfl info_pdu) ?_ -- 5
  try simp only [Act.put, List.setIfInBounds_toArray, List.set_cons_zero, List.set_cons_succ]
  refine hd_pure (v := .agg p.cells.toArray) (by rfl) (fun W' hS' => exec_load_at 29 _ (by rfl) w.heap.size 0 26 (by rfl) _ _ hS'.1.range (Pdu.cells_length _) Try.underlying29 rfl info_pdu) ?_ -- 7
  try simp only [Act.put, List.setIfInBounds_toArray, List.set_cons_zero, List.set_cons_succ]
  refine hd_sole (by rfl) (fun K hK => ?_) -- 6
  go_simp
  refine (bare_any p _ HK.out).mono ?_; rintro e w' ⟨rfl, hb⟩
  refine hK _ _ (hSW.next hb) ?_
  clear hK K hSW
  intro hSW
  clear hb; simp only [Pdu.val]
  try simp only [Act.put, List.setIfInBounds_toArray, List.set_cons_zero, List.set_cons_succ]
  refine hd_pure (v := ?_) (by rfl) (fun W' hS' => ?_) ?_ -- 8
  rotate_left
  · (have hq := HQ.out; clear hS'; go_simp; first | with_reducible rfl | rfl)
  try simp only [Act.put, List.setIfInBounds_toArray, List.set_cons_zero, List.set_cons_succ]
  refine hd_pure (v := ?_) (by rfl) (fun W' hS' => ?_) ?_ -- 9
  rotate_left
  · have c0 := (hS'.1.cell 0).trans p.c0; have c1 := (hS'.1.cell 1).trans p.c1; have c24 := (hS'.1.cell 24).trans p.c24; have c25 := (hS'.1.cell 25).trans p.c25; clear hS'; (go_simp; first | with_reducible rfl | rfl)
  try simp only [Act.put, List.setIfInBounds_toArray, List.set_cons_zero, List.set_cons_succ]
  refine hd_pure (v := ?_) (by rfl) (fun W' hS' => ?_) ?_ -- 10
  rotate_left
  · have c0 := (hS'.1.cell 0).trans p.c0; have c1 := (hS'.1.cell 1).trans p.c1; have c24 := (hS'.1.cell 24).trans p.c24; have c25 := (hS'.1.cell 25).trans p.c25; clear hS'; (go_simp; first | with_reducible rfl | rfl)
  try simp only [Act.put, List.setIfInBounds_toArray, List.set_cons_zero, List.set_cons_succ]
  refine hd_pure (v := ?_) (by rfl) (fun W' hS' => ?_) ?_ -- 11
  rotate_left
  · have c0 := (hS'.1.cell 0).trans p.c0; have c1 := (hS'.1.cell 1).trans p.c1; have c24 := (hS'.1.cell 24).trans p.c24; have c25 := (hS'.1.cell 25).trans p.c25; clear hS'; (go_simp; first | with_reducible rfl | rfl)
  try simp only [Act.put, List.setIfInBounds_toArray, List.set_cons_zero, List.set_cons_succ]
  refine hd_pure (v := ?_) (by rfl) (fun W' hS' => ?_) ?_ -- 12
  rotate_left
  · have c0 := (hS'.1.cell 0).trans p.c0; have c1 := (hS'.1.cell 1).trans p.c1; have c24 := (hS'.1.cell 24).trans p.c24; have c25 := (hS'.1.cell 25).trans p.c25; clear hS'; (go_simp; first | with_reducible rfl | rfl)
  try simp only [Act.put, List.setIfInBounds_toArray, List.set_cons_zero, List.set_cons_succ]
  refine hd_pure (v := ?_) (by rfl) (fun W' hS' => ?_) ?_ -- 13
  rotate_left
  · have c0 := (hS'.1.cell 0).trans p.c0; have c1 := (hS'.1.cell 1).trans p.c1; have c24 := (hS'.1.cell 24).trans p.c24; have c25 := (hS'.1.cell 25).trans p.c25; clear hS'; (go_simp; first | with_reducible rfl | rfl)
  try simp only [Act.put, List.setIfInBounds_toArray, List.set_cons_zero, List.set_cons_succ]
  refine hd_pure (v := ?_) (by rfl) (fun W' hS' => ?_) ?_ -- 14
  rotate_left
  · have c0 := (hS'.1.cell 0).trans p.c0; have c1 := (hS'.1.cell 1).trans p.c1; have c24 := (hS'.1.cell 24).trans p.c24; have c25 := (hS'.1.cell 25).trans p.c25; clear hS'; (go_simp; first | with_reducible rfl | rfl)
  try simp only [Act.put, List.setIfInBounds_toArray, List.set_cons_zero, List.set_cons_succ]
  refine hd_pure (v := ?_) (by rfl) (fun W' hS' => ?_) ?_ -- 15
  rotate_left
  · have c0 := (hS'.1.cell 0).trans p.c0; have c1 := (hS'.1.cell 1).trans p.c1; have c24 := (hS'.1.cell 24).trans p.c24; have c25 := (hS'.1.cell 25).trans p.c25; clear hS'; (go_simp; first | with_reducible rfl | rfl)
  try simp only [Act.put, List.setIfInBounds_toArray, List.set_cons_zero, List.set_cons_succ]
  refine hd_pure (v := ?_) (by rfl) (fun W' hS' => ?_) ?_ -- 16
  rotate_left
  · have c0 := (hS'.1.cell 0).trans p.c0; have c1 := (hS'.1.cell 1).trans p.c1; have c24 := (hS'.1.cell 24).trans p.c24; have c25 := (hS'.1.cell 25).trans p.c25; clear hS'; (go_simp; first | with_reducible rfl | rfl)
  try simp only [Act.put, List.setIfInBounds_toArray, List.set_cons_zero, List.set_cons_succ]
  refine hd_pure (v := ?_) (by rfl) (fun W' hS' => ?_) ?_ -- 17
  rotate_left
  · have c0 := (hS'.1.cell 0).trans p.c0; have c1 := (hS'.1.cell 1).trans p.c1; have c24 := (hS'.1.cell 24).trans p.c24; have c25 := (hS'.1.cell 25).trans p.c25; clear hS'; (go_simp; first | with_reducible rfl | rfl)
  try simp only [Act.put, List.setIfInBounds_toArray, List.set_cons_zero, List.set_cons_succ]
  refine hd_pure (v := ?_) (by rfl) (fun W' hS' => ?_) ?_ -- 18
  rotate_left
  · have c0 := (hS'.1.cell 0).trans p.c0; have c1 := (hS'.1.cell 1).trans p.c1; have c24 := (hS'.1.cell 24).trans p.c24; have c25 := (hS'.1.cell 25).trans p.c25; clear hS'; (go_simp; first | with_reducible rfl | rfl)
  try simp only [Act.put, List.setIfInBounds_toArray, List.set_cons_zero, List.set_cons_succ]
  refine hd_pure (v := ?_) (by rfl) (fun W' hS' => ?_) ?_ -- 19
  rotate_left
  · have c0 := (hS'.1.cell 0).trans p.c0; have c1 := (hS'.1.cell 1).trans p.c1; have c24 := (hS'.1.cell 24).trans p.c24; have c25 := (hS'.1.cell 25).trans p.c25; clear hS'; (go_simp; first | with_reducible rfl | rfl)
  try simp only [Act.put, List.setIfInBounds_toArray, List.set_cons_zero, List.set_cons_succ]
  refine hd_pure (v := ?_) (by rfl) (fun W' hS' => ?_) ?_ -- 20
  rotate_left
  · have c0 := (hS'.1.cell 0).trans p.c0; have c1 := (hS'.1.cell 1).trans p.c1; have c24 := (hS'.1.cell 24).trans p.c24; have c25 := (hS'.1.cell 25).trans p.c25; clear hS'; (go_simp; first | with_reducible rfl | rfl)
  try simp only [Act.put, List.setIfInBounds_toArray, List.set_cons_zero, List.set_cons_succ]
  refine hd_pure (v := ?_) (by rfl) (fun W' hS' => ?_) ?_ -- 21
  rotate_left
  · have c0 := (hS'.1.cell 0).trans p.c0; have c1 := (hS'.1.cell 1).trans p.c1; have c24 := (hS'.1.cell 24).trans p.c24; have c25 := (hS'.1.cell 25).trans p.c25; clear hS'; (go_simp; first | with_reducible rfl | rfl)
  try simp only [Act.put, List.setIfInBounds_toArray, List.set_cons_zero, List.set_cons_succ]
  refine hd_pure (v := ?_) (by rfl) (fun W' hS' => ?_) ?_ -- 22
  rotate_left
  · have c0 := (hS'.1.cell 0).trans p.c0; have c1 := (hS'.1.cell 1).trans p.c1; have c24 := (hS'.1.cell 24).trans p.c24; have c25 := (hS'.1.cell 25).trans p.c25; clear hS'; (go_simp; first | with_reducible rfl | rfl)
  try simp only [Act.put, List.setIfInBounds_toArray, List.set_cons_zero, List.set_cons_succ]
  refine hd_pure (v := ?_) (by rfl) (fun W' hS' => ?_) ?_ -- 23
  rotate_left
  · have c0 := (hS'.1.cell 0).trans p.c0; have c1 := (hS'.1.cell 1).trans p.c1; have c24 := (hS'.1.cell 24).trans p.c24; have c25 := (hS'.1.cell 25).trans p.c25; clear hS'; (go_simp; first | with_reducible rfl | rfl)
  try simp only [Act.put, List.setIfInBounds_toArray, List.set_cons_zero, List.set_cons_succ]
  refine hd_pure (v := ?_) (by rfl) (fun W' hS' => ?_) ?_ -- 24
  rotate_left
  · have c0 := (hS'.1.cell 0).trans p.c0; have c1 := (hS'.1.cell 1).trans p.c1; have c24 := (hS'.1.cell 24).trans p.c24; have c25 := (hS'.1.cell 25).trans p.c25; clear hS'; (go_simp; first | with_reducible rfl | rfl)
  try simp only [Act.put, List.setIfInBounds_toArray, List.set_cons_zero, List.set_cons_succ]
  refine hd_pure (v := ?_) (by rfl) (fun W' hS' => ?_) ?_ -- 25
  rotate_left
  · have c0 := (hS'.1.cell 0).trans p.c0; have c1 := (hS'.1.cell 1).trans p.c1; have c24 := (hS'.1.cell 24).trans p.c24; have c25 := (hS'.1.cell 25).trans p.c25; clear hS'; (go_simp; first | with_reducible rfl | rfl)
  try simp only [Act.put, List.setIfInBounds_toArray, List.set_cons_zero, List.set_cons_succ]
  refine hd_pure (v := ?_) (by rfl) (fun W' hS' => ?_) ?_ -- 26
  rotate_left
  · have c0 := (hS'.1.cell 0).trans p.c0; have c1 := (hS'.1.cell 1).trans p.c1; have c24 := (hS'.1.cell 24).trans p.c24; have c25 := (hS'.1.cell 25).trans p.c25; clear hS'; (go_simp; first | with_reducible rfl | rfl)
  try simp only [Act.put, List.setIfInBounds_toArray, List.set_cons_zero, List.set_cons_succ]
  refine hd_pure (v := ?_) (by rfl) (fun W' hS' => ?_) ?_ -- 27
  rotate_left
  · have c0 := (hS'.1.cell 0).trans p.c0; have c1 := (hS'.1.cell 1).trans p.c1; have c24 := (hS'.1.cell 24).trans p.c24; have c25 := (hS'.1.cell 25).trans p.c25; clear hS'; (go_simp; first | with_reducible rfl | rfl)
  try simp only [Act.put, List.setIfInBounds_toArray, List.set_cons_zero, List.set_cons_succ]
  refine hd_pure (v := ?_) (by rfl) (fun W' hS' => ?_) ?_ -- 28
  rotate_left
  · have c0 := (hS'.1.cell 0).trans p.c0; have c1 := (hS'.1.cell 1).trans p.c1; have c24 := (hS'.1.cell 24).trans p.c24; have c25 := (hS'.1.cell 25).trans p.c25; clear hS'; (go_simp; first | with_reducible rfl | rfl)
  try simp only [Act.put, List.setIfInBounds_toArray, List.set_cons_zero, List.set_cons_succ]
  refine hd_pure (v := ?_) (by rfl) (fun W' hS' => ?_) ?_ -- 29
  rotate_left
  · have c0 := (hS'.1.cell 0).trans p.c0; have c1 := (hS'.1.cell 1).trans p.c1; have c24 := (hS'.1.cell 24).trans p.c24; have c25 := (hS'.1.cell 25).trans p.c25; clear hS'; (go_simp; first | with_reducible rfl | rfl)
  try simp only [Act.put, List.setIfInBounds_toArray, List.set_cons_zero, List.set_cons_succ]
  refine hd_pure (v := ?_) (by rfl) (fun W' hS' => ?_) ?_ -- 30
  rotate_left
  · have c0 := (hS'.1.cell 0).trans p.c0; have c1 := (hS'.1.cell 1).trans p.c1; have c24 := (hS'.1.cell 24).trans p.c24; have c25 := (hS'.1.cell 25).trans p.c25; clear hS'; (go_simp; first | with_reducible rfl | rfl)
  try simp only [Act.put, List.setIfInBounds_toArray, List.set_cons_zero, List.set_cons_succ]
  refine hd_skip (by rfl) ?_
  try simp only [Act.put, List.setIfInBounds_toArray, List.set_cons_zero, List.set_cons_succ]
  refine hd_skip (by rfl) ?_
  try simp only [Act.put, List.setIfInBounds_toArray, List.set_cons_zero, List.set_cons_succ]
  refine hd_skip (by rfl) ?_
  try simp only [Act.put, List.setIfInBounds_toArray, List.set_cons_zero, List.set_cons_succ]
  refine hd_skip (by rfl) ?_
  try simp only [Act.put, List.setIfInBounds_toArray, List.set_cons_zero, List.set_cons_succ]
  refine hd_pure (v := ?_) (by rfl) (fun W' hS' => ?_) ?_ -- 35
  rotate_left
  · have c0 := (hS'.1.cell 0).trans p.c0; have c1 := (hS'.1.cell 1).trans p.c1; have c24 := (hS'.1.cell 24).trans p.c24; have c25 := (hS'.1.cell 25).trans p.c25; clear hS'; (go_simp; first | with_reducible rfl | rfl)
  try simp only [Act.put, List.setIfInBounds_toArray, List.set_cons_zero, List.set_cons_succ]
  refine hd_nil ?_
  have hX := hSW; clear hSW
  refine wpList_nil (NoPanic.normal ?_)
  go_wp2
  go_ret
  exact ⟨by rw [HR.out]; rfl, hX.2⟩
end Go.Proofs.Ytmoldmnhijcckaa
