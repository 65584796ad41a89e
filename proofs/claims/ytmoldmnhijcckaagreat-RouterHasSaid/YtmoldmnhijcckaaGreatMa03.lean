/- The contract of roa.One. -/
import Derived.Test.YtmoldmnhijcckaaGreatMa02
set_option linter.unusedVariables false
set_option linter.unusedSectionVars false
set_option linter.unusedSimpArgs false
namespace Go.Proofs.YtmoldmnhijcckaaGreat
open Go.RowKit
/-- Whether a row's element may be. -/
def vrpOk (v : Vrp) : Bool := pfxOk v.p && (decide (v.p.len ≤ v.mx) && decide (v.mx ≤ mostOf v.p.v6))
set_option maxRecDepth 100000 in
set_option maxHeartbeats 1000000 in
theorem one_any (v : Vrp) (w : World) : Calls Tryz.prog 80 #[v.val] w fun e w' => e = .returned (.bool (vrpOk v)) ∧ Below w.heap.size w w' := by
  simp only [Vrp.val]
  cases h1 : pfxOk v.p
  · have HR := Lib.hid (show vrpOk v = false by simp [vrpOk, h1])
    have Hp := Lib.hid h1; clear h1
    go_enter Tryz.func80, Tryz.ntmps80
    go_wp2_with fail
    refine reg_sch2 21 [(true, 0), (true, 1), (false, 2), (true, 3), (true, 4), (true, 5), (true, 6), (true, 7), (true, 8), (true, 9), (true, 10), (true, 11), (true, 12), (true, 13), (true, 14), (true, 15), (true, 16), (false, 17), (true, 18), (true, 19), (true, 20)] (by kernel_rfl) (by kernel_rfl) (fun W => Blk W w.heap.size 67 v.cells ∧ Below w.heap.size w W) (fun W => Blk W w.heap.size 67 v.cells ∧ Below w.heap.size w W) ?_ ?_ ?_
    · exact ⟨(Blk.new _ _ _).drew, ((Below.refl _ _).alloc (Nat.le_refl _) _).drew⟩
    · exact fun _ h => h
    intro W hSW
    simp only [List.map_cons, List.map_nil, List.getD_cons_zero, List.getD_cons_succ, List.drop_succ_cons, List.drop_zero]
    refine hd_pure (v := ?_) (by rfl) (fun W' hS' => ?_) ?_ -- 0
    rotate_left
    · have c1 := (hS'.1.cell 1).trans (Vrp.c1 _); have c18 := (hS'.1.cell 18).trans (Vrp.c18 _); have c19 := (hS'.1.cell 19).trans (Vrp.c19 _); clear hS'; (go_simp; first | with_reducible rfl | rfl)
    try simp only [Act.put, List.setIfInBounds_toArray, List.set_cons_zero, List.set_cons_succ]
    refine hd_pure (v := .agg v.p.cells.toArray) (by rfl) (fun W' hS' => exec_load_at 65 _ (by rfl) w.heap.size 1 18 (by rfl) _ _ hS'.1.vrp_pfx (Pfx.cells_length _) Tryz.underlying65 rfl info_pfx) ?_ -- 1
    try simp only [Act.put, List.setIfInBounds_toArray, List.set_cons_zero, List.set_cons_succ]
    refine hd_sole (by rfl) (fun K hK => ?_) -- 2
    go_simp
    refine (pfxRight_any v.p _).mono ?_; rintro e w' ⟨rfl, hb⟩
    refine hK _ _ (⟨hSW.1.below hb hSW.1.lt, below_then hSW.2 (Nat.le_refl _) hb⟩) ?_
    clear hK K hSW
    intro hSW
    clear hb; rw [Hp.out]
    try simp only [Act.put, List.setIfInBounds_toArray, List.set_cons_zero, List.set_cons_succ]
    refine hd_pure (v := ?_) (by rfl) (fun W' hS' => ?_) ?_ -- 3
    rotate_left
    · have c1 := (hS'.1.cell 1).trans (Vrp.c1 _); have c18 := (hS'.1.cell 18).trans (Vrp.c18 _); have c19 := (hS'.1.cell 19).trans (Vrp.c19 _); clear hS'; (go_simp; first | with_reducible rfl | rfl)
    try simp only [Act.put, List.setIfInBounds_toArray, List.set_cons_zero, List.set_cons_succ]
    refine hd_skip (by rfl) ?_
    try simp only [Act.put, List.setIfInBounds_toArray, List.set_cons_zero, List.set_cons_succ]
    refine hd_skip (by rfl) ?_
    try simp only [Act.put, List.setIfInBounds_toArray, List.set_cons_zero, List.set_cons_succ]
    refine hd_skip (by rfl) ?_
    try simp only [Act.put, List.setIfInBounds_toArray, List.set_cons_zero, List.set_cons_succ]
    refine hd_skip (by rfl) ?_
    try simp only [Act.put, List.setIfInBounds_toArray, List.set_cons_zero, List.set_cons_succ]
    refine hd_skip (by rfl) ?_
    try simp only [Act.put, List.setIfInBounds_toArray, List.set_cons_zero, List.set_cons_succ]
    refine hd_skip (by rfl) ?_
    try simp only [Act.put, List.setIfInBounds_toArray, List.set_cons_zero, List.set_cons_succ]
    refine hd_pure (v := ?_) (by rfl) (fun W' hS' => ?_) ?_ -- 10
    rotate_left
    · have c1 := (hS'.1.cell 1).trans (Vrp.c1 _); have c18 := (hS'.1.cell 18).trans (Vrp.c18 _); have c19 := (hS'.1.cell 19).trans (Vrp.c19 _); clear hS'; (go_simp; first | with_reducible rfl | rfl)
    try simp only [Act.put, List.setIfInBounds_toArray, List.set_cons_zero, List.set_cons_succ]
    refine hd_pure (v := ?_) (by rfl) (fun W' hS' => ?_) ?_ -- 11
    rotate_left
    · have c1 := (hS'.1.cell 1).trans (Vrp.c1 _); have c18 := (hS'.1.cell 18).trans (Vrp.c18 _); have c19 := (hS'.1.cell 19).trans (Vrp.c19 _); clear hS'; (go_simp; first | with_reducible rfl | rfl)
    try simp only [Act.put, List.setIfInBounds_toArray, List.set_cons_zero, List.set_cons_succ]
    refine hd_skip (by rfl) ?_
    try simp only [Act.put, List.setIfInBounds_toArray, List.set_cons_zero, List.set_cons_succ]
    refine hd_skip (by rfl) ?_
    try simp only [Act.put, List.setIfInBounds_toArray, List.set_cons_zero, List.set_cons_succ]
    refine hd_skip (by rfl) ?_
    try simp only [Act.put, List.setIfInBounds_toArray, List.set_cons_zero, List.set_cons_succ]
    refine hd_skip (by rfl) ?_
    try simp only [Act.put, List.setIfInBounds_toArray, List.set_cons_zero, List.set_cons_succ]
    refine hd_skip (by rfl) ?_
    try simp only [Act.put, List.setIfInBounds_toArray, List.set_cons_zero, List.set_cons_succ]
    refine hd_sole_skip (by rfl) ?_
    try simp only [Act.put, List.setIfInBounds_toArray, List.set_cons_zero, List.set_cons_succ]
    refine hd_skip (by rfl) ?_
    try simp only [Act.put, List.setIfInBounds_toArray, List.set_cons_zero, List.set_cons_succ]
    refine hd_pure (v := ?_) (by rfl) (fun W' hS' => ?_) ?_ -- 19
    rotate_left
    · have c1 := (hS'.1.cell 1).trans (Vrp.c1 _); have c18 := (hS'.1.cell 18).trans (Vrp.c18 _); have c19 := (hS'.1.cell 19).trans (Vrp.c19 _); clear hS'; (go_simp; first | with_reducible rfl | rfl)
    try simp only [Act.put, List.setIfInBounds_toArray, List.set_cons_zero, List.set_cons_succ]
    refine hd_pure (v := ?_) (by rfl) (fun W' hS' => ?_) ?_ -- 20
    rotate_left
    · have c1 := (hS'.1.cell 1).trans (Vrp.c1 _); have c18 := (hS'.1.cell 18).trans (Vrp.c18 _); have c19 := (hS'.1.cell 19).trans (Vrp.c19 _); clear hS'; (go_simp; first | with_reducible rfl | rfl)
    try simp only [Act.put, List.setIfInBounds_toArray, List.set_cons_zero, List.set_cons_succ]
    refine hd_nil ?_
    have hb := hSW.2; clear hSW
    refine wpList_nil (NoPanic.normal ?_)
    go_wp2
    go_ret
    exact ⟨by rw [HR.out]; rfl, hb⟩
  · by_cases h2 : v.p.len ≤ v.mx
    · have HR := Lib.hid (show vrpOk v = decide (v.mx ≤ mostOf v.p.v6) by simp [vrpOk, h1, h2])
      have Hp := Lib.hid h1; clear h1
      have h2' : decide (v.p.len ≤ v.mx) = true := by simpa using h2
      go_enter Tryz.func80, Tryz.ntmps80
      go_wp2_with fail
      refine reg_sch2 21 [(true, 0), (true, 1), (false, 2), (true, 3), (true, 4), (true, 5), (true, 6), (true, 7), (true, 8), (true, 9), (true, 10), (true, 11), (true, 12), (true, 13), (true, 14), (true, 15), (true, 16), (false, 17), (true, 18), (true, 19), (true, 20)] (by kernel_rfl) (by kernel_rfl) (fun W => Blk W w.heap.size 67 v.cells ∧ Below w.heap.size w W) (fun W => Blk W w.heap.size 67 v.cells ∧ Below w.heap.size w W) ?_ ?_ ?_
      · exact ⟨(Blk.new _ _ _).drew, ((Below.refl _ _).alloc (Nat.le_refl _) _).drew⟩
      · exact fun _ h => h
      intro W hSW
      simp only [List.map_cons, List.map_nil, List.getD_cons_zero, List.getD_cons_succ, List.drop_succ_cons, List.drop_zero]
      refine hd_pure (v := ?_) (by rfl) (fun W' hS' => ?_) ?_ -- 0
      rotate_left
      · have c1 := (hS'.1.cell 1).trans (Vrp.c1 _); have c18 := (hS'.1.cell 18).trans (Vrp.c18 _); have c19 := (hS'.1.cell 19).trans (Vrp.c19 _); clear hS'; (go_simp; first | with_reducible rfl | rfl)
      try simp only [Act.put, List.setIfInBounds_toArray, List.set_cons_zero, List.set_cons_succ]
      refine hd_pure (v := .agg v.p.cells.toArray) (by rfl) (fun W' hS' => exec_load_at 65 _ (by rfl) w.heap.size 1 18 (by rfl) _ _ hS'.1.vrp_pfx (Pfx.cells_length _) Tryz.underlying65 rfl info_pfx) ?_ -- 1
      try simp only [Act.put, List.setIfInBounds_toArray, List.set_cons_zero, List.set_cons_succ]
      refine hd_sole (by rfl) (fun K hK => ?_) -- 2
      go_simp
      refine (pfxRight_any v.p _).mono ?_; rintro e w' ⟨rfl, hb⟩
      refine hK _ _ (⟨hSW.1.below hb hSW.1.lt, below_then hSW.2 (Nat.le_refl _) hb⟩) ?_
      clear hK K hSW
      intro hSW
      clear hb; rw [Hp.out]
      try simp only [Act.put, List.setIfInBounds_toArray, List.set_cons_zero, List.set_cons_succ]
      refine hd_pure (v := ?_) (by rfl) (fun W' hS' => ?_) ?_ -- 3
      rotate_left
      · have c1 := (hS'.1.cell 1).trans (Vrp.c1 _); have c18 := (hS'.1.cell 18).trans (Vrp.c18 _); have c19 := (hS'.1.cell 19).trans (Vrp.c19 _); clear hS'; (go_simp; first | with_reducible rfl | rfl)
      try simp only [Act.put, List.setIfInBounds_toArray, List.set_cons_zero, List.set_cons_succ]
      refine hd_pure (v := ?_) (by rfl) (fun W' hS' => ?_) ?_ -- 4
      rotate_left
      · have c1 := (hS'.1.cell 1).trans (Vrp.c1 _); have c18 := (hS'.1.cell 18).trans (Vrp.c18 _); have c19 := (hS'.1.cell 19).trans (Vrp.c19 _); clear hS'; (go_simp; first | with_reducible rfl | rfl)
      try simp only [Act.put, List.setIfInBounds_toArray, List.set_cons_zero, List.set_cons_succ]
      refine hd_pure (v := ?_) (by rfl) (fun W' hS' => ?_) ?_ -- 5
      rotate_left
      · have c1 := (hS'.1.cell 1).trans (Vrp.c1 _); have c18 := (hS'.1.cell 18).trans (Vrp.c18 _); have c19 := (hS'.1.cell 19).trans (Vrp.c19 _); clear hS'; (go_simp; first | with_reducible rfl | rfl)
      try simp only [Act.put, List.setIfInBounds_toArray, List.set_cons_zero, List.set_cons_succ]
      refine hd_pure (v := ?_) (by rfl) (fun W' hS' => ?_) ?_ -- 6
      rotate_left
      · have c1 := (hS'.1.cell 1).trans (Vrp.c1 _); have c18 := (hS'.1.cell 18).trans (Vrp.c18 _); have c19 := (hS'.1.cell 19).trans (Vrp.c19 _); clear hS'; (go_simp; first | with_reducible rfl | rfl)
      try simp only [Act.put, List.setIfInBounds_toArray, List.set_cons_zero, List.set_cons_succ]
      refine hd_pure (v := ?_) (by rfl) (fun W' hS' => ?_) ?_ -- 7
      rotate_left
      · have c1 := (hS'.1.cell 1).trans (Vrp.c1 _); have c18 := (hS'.1.cell 18).trans (Vrp.c18 _); have c19 := (hS'.1.cell 19).trans (Vrp.c19 _); clear hS'; (go_simp; first | with_reducible rfl | rfl)
      try simp only [Act.put, List.setIfInBounds_toArray, List.set_cons_zero, List.set_cons_succ]
      refine hd_pure (v := ?_) (by rfl) (fun W' hS' => ?_) ?_ -- 8
      rotate_left
      · have c1 := (hS'.1.cell 1).trans (Vrp.c1 _); have c18 := (hS'.1.cell 18).trans (Vrp.c18 _); have c19 := (hS'.1.cell 19).trans (Vrp.c19 _); clear hS'; (go_simp; first | with_reducible rfl | rfl)
      try simp only [Act.put, List.setIfInBounds_toArray, List.set_cons_zero, List.set_cons_succ]
      refine hd_pure (v := ?_) (by rfl) (fun W' hS' => ?_) ?_ -- 9
      rotate_left
      · have c1 := (hS'.1.cell 1).trans (Vrp.c1 _); have c18 := (hS'.1.cell 18).trans (Vrp.c18 _); have c19 := (hS'.1.cell 19).trans (Vrp.c19 _); clear hS'; (go_simp; first | with_reducible rfl | rfl)
      try simp only [Act.put, List.setIfInBounds_toArray, List.set_cons_zero, List.set_cons_succ]
      refine hd_pure (v := ?_) (by rfl) (fun W' hS' => ?_) ?_ -- 10
      rotate_left
      · have c1 := (hS'.1.cell 1).trans (Vrp.c1 _); have c18 := (hS'.1.cell 18).trans (Vrp.c18 _); have c19 := (hS'.1.cell 19).trans (Vrp.c19 _); clear hS'; (go_simp; first | with_reducible rfl | rfl)
      try simp only [Act.put, List.setIfInBounds_toArray, List.set_cons_zero, List.set_cons_succ]
      refine hd_pure (v := ?_) (by rfl) (fun W' hS' => ?_) ?_ -- 11
      rotate_left
      · have c1 := (hS'.1.cell 1).trans (Vrp.c1 _); have c18 := (hS'.1.cell 18).trans (Vrp.c18 _); have c19 := (hS'.1.cell 19).trans (Vrp.c19 _); clear hS'; (go_simp; first | with_reducible rfl | rfl)
      try simp only [Act.put, List.setIfInBounds_toArray, List.set_cons_zero, List.set_cons_succ]
      refine hd_pure (v := ?_) (by rfl) (fun W' hS' => ?_) ?_ -- 12
      rotate_left
      · have c1 := (hS'.1.cell 1).trans (Vrp.c1 _); have c18 := (hS'.1.cell 18).trans (Vrp.c18 _); have c19 := (hS'.1.cell 19).trans (Vrp.c19 _); clear hS'; (go_simp; first | with_reducible rfl | rfl)
      try simp only [Act.put, List.setIfInBounds_toArray, List.set_cons_zero, List.set_cons_succ]
      refine hd_pure (v := ?_) (by rfl) (fun W' hS' => ?_) ?_ -- 13
      rotate_left
      · have c1 := (hS'.1.cell 1).trans (Vrp.c1 _); have c18 := (hS'.1.cell 18).trans (Vrp.c18 _); have c19 := (hS'.1.cell 19).trans (Vrp.c19 _); clear hS'; (go_simp; first | with_reducible rfl | rfl)
      try simp only [Act.put, List.setIfInBounds_toArray, List.set_cons_zero, List.set_cons_succ]
      refine hd_pure (v := ?_) (by rfl) (fun W' hS' => ?_) ?_ -- 14
      rotate_left
      · have c1 := (hS'.1.cell 1).trans (Vrp.c1 _); have c18 := (hS'.1.cell 18).trans (Vrp.c18 _); have c19 := (hS'.1.cell 19).trans (Vrp.c19 _); clear hS'; (go_simp; first | with_reducible rfl | rfl)
      try simp only [Act.put, List.setIfInBounds_toArray, List.set_cons_zero, List.set_cons_succ]
      refine hd_pure (v := ?_) (by rfl) (fun W' hS' => ?_) ?_ -- 15
      rotate_left
      · have c1 := (hS'.1.cell 1).trans (Vrp.c1 _); have c18 := (hS'.1.cell 18).trans (Vrp.c18 _); have c19 := (hS'.1.cell 19).trans (Vrp.c19 _); clear hS'; (go_simp; first | with_reducible rfl | rfl)
      try simp only [Act.put, List.setIfInBounds_toArray, List.set_cons_zero, List.set_cons_succ]
      refine hd_pure (v := ?_) (by rfl) (fun W' hS' => ?_) ?_ -- 16
      rotate_left
      · have c1 := (hS'.1.cell 1).trans (Vrp.c1 _); have c18 := (hS'.1.cell 18).trans (Vrp.c18 _); have c19 := (hS'.1.cell 19).trans (Vrp.c19 _); clear hS'; (go_simp; first | with_reducible rfl | rfl)
      try simp only [Act.put, List.setIfInBounds_toArray, List.set_cons_zero, List.set_cons_succ]
      refine hd_sole (by rfl) (fun K hK => ?_) -- 17
      go_simp
      refine (roaMost_any _ _).mono ?_; rintro e w' ⟨rfl, rfl⟩
      refine hK _ _ (hSW) ?_
      clear hK K hSW
      intro hSW
      try simp only [Act.put, List.setIfInBounds_toArray, List.set_cons_zero, List.set_cons_succ]
      refine hd_pure (v := ?_) (by rfl) (fun W' hS' => ?_) ?_ -- 18
      rotate_left
      · have c1 := (hS'.1.cell 1).trans (Vrp.c1 _); have c18 := (hS'.1.cell 18).trans (Vrp.c18 _); have c19 := (hS'.1.cell 19).trans (Vrp.c19 _); clear hS'; (go_simp; first | with_reducible rfl | rfl)
      try simp only [Act.put, List.setIfInBounds_toArray, List.set_cons_zero, List.set_cons_succ]
      refine hd_pure (v := ?_) (by rfl) (fun W' hS' => ?_) ?_ -- 19
      rotate_left
      · have c1 := (hS'.1.cell 1).trans (Vrp.c1 _); have c18 := (hS'.1.cell 18).trans (Vrp.c18 _); have c19 := (hS'.1.cell 19).trans (Vrp.c19 _); clear hS'; (go_simp; first | with_reducible rfl | rfl)
      try simp only [Act.put, List.setIfInBounds_toArray, List.set_cons_zero, List.set_cons_succ]
      refine hd_pure (v := ?_) (by rfl) (fun W' hS' => ?_) ?_ -- 20
      rotate_left
      · have c1 := (hS'.1.cell 1).trans (Vrp.c1 _); have c18 := (hS'.1.cell 18).trans (Vrp.c18 _); have c19 := (hS'.1.cell 19).trans (Vrp.c19 _); clear hS'; (go_simp; first | with_reducible rfl | rfl)
      try simp only [Act.put, List.setIfInBounds_toArray, List.set_cons_zero, List.set_cons_succ]
      refine hd_nil ?_
      have hb := hSW.2; clear hSW
      refine wpList_nil (NoPanic.normal ?_)
      go_wp2
      go_ret
      exact ⟨by rw [HR.out]; rfl, hb⟩
    · have HR := Lib.hid (show vrpOk v = false by simp [vrpOk, h2])
      have Hp := Lib.hid h1; clear h1
      have h2' : decide (v.p.len ≤ v.mx) = false := by simpa using h2
      go_enter Tryz.func80, Tryz.ntmps80
      go_wp2_with fail
      refine reg_sch2 21 [(true, 0), (true, 1), (false, 2), (true, 3), (true, 4), (true, 5), (true, 6), (true, 7), (true, 8), (true, 9), (true, 10), (true, 11), (true, 12), (true, 13), (true, 14), (true, 15), (true, 16), (false, 17), (true, 18), (true, 19), (true, 20)] (by kernel_rfl) (by kernel_rfl) (fun W => Blk W w.heap.size 67 v.cells ∧ Below w.heap.size w W) (fun W => Blk W w.heap.size 67 v.cells ∧ Below w.heap.size w W) ?_ ?_ ?_
      · exact ⟨(Blk.new _ _ _).drew, ((Below.refl _ _).alloc (Nat.le_refl _) _).drew⟩
      · exact fun _ h => h
      intro W hSW
      simp only [List.map_cons, List.map_nil, List.getD_cons_zero, List.getD_cons_succ, List.drop_succ_cons, List.drop_zero]
      refine hd_pure (v := ?_) (by rfl) (fun W' hS' => ?_) ?_ -- 0
      rotate_left
      · have c1 := (hS'.1.cell 1).trans (Vrp.c1 _); have c18 := (hS'.1.cell 18).trans (Vrp.c18 _); have c19 := (hS'.1.cell 19).trans (Vrp.c19 _); clear hS'; (go_simp; first | with_reducible rfl | rfl)
      try simp only [Act.put, List.setIfInBounds_toArray, List.set_cons_zero, List.set_cons_succ]
      refine hd_pure (v := .agg v.p.cells.toArray) (by rfl) (fun W' hS' => exec_load_at 65 _ (by rfl) w.heap.size 1 18 (by rfl) _ _ hS'.1.vrp_pfx (Pfx.cells_length _) Tryz.underlying65 rfl info_pfx) ?_ -- 1
      try simp only [Act.put, List.setIfInBounds_toArray, List.set_cons_zero, List.set_cons_succ]
      refine hd_sole (by rfl) (fun K hK => ?_) -- 2
      go_simp
      refine (pfxRight_any v.p _).mono ?_; rintro e w' ⟨rfl, hb⟩
      refine hK _ _ (⟨hSW.1.below hb hSW.1.lt, below_then hSW.2 (Nat.le_refl _) hb⟩) ?_
      clear hK K hSW
      intro hSW
      clear hb; rw [Hp.out]
      try simp only [Act.put, List.setIfInBounds_toArray, List.set_cons_zero, List.set_cons_succ]
      refine hd_pure (v := ?_) (by rfl) (fun W' hS' => ?_) ?_ -- 3
      rotate_left
      · have c1 := (hS'.1.cell 1).trans (Vrp.c1 _); have c18 := (hS'.1.cell 18).trans (Vrp.c18 _); have c19 := (hS'.1.cell 19).trans (Vrp.c19 _); clear hS'; (go_simp; first | with_reducible rfl | rfl)
      try simp only [Act.put, List.setIfInBounds_toArray, List.set_cons_zero, List.set_cons_succ]
      refine hd_pure (v := ?_) (by rfl) (fun W' hS' => ?_) ?_ -- 4
      rotate_left
      · have c1 := (hS'.1.cell 1).trans (Vrp.c1 _); have c18 := (hS'.1.cell 18).trans (Vrp.c18 _); have c19 := (hS'.1.cell 19).trans (Vrp.c19 _); clear hS'; (go_simp; first | with_reducible rfl | rfl)
      try simp only [Act.put, List.setIfInBounds_toArray, List.set_cons_zero, List.set_cons_succ]
      refine hd_pure (v := ?_) (by rfl) (fun W' hS' => ?_) ?_ -- 5
      rotate_left
      · have c1 := (hS'.1.cell 1).trans (Vrp.c1 _); have c18 := (hS'.1.cell 18).trans (Vrp.c18 _); have c19 := (hS'.1.cell 19).trans (Vrp.c19 _); clear hS'; (go_simp; first | with_reducible rfl | rfl)
      try simp only [Act.put, List.setIfInBounds_toArray, List.set_cons_zero, List.set_cons_succ]
      refine hd_pure (v := ?_) (by rfl) (fun W' hS' => ?_) ?_ -- 6
      rotate_left
      · have c1 := (hS'.1.cell 1).trans (Vrp.c1 _); have c18 := (hS'.1.cell 18).trans (Vrp.c18 _); have c19 := (hS'.1.cell 19).trans (Vrp.c19 _); clear hS'; (go_simp; first | with_reducible rfl | rfl)
      try simp only [Act.put, List.setIfInBounds_toArray, List.set_cons_zero, List.set_cons_succ]
      refine hd_pure (v := ?_) (by rfl) (fun W' hS' => ?_) ?_ -- 7
      rotate_left
      · have c1 := (hS'.1.cell 1).trans (Vrp.c1 _); have c18 := (hS'.1.cell 18).trans (Vrp.c18 _); have c19 := (hS'.1.cell 19).trans (Vrp.c19 _); clear hS'; (go_simp; first | with_reducible rfl | rfl)
      try simp only [Act.put, List.setIfInBounds_toArray, List.set_cons_zero, List.set_cons_succ]
      refine hd_pure (v := ?_) (by rfl) (fun W' hS' => ?_) ?_ -- 8
      rotate_left
      · have c1 := (hS'.1.cell 1).trans (Vrp.c1 _); have c18 := (hS'.1.cell 18).trans (Vrp.c18 _); have c19 := (hS'.1.cell 19).trans (Vrp.c19 _); clear hS'; (go_simp; first | with_reducible rfl | rfl)
      try simp only [Act.put, List.setIfInBounds_toArray, List.set_cons_zero, List.set_cons_succ]
      refine hd_pure (v := ?_) (by rfl) (fun W' hS' => ?_) ?_ -- 9
      rotate_left
      · have c1 := (hS'.1.cell 1).trans (Vrp.c1 _); have c18 := (hS'.1.cell 18).trans (Vrp.c18 _); have c19 := (hS'.1.cell 19).trans (Vrp.c19 _); clear hS'; (go_simp; first | with_reducible rfl | rfl)
      try simp only [Act.put, List.setIfInBounds_toArray, List.set_cons_zero, List.set_cons_succ]
      refine hd_pure (v := ?_) (by rfl) (fun W' hS' => ?_) ?_ -- 10
      rotate_left
      · have c1 := (hS'.1.cell 1).trans (Vrp.c1 _); have c18 := (hS'.1.cell 18).trans (Vrp.c18 _); have c19 := (hS'.1.cell 19).trans (Vrp.c19 _); clear hS'; (go_simp; first | with_reducible rfl | rfl)
      try simp only [Act.put, List.setIfInBounds_toArray, List.set_cons_zero, List.set_cons_succ]
      refine hd_pure (v := ?_) (by rfl) (fun W' hS' => ?_) ?_ -- 11
      rotate_left
      · have c1 := (hS'.1.cell 1).trans (Vrp.c1 _); have c18 := (hS'.1.cell 18).trans (Vrp.c18 _); have c19 := (hS'.1.cell 19).trans (Vrp.c19 _); clear hS'; (go_simp; first | with_reducible rfl | rfl)
      try simp only [Act.put, List.setIfInBounds_toArray, List.set_cons_zero, List.set_cons_succ]
      refine hd_skip (by rfl) ?_
      try simp only [Act.put, List.setIfInBounds_toArray, List.set_cons_zero, List.set_cons_succ]
      refine hd_skip (by rfl) ?_
      try simp only [Act.put, List.setIfInBounds_toArray, List.set_cons_zero, List.set_cons_succ]
      refine hd_skip (by rfl) ?_
      try simp only [Act.put, List.setIfInBounds_toArray, List.set_cons_zero, List.set_cons_succ]
      refine hd_skip (by rfl) ?_
      try simp only [Act.put, List.setIfInBounds_toArray, List.set_cons_zero, List.set_cons_succ]
      refine hd_skip (by rfl) ?_
      try simp only [Act.put, List.setIfInBounds_toArray, List.set_cons_zero, List.set_cons_succ]
      refine hd_sole_skip (by rfl) ?_
      try simp only [Act.put, List.setIfInBounds_toArray, List.set_cons_zero, List.set_cons_succ]
      refine hd_skip (by rfl) ?_
      try simp only [Act.put, List.setIfInBounds_toArray, List.set_cons_zero, List.set_cons_succ]
      refine hd_pure (v := ?_) (by rfl) (fun W' hS' => ?_) ?_ -- 19
      rotate_left
      · have c1 := (hS'.1.cell 1).trans (Vrp.c1 _); have c18 := (hS'.1.cell 18).trans (Vrp.c18 _); have c19 := (hS'.1.cell 19).trans (Vrp.c19 _); clear hS'; (go_simp; first | with_reducible rfl | rfl)
      try simp only [Act.put, List.setIfInBounds_toArray, List.set_cons_zero, List.set_cons_succ]
      refine hd_pure (v := ?_) (by rfl) (fun W' hS' => ?_) ?_ -- 20
      rotate_left
      · have c1 := (hS'.1.cell 1).trans (Vrp.c1 _); have c18 := (hS'.1.cell 18).trans (Vrp.c18 _); have c19 := (hS'.1.cell 19).trans (Vrp.c19 _); clear hS'; (go_simp; first | with_reducible rfl | rfl)
      try simp only [Act.put, List.setIfInBounds_toArray, List.set_cons_zero, List.set_cons_succ]
      refine hd_nil ?_
      have hb := hSW.2; clear hSW
      refine wpList_nil (NoPanic.normal ?_)
      go_wp2
      go_ret
      exact ⟨by rw [HR.out]; rfl, hb⟩
end Go.Proofs.YtmoldmnhijcckaaGreat
