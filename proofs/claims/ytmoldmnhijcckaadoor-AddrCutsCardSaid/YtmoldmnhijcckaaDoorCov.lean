/- The contract of addr.Covers. -/
import Derived.Test.YtmoldmnhijcckaaDoorCmp
import Derived.Test.YtmoldmnhijcckaaDoorReg3
set_option linter.unusedVariables false
set_option linter.unusedSectionVars false
set_option linter.unusedSimpArgs false
namespace Go.Proofs.YtmoldmnhijcckaaDoor
open Go.RowKit
theorem PQ.len {w W : World} {p q : Pfx} (h : PQ w p q W) (m : Int) : PQ w p ⟨q.v6, q.a, m⟩ (W.setCell ⟨w.heap.size + 1, 17, none⟩ (.int .i64 m)) :=
  ⟨h.b1.far (by simp) _, by rw [← Pfx.set_17 q.v6 q.a q.len m]; exact h.b2.set_ _ _, h.lo.setCell (by simp) _⟩
set_option maxRecDepth 100000 in
set_option maxHeartbeats 1000000 in
theorem covers_no1 (p q : Pfx) (hp : pfxOk p = false) (w : World) : Calls Tryd.prog 36 #[p.val, q.val] w fun e w' => e = .returned (.bool (coversOf p q)) ∧ Below w.heap.size w w' := by
  have HC := Lib.hid (show coversOf p q = false by simp [coversOf, hp])
  have HP := Lib.hid hp
  clear hp
  simp only [Pfx.val]
  have hP := PQ.new w p q
  go_enter Tryd.func36, Tryd.ntmps36
  go_wp2_with (first | (go_at_call 33; go_must (refine (pfxRight_any p _).mono ?_; rintro e w3 ⟨rfl, hb⟩; rw [HP.out]; replace hP := hP.next hb; clear hb)) | (refine wpList_load_g (by rfl) 50 _ rfl w.heap.size 0 18 rfl _ _ hP.b1.range (Pfx.cells_length _) Tryd.underlying50 rfl info_pfx ?_))
  go_ret
  exact ⟨by rw [HC.out]; rfl, hP.lo⟩
set_option maxRecDepth 100000 in
set_option maxHeartbeats 1000000 in
theorem covers_no2 (p q : Pfx) (hp : pfxOk p = true) (hq : pfxOk q = false) (w : World) : Calls Tryd.prog 36 #[p.val, q.val] w fun e w' => e = .returned (.bool (coversOf p q)) ∧ Below w.heap.size w w' := by
  have HC := Lib.hid (show coversOf p q = false by simp [coversOf, hq])
  have HP := Lib.hid hp
  have HQ := Lib.hid hq
  clear hp hq
  simp only [Pfx.val]
  have hP := PQ.new w p q
  go_enter Tryd.func36, Tryd.ntmps36
  go_upto_region 2 with (first | (go_at_call 33; go_must (first | (refine (pfxRight_any p _).mono ?_; rintro e w3 ⟨rfl, hb⟩; rw [HP.out]; replace hP := hP.next hb; clear hb) | (refine (pfxRight_any q _).mono ?_; rintro e w4 ⟨rfl, hb⟩; rw [HQ.out]; replace hP := hP.next hb; clear hb; have c0 := (hP.b1.cell 0).trans (Pfx.c0 _); have k0 := (hP.b2.cell 0).trans (Pfx.c0 _); have c17 := (hP.b1.cell 17).trans (Pfx.c17 _); have k17 := (hP.b2.cell 17).trans (Pfx.c17 _); have f17 := hP.b2.frozen 17; skip))) | (refine wpList_load_g (by rfl) 50 _ rfl w.heap.size 0 18 rfl _ _ hP.b1.range (Pfx.cells_length _) Tryd.underlying50 rfl info_pfx ?_) | (refine wpList_load_g (by rfl) 50 _ rfl (w.heap.size + 1) 0 18 rfl _ _ hP.b2.range (Pfx.cells_length _) Tryd.underlying50 rfl info_pfx ?_))
  go_wp2
  go_ret
  exact ⟨by rw [HC.out]; rfl, hP.lo⟩
set_option maxRecDepth 100000 in
set_option maxHeartbeats 1000000 in
theorem covers_no3false (p q : Pfx) (hp : pfxOk p = true) (hq : pfxOk q = true) (h1 : p.v6 = false) (h2 : q.v6 = true) (w : World) : Calls Tryd.prog 36 #[p.val, q.val] w fun e w' => e = .returned (.bool (coversOf p q)) ∧ Below w.heap.size w w' := by
  have HC := Lib.hid (show coversOf p q = false by simp [coversOf, h1, h2])
  have HP := Lib.hid hp
  have HQ := Lib.hid hq
  have H1 := Lib.hid h1
  have H2 := Lib.hid h2
  clear hp hq h1 h2
  simp only [Pfx.val]
  have hP := PQ.new w p q
  go_enter Tryd.func36, Tryd.ntmps36
  go_upto_region 2 with (first | (go_at_call 33; go_must (first | (refine (pfxRight_any p _).mono ?_; rintro e w3 ⟨rfl, hb⟩; rw [HP.out]; replace hP := hP.next hb; clear hb) | (refine (pfxRight_any q _).mono ?_; rintro e w4 ⟨rfl, hb⟩; rw [HQ.out]; replace hP := hP.next hb; clear hb; have c0 := (hP.b1.cell 0).trans (Pfx.c0 _); have k0 := (hP.b2.cell 0).trans (Pfx.c0 _); have c17 := (hP.b1.cell 17).trans (Pfx.c17 _); have k17 := (hP.b2.cell 17).trans (Pfx.c17 _); have f17 := hP.b2.frozen 17; rw [H1.out] at c0; rw [H2.out] at k0))) | (refine wpList_load_g (by rfl) 50 _ rfl w.heap.size 0 18 rfl _ _ hP.b1.range (Pfx.cells_length _) Tryd.underlying50 rfl info_pfx ?_) | (refine wpList_load_g (by rfl) 50 _ rfl (w.heap.size + 1) 0 18 rfl _ _ hP.b2.range (Pfx.cells_length _) Tryd.underlying50 rfl info_pfx ?_))
  go_wp2
  go_ret
  exact ⟨by rw [HC.out]; rfl, hP.lo⟩
set_option maxRecDepth 100000 in
set_option maxHeartbeats 1000000 in
theorem covers_no3true (p q : Pfx) (hp : pfxOk p = true) (hq : pfxOk q = true) (h1 : p.v6 = true) (h2 : q.v6 = false) (w : World) : Calls Tryd.prog 36 #[p.val, q.val] w fun e w' => e = .returned (.bool (coversOf p q)) ∧ Below w.heap.size w w' := by
  have HC := Lib.hid (show coversOf p q = false by simp [coversOf, h1, h2])
  have HP := Lib.hid hp
  have HQ := Lib.hid hq
  have H1 := Lib.hid h1
  have H2 := Lib.hid h2
  clear hp hq h1 h2
  simp only [Pfx.val]
  have hP := PQ.new w p q
  go_enter Tryd.func36, Tryd.ntmps36
  go_upto_region 2 with (first | (go_at_call 33; go_must (first | (refine (pfxRight_any p _).mono ?_; rintro e w3 ⟨rfl, hb⟩; rw [HP.out]; replace hP := hP.next hb; clear hb) | (refine (pfxRight_any q _).mono ?_; rintro e w4 ⟨rfl, hb⟩; rw [HQ.out]; replace hP := hP.next hb; clear hb; have c0 := (hP.b1.cell 0).trans (Pfx.c0 _); have k0 := (hP.b2.cell 0).trans (Pfx.c0 _); have c17 := (hP.b1.cell 17).trans (Pfx.c17 _); have k17 := (hP.b2.cell 17).trans (Pfx.c17 _); have f17 := hP.b2.frozen 17; rw [H1.out] at c0; rw [H2.out] at k0))) | (refine wpList_load_g (by rfl) 50 _ rfl w.heap.size 0 18 rfl _ _ hP.b1.range (Pfx.cells_length _) Tryd.underlying50 rfl info_pfx ?_) | (refine wpList_load_g (by rfl) 50 _ rfl (w.heap.size + 1) 0 18 rfl _ _ hP.b2.range (Pfx.cells_length _) Tryd.underlying50 rfl info_pfx ?_))
  go_wp2
  go_ret
  exact ⟨by rw [HC.out]; rfl, hP.lo⟩
set_option maxRecDepth 100000 in
set_option maxHeartbeats 1000000 in
theorem covers_no4false (p q : Pfx) (hp : pfxOk p = true) (hq : pfxOk q = true) (h1 : p.v6 = false) (h2 : q.v6 = false) (hl : ¬ p.len ≤ q.len) (w : World) : Calls Tryd.prog 36 #[p.val, q.val] w fun e w' => e = .returned (.bool (coversOf p q)) ∧ Below w.heap.size w w' := by
  have HC := Lib.hid (show coversOf p q = false by simp [coversOf, hl])
  have HP := Lib.hid hp
  have HQ := Lib.hid hq
  have H1 := Lib.hid h1
  have H2 := Lib.hid h2
  have dl := decide_eq_true (show q.len < p.len by omega)
  clear hp hq h1 h2 hl
  simp only [Pfx.val]
  have hP := PQ.new w p q
  go_enter Tryd.func36, Tryd.ntmps36
  go_upto_region 2 with (first | (go_at_call 33; go_must (first | (refine (pfxRight_any p _).mono ?_; rintro e w3 ⟨rfl, hb⟩; rw [HP.out]; replace hP := hP.next hb; clear hb) | (refine (pfxRight_any q _).mono ?_; rintro e w4 ⟨rfl, hb⟩; rw [HQ.out]; replace hP := hP.next hb; clear hb; have c0 := (hP.b1.cell 0).trans (Pfx.c0 _); have k0 := (hP.b2.cell 0).trans (Pfx.c0 _); have c17 := (hP.b1.cell 17).trans (Pfx.c17 _); have k17 := (hP.b2.cell 17).trans (Pfx.c17 _); have f17 := hP.b2.frozen 17; rw [H1.out] at c0; rw [H2.out] at k0))) | (refine wpList_load_g (by rfl) 50 _ rfl w.heap.size 0 18 rfl _ _ hP.b1.range (Pfx.cells_length _) Tryd.underlying50 rfl info_pfx ?_) | (refine wpList_load_g (by rfl) 50 _ rfl (w.heap.size + 1) 0 18 rfl _ _ hP.b2.range (Pfx.cells_length _) Tryd.underlying50 rfl info_pfx ?_))
  go_wp2
  go_ret
  exact ⟨by rw [HC.out]; rfl, hP.lo⟩
set_option maxRecDepth 100000 in
set_option maxHeartbeats 2000000 in
theorem covers_yesfalse (p q : Pfx) (hp : pfxOk p = true) (hq : pfxOk q = true) (h1 : p.v6 = false) (h2 : q.v6 = false) (hl : p.len ≤ q.len) (w : World) : Calls Tryd.prog 36 #[p.val, q.val] w fun e w' => e = .returned (.bool (coversOf p q)) ∧ Below w.heap.size w w' := by
  have HC := Lib.hid (show coversOf p q = decide (cutOf ⟨q.v6, q.a, p.len⟩ = p) by simp [coversOf, hl, hp, hq, h1, h2])
  have HP := Lib.hid hp
  have HQ := Lib.hid hq
  have H1 := Lib.hid h1
  have H2 := Lib.hid h2
  have dl := decide_eq_false (show ¬ q.len < p.len by omega)
  have he := eq_pfx (cutOf ⟨q.v6, q.a, p.len⟩) p
  clear hp hq h1 h2 hl
  simp only [Pfx.val]
  have hP := PQ.new w p q
  go_enter Tryd.func36, Tryd.ntmps36
  go_upto_region 2 with (first | (go_at_call 33; go_must (first | (refine (pfxRight_any p _).mono ?_; rintro e w3 ⟨rfl, hb⟩; rw [HP.out]; replace hP := hP.next hb; clear hb) | (refine (pfxRight_any q _).mono ?_; rintro e w4 ⟨rfl, hb⟩; rw [HQ.out]; replace hP := hP.next hb; clear hb; have c0 := (hP.b1.cell 0).trans (Pfx.c0 _); have k0 := (hP.b2.cell 0).trans (Pfx.c0 _); have c17 := (hP.b1.cell 17).trans (Pfx.c17 _); have k17 := (hP.b2.cell 17).trans (Pfx.c17 _); have f17 := hP.b2.frozen 17; rw [H1.out] at c0; rw [H2.out] at k0))) | (refine wpList_load_g (by rfl) 50 _ rfl w.heap.size 0 18 rfl _ _ hP.b1.range (Pfx.cells_length _) Tryd.underlying50 rfl info_pfx ?_) | (refine wpList_load_g (by rfl) 50 _ rfl (w.heap.size + 1) 0 18 rfl _ _ hP.b2.range (Pfx.cells_length _) Tryd.underlying50 rfl info_pfx ?_))
  have hP2 := PQ.len hP p.len
  clear hP c0 k0 c17 k17 f17
  refine wp_gen (PQ w p ⟨q.v6, q.a, p.len⟩) hP2 ?_
  clear hP2
  intro W0 hP
  refine reg_sch2 5 [(true, 0), (true, 2), (false, 1), (true, 3), (true, 4)] (by kernel_rfl) (by kernel_rfl) (PQ w p ⟨q.v6, q.a, p.len⟩) (PQ w p ⟨q.v6, q.a, p.len⟩) ?_ ?_ ?_
  · exact hP.drew
  · exact fun _ h => h
  intro W hSW
  simp only [List.map_cons, List.map_nil, List.getD_cons_zero, List.getD_cons_succ, List.drop_succ_cons, List.drop_zero]
  refine hd_pure (v := .agg (Pfx.cells ⟨q.v6, q.a, p.len⟩).toArray) (by rfl) (fun W' hS' => exec_load_at 50 _ (by rfl) (w.heap.size + 1) 0 18 (by rfl) _ _ hS'.b2.range (Pfx.cells_length _) Tryd.underlying50 rfl info_pfx) ?_ -- 0
  try simp only [Act.put, List.setIfInBounds_toArray, List.set_cons_zero, List.set_cons_succ]
  refine hd_pure (v := .agg p.cells.toArray) (by rfl) (fun W' hS' => exec_load_at 50 _ (by rfl) w.heap.size 0 18 (by rfl) _ _ hS'.b1.range (Pfx.cells_length _) Tryd.underlying50 rfl info_pfx) ?_ -- 2
  try simp only [Act.put, List.setIfInBounds_toArray, List.set_cons_zero, List.set_cons_succ]
  refine hd_sole (by rfl) (fun K hK => ?_) -- 1
  go_simp
  refine (cut_any ⟨q.v6, q.a, p.len⟩ _).mono ?_; rintro e w' ⟨rfl, hb⟩
  refine hK _ _ (hSW.next hb) ?_
  clear hK K hSW
  intro hSW
  clear hb; simp only [Pfx.val]
  try simp only [Act.put, List.setIfInBounds_toArray, List.set_cons_zero, List.set_cons_succ]
  refine hd_pure (v := ?_) (by rfl) (fun W' hS' => ?_) ?_ -- 3
  rotate_left
  · (go_simp; first | with_reducible rfl | rfl)
  try simp only [Act.put, List.setIfInBounds_toArray, List.set_cons_zero, List.set_cons_succ]
  refine hd_pure (v := ?_) (by rfl) (fun W' hS' => ?_) ?_ -- 4
  rotate_left
  · (go_simp; first | with_reducible rfl | rfl)
  try simp only [Act.put, List.setIfInBounds_toArray, List.set_cons_zero, List.set_cons_succ]
  refine hd_nil ?_
  have hb := hSW.lo; clear hSW
  refine wpList_nil (NoPanic.normal ?_)
  go_wp2
  go_ret
  exact ⟨by rw [HC.out]; rfl, hb⟩
set_option maxRecDepth 100000 in
set_option maxHeartbeats 1000000 in
theorem covers_no4true (p q : Pfx) (hp : pfxOk p = true) (hq : pfxOk q = true) (h1 : p.v6 = true) (h2 : q.v6 = true) (hl : ¬ p.len ≤ q.len) (w : World) : Calls Tryd.prog 36 #[p.val, q.val] w fun e w' => e = .returned (.bool (coversOf p q)) ∧ Below w.heap.size w w' := by
  have HC := Lib.hid (show coversOf p q = false by simp [coversOf, hl])
  have HP := Lib.hid hp
  have HQ := Lib.hid hq
  have H1 := Lib.hid h1
  have H2 := Lib.hid h2
  have dl := decide_eq_true (show q.len < p.len by omega)
  clear hp hq h1 h2 hl
  simp only [Pfx.val]
  have hP := PQ.new w p q
  go_enter Tryd.func36, Tryd.ntmps36
  go_upto_region 2 with (first | (go_at_call 33; go_must (first | (refine (pfxRight_any p _).mono ?_; rintro e w3 ⟨rfl, hb⟩; rw [HP.out]; replace hP := hP.next hb; clear hb) | (refine (pfxRight_any q _).mono ?_; rintro e w4 ⟨rfl, hb⟩; rw [HQ.out]; replace hP := hP.next hb; clear hb; have c0 := (hP.b1.cell 0).trans (Pfx.c0 _); have k0 := (hP.b2.cell 0).trans (Pfx.c0 _); have c17 := (hP.b1.cell 17).trans (Pfx.c17 _); have k17 := (hP.b2.cell 17).trans (Pfx.c17 _); have f17 := hP.b2.frozen 17; rw [H1.out] at c0; rw [H2.out] at k0))) | (refine wpList_load_g (by rfl) 50 _ rfl w.heap.size 0 18 rfl _ _ hP.b1.range (Pfx.cells_length _) Tryd.underlying50 rfl info_pfx ?_) | (refine wpList_load_g (by rfl) 50 _ rfl (w.heap.size + 1) 0 18 rfl _ _ hP.b2.range (Pfx.cells_length _) Tryd.underlying50 rfl info_pfx ?_))
  go_wp2
  go_ret
  exact ⟨by rw [HC.out]; rfl, hP.lo⟩
set_option maxRecDepth 100000 in
set_option maxHeartbeats 2000000 in
theorem covers_yestrue (p q : Pfx) (hp : pfxOk p = true) (hq : pfxOk q = true) (h1 : p.v6 = true) (h2 : q.v6 = true) (hl : p.len ≤ q.len) (w : World) : Calls Tryd.prog 36 #[p.val, q.val] w fun e w' => e = .returned (.bool (coversOf p q)) ∧ Below w.heap.size w w' := by
  have HC := Lib.hid (show coversOf p q = decide (cutOf ⟨q.v6, q.a, p.len⟩ = p) by simp [coversOf, hl, hp, hq, h1, h2])
  have HP := Lib.hid hp
  have HQ := Lib.hid hq
  have H1 := Lib.hid h1
  have H2 := Lib.hid h2
  have dl := decide_eq_false (show ¬ q.len < p.len by omega)
  have he := eq_pfx (cutOf ⟨q.v6, q.a, p.len⟩) p
  clear hp hq h1 h2 hl
  simp only [Pfx.val]
  have hP := PQ.new w p q
  go_enter Tryd.func36, Tryd.ntmps36
  go_upto_region 2 with (first | (go_at_call 33; go_must (first | (refine (pfxRight_any p _).mono ?_; rintro e w3 ⟨rfl, hb⟩; rw [HP.out]; replace hP := hP.next hb; clear hb) | (refine (pfxRight_any q _).mono ?_; rintro e w4 ⟨rfl, hb⟩; rw [HQ.out]; replace hP := hP.next hb; clear hb; have c0 := (hP.b1.cell 0).trans (Pfx.c0 _); have k0 := (hP.b2.cell 0).trans (Pfx.c0 _); have c17 := (hP.b1.cell 17).trans (Pfx.c17 _); have k17 := (hP.b2.cell 17).trans (Pfx.c17 _); have f17 := hP.b2.frozen 17; rw [H1.out] at c0; rw [H2.out] at k0))) | (refine wpList_load_g (by rfl) 50 _ rfl w.heap.size 0 18 rfl _ _ hP.b1.range (Pfx.cells_length _) Tryd.underlying50 rfl info_pfx ?_) | (refine wpList_load_g (by rfl) 50 _ rfl (w.heap.size + 1) 0 18 rfl _ _ hP.b2.range (Pfx.cells_length _) Tryd.underlying50 rfl info_pfx ?_))
  have hP2 := PQ.len hP p.len
  clear hP c0 k0 c17 k17 f17
  refine wp_gen (PQ w p ⟨q.v6, q.a, p.len⟩) hP2 ?_
  clear hP2
  intro W0 hP
  refine reg_sch2 5 [(true, 0), (true, 2), (false, 1), (true, 3), (true, 4)] (by kernel_rfl) (by kernel_rfl) (PQ w p ⟨q.v6, q.a, p.len⟩) (PQ w p ⟨q.v6, q.a, p.len⟩) ?_ ?_ ?_
  · exact hP.drew
  · exact fun _ h => h
  intro W hSW
  simp only [List.map_cons, List.map_nil, List.getD_cons_zero, List.getD_cons_succ, List.drop_succ_cons, List.drop_zero]
  refine hd_pure (v := .agg (Pfx.cells ⟨q.v6, q.a, p.len⟩).toArray) (by rfl) (fun W' hS' => exec_load_at 50 _ (by rfl) (w.heap.size + 1) 0 18 (by rfl) _ _ hS'.b2.range (Pfx.cells_length _) Tryd.underlying50 rfl info_pfx) ?_ -- 0
  try simp only [Act.put, List.setIfInBounds_toArray, List.set_cons_zero, List.set_cons_succ]
  refine hd_pure (v := .agg p.cells.toArray) (by rfl) (fun W' hS' => exec_load_at 50 _ (by rfl) w.heap.size 0 18 (by rfl) _ _ hS'.b1.range (Pfx.cells_length _) Tryd.underlying50 rfl info_pfx) ?_ -- 2
  try simp only [Act.put, List.setIfInBounds_toArray, List.set_cons_zero, List.set_cons_succ]
  refine hd_sole (by rfl) (fun K hK => ?_) -- 1
  go_simp
  refine (cut_any ⟨q.v6, q.a, p.len⟩ _).mono ?_; rintro e w' ⟨rfl, hb⟩
  refine hK _ _ (hSW.next hb) ?_
  clear hK K hSW
  intro hSW
  clear hb; simp only [Pfx.val]
  try simp only [Act.put, List.setIfInBounds_toArray, List.set_cons_zero, List.set_cons_succ]
  refine hd_pure (v := ?_) (by rfl) (fun W' hS' => ?_) ?_ -- 3
  rotate_left
  · (go_simp; first | with_reducible rfl | rfl)
  try simp only [Act.put, List.setIfInBounds_toArray, List.set_cons_zero, List.set_cons_succ]
  refine hd_pure (v := ?_) (by rfl) (fun W' hS' => ?_) ?_ -- 4
  rotate_left
  · (go_simp; first | with_reducible rfl | rfl)
  try simp only [Act.put, List.setIfInBounds_toArray, List.set_cons_zero, List.set_cons_succ]
  refine hd_nil ?_
  have hb := hSW.lo; clear hSW
  refine wpList_nil (NoPanic.normal ?_)
  go_wp2
  go_ret
  exact ⟨by rw [HC.out]; rfl, hb⟩
theorem covers_any (p q : Pfx) (w : World) : Calls Tryd.prog 36 #[p.val, q.val] w fun e w' => e = .returned (.bool (coversOf p q)) ∧ Below w.heap.size w w' := by
  cases hp : pfxOk p
  · exact covers_no1 p q hp w
  · cases hq : pfxOk q
    · exact covers_no2 p q hp hq w
    · cases h1 : p.v6 <;> cases h2 : q.v6
      · by_cases hl : p.len ≤ q.len
        · exact covers_yesfalse p q hp hq h1 h2 hl w
        · exact covers_no4false p q hp hq h1 h2 hl w
      · exact covers_no3false p q hp hq h1 h2 w
      · exact covers_no3true p q hp hq h1 h2 w
      · by_cases hl : p.len ≤ q.len
        · exact covers_yestrue p q hp hq h1 h2 hl w
        · exact covers_no4true p q hp hq h1 h2 hl w
end Go.Proofs.YtmoldmnhijcckaaDoor
