/- The walk of lanyardlaw10.AddrCuts: it returns true. -/
import Derived.Test.YtmoldmnhijcckaaDoorAwk
import Derived.Test.YtmoldmnhijcckaaDoorRefB
set_option linter.unusedVariables false
set_option linter.unusedSectionVars false
set_option linter.unusedSimpArgs false
namespace Go.Proofs.YtmoldmnhijcckaaDoor
open Go.RowKit
structure C1 (w : World) (p : Pfx) (g : Nat) (c : Pfx) (W : World) : Prop where
  b1 : Blk W w.heap.size 50 p.cells
  bc : Blk W g 50 c.cells
  lo : Below w.heap.size w W
  h1 : w.heap.size < g
structure C2 (w : World) (p : Pfx) (g : Nat) (c : Pfx) (k : Nat) (s : Pfx) (W : World) : Prop where
  b1 : Blk W w.heap.size 50 p.cells
  bc : Blk W g 50 c.cells
  bs : Blk W k 50 s.cells
  lo : Below w.heap.size w W
  h1 : w.heap.size < g
  h2 : g < k
theorem RB.new (w : World) (p : Pfx) : RB w p (w.alloc (.cells p.cells.toArray 50)) := ⟨Blk.new _ _ _, (Below.refl _ _).alloc (Nat.le_refl _) _⟩
theorem C1.new {w W : World} {p : Pfx} (h : RB w p W) (c : Pfx) : C1 w p W.heap.size c ((W.alloc (.cells zPfx.toArray 50)).setCells W.heap.size 0 c.cells) :=
  ⟨Blk.setCells_far (Nat.ne_of_lt h.b.lt) _ _ (h.b.alloc _), (Blk.new _ _ _).setCells_all (by rw [Pfx.cells_length]; rfl), Below.setCells (Nat.le_of_lt h.b.lt) _ _ (h.lo.alloc (Nat.le_of_lt h.b.lt) _), h.b.lt⟩
theorem C1.next {w W W' : World} {p c : Pfx} {g : Nat} (h : C1 w p g c W) (hb : Below W.heap.size W W') : C1 w p g c W' := ⟨h.b1.below hb h.b1.lt, h.bc.below hb h.bc.lt, below_then h.lo (Nat.le_refl _) hb, h.h1⟩
theorem C2.new {w W : World} {p c : Pfx} {g : Nat} (h : C1 w p g c W) (s : Pfx) : C2 w p g c W.heap.size s ((W.alloc (.cells zPfx.toArray 50)).setCells W.heap.size 0 s.cells) :=
  ⟨Blk.setCells_far (Nat.ne_of_lt h.b1.lt) _ _ (h.b1.alloc _), Blk.setCells_far (Nat.ne_of_lt h.bc.lt) _ _ (h.bc.alloc _), (Blk.new _ _ _).setCells_all (by rw [Pfx.cells_length]; rfl), Below.setCells (Nat.le_of_lt h.b1.lt) _ _ (h.lo.alloc (Nat.le_of_lt h.b1.lt) _), h.h1, h.bc.lt⟩
theorem C2.len {w W : World} {p c s : Pfx} {g k : Nat} (h : C2 w p g c k s W) (n : Int) : C2 w p g c k ⟨s.v6, s.a, n⟩ (W.setCell ⟨k, 17, none⟩ (.int .i64 n)) := by
  have e1 := h.h1
  have e2 := h.h2
  exact ⟨h.b1.far (by show _ ≠ k; omega) _, h.bc.far (by show _ ≠ k; omega) _, by rw [← Pfx.set_17 s.v6 s.a s.len n]; exact h.bs.set_ _ _, h.lo.setCell (by show _ ≤ k; omega) _, e1, e2⟩
theorem C2.next {w W W' : World} {p c s : Pfx} {g k : Nat} (h : C2 w p g c k s W) (hb : Below W.heap.size W W') : C2 w p g c k s W' := ⟨h.b1.below hb h.b1.lt, h.bc.below hb h.bc.lt, h.bs.below hb h.bs.lt, below_then h.lo (Nat.le_refl _) hb, h.h1, h.h2⟩
theorem C2.drew {w W : World} {p c s : Pfx} {g k : Nat} (h : C2 w p g c k s W) : C2 w p g c k s W.drew := ⟨h.b1.drew, h.bc.drew, h.bs.drew, h.lo.drew, h.h1, h.h2⟩
theorem C2.fst {w W : World} {p c s : Pfx} {g k : Nat} (h : C2 w p g c k s W) : C1 w p g c W := ⟨h.b1, h.bc, h.lo, h.h1⟩
set_option maxRecDepth 100000 in
set_option maxHeartbeats 4000000 in
theorem cts_truetrue (p c d : Pfx) (n : Int) (hc : cutOf p = c) (hd : cutOf ⟨c.v6, c.a, n⟩ = d) (hg : decide (c.len < d.len) = true) (hr : pfxOk p = true) (m : Int) (w : World) (h0 : 0 < w.heap.size) (hm : w.cell? ⟨0, 0, none⟩ = some (.int .i64 m)) :
    Calls Tryd.prog 9 #[p.val, .int .i64 n] w fun e w' => e = .returned (.bool true) ∧ Below w.heap.size w w' := by
  have HC := Lib.hid hc
  have HD := Lib.hid hd
  have HR := Lib.hid hr
  have H1 := Lib.hid (show pfxOk c = true by rw [← hc]; exact ok_cut p)
  have H2 := Lib.hid (show pfxOk d = true by rw [← hd]; exact ok_cut _)
  have H3 := Lib.hid (show true = false → coversOf d c = true from fun e => by
    have e2 : ¬ c.len < d.len := of_decide_eq_false (hg.trans e)
    have := cuts_law p n
    simp only [hc, hd] at this
    exact this (by omega))
  have H4 := Lib.hid (show true = true → decide (c = p) = true from fun e => decide_eq_true (by rw [← hc]; exact ok_eq (hr.trans e)))
  have he1 := eq_pfx (cutOf c) c
  rw [decide_eq_true (show cutOf c = c by rw [← hc]; exact cut_cut p)] at he1
  have he2 := eq_pfx c p
  generalize hdd : decide (c = p) = e2 at he2 H4
  have hP := RB.new w p
  have hm2 := (hP.lo.cell (p := ⟨0, 0, none⟩) h0).trans hm
  have h02 := Nat.lt_of_lt_of_le h0 hP.lo.size
  clear hc hd hr hm h0 hdd
  simp only [Pfx.val]
  go_enter Tryd.func9, Tryd.ntmps9
  go_wp2_with fail
  refine (awake_any m _ h02 hm2).mono ?_
  rintro e w1 ⟨rfl, hb⟩
  replace hP := hP.next hb
  clear hb hm2 h02
  go_wp2_with (first | (refine wpList_load_at rfl 50 _ rfl w.heap.size 0 18 rfl _ _ hP.b.range (Pfx.cells_length _) Tryd.underlying50 rfl info_pfx ?_))
  refine (cut_any p _).mono ?_
  rintro e w2 ⟨rfl, hb⟩
  replace hP := hP.next hb
  clear hb
  rw [HC.out]
  simp only [Pfx.val]
  go_upto_region 3 with (first | (refine wpList_store_at rfl 50 _ _ rfl w2.heap.size 0 18 50 _ zPfx rfl rfl (Blk.new _ _ _) (Pfx.cells_length _) (by decide) info_pfx (Pfx.one _) ?_))
  refine wp_gen (C1 w p w2.heap.size c) (C1.new hP c) ?_
  clear hP
  intro w3 hP
  go_upto_region 4 with (first | (refine wpList_load_at rfl 50 _ rfl w2.heap.size 0 18 rfl _ _ hP.bc.range (Pfx.cells_length _) Tryd.underlying50 rfl info_pfx ?_) | (refine wpList_store_at rfl 50 _ _ rfl w3.heap.size 0 18 50 _ zPfx rfl rfl (Blk.new _ _ _) (Pfx.cells_length _) (by decide) info_pfx (Pfx.one _) ?_))
  refine wp_gen (C2 w p w2.heap.size c w3.heap.size c) (C2.new hP c) ?_
  clear hP
  intro w4 hP
  have f17 := hP.bs.frozen 17
  have s17 := (hP.bs.cell 17).trans (Pfx.c17 _)
  go_upto_region 5 with fail
  refine wp_gen (C2 w p w2.heap.size c w3.heap.size ⟨c.v6, c.a, n⟩) (C2.len hP n) ?_
  clear hP f17 s17
  intro w5 hP
  go_wp2_with (first | (refine wpList_load_at rfl 50 _ rfl w3.heap.size 0 18 rfl _ _ hP.bs.range (Pfx.cells_length _) Tryd.underlying50 rfl info_pfx ?_))
  refine (cut_any ⟨c.v6, c.a, n⟩ _).mono ?_
  rintro e w6 ⟨rfl, hb⟩
  replace hP := (hP.next hb).fst
  clear hb
  rw [HD.out]
  simp only [Pfx.val]
  go_upto_region 6 with (first | (refine wpList_store_at rfl 50 _ _ rfl w6.heap.size 0 18 50 _ zPfx rfl rfl (Blk.new _ _ _) (Pfx.cells_length _) (by decide) info_pfx (Pfx.one _) ?_))
  refine wp_gen (C2 w p w2.heap.size c w6.heap.size d) (C2.new hP d) ?_
  clear hP
  intro w7 hP
  have h4 : e2 = true := H4.out (by trivial)
  refine reg_sch2 38 [(true, 0), (true, 1), (true, 2), (false, 3), (true, 4), (true, 5), (true, 6), (false, 7), (true, 8), (true, 9), (true, 10), (true, 12), (false, 11), (true, 13), (true, 14), (true, 15), (true, 16), (true, 17), (true, 18), (true, 19), (true, 20), (true, 21), (true, 22), (true, 23), (false, 24), (true, 25), (true, 26), (true, 27), (true, 28), (false, 29), (true, 30), (true, 31), (true, 32), (true, 33), (true, 34), (true, 35), (true, 36), (true, 37)] (by kernel_rfl) (by kernel_rfl) (C2 w p w2.heap.size c w6.heap.size d) (C2 w p w2.heap.size c w6.heap.size d) ?_ ?_ ?_
  · exact hP.drew
  · exact fun _ h => h
  intro W hSW
  simp only [List.map_cons, List.map_nil, List.getD_cons_zero, List.getD_cons_succ, List.drop_succ_cons, List.drop_zero]
  refine hd_pure (v := ?_) (by rfl) (fun W' hS' => ?_) ?_ -- 0
  rotate_left
  · have c17 := (hS'.bc.cell 17).trans (Pfx.c17 _); have d17 := (hS'.bs.cell 17).trans (Pfx.c17 _); clear hS'; (go_simp; first | with_reducible rfl | rfl)
  try simp only [Act.put, List.setIfInBounds_toArray, List.set_cons_zero, List.set_cons_succ]
  refine hd_pure (v := ?_) (by rfl) (fun W' hS' => ?_) ?_ -- 1
  rotate_left
  · have c17 := (hS'.bc.cell 17).trans (Pfx.c17 _); have d17 := (hS'.bs.cell 17).trans (Pfx.c17 _); clear hS'; (go_simp; first | with_reducible rfl | rfl)
  try simp only [Act.put, List.setIfInBounds_toArray, List.set_cons_zero, List.set_cons_succ]
  refine hd_pure (v := .agg c.cells.toArray) (by rfl) (fun W' hS' => exec_load_at 50 _ (by rfl) w2.heap.size 0 18 (by rfl) _ _ hS'.bc.range (Pfx.cells_length _) Tryd.underlying50 rfl info_pfx) ?_ -- 2
  try simp only [Act.put, List.setIfInBounds_toArray, List.set_cons_zero, List.set_cons_succ]
  refine hd_sole (by rfl) (fun K hK => ?_) -- 3
  go_simp
  refine (pfxRight_any c _).mono ?_; rintro e w' ⟨rfl, hb⟩
  refine hK _ _ (hSW.next hb) ?_
  clear hK K hSW
  intro hSW
  clear hb; rw [H1.out]
  try simp only [Act.put, List.setIfInBounds_toArray, List.set_cons_zero, List.set_cons_succ]
  refine hd_pure (v := ?_) (by rfl) (fun W' hS' => ?_) ?_ -- 4
  rotate_left
  · have c17 := (hS'.bc.cell 17).trans (Pfx.c17 _); have d17 := (hS'.bs.cell 17).trans (Pfx.c17 _); clear hS'; (go_simp; first | with_reducible rfl | rfl)
  try simp only [Act.put, List.setIfInBounds_toArray, List.set_cons_zero, List.set_cons_succ]
  refine hd_pure (v := ?_) (by rfl) (fun W' hS' => ?_) ?_ -- 5
  rotate_left
  · have c17 := (hS'.bc.cell 17).trans (Pfx.c17 _); have d17 := (hS'.bs.cell 17).trans (Pfx.c17 _); clear hS'; (go_simp; first | with_reducible rfl | rfl)
  try simp only [Act.put, List.setIfInBounds_toArray, List.set_cons_zero, List.set_cons_succ]
  refine hd_pure (v := .agg d.cells.toArray) (by rfl) (fun W' hS' => exec_load_at 50 _ (by rfl) w6.heap.size 0 18 (by rfl) _ _ hS'.bs.range (Pfx.cells_length _) Tryd.underlying50 rfl info_pfx) ?_ -- 6
  try simp only [Act.put, List.setIfInBounds_toArray, List.set_cons_zero, List.set_cons_succ]
  refine hd_sole (by rfl) (fun K hK => ?_) -- 7
  go_simp
  refine (pfxRight_any d _).mono ?_; rintro e w' ⟨rfl, hb⟩
  refine hK _ _ (hSW.next hb) ?_
  clear hK K hSW
  intro hSW
  clear hb; rw [H2.out]
  try simp only [Act.put, List.setIfInBounds_toArray, List.set_cons_zero, List.set_cons_succ]
  refine hd_pure (v := ?_) (by rfl) (fun W' hS' => ?_) ?_ -- 8
  rotate_left
  · have c17 := (hS'.bc.cell 17).trans (Pfx.c17 _); have d17 := (hS'.bs.cell 17).trans (Pfx.c17 _); clear hS'; (go_simp; first | with_reducible rfl | rfl)
  try simp only [Act.put, List.setIfInBounds_toArray, List.set_cons_zero, List.set_cons_succ]
  refine hd_pure (v := ?_) (by rfl) (fun W' hS' => ?_) ?_ -- 9
  rotate_left
  · have c17 := (hS'.bc.cell 17).trans (Pfx.c17 _); have d17 := (hS'.bs.cell 17).trans (Pfx.c17 _); clear hS'; (go_simp; first | with_reducible rfl | rfl)
  try simp only [Act.put, List.setIfInBounds_toArray, List.set_cons_zero, List.set_cons_succ]
  refine hd_pure (v := .agg c.cells.toArray) (by rfl) (fun W' hS' => exec_load_at 50 _ (by rfl) w2.heap.size 0 18 (by rfl) _ _ hS'.bc.range (Pfx.cells_length _) Tryd.underlying50 rfl info_pfx) ?_ -- 10
  try simp only [Act.put, List.setIfInBounds_toArray, List.set_cons_zero, List.set_cons_succ]
  refine hd_pure (v := .agg c.cells.toArray) (by rfl) (fun W' hS' => exec_load_at 50 _ (by rfl) w2.heap.size 0 18 (by rfl) _ _ hS'.bc.range (Pfx.cells_length _) Tryd.underlying50 rfl info_pfx) ?_ -- 12
  try simp only [Act.put, List.setIfInBounds_toArray, List.set_cons_zero, List.set_cons_succ]
  refine hd_sole (by rfl) (fun K hK => ?_) -- 11
  go_simp
  refine (cut_any c _).mono ?_; rintro e w' ⟨rfl, hb⟩
  refine hK _ _ (hSW.next hb) ?_
  clear hK K hSW
  intro hSW
  clear hb; simp only [Pfx.val]
  try simp only [Act.put, List.setIfInBounds_toArray, List.set_cons_zero, List.set_cons_succ]
  refine hd_pure (v := ?_) (by rfl) (fun W' hS' => ?_) ?_ -- 13
  rotate_left
  · have c17 := (hS'.bc.cell 17).trans (Pfx.c17 _); have d17 := (hS'.bs.cell 17).trans (Pfx.c17 _); clear hS'; (go_simp; first | with_reducible rfl | rfl)
  try simp only [Act.put, List.setIfInBounds_toArray, List.set_cons_zero, List.set_cons_succ]
  refine hd_pure (v := ?_) (by rfl) (fun W' hS' => ?_) ?_ -- 14
  rotate_left
  · have c17 := (hS'.bc.cell 17).trans (Pfx.c17 _); have d17 := (hS'.bs.cell 17).trans (Pfx.c17 _); clear hS'; (go_simp; first | with_reducible rfl | rfl)
  try simp only [Act.put, List.setIfInBounds_toArray, List.set_cons_zero, List.set_cons_succ]
  refine hd_pure (v := ?_) (by rfl) (fun W' hS' => ?_) ?_ -- 15
  rotate_left
  · have c17 := (hS'.bc.cell 17).trans (Pfx.c17 _); have d17 := (hS'.bs.cell 17).trans (Pfx.c17 _); clear hS'; (go_simp; first | with_reducible rfl | rfl)
  try simp only [Act.put, List.setIfInBounds_toArray, List.set_cons_zero, List.set_cons_succ]
  refine hd_pure (v := ?_) (by rfl) (fun W' hS' => ?_) ?_ -- 16
  rotate_left
  · have c17 := (hS'.bc.cell 17).trans (Pfx.c17 _); have d17 := (hS'.bs.cell 17).trans (Pfx.c17 _); clear hS'; (go_simp; first | with_reducible rfl | rfl)
  try simp only [Act.put, List.setIfInBounds_toArray, List.set_cons_zero, List.set_cons_succ]
  refine hd_pure (v := ?_) (by rfl) (fun W' hS' => ?_) ?_ -- 17
  rotate_left
  · have c17 := (hS'.bc.cell 17).trans (Pfx.c17 _); have d17 := (hS'.bs.cell 17).trans (Pfx.c17 _); clear hS'; (go_simp; first | with_reducible rfl | rfl)
  try simp only [Act.put, List.setIfInBounds_toArray, List.set_cons_zero, List.set_cons_succ]
  refine hd_pure (v := ?_) (by rfl) (fun W' hS' => ?_) ?_ -- 18
  rotate_left
  · have c17 := (hS'.bc.cell 17).trans (Pfx.c17 _); have d17 := (hS'.bs.cell 17).trans (Pfx.c17 _); clear hS'; (go_simp; first | with_reducible rfl | rfl)
  try simp only [Act.put, List.setIfInBounds_toArray, List.set_cons_zero, List.set_cons_succ]
  refine hd_pure (v := ?_) (by rfl) (fun W' hS' => ?_) ?_ -- 19
  rotate_left
  · have c17 := (hS'.bc.cell 17).trans (Pfx.c17 _); have d17 := (hS'.bs.cell 17).trans (Pfx.c17 _); clear hS'; (go_simp; first | with_reducible rfl | rfl)
  try simp only [Act.put, List.setIfInBounds_toArray, List.set_cons_zero, List.set_cons_succ]
  refine hd_pure (v := ?_) (by rfl) (fun W' hS' => ?_) ?_ -- 20
  rotate_left
  · have c17 := (hS'.bc.cell 17).trans (Pfx.c17 _); have d17 := (hS'.bs.cell 17).trans (Pfx.c17 _); clear hS'; (go_simp; first | with_reducible rfl | rfl)
  try simp only [Act.put, List.setIfInBounds_toArray, List.set_cons_zero, List.set_cons_succ]
  refine hd_pure (v := ?_) (by rfl) (fun W' hS' => ?_) ?_ -- 21
  rotate_left
  · have c17 := (hS'.bc.cell 17).trans (Pfx.c17 _); have d17 := (hS'.bs.cell 17).trans (Pfx.c17 _); clear hS'; (go_simp; first | with_reducible rfl | rfl)
  try simp only [Act.put, List.setIfInBounds_toArray, List.set_cons_zero, List.set_cons_succ]
  refine hd_skip (by rfl) ?_
  try simp only [Act.put, List.setIfInBounds_toArray, List.set_cons_zero, List.set_cons_succ]
  refine hd_skip (by rfl) ?_
  try simp only [Act.put, List.setIfInBounds_toArray, List.set_cons_zero, List.set_cons_succ]
  refine hd_sole_skip (by rfl) ?_
  try simp only [Act.put, List.setIfInBounds_toArray, List.set_cons_zero, List.set_cons_succ]
  refine hd_pure (v := ?_) (by rfl) (fun W' hS' => ?_) ?_ -- 25
  rotate_left
  · have c17 := (hS'.bc.cell 17).trans (Pfx.c17 _); have d17 := (hS'.bs.cell 17).trans (Pfx.c17 _); clear hS'; (go_simp; first | with_reducible rfl | rfl)
  try simp only [Act.put, List.setIfInBounds_toArray, List.set_cons_zero, List.set_cons_succ]
  refine hd_pure (v := ?_) (by rfl) (fun W' hS' => ?_) ?_ -- 26
  rotate_left
  · have c17 := (hS'.bc.cell 17).trans (Pfx.c17 _); have d17 := (hS'.bs.cell 17).trans (Pfx.c17 _); clear hS'; (go_simp; first | with_reducible rfl | rfl)
  try simp only [Act.put, List.setIfInBounds_toArray, List.set_cons_zero, List.set_cons_succ]
  refine hd_pure (v := ?_) (by rfl) (fun W' hS' => ?_) ?_ -- 27
  rotate_left
  · have c17 := (hS'.bc.cell 17).trans (Pfx.c17 _); have d17 := (hS'.bs.cell 17).trans (Pfx.c17 _); clear hS'; (go_simp; first | with_reducible rfl | rfl)
  try simp only [Act.put, List.setIfInBounds_toArray, List.set_cons_zero, List.set_cons_succ]
  refine hd_pure (v := .agg p.cells.toArray) (by rfl) (fun W' hS' => exec_load_at 50 _ (by rfl) w.heap.size 0 18 (by rfl) _ _ hS'.b1.range (Pfx.cells_length _) Tryd.underlying50 rfl info_pfx) ?_ -- 28
  try simp only [Act.put, List.setIfInBounds_toArray, List.set_cons_zero, List.set_cons_succ]
  refine hd_sole (by rfl) (fun K hK => ?_) -- 29
  go_simp
  refine (pfxRight_any p _).mono ?_; rintro e w' ⟨rfl, hb⟩
  refine hK _ _ (hSW.next hb) ?_
  clear hK K hSW
  intro hSW
  clear hb; rw [HR.out]
  try simp only [Act.put, List.setIfInBounds_toArray, List.set_cons_zero, List.set_cons_succ]
  refine hd_pure (v := ?_) (by rfl) (fun W' hS' => ?_) ?_ -- 30
  rotate_left
  · have c17 := (hS'.bc.cell 17).trans (Pfx.c17 _); have d17 := (hS'.bs.cell 17).trans (Pfx.c17 _); clear hS'; (go_simp; first | with_reducible rfl | rfl)
  try simp only [Act.put, List.setIfInBounds_toArray, List.set_cons_zero, List.set_cons_succ]
  refine hd_pure (v := ?_) (by rfl) (fun W' hS' => ?_) ?_ -- 31
  rotate_left
  · have c17 := (hS'.bc.cell 17).trans (Pfx.c17 _); have d17 := (hS'.bs.cell 17).trans (Pfx.c17 _); clear hS'; (go_simp; first | with_reducible rfl | rfl)
  try simp only [Act.put, List.setIfInBounds_toArray, List.set_cons_zero, List.set_cons_succ]
  refine hd_pure (v := .agg c.cells.toArray) (by rfl) (fun W' hS' => exec_load_at 50 _ (by rfl) w2.heap.size 0 18 (by rfl) _ _ hS'.bc.range (Pfx.cells_length _) Tryd.underlying50 rfl info_pfx) ?_ -- 32
  try simp only [Act.put, List.setIfInBounds_toArray, List.set_cons_zero, List.set_cons_succ]
  refine hd_pure (v := .agg p.cells.toArray) (by rfl) (fun W' hS' => exec_load_at 50 _ (by rfl) w.heap.size 0 18 (by rfl) _ _ hS'.b1.range (Pfx.cells_length _) Tryd.underlying50 rfl info_pfx) ?_ -- 33
  try simp only [Act.put, List.setIfInBounds_toArray, List.set_cons_zero, List.set_cons_succ]
  refine hd_pure (v := ?_) (by rfl) (fun W' hS' => ?_) ?_ -- 34
  rotate_left
  · have c17 := (hS'.bc.cell 17).trans (Pfx.c17 _); have d17 := (hS'.bs.cell 17).trans (Pfx.c17 _); clear hS'; (go_simp; first | with_reducible rfl | rfl)
  try simp only [Act.put, List.setIfInBounds_toArray, List.set_cons_zero, List.set_cons_succ]
  refine hd_pure (v := ?_) (by rfl) (fun W' hS' => ?_) ?_ -- 35
  rotate_left
  · have c17 := (hS'.bc.cell 17).trans (Pfx.c17 _); have d17 := (hS'.bs.cell 17).trans (Pfx.c17 _); clear hS'; (go_simp; first | with_reducible rfl | rfl)
  try simp only [Act.put, List.setIfInBounds_toArray, List.set_cons_zero, List.set_cons_succ]
  refine hd_pure (v := ?_) (by rfl) (fun W' hS' => ?_) ?_ -- 36
  rotate_left
  · have c17 := (hS'.bc.cell 17).trans (Pfx.c17 _); have d17 := (hS'.bs.cell 17).trans (Pfx.c17 _); clear hS'; (go_simp; first | with_reducible rfl | rfl)
  try simp only [Act.put, List.setIfInBounds_toArray, List.set_cons_zero, List.set_cons_succ]
  refine hd_pure (v := ?_) (by rfl) (fun W' hS' => ?_) ?_ -- 37
  rotate_left
  · have c17 := (hS'.bc.cell 17).trans (Pfx.c17 _); have d17 := (hS'.bs.cell 17).trans (Pfx.c17 _); clear hS'; (go_simp; first | with_reducible rfl | rfl)
  try simp only [Act.put, List.setIfInBounds_toArray, List.set_cons_zero, List.set_cons_succ]
  refine hd_nil ?_
  have hb := hSW.lo; clear hSW
  refine wpList_nil (NoPanic.normal ?_)
  go_wp2
  go_ret
  exact ⟨rfl, hb⟩
set_option maxRecDepth 100000 in
set_option maxHeartbeats 4000000 in
theorem cts_truefalse (p c d : Pfx) (n : Int) (hc : cutOf p = c) (hd : cutOf ⟨c.v6, c.a, n⟩ = d) (hg : decide (c.len < d.len) = true) (hr : pfxOk p = false) (m : Int) (w : World) (h0 : 0 < w.heap.size) (hm : w.cell? ⟨0, 0, none⟩ = some (.int .i64 m)) :
    Calls Tryd.prog 9 #[p.val, .int .i64 n] w fun e w' => e = .returned (.bool true) ∧ Below w.heap.size w w' := by
  have HC := Lib.hid hc
  have HD := Lib.hid hd
  have HR := Lib.hid hr
  have H1 := Lib.hid (show pfxOk c = true by rw [← hc]; exact ok_cut p)
  have H2 := Lib.hid (show pfxOk d = true by rw [← hd]; exact ok_cut _)
  have H3 := Lib.hid (show true = false → coversOf d c = true from fun e => by
    have e2 : ¬ c.len < d.len := of_decide_eq_false (hg.trans e)
    have := cuts_law p n
    simp only [hc, hd] at this
    exact this (by omega))
  have H4 := Lib.hid (show false = true → decide (c = p) = true from fun e => decide_eq_true (by rw [← hc]; exact ok_eq (hr.trans e)))
  have he1 := eq_pfx (cutOf c) c
  rw [decide_eq_true (show cutOf c = c by rw [← hc]; exact cut_cut p)] at he1
  have he2 := eq_pfx c p
  generalize hdd : decide (c = p) = e2 at he2 H4
  have hP := RB.new w p
  have hm2 := (hP.lo.cell (p := ⟨0, 0, none⟩) h0).trans hm
  have h02 := Nat.lt_of_lt_of_le h0 hP.lo.size
  clear hc hd hr hm h0 hdd
  simp only [Pfx.val]
  go_enter Tryd.func9, Tryd.ntmps9
  go_wp2_with fail
  refine (awake_any m _ h02 hm2).mono ?_
  rintro e w1 ⟨rfl, hb⟩
  replace hP := hP.next hb
  clear hb hm2 h02
  go_wp2_with (first | (refine wpList_load_at rfl 50 _ rfl w.heap.size 0 18 rfl _ _ hP.b.range (Pfx.cells_length _) Tryd.underlying50 rfl info_pfx ?_))
  refine (cut_any p _).mono ?_
  rintro e w2 ⟨rfl, hb⟩
  replace hP := hP.next hb
  clear hb
  rw [HC.out]
  simp only [Pfx.val]
  go_upto_region 3 with (first | (refine wpList_store_at rfl 50 _ _ rfl w2.heap.size 0 18 50 _ zPfx rfl rfl (Blk.new _ _ _) (Pfx.cells_length _) (by decide) info_pfx (Pfx.one _) ?_))
  refine wp_gen (C1 w p w2.heap.size c) (C1.new hP c) ?_
  clear hP
  intro w3 hP
  go_upto_region 4 with (first | (refine wpList_load_at rfl 50 _ rfl w2.heap.size 0 18 rfl _ _ hP.bc.range (Pfx.cells_length _) Tryd.underlying50 rfl info_pfx ?_) | (refine wpList_store_at rfl 50 _ _ rfl w3.heap.size 0 18 50 _ zPfx rfl rfl (Blk.new _ _ _) (Pfx.cells_length _) (by decide) info_pfx (Pfx.one _) ?_))
  refine wp_gen (C2 w p w2.heap.size c w3.heap.size c) (C2.new hP c) ?_
  clear hP
  intro w4 hP
  have f17 := hP.bs.frozen 17
  have s17 := (hP.bs.cell 17).trans (Pfx.c17 _)
  go_upto_region 5 with fail
  refine wp_gen (C2 w p w2.heap.size c w3.heap.size ⟨c.v6, c.a, n⟩) (C2.len hP n) ?_
  clear hP f17 s17
  intro w5 hP
  go_wp2_with (first | (refine wpList_load_at rfl 50 _ rfl w3.heap.size 0 18 rfl _ _ hP.bs.range (Pfx.cells_length _) Tryd.underlying50 rfl info_pfx ?_))
  refine (cut_any ⟨c.v6, c.a, n⟩ _).mono ?_
  rintro e w6 ⟨rfl, hb⟩
  replace hP := (hP.next hb).fst
  clear hb
  rw [HD.out]
  simp only [Pfx.val]
  go_upto_region 6 with (first | (refine wpList_store_at rfl 50 _ _ rfl w6.heap.size 0 18 50 _ zPfx rfl rfl (Blk.new _ _ _) (Pfx.cells_length _) (by decide) info_pfx (Pfx.one _) ?_))
  refine wp_gen (C2 w p w2.heap.size c w6.heap.size d) (C2.new hP d) ?_
  clear hP
  intro w7 hP
  skip
  refine reg_sch2 38 [(true, 0), (true, 1), (true, 2), (false, 3), (true, 4), (true, 5), (true, 6), (false, 7), (true, 8), (true, 9), (true, 10), (true, 12), (false, 11), (true, 13), (true, 14), (true, 15), (true, 16), (true, 17), (true, 18), (true, 19), (true, 20), (true, 21), (true, 22), (true, 23), (false, 24), (true, 25), (true, 26), (true, 27), (true, 28), (false, 29), (true, 30), (true, 31), (true, 32), (true, 33), (true, 34), (true, 35), (true, 36), (true, 37)] (by kernel_rfl) (by kernel_rfl) (C2 w p w2.heap.size c w6.heap.size d) (C2 w p w2.heap.size c w6.heap.size d) ?_ ?_ ?_
  · exact hP.drew
  · exact fun _ h => h
  intro W hSW
  simp only [List.map_cons, List.map_nil, List.getD_cons_zero, List.getD_cons_succ, List.drop_succ_cons, List.drop_zero]
  refine hd_pure (v := ?_) (by rfl) (fun W' hS' => ?_) ?_ -- 0
  rotate_left
  · have c17 := (hS'.bc.cell 17).trans (Pfx.c17 _); have d17 := (hS'.bs.cell 17).trans (Pfx.c17 _); clear hS'; (go_simp; first | with_reducible rfl | rfl)
  try simp only [Act.put, List.setIfInBounds_toArray, List.set_cons_zero, List.set_cons_succ]
  refine hd_pure (v := ?_) (by rfl) (fun W' hS' => ?_) ?_ -- 1
  rotate_left
  · have c17 := (hS'.bc.cell 17).trans (Pfx.c17 _); have d17 := (hS'.bs.cell 17).trans (Pfx.c17 _); clear hS'; (go_simp; first | with_reducible rfl | rfl)
  try simp only [Act.put, List.setIfInBounds_toArray, List.set_cons_zero, List.set_cons_succ]
  refine hd_pure (v := .agg c.cells.toArray) (by rfl) (fun W' hS' => exec_load_at 50 _ (by rfl) w2.heap.size 0 18 (by rfl) _ _ hS'.bc.range (Pfx.cells_length _) Tryd.underlying50 rfl info_pfx) ?_ -- 2
  try simp only [Act.put, List.setIfInBounds_toArray, List.set_cons_zero, List.set_cons_succ]
  refine hd_sole (by rfl) (fun K hK => ?_) -- 3
  go_simp
  refine (pfxRight_any c _).mono ?_; rintro e w' ⟨rfl, hb⟩
  refine hK _ _ (hSW.next hb) ?_
  clear hK K hSW
  intro hSW
  clear hb; rw [H1.out]
  try simp only [Act.put, List.setIfInBounds_toArray, List.set_cons_zero, List.set_cons_succ]
  refine hd_pure (v := ?_) (by rfl) (fun W' hS' => ?_) ?_ -- 4
  rotate_left
  · have c17 := (hS'.bc.cell 17).trans (Pfx.c17 _); have d17 := (hS'.bs.cell 17).trans (Pfx.c17 _); clear hS'; (go_simp; first | with_reducible rfl | rfl)
  try simp only [Act.put, List.setIfInBounds_toArray, List.set_cons_zero, List.set_cons_succ]
  refine hd_pure (v := ?_) (by rfl) (fun W' hS' => ?_) ?_ -- 5
  rotate_left
  · have c17 := (hS'.bc.cell 17).trans (Pfx.c17 _); have d17 := (hS'.bs.cell 17).trans (Pfx.c17 _); clear hS'; (go_simp; first | with_reducible rfl | rfl)
  try simp only [Act.put, List.setIfInBounds_toArray, List.set_cons_zero, List.set_cons_succ]
  refine hd_pure (v := .agg d.cells.toArray) (by rfl) (fun W' hS' => exec_load_at 50 _ (by rfl) w6.heap.size 0 18 (by rfl) _ _ hS'.bs.range (Pfx.cells_length _) Tryd.underlying50 rfl info_pfx) ?_ -- 6
  try simp only [Act.put, List.setIfInBounds_toArray, List.set_cons_zero, List.set_cons_succ]
  refine hd_sole (by rfl) (fun K hK => ?_) -- 7
  go_simp
  refine (pfxRight_any d _).mono ?_; rintro e w' ⟨rfl, hb⟩
  refine hK _ _ (hSW.next hb) ?_
  clear hK K hSW
  intro hSW
  clear hb; rw [H2.out]
  try simp only [Act.put, List.setIfInBounds_toArray, List.set_cons_zero, List.set_cons_succ]
  refine hd_pure (v := ?_) (by rfl) (fun W' hS' => ?_) ?_ -- 8
  rotate_left
  · have c17 := (hS'.bc.cell 17).trans (Pfx.c17 _); have d17 := (hS'.bs.cell 17).trans (Pfx.c17 _); clear hS'; (go_simp; first | with_reducible rfl | rfl)
  try simp only [Act.put, List.setIfInBounds_toArray, List.set_cons_zero, List.set_cons_succ]
  refine hd_pure (v := ?_) (by rfl) (fun W' hS' => ?_) ?_ -- 9
  rotate_left
  · have c17 := (hS'.bc.cell 17).trans (Pfx.c17 _); have d17 := (hS'.bs.cell 17).trans (Pfx.c17 _); clear hS'; (go_simp; first | with_reducible rfl | rfl)
  try simp only [Act.put, List.setIfInBounds_toArray, List.set_cons_zero, List.set_cons_succ]
  refine hd_pure (v := .agg c.cells.toArray) (by rfl) (fun W' hS' => exec_load_at 50 _ (by rfl) w2.heap.size 0 18 (by rfl) _ _ hS'.bc.range (Pfx.cells_length _) Tryd.underlying50 rfl info_pfx) ?_ -- 10
  try simp only [Act.put, List.setIfInBounds_toArray, List.set_cons_zero, List.set_cons_succ]
  refine hd_pure (v := .agg c.cells.toArray) (by rfl) (fun W' hS' => exec_load_at 50 _ (by rfl) w2.heap.size 0 18 (by rfl) _ _ hS'.bc.range (Pfx.cells_length _) Tryd.underlying50 rfl info_pfx) ?_ -- 12
  try simp only [Act.put, List.setIfInBounds_toArray, List.set_cons_zero, List.set_cons_succ]
  refine hd_sole (by rfl) (fun K hK => ?_) -- 11
  go_simp
  refine (cut_any c _).mono ?_; rintro e w' ⟨rfl, hb⟩
  refine hK _ _ (hSW.next hb) ?_
  clear hK K hSW
  intro hSW
  clear hb; simp only [Pfx.val]
  try simp only [Act.put, List.setIfInBounds_toArray, List.set_cons_zero, List.set_cons_succ]
  refine hd_pure (v := ?_) (by rfl) (fun W' hS' => ?_) ?_ -- 13
  rotate_left
  · have c17 := (hS'.bc.cell 17).trans (Pfx.c17 _); have d17 := (hS'.bs.cell 17).trans (Pfx.c17 _); clear hS'; (go_simp; first | with_reducible rfl | rfl)
  try simp only [Act.put, List.setIfInBounds_toArray, List.set_cons_zero, List.set_cons_succ]
  refine hd_pure (v := ?_) (by rfl) (fun W' hS' => ?_) ?_ -- 14
  rotate_left
  · have c17 := (hS'.bc.cell 17).trans (Pfx.c17 _); have d17 := (hS'.bs.cell 17).trans (Pfx.c17 _); clear hS'; (go_simp; first | with_reducible rfl | rfl)
  try simp only [Act.put, List.setIfInBounds_toArray, List.set_cons_zero, List.set_cons_succ]
  refine hd_pure (v := ?_) (by rfl) (fun W' hS' => ?_) ?_ -- 15
  rotate_left
  · have c17 := (hS'.bc.cell 17).trans (Pfx.c17 _); have d17 := (hS'.bs.cell 17).trans (Pfx.c17 _); clear hS'; (go_simp; first | with_reducible rfl | rfl)
  try simp only [Act.put, List.setIfInBounds_toArray, List.set_cons_zero, List.set_cons_succ]
  refine hd_pure (v := ?_) (by rfl) (fun W' hS' => ?_) ?_ -- 16
  rotate_left
  · have c17 := (hS'.bc.cell 17).trans (Pfx.c17 _); have d17 := (hS'.bs.cell 17).trans (Pfx.c17 _); clear hS'; (go_simp; first | with_reducible rfl | rfl)
  try simp only [Act.put, List.setIfInBounds_toArray, List.set_cons_zero, List.set_cons_succ]
  refine hd_pure (v := ?_) (by rfl) (fun W' hS' => ?_) ?_ -- 17
  rotate_left
  · have c17 := (hS'.bc.cell 17).trans (Pfx.c17 _); have d17 := (hS'.bs.cell 17).trans (Pfx.c17 _); clear hS'; (go_simp; first | with_reducible rfl | rfl)
  try simp only [Act.put, List.setIfInBounds_toArray, List.set_cons_zero, List.set_cons_succ]
  refine hd_pure (v := ?_) (by rfl) (fun W' hS' => ?_) ?_ -- 18
  rotate_left
  · have c17 := (hS'.bc.cell 17).trans (Pfx.c17 _); have d17 := (hS'.bs.cell 17).trans (Pfx.c17 _); clear hS'; (go_simp; first | with_reducible rfl | rfl)
  try simp only [Act.put, List.setIfInBounds_toArray, List.set_cons_zero, List.set_cons_succ]
  refine hd_pure (v := ?_) (by rfl) (fun W' hS' => ?_) ?_ -- 19
  rotate_left
  · have c17 := (hS'.bc.cell 17).trans (Pfx.c17 _); have d17 := (hS'.bs.cell 17).trans (Pfx.c17 _); clear hS'; (go_simp; first | with_reducible rfl | rfl)
  try simp only [Act.put, List.setIfInBounds_toArray, List.set_cons_zero, List.set_cons_succ]
  refine hd_pure (v := ?_) (by rfl) (fun W' hS' => ?_) ?_ -- 20
  rotate_left
  · have c17 := (hS'.bc.cell 17).trans (Pfx.c17 _); have d17 := (hS'.bs.cell 17).trans (Pfx.c17 _); clear hS'; (go_simp; first | with_reducible rfl | rfl)
  try simp only [Act.put, List.setIfInBounds_toArray, List.set_cons_zero, List.set_cons_succ]
  refine hd_pure (v := ?_) (by rfl) (fun W' hS' => ?_) ?_ -- 21
  rotate_left
  · have c17 := (hS'.bc.cell 17).trans (Pfx.c17 _); have d17 := (hS'.bs.cell 17).trans (Pfx.c17 _); clear hS'; (go_simp; first | with_reducible rfl | rfl)
  try simp only [Act.put, List.setIfInBounds_toArray, List.set_cons_zero, List.set_cons_succ]
  refine hd_skip (by rfl) ?_
  try simp only [Act.put, List.setIfInBounds_toArray, List.set_cons_zero, List.set_cons_succ]
  refine hd_skip (by rfl) ?_
  try simp only [Act.put, List.setIfInBounds_toArray, List.set_cons_zero, List.set_cons_succ]
  refine hd_sole_skip (by rfl) ?_
  try simp only [Act.put, List.setIfInBounds_toArray, List.set_cons_zero, List.set_cons_succ]
  refine hd_pure (v := ?_) (by rfl) (fun W' hS' => ?_) ?_ -- 25
  rotate_left
  · have c17 := (hS'.bc.cell 17).trans (Pfx.c17 _); have d17 := (hS'.bs.cell 17).trans (Pfx.c17 _); clear hS'; (go_simp; first | with_reducible rfl | rfl)
  try simp only [Act.put, List.setIfInBounds_toArray, List.set_cons_zero, List.set_cons_succ]
  refine hd_pure (v := ?_) (by rfl) (fun W' hS' => ?_) ?_ -- 26
  rotate_left
  · have c17 := (hS'.bc.cell 17).trans (Pfx.c17 _); have d17 := (hS'.bs.cell 17).trans (Pfx.c17 _); clear hS'; (go_simp; first | with_reducible rfl | rfl)
  try simp only [Act.put, List.setIfInBounds_toArray, List.set_cons_zero, List.set_cons_succ]
  refine hd_pure (v := ?_) (by rfl) (fun W' hS' => ?_) ?_ -- 27
  rotate_left
  · have c17 := (hS'.bc.cell 17).trans (Pfx.c17 _); have d17 := (hS'.bs.cell 17).trans (Pfx.c17 _); clear hS'; (go_simp; first | with_reducible rfl | rfl)
  try simp only [Act.put, List.setIfInBounds_toArray, List.set_cons_zero, List.set_cons_succ]
  refine hd_pure (v := .agg p.cells.toArray) (by rfl) (fun W' hS' => exec_load_at 50 _ (by rfl) w.heap.size 0 18 (by rfl) _ _ hS'.b1.range (Pfx.cells_length _) Tryd.underlying50 rfl info_pfx) ?_ -- 28
  try simp only [Act.put, List.setIfInBounds_toArray, List.set_cons_zero, List.set_cons_succ]
  refine hd_sole (by rfl) (fun K hK => ?_) -- 29
  go_simp
  refine (pfxRight_any p _).mono ?_; rintro e w' ⟨rfl, hb⟩
  refine hK _ _ (hSW.next hb) ?_
  clear hK K hSW
  intro hSW
  clear hb; rw [HR.out]
  try simp only [Act.put, List.setIfInBounds_toArray, List.set_cons_zero, List.set_cons_succ]
  refine hd_pure (v := ?_) (by rfl) (fun W' hS' => ?_) ?_ -- 30
  rotate_left
  · have c17 := (hS'.bc.cell 17).trans (Pfx.c17 _); have d17 := (hS'.bs.cell 17).trans (Pfx.c17 _); clear hS'; (go_simp; first | with_reducible rfl | rfl)
  try simp only [Act.put, List.setIfInBounds_toArray, List.set_cons_zero, List.set_cons_succ]
  refine hd_pure (v := ?_) (by rfl) (fun W' hS' => ?_) ?_ -- 31
  rotate_left
  · have c17 := (hS'.bc.cell 17).trans (Pfx.c17 _); have d17 := (hS'.bs.cell 17).trans (Pfx.c17 _); clear hS'; (go_simp; first | with_reducible rfl | rfl)
  try simp only [Act.put, List.setIfInBounds_toArray, List.set_cons_zero, List.set_cons_succ]
  refine hd_skip (by rfl) ?_
  try simp only [Act.put, List.setIfInBounds_toArray, List.set_cons_zero, List.set_cons_succ]
  refine hd_skip (by rfl) ?_
  try simp only [Act.put, List.setIfInBounds_toArray, List.set_cons_zero, List.set_cons_succ]
  refine hd_skip (by rfl) ?_
  try simp only [Act.put, List.setIfInBounds_toArray, List.set_cons_zero, List.set_cons_succ]
  refine hd_pure (v := ?_) (by rfl) (fun W' hS' => ?_) ?_ -- 35
  rotate_left
  · have c17 := (hS'.bc.cell 17).trans (Pfx.c17 _); have d17 := (hS'.bs.cell 17).trans (Pfx.c17 _); clear hS'; (go_simp; first | with_reducible rfl | rfl)
  try simp only [Act.put, List.setIfInBounds_toArray, List.set_cons_zero, List.set_cons_succ]
  refine hd_pure (v := ?_) (by rfl) (fun W' hS' => ?_) ?_ -- 36
  rotate_left
  · have c17 := (hS'.bc.cell 17).trans (Pfx.c17 _); have d17 := (hS'.bs.cell 17).trans (Pfx.c17 _); clear hS'; (go_simp; first | with_reducible rfl | rfl)
  try simp only [Act.put, List.setIfInBounds_toArray, List.set_cons_zero, List.set_cons_succ]
  refine hd_pure (v := ?_) (by rfl) (fun W' hS' => ?_) ?_ -- 37
  rotate_left
  · have c17 := (hS'.bc.cell 17).trans (Pfx.c17 _); have d17 := (hS'.bs.cell 17).trans (Pfx.c17 _); clear hS'; (go_simp; first | with_reducible rfl | rfl)
  try simp only [Act.put, List.setIfInBounds_toArray, List.set_cons_zero, List.set_cons_succ]
  refine hd_nil ?_
  have hb := hSW.lo; clear hSW
  refine wpList_nil (NoPanic.normal ?_)
  go_wp2
  go_ret
  exact ⟨rfl, hb⟩
set_option maxRecDepth 100000 in
set_option maxHeartbeats 4000000 in
theorem cts_falsetrue (p c d : Pfx) (n : Int) (hc : cutOf p = c) (hd : cutOf ⟨c.v6, c.a, n⟩ = d) (hg : decide (c.len < d.len) = false) (hr : pfxOk p = true) (m : Int) (w : World) (h0 : 0 < w.heap.size) (hm : w.cell? ⟨0, 0, none⟩ = some (.int .i64 m)) :
    Calls Tryd.prog 9 #[p.val, .int .i64 n] w fun e w' => e = .returned (.bool true) ∧ Below w.heap.size w w' := by
  have HC := Lib.hid hc
  have HD := Lib.hid hd
  have HR := Lib.hid hr
  have H1 := Lib.hid (show pfxOk c = true by rw [← hc]; exact ok_cut p)
  have H2 := Lib.hid (show pfxOk d = true by rw [← hd]; exact ok_cut _)
  have H3 := Lib.hid (show false = false → coversOf d c = true from fun e => by
    have e2 : ¬ c.len < d.len := of_decide_eq_false (hg.trans e)
    have := cuts_law p n
    simp only [hc, hd] at this
    exact this (by omega))
  have H4 := Lib.hid (show true = true → decide (c = p) = true from fun e => decide_eq_true (by rw [← hc]; exact ok_eq (hr.trans e)))
  have he1 := eq_pfx (cutOf c) c
  rw [decide_eq_true (show cutOf c = c by rw [← hc]; exact cut_cut p)] at he1
  have he2 := eq_pfx c p
  generalize hdd : decide (c = p) = e2 at he2 H4
  have hP := RB.new w p
  have hm2 := (hP.lo.cell (p := ⟨0, 0, none⟩) h0).trans hm
  have h02 := Nat.lt_of_lt_of_le h0 hP.lo.size
  clear hc hd hr hm h0 hdd
  simp only [Pfx.val]
  go_enter Tryd.func9, Tryd.ntmps9
  go_wp2_with fail
  refine (awake_any m _ h02 hm2).mono ?_
  rintro e w1 ⟨rfl, hb⟩
  replace hP := hP.next hb
  clear hb hm2 h02
  go_wp2_with (first | (refine wpList_load_at rfl 50 _ rfl w.heap.size 0 18 rfl _ _ hP.b.range (Pfx.cells_length _) Tryd.underlying50 rfl info_pfx ?_))
  refine (cut_any p _).mono ?_
  rintro e w2 ⟨rfl, hb⟩
  replace hP := hP.next hb
  clear hb
  rw [HC.out]
  simp only [Pfx.val]
  go_upto_region 3 with (first | (refine wpList_store_at rfl 50 _ _ rfl w2.heap.size 0 18 50 _ zPfx rfl rfl (Blk.new _ _ _) (Pfx.cells_length _) (by decide) info_pfx (Pfx.one _) ?_))
  refine wp_gen (C1 w p w2.heap.size c) (C1.new hP c) ?_
  clear hP
  intro w3 hP
  go_upto_region 4 with (first | (refine wpList_load_at rfl 50 _ rfl w2.heap.size 0 18 rfl _ _ hP.bc.range (Pfx.cells_length _) Tryd.underlying50 rfl info_pfx ?_) | (refine wpList_store_at rfl 50 _ _ rfl w3.heap.size 0 18 50 _ zPfx rfl rfl (Blk.new _ _ _) (Pfx.cells_length _) (by decide) info_pfx (Pfx.one _) ?_))
  refine wp_gen (C2 w p w2.heap.size c w3.heap.size c) (C2.new hP c) ?_
  clear hP
  intro w4 hP
  have f17 := hP.bs.frozen 17
  have s17 := (hP.bs.cell 17).trans (Pfx.c17 _)
  go_upto_region 5 with fail
  refine wp_gen (C2 w p w2.heap.size c w3.heap.size ⟨c.v6, c.a, n⟩) (C2.len hP n) ?_
  clear hP f17 s17
  intro w5 hP
  go_wp2_with (first | (refine wpList_load_at rfl 50 _ rfl w3.heap.size 0 18 rfl _ _ hP.bs.range (Pfx.cells_length _) Tryd.underlying50 rfl info_pfx ?_))
  refine (cut_any ⟨c.v6, c.a, n⟩ _).mono ?_
  rintro e w6 ⟨rfl, hb⟩
  replace hP := (hP.next hb).fst
  clear hb
  rw [HD.out]
  simp only [Pfx.val]
  go_upto_region 6 with (first | (refine wpList_store_at rfl 50 _ _ rfl w6.heap.size 0 18 50 _ zPfx rfl rfl (Blk.new _ _ _) (Pfx.cells_length _) (by decide) info_pfx (Pfx.one _) ?_))
  refine wp_gen (C2 w p w2.heap.size c w6.heap.size d) (C2.new hP d) ?_
  clear hP
  intro w7 hP
  have h4 : e2 = true := H4.out (by trivial)
  refine reg_sch2 38 [(true, 0), (true, 1), (true, 2), (false, 3), (true, 4), (true, 5), (true, 6), (false, 7), (true, 8), (true, 9), (true, 10), (true, 12), (false, 11), (true, 13), (true, 14), (true, 15), (true, 16), (true, 17), (true, 18), (true, 19), (true, 20), (true, 21), (true, 22), (true, 23), (false, 24), (true, 25), (true, 26), (true, 27), (true, 28), (false, 29), (true, 30), (true, 31), (true, 32), (true, 33), (true, 34), (true, 35), (true, 36), (true, 37)] (by kernel_rfl) (by kernel_rfl) (C2 w p w2.heap.size c w6.heap.size d) (C2 w p w2.heap.size c w6.heap.size d) ?_ ?_ ?_
  · exact hP.drew
  · exact fun _ h => h
  intro W hSW
  simp only [List.map_cons, List.map_nil, List.getD_cons_zero, List.getD_cons_succ, List.drop_succ_cons, List.drop_zero]
  refine hd_pure (v := ?_) (by rfl) (fun W' hS' => ?_) ?_ -- 0
  rotate_left
  · have c17 := (hS'.bc.cell 17).trans (Pfx.c17 _); have d17 := (hS'.bs.cell 17).trans (Pfx.c17 _); clear hS'; (go_simp; first | with_reducible rfl | rfl)
  try simp only [Act.put, List.setIfInBounds_toArray, List.set_cons_zero, List.set_cons_succ]
  refine hd_pure (v := ?_) (by rfl) (fun W' hS' => ?_) ?_ -- 1
  rotate_left
  · have c17 := (hS'.bc.cell 17).trans (Pfx.c17 _); have d17 := (hS'.bs.cell 17).trans (Pfx.c17 _); clear hS'; (go_simp; first | with_reducible rfl | rfl)
  try simp only [Act.put, List.setIfInBounds_toArray, List.set_cons_zero, List.set_cons_succ]
  refine hd_pure (v := .agg c.cells.toArray) (by rfl) (fun W' hS' => exec_load_at 50 _ (by rfl) w2.heap.size 0 18 (by rfl) _ _ hS'.bc.range (Pfx.cells_length _) Tryd.underlying50 rfl info_pfx) ?_ -- 2
  try simp only [Act.put, List.setIfInBounds_toArray, List.set_cons_zero, List.set_cons_succ]
  refine hd_sole (by rfl) (fun K hK => ?_) -- 3
  go_simp
  refine (pfxRight_any c _).mono ?_; rintro e w' ⟨rfl, hb⟩
  refine hK _ _ (hSW.next hb) ?_
  clear hK K hSW
  intro hSW
  clear hb; rw [H1.out]
  try simp only [Act.put, List.setIfInBounds_toArray, List.set_cons_zero, List.set_cons_succ]
  refine hd_pure (v := ?_) (by rfl) (fun W' hS' => ?_) ?_ -- 4
  rotate_left
  · have c17 := (hS'.bc.cell 17).trans (Pfx.c17 _); have d17 := (hS'.bs.cell 17).trans (Pfx.c17 _); clear hS'; (go_simp; first | with_reducible rfl | rfl)
  try simp only [Act.put, List.setIfInBounds_toArray, List.set_cons_zero, List.set_cons_succ]
  refine hd_pure (v := ?_) (by rfl) (fun W' hS' => ?_) ?_ -- 5
  rotate_left
  · have c17 := (hS'.bc.cell 17).trans (Pfx.c17 _); have d17 := (hS'.bs.cell 17).trans (Pfx.c17 _); clear hS'; (go_simp; first | with_reducible rfl | rfl)
  try simp only [Act.put, List.setIfInBounds_toArray, List.set_cons_zero, List.set_cons_succ]
  refine hd_pure (v := .agg d.cells.toArray) (by rfl) (fun W' hS' => exec_load_at 50 _ (by rfl) w6.heap.size 0 18 (by rfl) _ _ hS'.bs.range (Pfx.cells_length _) Tryd.underlying50 rfl info_pfx) ?_ -- 6
  try simp only [Act.put, List.setIfInBounds_toArray, List.set_cons_zero, List.set_cons_succ]
  refine hd_sole (by rfl) (fun K hK => ?_) -- 7
  go_simp
  refine (pfxRight_any d _).mono ?_; rintro e w' ⟨rfl, hb⟩
  refine hK _ _ (hSW.next hb) ?_
  clear hK K hSW
  intro hSW
  clear hb; rw [H2.out]
  try simp only [Act.put, List.setIfInBounds_toArray, List.set_cons_zero, List.set_cons_succ]
  refine hd_pure (v := ?_) (by rfl) (fun W' hS' => ?_) ?_ -- 8
  rotate_left
  · have c17 := (hS'.bc.cell 17).trans (Pfx.c17 _); have d17 := (hS'.bs.cell 17).trans (Pfx.c17 _); clear hS'; (go_simp; first | with_reducible rfl | rfl)
  try simp only [Act.put, List.setIfInBounds_toArray, List.set_cons_zero, List.set_cons_succ]
  refine hd_pure (v := ?_) (by rfl) (fun W' hS' => ?_) ?_ -- 9
  rotate_left
  · have c17 := (hS'.bc.cell 17).trans (Pfx.c17 _); have d17 := (hS'.bs.cell 17).trans (Pfx.c17 _); clear hS'; (go_simp; first | with_reducible rfl | rfl)
  try simp only [Act.put, List.setIfInBounds_toArray, List.set_cons_zero, List.set_cons_succ]
  refine hd_pure (v := .agg c.cells.toArray) (by rfl) (fun W' hS' => exec_load_at 50 _ (by rfl) w2.heap.size 0 18 (by rfl) _ _ hS'.bc.range (Pfx.cells_length _) Tryd.underlying50 rfl info_pfx) ?_ -- 10
  try simp only [Act.put, List.setIfInBounds_toArray, List.set_cons_zero, List.set_cons_succ]
  refine hd_pure (v := .agg c.cells.toArray) (by rfl) (fun W' hS' => exec_load_at 50 _ (by rfl) w2.heap.size 0 18 (by rfl) _ _ hS'.bc.range (Pfx.cells_length _) Tryd.underlying50 rfl info_pfx) ?_ -- 12
  try simp only [Act.put, List.setIfInBounds_toArray, List.set_cons_zero, List.set_cons_succ]
  refine hd_sole (by rfl) (fun K hK => ?_) -- 11
  go_simp
  refine (cut_any c _).mono ?_; rintro e w' ⟨rfl, hb⟩
  refine hK _ _ (hSW.next hb) ?_
  clear hK K hSW
  intro hSW
  clear hb; simp only [Pfx.val]
  try simp only [Act.put, List.setIfInBounds_toArray, List.set_cons_zero, List.set_cons_succ]
  refine hd_pure (v := ?_) (by rfl) (fun W' hS' => ?_) ?_ -- 13
  rotate_left
  · have c17 := (hS'.bc.cell 17).trans (Pfx.c17 _); have d17 := (hS'.bs.cell 17).trans (Pfx.c17 _); clear hS'; (go_simp; first | with_reducible rfl | rfl)
  try simp only [Act.put, List.setIfInBounds_toArray, List.set_cons_zero, List.set_cons_succ]
  refine hd_pure (v := ?_) (by rfl) (fun W' hS' => ?_) ?_ -- 14
  rotate_left
  · have c17 := (hS'.bc.cell 17).trans (Pfx.c17 _); have d17 := (hS'.bs.cell 17).trans (Pfx.c17 _); clear hS'; (go_simp; first | with_reducible rfl | rfl)
  try simp only [Act.put, List.setIfInBounds_toArray, List.set_cons_zero, List.set_cons_succ]
  refine hd_pure (v := ?_) (by rfl) (fun W' hS' => ?_) ?_ -- 15
  rotate_left
  · have c17 := (hS'.bc.cell 17).trans (Pfx.c17 _); have d17 := (hS'.bs.cell 17).trans (Pfx.c17 _); clear hS'; (go_simp; first | with_reducible rfl | rfl)
  try simp only [Act.put, List.setIfInBounds_toArray, List.set_cons_zero, List.set_cons_succ]
  refine hd_pure (v := ?_) (by rfl) (fun W' hS' => ?_) ?_ -- 16
  rotate_left
  · have c17 := (hS'.bc.cell 17).trans (Pfx.c17 _); have d17 := (hS'.bs.cell 17).trans (Pfx.c17 _); clear hS'; (go_simp; first | with_reducible rfl | rfl)
  try simp only [Act.put, List.setIfInBounds_toArray, List.set_cons_zero, List.set_cons_succ]
  refine hd_pure (v := ?_) (by rfl) (fun W' hS' => ?_) ?_ -- 17
  rotate_left
  · have c17 := (hS'.bc.cell 17).trans (Pfx.c17 _); have d17 := (hS'.bs.cell 17).trans (Pfx.c17 _); clear hS'; (go_simp; first | with_reducible rfl | rfl)
  try simp only [Act.put, List.setIfInBounds_toArray, List.set_cons_zero, List.set_cons_succ]
  refine hd_pure (v := ?_) (by rfl) (fun W' hS' => ?_) ?_ -- 18
  rotate_left
  · have c17 := (hS'.bc.cell 17).trans (Pfx.c17 _); have d17 := (hS'.bs.cell 17).trans (Pfx.c17 _); clear hS'; (go_simp; first | with_reducible rfl | rfl)
  try simp only [Act.put, List.setIfInBounds_toArray, List.set_cons_zero, List.set_cons_succ]
  refine hd_pure (v := ?_) (by rfl) (fun W' hS' => ?_) ?_ -- 19
  rotate_left
  · have c17 := (hS'.bc.cell 17).trans (Pfx.c17 _); have d17 := (hS'.bs.cell 17).trans (Pfx.c17 _); clear hS'; (go_simp; first | with_reducible rfl | rfl)
  try simp only [Act.put, List.setIfInBounds_toArray, List.set_cons_zero, List.set_cons_succ]
  refine hd_pure (v := ?_) (by rfl) (fun W' hS' => ?_) ?_ -- 20
  rotate_left
  · have c17 := (hS'.bc.cell 17).trans (Pfx.c17 _); have d17 := (hS'.bs.cell 17).trans (Pfx.c17 _); clear hS'; (go_simp; first | with_reducible rfl | rfl)
  try simp only [Act.put, List.setIfInBounds_toArray, List.set_cons_zero, List.set_cons_succ]
  refine hd_pure (v := ?_) (by rfl) (fun W' hS' => ?_) ?_ -- 21
  rotate_left
  · have c17 := (hS'.bc.cell 17).trans (Pfx.c17 _); have d17 := (hS'.bs.cell 17).trans (Pfx.c17 _); clear hS'; (go_simp; first | with_reducible rfl | rfl)
  try simp only [Act.put, List.setIfInBounds_toArray, List.set_cons_zero, List.set_cons_succ]
  refine hd_pure (v := .agg d.cells.toArray) (by rfl) (fun W' hS' => exec_load_at 50 _ (by rfl) w6.heap.size 0 18 (by rfl) _ _ hS'.bs.range (Pfx.cells_length _) Tryd.underlying50 rfl info_pfx) ?_ -- 22
  try simp only [Act.put, List.setIfInBounds_toArray, List.set_cons_zero, List.set_cons_succ]
  refine hd_pure (v := .agg c.cells.toArray) (by rfl) (fun W' hS' => exec_load_at 50 _ (by rfl) w2.heap.size 0 18 (by rfl) _ _ hS'.bc.range (Pfx.cells_length _) Tryd.underlying50 rfl info_pfx) ?_ -- 23
  try simp only [Act.put, List.setIfInBounds_toArray, List.set_cons_zero, List.set_cons_succ]
  refine hd_sole (by rfl) (fun K hK => ?_) -- 24
  go_simp
  refine (covers_any d c _).mono ?_; rintro e w' ⟨rfl, hb⟩
  refine hK _ _ (hSW.next hb) ?_
  clear hK K hSW
  intro hSW
  clear hb; rw [H3.out (by trivial)]
  try simp only [Act.put, List.setIfInBounds_toArray, List.set_cons_zero, List.set_cons_succ]
  refine hd_pure (v := ?_) (by rfl) (fun W' hS' => ?_) ?_ -- 25
  rotate_left
  · have c17 := (hS'.bc.cell 17).trans (Pfx.c17 _); have d17 := (hS'.bs.cell 17).trans (Pfx.c17 _); clear hS'; (go_simp; first | with_reducible rfl | rfl)
  try simp only [Act.put, List.setIfInBounds_toArray, List.set_cons_zero, List.set_cons_succ]
  refine hd_pure (v := ?_) (by rfl) (fun W' hS' => ?_) ?_ -- 26
  rotate_left
  · have c17 := (hS'.bc.cell 17).trans (Pfx.c17 _); have d17 := (hS'.bs.cell 17).trans (Pfx.c17 _); clear hS'; (go_simp; first | with_reducible rfl | rfl)
  try simp only [Act.put, List.setIfInBounds_toArray, List.set_cons_zero, List.set_cons_succ]
  refine hd_pure (v := ?_) (by rfl) (fun W' hS' => ?_) ?_ -- 27
  rotate_left
  · have c17 := (hS'.bc.cell 17).trans (Pfx.c17 _); have d17 := (hS'.bs.cell 17).trans (Pfx.c17 _); clear hS'; (go_simp; first | with_reducible rfl | rfl)
  try simp only [Act.put, List.setIfInBounds_toArray, List.set_cons_zero, List.set_cons_succ]
  refine hd_pure (v := .agg p.cells.toArray) (by rfl) (fun W' hS' => exec_load_at 50 _ (by rfl) w.heap.size 0 18 (by rfl) _ _ hS'.b1.range (Pfx.cells_length _) Tryd.underlying50 rfl info_pfx) ?_ -- 28
  try simp only [Act.put, List.setIfInBounds_toArray, List.set_cons_zero, List.set_cons_succ]
  refine hd_sole (by rfl) (fun K hK => ?_) -- 29
  go_simp
  refine (pfxRight_any p _).mono ?_; rintro e w' ⟨rfl, hb⟩
  refine hK _ _ (hSW.next hb) ?_
  clear hK K hSW
  intro hSW
  clear hb; rw [HR.out]
  try simp only [Act.put, List.setIfInBounds_toArray, List.set_cons_zero, List.set_cons_succ]
  refine hd_pure (v := ?_) (by rfl) (fun W' hS' => ?_) ?_ -- 30
  rotate_left
  · have c17 := (hS'.bc.cell 17).trans (Pfx.c17 _); have d17 := (hS'.bs.cell 17).trans (Pfx.c17 _); clear hS'; (go_simp; first | with_reducible rfl | rfl)
  try simp only [Act.put, List.setIfInBounds_toArray, List.set_cons_zero, List.set_cons_succ]
  refine hd_pure (v := ?_) (by rfl) (fun W' hS' => ?_) ?_ -- 31
  rotate_left
  · have c17 := (hS'.bc.cell 17).trans (Pfx.c17 _); have d17 := (hS'.bs.cell 17).trans (Pfx.c17 _); clear hS'; (go_simp; first | with_reducible rfl | rfl)
  try simp only [Act.put, List.setIfInBounds_toArray, List.set_cons_zero, List.set_cons_succ]
  refine hd_pure (v := .agg c.cells.toArray) (by rfl) (fun W' hS' => exec_load_at 50 _ (by rfl) w2.heap.size 0 18 (by rfl) _ _ hS'.bc.range (Pfx.cells_length _) Tryd.underlying50 rfl info_pfx) ?_ -- 32
  try simp only [Act.put, List.setIfInBounds_toArray, List.set_cons_zero, List.set_cons_succ]
  refine hd_pure (v := .agg p.cells.toArray) (by rfl) (fun W' hS' => exec_load_at 50 _ (by rfl) w.heap.size 0 18 (by rfl) _ _ hS'.b1.range (Pfx.cells_length _) Tryd.underlying50 rfl info_pfx) ?_ -- 33
  try simp only [Act.put, List.setIfInBounds_toArray, List.set_cons_zero, List.set_cons_succ]
  refine hd_pure (v := ?_) (by rfl) (fun W' hS' => ?_) ?_ -- 34
  rotate_left
  · have c17 := (hS'.bc.cell 17).trans (Pfx.c17 _); have d17 := (hS'.bs.cell 17).trans (Pfx.c17 _); clear hS'; (go_simp; first | with_reducible rfl | rfl)
  try simp only [Act.put, List.setIfInBounds_toArray, List.set_cons_zero, List.set_cons_succ]
  refine hd_pure (v := ?_) (by rfl) (fun W' hS' => ?_) ?_ -- 35
  rotate_left
  · have c17 := (hS'.bc.cell 17).trans (Pfx.c17 _); have d17 := (hS'.bs.cell 17).trans (Pfx.c17 _); clear hS'; (go_simp; first | with_reducible rfl | rfl)
  try simp only [Act.put, List.setIfInBounds_toArray, List.set_cons_zero, List.set_cons_succ]
  refine hd_pure (v := ?_) (by rfl) (fun W' hS' => ?_) ?_ -- 36
  rotate_left
  · have c17 := (hS'.bc.cell 17).trans (Pfx.c17 _); have d17 := (hS'.bs.cell 17).trans (Pfx.c17 _); clear hS'; (go_simp; first | with_reducible rfl | rfl)
  try simp only [Act.put, List.setIfInBounds_toArray, List.set_cons_zero, List.set_cons_succ]
  refine hd_pure (v := ?_) (by rfl) (fun W' hS' => ?_) ?_ -- 37
  rotate_left
  · have c17 := (hS'.bc.cell 17).trans (Pfx.c17 _); have d17 := (hS'.bs.cell 17).trans (Pfx.c17 _); clear hS'; (go_simp; first | with_reducible rfl | rfl)
  try simp only [Act.put, List.setIfInBounds_toArray, List.set_cons_zero, List.set_cons_succ]
  refine hd_nil ?_
  have hb := hSW.lo; clear hSW
  refine wpList_nil (NoPanic.normal ?_)
  go_wp2
  go_ret
  exact ⟨rfl, hb⟩
set_option maxRecDepth 100000 in
set_option maxHeartbeats 4000000 in
theorem cts_falsefalse (p c d : Pfx) (n : Int) (hc : cutOf p = c) (hd : cutOf ⟨c.v6, c.a, n⟩ = d) (hg : decide (c.len < d.len) = false) (hr : pfxOk p = false) (m : Int) (w : World) (h0 : 0 < w.heap.size) (hm : w.cell? ⟨0, 0, none⟩ = some (.int .i64 m)) :
    Calls Tryd.prog 9 #[p.val, .int .i64 n] w fun e w' => e = .returned (.bool true) ∧ Below w.heap.size w w' := by
  have HC := Lib.hid hc
  have HD := Lib.hid hd
  have HR := Lib.hid hr
  have H1 := Lib.hid (show pfxOk c = true by rw [← hc]; exact ok_cut p)
  have H2 := Lib.hid (show pfxOk d = true by rw [← hd]; exact ok_cut _)
  have H3 := Lib.hid (show false = false → coversOf d c = true from fun e => by
    have e2 : ¬ c.len < d.len := of_decide_eq_false (hg.trans e)
    have := cuts_law p n
    simp only [hc, hd] at this
    exact this (by omega))
  have H4 := Lib.hid (show false = true → decide (c = p) = true from fun e => decide_eq_true (by rw [← hc]; exact ok_eq (hr.trans e)))
  have he1 := eq_pfx (cutOf c) c
  rw [decide_eq_true (show cutOf c = c by rw [← hc]; exact cut_cut p)] at he1
  have he2 := eq_pfx c p
  generalize hdd : decide (c = p) = e2 at he2 H4
  have hP := RB.new w p
  have hm2 := (hP.lo.cell (p := ⟨0, 0, none⟩) h0).trans hm
  have h02 := Nat.lt_of_lt_of_le h0 hP.lo.size
  clear hc hd hr hm h0 hdd
  simp only [Pfx.val]
  go_enter Tryd.func9, Tryd.ntmps9
  go_wp2_with fail
  refine (awake_any m _ h02 hm2).mono ?_
  rintro e w1 ⟨rfl, hb⟩
  replace hP := hP.next hb
  clear hb hm2 h02
  go_wp2_with (first | (refine wpList_load_at rfl 50 _ rfl w.heap.size 0 18 rfl _ _ hP.b.range (Pfx.cells_length _) Tryd.underlying50 rfl info_pfx ?_))
  refine (cut_any p _).mono ?_
  rintro e w2 ⟨rfl, hb⟩
  replace hP := hP.next hb
  clear hb
  rw [HC.out]
  simp only [Pfx.val]
  go_upto_region 3 with (first | (refine wpList_store_at rfl 50 _ _ rfl w2.heap.size 0 18 50 _ zPfx rfl rfl (Blk.new _ _ _) (Pfx.cells_length _) (by decide) info_pfx (Pfx.one _) ?_))
  refine wp_gen (C1 w p w2.heap.size c) (C1.new hP c) ?_
  clear hP
  intro w3 hP
  go_upto_region 4 with (first | (refine wpList_load_at rfl 50 _ rfl w2.heap.size 0 18 rfl _ _ hP.bc.range (Pfx.cells_length _) Tryd.underlying50 rfl info_pfx ?_) | (refine wpList_store_at rfl 50 _ _ rfl w3.heap.size 0 18 50 _ zPfx rfl rfl (Blk.new _ _ _) (Pfx.cells_length _) (by decide) info_pfx (Pfx.one _) ?_))
  refine wp_gen (C2 w p w2.heap.size c w3.heap.size c) (C2.new hP c) ?_
  clear hP
  intro w4 hP
  have f17 := hP.bs.frozen 17
  have s17 := (hP.bs.cell 17).trans (Pfx.c17 _)
  go_upto_region 5 with fail
  refine wp_gen (C2 w p w2.heap.size c w3.heap.size ⟨c.v6, c.a, n⟩) (C2.len hP n) ?_
  clear hP f17 s17
  intro w5 hP
  go_wp2_with (first | (refine wpList_load_at rfl 50 _ rfl w3.heap.size 0 18 rfl _ _ hP.bs.range (Pfx.cells_length _) Tryd.underlying50 rfl info_pfx ?_))
  refine (cut_any ⟨c.v6, c.a, n⟩ _).mono ?_
  rintro e w6 ⟨rfl, hb⟩
  replace hP := (hP.next hb).fst
  clear hb
  rw [HD.out]
  simp only [Pfx.val]
  go_upto_region 6 with (first | (refine wpList_store_at rfl 50 _ _ rfl w6.heap.size 0 18 50 _ zPfx rfl rfl (Blk.new _ _ _) (Pfx.cells_length _) (by decide) info_pfx (Pfx.one _) ?_))
  refine wp_gen (C2 w p w2.heap.size c w6.heap.size d) (C2.new hP d) ?_
  clear hP
  intro w7 hP
  skip
  refine reg_sch2 38 [(true, 0), (true, 1), (true, 2), (false, 3), (true, 4), (true, 5), (true, 6), (false, 7), (true, 8), (true, 9), (true, 10), (true, 12), (false, 11), (true, 13), (true, 14), (true, 15), (true, 16), (true, 17), (true, 18), (true, 19), (true, 20), (true, 21), (true, 22), (true, 23), (false, 24), (true, 25), (true, 26), (true, 27), (true, 28), (false, 29), (true, 30), (true, 31), (true, 32), (true, 33), (true, 34), (true, 35), (true, 36), (true, 37)] (by kernel_rfl) (by kernel_rfl) (C2 w p w2.heap.size c w6.heap.size d) (C2 w p w2.heap.size c w6.heap.size d) ?_ ?_ ?_
  · exact hP.drew
  · exact fun _ h => h
  intro W hSW
  simp only [List.map_cons, List.map_nil, List.getD_cons_zero, List.getD_cons_succ, List.drop_succ_cons, List.drop_zero]
  refine hd_pure (v := ?_) (by rfl) (fun W' hS' => ?_) ?_ -- 0
  rotate_left
  · have c17 := (hS'.bc.cell 17).trans (Pfx.c17 _); have d17 := (hS'.bs.cell 17).trans (Pfx.c17 _); clear hS'; (go_simp; first | with_reducible rfl | rfl)
  try simp only [Act.put, List.setIfInBounds_toArray, List.set_cons_zero, List.set_cons_succ]
  refine hd_pure (v := ?_) (by rfl) (fun W' hS' => ?_) ?_ -- 1
  rotate_left
  · have c17 := (hS'.bc.cell 17).trans (Pfx.c17 _); have d17 := (hS'.bs.cell 17).trans (Pfx.c17 _); clear hS'; (go_simp; first | with_reducible rfl | rfl)
  try simp only [Act.put, List.setIfInBounds_toArray, List.set_cons_zero, List.set_cons_succ]
  refine hd_pure (v := .agg c.cells.toArray) (by rfl) (fun W' hS' => exec_load_at 50 _ (by rfl) w2.heap.size 0 18 (by rfl) _ _ hS'.bc.range (Pfx.cells_length _) Tryd.underlying50 rfl info_pfx) ?_ -- 2
  try simp only [Act.put, List.setIfInBounds_toArray, List.set_cons_zero, List.set_cons_succ]
  refine hd_sole (by rfl) (fun K hK => ?_) -- 3
  go_simp
  refine (pfxRight_any c _).mono ?_; rintro e w' ⟨rfl, hb⟩
  refine hK _ _ (hSW.next hb) ?_
  clear hK K hSW
  intro hSW
  clear hb; rw [H1.out]
  try simp only [Act.put, List.setIfInBounds_toArray, List.set_cons_zero, List.set_cons_succ]
  refine hd_pure (v := ?_) (by rfl) (fun W' hS' => ?_) ?_ -- 4
  rotate_left
  · have c17 := (hS'.bc.cell 17).trans (Pfx.c17 _); have d17 := (hS'.bs.cell 17).trans (Pfx.c17 _); clear hS'; (go_simp; first | with_reducible rfl | rfl)
  try simp only [Act.put, List.setIfInBounds_toArray, List.set_cons_zero, List.set_cons_succ]
  refine hd_pure (v := ?_) (by rfl) (fun W' hS' => ?_) ?_ -- 5
  rotate_left
  · have c17 := (hS'.bc.cell 17).trans (Pfx.c17 _); have d17 := (hS'.bs.cell 17).trans (Pfx.c17 _); clear hS'; (go_simp; first | with_reducible rfl | rfl)
  try simp only [Act.put, List.setIfInBounds_toArray, List.set_cons_zero, List.set_cons_succ]
  refine hd_pure (v := .agg d.cells.toArray) (by rfl) (fun W' hS' => exec_load_at 50 _ (by rfl) w6.heap.size 0 18 (by rfl) _ _ hS'.bs.range (Pfx.cells_length _) Tryd.underlying50 rfl info_pfx) ?_ -- 6
  try simp only [Act.put, List.setIfInBounds_toArray, List.set_cons_zero, List.set_cons_succ]
  refine hd_sole (by rfl) (fun K hK => ?_) -- 7
  go_simp
  refine (pfxRight_any d _).mono ?_; rintro e w' ⟨rfl, hb⟩
  refine hK _ _ (hSW.next hb) ?_
  clear hK K hSW
  intro hSW
  clear hb; rw [H2.out]
  try simp only [Act.put, List.setIfInBounds_toArray, List.set_cons_zero, List.set_cons_succ]
  refine hd_pure (v := ?_) (by rfl) (fun W' hS' => ?_) ?_ -- 8
  rotate_left
  · have c17 := (hS'.bc.cell 17).trans (Pfx.c17 _); have d17 := (hS'.bs.cell 17).trans (Pfx.c17 _); clear hS'; (go_simp; first | with_reducible rfl | rfl)
  try simp only [Act.put, List.setIfInBounds_toArray, List.set_cons_zero, List.set_cons_succ]
  refine hd_pure (v := ?_) (by rfl) (fun W' hS' => ?_) ?_ -- 9
  rotate_left
  · have c17 := (hS'.bc.cell 17).trans (Pfx.c17 _); have d17 := (hS'.bs.cell 17).trans (Pfx.c17 _); clear hS'; (go_simp; first | with_reducible rfl | rfl)
  try simp only [Act.put, List.setIfInBounds_toArray, List.set_cons_zero, List.set_cons_succ]
  refine hd_pure (v := .agg c.cells.toArray) (by rfl) (fun W' hS' => exec_load_at 50 _ (by rfl) w2.heap.size 0 18 (by rfl) _ _ hS'.bc.range (Pfx.cells_length _) Tryd.underlying50 rfl info_pfx) ?_ -- 10
  try simp only [Act.put, List.setIfInBounds_toArray, List.set_cons_zero, List.set_cons_succ]
  refine hd_pure (v := .agg c.cells.toArray) (by rfl) (fun W' hS' => exec_load_at 50 _ (by rfl) w2.heap.size 0 18 (by rfl) _ _ hS'.bc.range (Pfx.cells_length _) Tryd.underlying50 rfl info_pfx) ?_ -- 12
  try simp only [Act.put, List.setIfInBounds_toArray, List.set_cons_zero, List.set_cons_succ]
  refine hd_sole (by rfl) (fun K hK => ?_) -- 11
  go_simp
  refine (cut_any c _).mono ?_; rintro e w' ⟨rfl, hb⟩
  refine hK _ _ (hSW.next hb) ?_
  clear hK K hSW
  intro hSW
  clear hb; simp only [Pfx.val]
  try simp only [Act.put, List.setIfInBounds_toArray, List.set_cons_zero, List.set_cons_succ]
  refine hd_pure (v := ?_) (by rfl) (fun W' hS' => ?_) ?_ -- 13
  rotate_left
  · have c17 := (hS'.bc.cell 17).trans (Pfx.c17 _); have d17 := (hS'.bs.cell 17).trans (Pfx.c17 _); clear hS'; (go_simp; first | with_reducible rfl | rfl)
  try simp only [Act.put, List.setIfInBounds_toArray, List.set_cons_zero, List.set_cons_succ]
  refine hd_pure (v := ?_) (by rfl) (fun W' hS' => ?_) ?_ -- 14
  rotate_left
  · have c17 := (hS'.bc.cell 17).trans (Pfx.c17 _); have d17 := (hS'.bs.cell 17).trans (Pfx.c17 _); clear hS'; (go_simp; first | with_reducible rfl | rfl)
  try simp only [Act.put, List.setIfInBounds_toArray, List.set_cons_zero, List.set_cons_succ]
  refine hd_pure (v := ?_) (by rfl) (fun W' hS' => ?_) ?_ -- 15
  rotate_left
  · have c17 := (hS'.bc.cell 17).trans (Pfx.c17 _); have d17 := (hS'.bs.cell 17).trans (Pfx.c17 _); clear hS'; (go_simp; first | with_reducible rfl | rfl)
  try simp only [Act.put, List.setIfInBounds_toArray, List.set_cons_zero, List.set_cons_succ]
  refine hd_pure (v := ?_) (by rfl) (fun W' hS' => ?_) ?_ -- 16
  rotate_left
  · have c17 := (hS'.bc.cell 17).trans (Pfx.c17 _); have d17 := (hS'.bs.cell 17).trans (Pfx.c17 _); clear hS'; (go_simp; first | with_reducible rfl | rfl)
  try simp only [Act.put, List.setIfInBounds_toArray, List.set_cons_zero, List.set_cons_succ]
  refine hd_pure (v := ?_) (by rfl) (fun W' hS' => ?_) ?_ -- 17
  rotate_left
  · have c17 := (hS'.bc.cell 17).trans (Pfx.c17 _); have d17 := (hS'.bs.cell 17).trans (Pfx.c17 _); clear hS'; (go_simp; first | with_reducible rfl | rfl)
  try simp only [Act.put, List.setIfInBounds_toArray, List.set_cons_zero, List.set_cons_succ]
  refine hd_pure (v := ?_) (by rfl) (fun W' hS' => ?_) ?_ -- 18
  rotate_left
  · have c17 := (hS'.bc.cell 17).trans (Pfx.c17 _); have d17 := (hS'.bs.cell 17).trans (Pfx.c17 _); clear hS'; (go_simp; first | with_reducible rfl | rfl)
  try simp only [Act.put, List.setIfInBounds_toArray, List.set_cons_zero, List.set_cons_succ]
  refine hd_pure (v := ?_) (by rfl) (fun W' hS' => ?_) ?_ -- 19
  rotate_left
  · have c17 := (hS'.bc.cell 17).trans (Pfx.c17 _); have d17 := (hS'.bs.cell 17).trans (Pfx.c17 _); clear hS'; (go_simp; first | with_reducible rfl | rfl)
  try simp only [Act.put, List.setIfInBounds_toArray, List.set_cons_zero, List.set_cons_succ]
  refine hd_pure (v := ?_) (by rfl) (fun W' hS' => ?_) ?_ -- 20
  rotate_left
  · have c17 := (hS'.bc.cell 17).trans (Pfx.c17 _); have d17 := (hS'.bs.cell 17).trans (Pfx.c17 _); clear hS'; (go_simp; first | with_reducible rfl | rfl)
  try simp only [Act.put, List.setIfInBounds_toArray, List.set_cons_zero, List.set_cons_succ]
  refine hd_pure (v := ?_) (by rfl) (fun W' hS' => ?_) ?_ -- 21
  rotate_left
  · have c17 := (hS'.bc.cell 17).trans (Pfx.c17 _); have d17 := (hS'.bs.cell 17).trans (Pfx.c17 _); clear hS'; (go_simp; first | with_reducible rfl | rfl)
  try simp only [Act.put, List.setIfInBounds_toArray, List.set_cons_zero, List.set_cons_succ]
  refine hd_pure (v := .agg d.cells.toArray) (by rfl) (fun W' hS' => exec_load_at 50 _ (by rfl) w6.heap.size 0 18 (by rfl) _ _ hS'.bs.range (Pfx.cells_length _) Tryd.underlying50 rfl info_pfx) ?_ -- 22
  try simp only [Act.put, List.setIfInBounds_toArray, List.set_cons_zero, List.set_cons_succ]
  refine hd_pure (v := .agg c.cells.toArray) (by rfl) (fun W' hS' => exec_load_at 50 _ (by rfl) w2.heap.size 0 18 (by rfl) _ _ hS'.bc.range (Pfx.cells_length _) Tryd.underlying50 rfl info_pfx) ?_ -- 23
  try simp only [Act.put, List.setIfInBounds_toArray, List.set_cons_zero, List.set_cons_succ]
  refine hd_sole (by rfl) (fun K hK => ?_) -- 24
  go_simp
  refine (covers_any d c _).mono ?_; rintro e w' ⟨rfl, hb⟩
  refine hK _ _ (hSW.next hb) ?_
  clear hK K hSW
  intro hSW
  clear hb; rw [H3.out (by trivial)]
  try simp only [Act.put, List.setIfInBounds_toArray, List.set_cons_zero, List.set_cons_succ]
  refine hd_pure (v := ?_) (by rfl) (fun W' hS' => ?_) ?_ -- 25
  rotate_left
  · have c17 := (hS'.bc.cell 17).trans (Pfx.c17 _); have d17 := (hS'.bs.cell 17).trans (Pfx.c17 _); clear hS'; (go_simp; first | with_reducible rfl | rfl)
  try simp only [Act.put, List.setIfInBounds_toArray, List.set_cons_zero, List.set_cons_succ]
  refine hd_pure (v := ?_) (by rfl) (fun W' hS' => ?_) ?_ -- 26
  rotate_left
  · have c17 := (hS'.bc.cell 17).trans (Pfx.c17 _); have d17 := (hS'.bs.cell 17).trans (Pfx.c17 _); clear hS'; (go_simp; first | with_reducible rfl | rfl)
  try simp only [Act.put, List.setIfInBounds_toArray, List.set_cons_zero, List.set_cons_succ]
  refine hd_pure (v := ?_) (by rfl) (fun W' hS' => ?_) ?_ -- 27
  rotate_left
  · have c17 := (hS'.bc.cell 17).trans (Pfx.c17 _); have d17 := (hS'.bs.cell 17).trans (Pfx.c17 _); clear hS'; (go_simp; first | with_reducible rfl | rfl)
  try simp only [Act.put, List.setIfInBounds_toArray, List.set_cons_zero, List.set_cons_succ]
  refine hd_pure (v := .agg p.cells.toArray) (by rfl) (fun W' hS' => exec_load_at 50 _ (by rfl) w.heap.size 0 18 (by rfl) _ _ hS'.b1.range (Pfx.cells_length _) Tryd.underlying50 rfl info_pfx) ?_ -- 28
  try simp only [Act.put, List.setIfInBounds_toArray, List.set_cons_zero, List.set_cons_succ]
  refine hd_sole (by rfl) (fun K hK => ?_) -- 29
  go_simp
  refine (pfxRight_any p _).mono ?_; rintro e w' ⟨rfl, hb⟩
  refine hK _ _ (hSW.next hb) ?_
  clear hK K hSW
  intro hSW
  clear hb; rw [HR.out]
  try simp only [Act.put, List.setIfInBounds_toArray, List.set_cons_zero, List.set_cons_succ]
  refine hd_pure (v := ?_) (by rfl) (fun W' hS' => ?_) ?_ -- 30
  rotate_left
  · have c17 := (hS'.bc.cell 17).trans (Pfx.c17 _); have d17 := (hS'.bs.cell 17).trans (Pfx.c17 _); clear hS'; (go_simp; first | with_reducible rfl | rfl)
  try simp only [Act.put, List.setIfInBounds_toArray, List.set_cons_zero, List.set_cons_succ]
  refine hd_pure (v := ?_) (by rfl) (fun W' hS' => ?_) ?_ -- 31
  rotate_left
  · have c17 := (hS'.bc.cell 17).trans (Pfx.c17 _); have d17 := (hS'.bs.cell 17).trans (Pfx.c17 _); clear hS'; (go_simp; first | with_reducible rfl | rfl)
  try simp only [Act.put, List.setIfInBounds_toArray, List.set_cons_zero, List.set_cons_succ]
  refine hd_skip (by rfl) ?_
  try simp only [Act.put, List.setIfInBounds_toArray, List.set_cons_zero, List.set_cons_succ]
  refine hd_skip (by rfl) ?_
  try simp only [Act.put, List.setIfInBounds_toArray, List.set_cons_zero, List.set_cons_succ]
  refine hd_skip (by rfl) ?_
  try simp only [Act.put, List.setIfInBounds_toArray, List.set_cons_zero, List.set_cons_succ]
  refine hd_pure (v := ?_) (by rfl) (fun W' hS' => ?_) ?_ -- 35
  rotate_left
  · have c17 := (hS'.bc.cell 17).trans (Pfx.c17 _); have d17 := (hS'.bs.cell 17).trans (Pfx.c17 _); clear hS'; (go_simp; first | with_reducible rfl | rfl)
  try simp only [Act.put, List.setIfInBounds_toArray, List.set_cons_zero, List.set_cons_succ]
  refine hd_pure (v := ?_) (by rfl) (fun W' hS' => ?_) ?_ -- 36
  rotate_left
  · have c17 := (hS'.bc.cell 17).trans (Pfx.c17 _); have d17 := (hS'.bs.cell 17).trans (Pfx.c17 _); clear hS'; (go_simp; first | with_reducible rfl | rfl)
  try simp only [Act.put, List.setIfInBounds_toArray, List.set_cons_zero, List.set_cons_succ]
  refine hd_pure (v := ?_) (by rfl) (fun W' hS' => ?_) ?_ -- 37
  rotate_left
  · have c17 := (hS'.bc.cell 17).trans (Pfx.c17 _); have d17 := (hS'.bs.cell 17).trans (Pfx.c17 _); clear hS'; (go_simp; first | with_reducible rfl | rfl)
  try simp only [Act.put, List.setIfInBounds_toArray, List.set_cons_zero, List.set_cons_succ]
  refine hd_nil ?_
  have hb := hSW.lo; clear hSW
  refine wpList_nil (NoPanic.normal ?_)
  go_wp2
  go_ret
  exact ⟨rfl, hb⟩
theorem cts_any (p : Pfx) (n : Int) (m : Int) (w : World) (h0 : 0 < w.heap.size) (hm : w.cell? ⟨0, 0, none⟩ = some (.int .i64 m)) :
    Calls Tryd.prog 9 #[p.val, .int .i64 n] w fun e w' => e = .returned (.bool true) ∧ Below w.heap.size w w' := by
  cases hg : decide ((cutOf p).len < (cutOf ⟨(cutOf p).v6, (cutOf p).a, n⟩).len) <;> cases hr : pfxOk p
  · exact cts_falsefalse p _ _ n rfl rfl hg hr m w h0 hm
  · exact cts_falsetrue p _ _ n rfl rfl hg hr m w h0 hm
  · exact cts_truefalse p _ _ n rfl rfl hg hr m w h0 hm
  · exact cts_truetrue p _ _ n rfl rfl hg hr m w h0 hm
end Go.Proofs.YtmoldmnhijcckaaDoor
