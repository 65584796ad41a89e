/- The contracts of lanyardref10.Most, lanyardref10.Bit, lanyardref10.Right. No conditions. -/
import Derived.Test.YtmoldmnhijcckaaDoorRefL
import Derived.Test.YtmoldmnhijcckaaDoorCut
import Derived.Test.YtmoldmnhijcckaaDoorGrd
import Derived.Deep.DeepMust
import Derived.Deep.DeepCutAuto
set_option linter.unusedVariables false
set_option linter.unusedSectionVars false
set_option linter.unusedSimpArgs false
namespace Go.Proofs.YtmoldmnhijcckaaDoor
open Go.RowKit
theorem rmost_any (b : Bool) (w : World) : Calls Tryd.prog 69 #[.bool b] w fun e w' => e = .returned (.int .i64 (mostOf b)) ∧ w = w' := by
  cases b
  all_goals
    go_enter Tryd.func69, Tryd.ntmps69
    go_wp2
    go_ret
    exact ⟨rfl, rfl⟩
/-- A byte shifted to the right, closed to the walk. -/
def shB (n : Nat) (c : Int) : Nat := n / 2 ^ c.toNat
theorem shift_shB (n : Nat) (yk : IntKind) (c : Int) (h0 : 0 ≤ c) (h1 : c ≤ 8) : Op.shift .shr .u8 (n : Int) yk c = pure (.int .u8 (shB n c)) := by
  rw [shift_shr .u8 yk n c h0 h1]
  simp [shB]
attribute [local go_sem high] shift_shB
theorem a16_cell (a : A16) (i : Nat) (hi : i < 16) : a.cells[i]? = some (.int .u8 (a.at i).toNat) := by
  have := a.h
  simp [A16.cells, A16.at, bv, List.getD_eq_getElem?_getD, List.getElem?_eq_getElem (show i < a.l.length by omega)]
set_option maxRecDepth 10000 in
set_option maxHeartbeats 1000000 in
theorem bit_any (a : A16) (i : Nat) (hi : i < 128) (w : World) : Calls Tryd.prog 70 #[.agg a.cells.toArray, .int .i64 i] w fun e w' => e = .returned (.int .u8 (bitAt a i)) ∧ Below w.heap.size w w' := by
  have hB : Blk (w.alloc (.cells a.cells.toArray 48)) w.heap.size 48 a.cells := Blk.new _ _ _
  have c1 := (hB.cell (i / 8)).trans (a16_cell a (i / 8) (by omega))
  have e1 : ((i : Int) / 8).toNat = i / 8 := by omega
  have h1 : (0 : Int) ≤ (i : Int) / 8 := by omega
  have h2 : (i : Int) / 8 < 16 := by omega
  have h3 : (0 : Int) ≤ 7 - (i : Int) % 8 := by omega
  have h4 : 7 - (i : Int) % 8 ≤ 8 := by omega
  have HI := Lib.hid hi
  clear hB
  go_enter Tryd.func70, Tryd.ntmps70
  go_wp2_with fail
  go_ret
  refine ⟨?_, ?_⟩
  · refine ret_int ?_
    have e : ((a.at (i / 8)).toNat : Int) / 2 ^ (7 - i % 8) = (((a.at (i / 8)).toNat / 2 ^ (7 - i % 8) : Nat) : Int) := by simp
    rw [e]
    rfl
  · exact (Below.refl _ _).alloc (Nat.le_refl _) _
structure RB (w : World) (p : Pfx) (W : World) : Prop where
  b : Blk W w.heap.size 50 p.cells
  lo : Below w.heap.size w W
theorem RB.next {w : World} {p : Pfx} {W W' : World} (h : RB w p W) (hb : Below W.heap.size W W') : RB w p W' := ⟨h.b.below hb h.b.lt, below_then h.lo (Nat.le_refl _) hb⟩
theorem RB.drew {w : World} {p : Pfx} {W : World} (h : RB w p W) : RB w p W.drew := ⟨h.b.drew, h.lo.drew⟩
theorem RB.addr {w : World} {p : Pfx} {W : World} (h : RB w p W) : W.rangeAt w.heap.size 1 p.a.cells := h.b.sub [.bool p.v6] p.a.cells [.int .i64 p.len] 1 rfl rfl
theorem info_a16 : (Tryd.prog.info? 48).map (·.size) = some 16 := by kernel_rfl
set_option maxRecDepth 100000 in
set_option maxHeartbeats 1000000 in
theorem rright_neg (p : Pfx) (w : World) (h : p.len < 0) : Calls Tryd.prog 34 #[p.val] w fun e w' => e = .returned (.bool (pfxOk p)) ∧ Below w.heap.size w w' := by
  have H := Lib.hid (show pfxOk p = false by
    cases e : pfxOk p
    · rfl
    · have := ((pfxOk_iff p).1 e).1; omega)
  have d1 : decide (p.len < 0) = true := decide_eq_true h
  have hW : True := trivial
  clear h
  simp only [Pfx.val]
  go_enter Tryd.func34, Tryd.ntmps34
  go_wp2_with fail
  refine reg_sch2 11 [(true, 0), (true, 1), (true, 2), (true, 3), (true, 4), (true, 5), (true, 6), (true, 7), (false, 8), (true, 9), (true, 10)] (by kernel_rfl) (by kernel_rfl) (RB w p) (RB w p) ?_ ?_ ?_
  · exact (RB.mk (Blk.new _ _ _) ((Below.refl _ _).alloc (Nat.le_refl _) _)).drew
  · exact fun _ h => h
  intro W hSW
  simp only [List.map_cons, List.map_nil, List.getD_cons_zero, List.getD_cons_succ, List.drop_succ_cons, List.drop_zero]
  refine hd_pure (v := ?_) (by rfl) (fun W' hS' => ?_) ?_ -- 0
  rotate_left
  · have c0 := (hS'.b.cell 0).trans (Pfx.c0 _); have c17 := (hS'.b.cell 17).trans (Pfx.c17 _); clear hS'; (go_simp; first | with_reducible rfl | rfl)
  try simp only [Act.put, List.setIfInBounds_toArray, List.set_cons_zero, List.set_cons_succ]
  refine hd_pure (v := ?_) (by rfl) (fun W' hS' => ?_) ?_ -- 1
  rotate_left
  · have c0 := (hS'.b.cell 0).trans (Pfx.c0 _); have c17 := (hS'.b.cell 17).trans (Pfx.c17 _); clear hS'; (go_simp; first | with_reducible rfl | rfl)
  try simp only [Act.put, List.setIfInBounds_toArray, List.set_cons_zero, List.set_cons_succ]
  refine hd_pure (v := ?_) (by rfl) (fun W' hS' => ?_) ?_ -- 2
  rotate_left
  · have c0 := (hS'.b.cell 0).trans (Pfx.c0 _); have c17 := (hS'.b.cell 17).trans (Pfx.c17 _); clear hS'; (go_simp; first | with_reducible rfl | rfl)
  try simp only [Act.put, List.setIfInBounds_toArray, List.set_cons_zero, List.set_cons_succ]
  refine hd_pure (v := ?_) (by rfl) (fun W' hS' => ?_) ?_ -- 3
  rotate_left
  · have c0 := (hS'.b.cell 0).trans (Pfx.c0 _); have c17 := (hS'.b.cell 17).trans (Pfx.c17 _); clear hS'; (go_simp; first | with_reducible rfl | rfl)
  try simp only [Act.put, List.setIfInBounds_toArray, List.set_cons_zero, List.set_cons_succ]
  refine hd_skip (by rfl) ?_
  try simp only [Act.put, List.setIfInBounds_toArray, List.set_cons_zero, List.set_cons_succ]
  refine hd_skip (by rfl) ?_
  try simp only [Act.put, List.setIfInBounds_toArray, List.set_cons_zero, List.set_cons_succ]
  refine hd_skip (by rfl) ?_
  try simp only [Act.put, List.setIfInBounds_toArray, List.set_cons_zero, List.set_cons_succ]
  refine hd_skip (by rfl) ?_
  try simp only [Act.put, List.setIfInBounds_toArray, List.set_cons_zero, List.set_cons_succ]
  refine hd_sole_skip (by rfl) ?_
  try simp only [Act.put, List.setIfInBounds_toArray, List.set_cons_zero, List.set_cons_succ]
  refine hd_skip (by rfl) ?_
  try simp only [Act.put, List.setIfInBounds_toArray, List.set_cons_zero, List.set_cons_succ]
  refine hd_pure (v := ?_) (by rfl) (fun W' hS' => ?_) ?_ -- 10
  rotate_left
  · have c0 := (hS'.b.cell 0).trans (Pfx.c0 _); have c17 := (hS'.b.cell 17).trans (Pfx.c17 _); clear hS'; (go_simp; first | with_reducible rfl | rfl)
  try simp only [Act.put, List.setIfInBounds_toArray, List.set_cons_zero, List.set_cons_succ]
  refine hd_nil ?_
  replace hW := hSW; clear hSW
  refine wpList_nil (NoPanic.normal ?_)
  go_wp2
  go_ret
  exact ⟨by rw [H.out]; rfl, hW.lo⟩
set_option maxRecDepth 100000 in
set_option maxHeartbeats 1000000 in
theorem rright_big (p : Pfx) (w : World) (h0 : ¬ p.len < 0) (h : mostOf p.v6 < p.len) : Calls Tryd.prog 34 #[p.val] w fun e w' => e = .returned (.bool (pfxOk p)) ∧ Below w.heap.size w w' := by
  have H := Lib.hid (show pfxOk p = false by
    cases e : pfxOk p
    · rfl
    · have := ((pfxOk_iff p).1 e).2.1; omega)
  have d1 : decide (p.len < 0) = false := decide_eq_false h0
  have d2 : decide (mostOf p.v6 < p.len) = true := decide_eq_true h
  have hW : True := trivial
  clear h h0
  simp only [Pfx.val]
  go_enter Tryd.func34, Tryd.ntmps34
  go_wp2_with fail
  refine reg_sch2 11 [(true, 0), (true, 1), (true, 2), (true, 3), (true, 4), (true, 5), (true, 6), (true, 7), (false, 8), (true, 9), (true, 10)] (by kernel_rfl) (by kernel_rfl) (RB w p) (RB w p) ?_ ?_ ?_
  · exact (RB.mk (Blk.new _ _ _) ((Below.refl _ _).alloc (Nat.le_refl _) _)).drew
  · exact fun _ h => h
  intro W hSW
  simp only [List.map_cons, List.map_nil, List.getD_cons_zero, List.getD_cons_succ, List.drop_succ_cons, List.drop_zero]
  refine hd_pure (v := ?_) (by rfl) (fun W' hS' => ?_) ?_ -- 0
  rotate_left
  · have c0 := (hS'.b.cell 0).trans (Pfx.c0 _); have c17 := (hS'.b.cell 17).trans (Pfx.c17 _); clear hS'; (go_simp; first | with_reducible rfl | rfl)
  try simp only [Act.put, List.setIfInBounds_toArray, List.set_cons_zero, List.set_cons_succ]
  refine hd_pure (v := ?_) (by rfl) (fun W' hS' => ?_) ?_ -- 1
  rotate_left
  · have c0 := (hS'.b.cell 0).trans (Pfx.c0 _); have c17 := (hS'.b.cell 17).trans (Pfx.c17 _); clear hS'; (go_simp; first | with_reducible rfl | rfl)
  try simp only [Act.put, List.setIfInBounds_toArray, List.set_cons_zero, List.set_cons_succ]
  refine hd_pure (v := ?_) (by rfl) (fun W' hS' => ?_) ?_ -- 2
  rotate_left
  · have c0 := (hS'.b.cell 0).trans (Pfx.c0 _); have c17 := (hS'.b.cell 17).trans (Pfx.c17 _); clear hS'; (go_simp; first | with_reducible rfl | rfl)
  try simp only [Act.put, List.setIfInBounds_toArray, List.set_cons_zero, List.set_cons_succ]
  refine hd_pure (v := ?_) (by rfl) (fun W' hS' => ?_) ?_ -- 3
  rotate_left
  · have c0 := (hS'.b.cell 0).trans (Pfx.c0 _); have c17 := (hS'.b.cell 17).trans (Pfx.c17 _); clear hS'; (go_simp; first | with_reducible rfl | rfl)
  try simp only [Act.put, List.setIfInBounds_toArray, List.set_cons_zero, List.set_cons_succ]
  refine hd_pure (v := ?_) (by rfl) (fun W' hS' => ?_) ?_ -- 4
  rotate_left
  · have c0 := (hS'.b.cell 0).trans (Pfx.c0 _); have c17 := (hS'.b.cell 17).trans (Pfx.c17 _); clear hS'; (go_simp; first | with_reducible rfl | rfl)
  try simp only [Act.put, List.setIfInBounds_toArray, List.set_cons_zero, List.set_cons_succ]
  refine hd_pure (v := ?_) (by rfl) (fun W' hS' => ?_) ?_ -- 5
  rotate_left
  · have c0 := (hS'.b.cell 0).trans (Pfx.c0 _); have c17 := (hS'.b.cell 17).trans (Pfx.c17 _); clear hS'; (go_simp; first | with_reducible rfl | rfl)
  try simp only [Act.put, List.setIfInBounds_toArray, List.set_cons_zero, List.set_cons_succ]
  refine hd_pure (v := ?_) (by rfl) (fun W' hS' => ?_) ?_ -- 6
  rotate_left
  · have c0 := (hS'.b.cell 0).trans (Pfx.c0 _); have c17 := (hS'.b.cell 17).trans (Pfx.c17 _); clear hS'; (go_simp; first | with_reducible rfl | rfl)
  try simp only [Act.put, List.setIfInBounds_toArray, List.set_cons_zero, List.set_cons_succ]
  refine hd_pure (v := ?_) (by rfl) (fun W' hS' => ?_) ?_ -- 7
  rotate_left
  · have c0 := (hS'.b.cell 0).trans (Pfx.c0 _); have c17 := (hS'.b.cell 17).trans (Pfx.c17 _); clear hS'; (go_simp; first | with_reducible rfl | rfl)
  try simp only [Act.put, List.setIfInBounds_toArray, List.set_cons_zero, List.set_cons_succ]
  refine hd_sole (by rfl) (fun K hK => ?_) -- 8
  go_simp
  refine (rmost_any _ _).mono ?_; rintro e w' ⟨rfl, rfl⟩
  refine hK _ _ (hSW) ?_
  clear hK K hSW
  intro hSW
  try simp only [Act.put, List.setIfInBounds_toArray, List.set_cons_zero, List.set_cons_succ]
  refine hd_pure (v := ?_) (by rfl) (fun W' hS' => ?_) ?_ -- 9
  rotate_left
  · have c0 := (hS'.b.cell 0).trans (Pfx.c0 _); have c17 := (hS'.b.cell 17).trans (Pfx.c17 _); clear hS'; (go_simp; first | with_reducible rfl | rfl)
  try simp only [Act.put, List.setIfInBounds_toArray, List.set_cons_zero, List.set_cons_succ]
  refine hd_pure (v := ?_) (by rfl) (fun W' hS' => ?_) ?_ -- 10
  rotate_left
  · have c0 := (hS'.b.cell 0).trans (Pfx.c0 _); have c17 := (hS'.b.cell 17).trans (Pfx.c17 _); clear hS'; (go_simp; first | with_reducible rfl | rfl)
  try simp only [Act.put, List.setIfInBounds_toArray, List.set_cons_zero, List.set_cons_succ]
  refine hd_nil ?_
  replace hW := hSW; clear hSW
  refine wpList_nil (NoPanic.normal ?_)
  go_wp2
  go_ret
  exact ⟨by rw [H.out]; rfl, hW.lo⟩
set_option maxRecDepth 100000 in
set_option maxHeartbeats 2000000 in
theorem rright_in (p : Pfx) (w : World) (h0 : 0 ≤ p.len) (h : p.len ≤ mostOf p.v6) : Calls Tryd.prog 34 #[p.val] w fun e w' => e = .returned (.bool (pfxOk p)) ∧ Below w.heap.size w w' := by
  have hm : mostOf p.v6 ≤ 128 := by cases p.v6 <;> decide
  have d1 : decide (p.len < 0) = false := decide_eq_false (by omega)
  have d2 : decide (mostOf p.v6 < p.len) = false := decide_eq_false (by omega)
  have HI := Lib.hid (show pfxOk p = true ↔ ∀ i : Nat, i < 128 → p.len ≤ i → bitAt p.a i ≠ 1 from ⟨fun e => ((pfxOk_iff p).1 e).2.2, fun e => (pfxOk_iff p).2 ⟨h0, h, e⟩⟩)
  obtain ⟨l0, hl0⟩ := Int.eq_ofNat_of_zero_le h0
  have HL := Lib.hid hl0
  have hl128 : l0 ≤ 128 := by omega
  have hW : True := trivial
  clear h h0 hm hl0
  simp only [Pfx.val]
  go_enter Tryd.func34, Tryd.ntmps34
  go_wp2_with fail
  refine reg_sch2 11 [(true, 0), (true, 1), (true, 2), (true, 3), (true, 4), (true, 5), (true, 6), (true, 7), (false, 8), (true, 9), (true, 10)] (by kernel_rfl) (by kernel_rfl) (RB w p) (RB w p) ?_ ?_ ?_
  · exact (RB.mk (Blk.new _ _ _) ((Below.refl _ _).alloc (Nat.le_refl _) _)).drew
  · exact fun _ h => h
  intro W hSW
  simp only [List.map_cons, List.map_nil, List.getD_cons_zero, List.getD_cons_succ, List.drop_succ_cons, List.drop_zero]
  refine hd_pure (v := ?_) (by rfl) (fun W' hS' => ?_) ?_ -- 0
  rotate_left
  · have c0 := (hS'.b.cell 0).trans (Pfx.c0 _); have c17 := (hS'.b.cell 17).trans (Pfx.c17 _); clear hS'; (go_simp; first | with_reducible rfl | rfl)
  try simp only [Act.put, List.setIfInBounds_toArray, List.set_cons_zero, List.set_cons_succ]
  refine hd_pure (v := ?_) (by rfl) (fun W' hS' => ?_) ?_ -- 1
  rotate_left
  · have c0 := (hS'.b.cell 0).trans (Pfx.c0 _); have c17 := (hS'.b.cell 17).trans (Pfx.c17 _); clear hS'; (go_simp; first | with_reducible rfl | rfl)
  try simp only [Act.put, List.setIfInBounds_toArray, List.set_cons_zero, List.set_cons_succ]
  refine hd_pure (v := ?_) (by rfl) (fun W' hS' => ?_) ?_ -- 2
  rotate_left
  · have c0 := (hS'.b.cell 0).trans (Pfx.c0 _); have c17 := (hS'.b.cell 17).trans (Pfx.c17 _); clear hS'; (go_simp; first | with_reducible rfl | rfl)
  try simp only [Act.put, List.setIfInBounds_toArray, List.set_cons_zero, List.set_cons_succ]
  refine hd_pure (v := ?_) (by rfl) (fun W' hS' => ?_) ?_ -- 3
  rotate_left
  · have c0 := (hS'.b.cell 0).trans (Pfx.c0 _); have c17 := (hS'.b.cell 17).trans (Pfx.c17 _); clear hS'; (go_simp; first | with_reducible rfl | rfl)
  try simp only [Act.put, List.setIfInBounds_toArray, List.set_cons_zero, List.set_cons_succ]
  refine hd_pure (v := ?_) (by rfl) (fun W' hS' => ?_) ?_ -- 4
  rotate_left
  · have c0 := (hS'.b.cell 0).trans (Pfx.c0 _); have c17 := (hS'.b.cell 17).trans (Pfx.c17 _); clear hS'; (go_simp; first | with_reducible rfl | rfl)
  try simp only [Act.put, List.setIfInBounds_toArray, List.set_cons_zero, List.set_cons_succ]
  refine hd_pure (v := ?_) (by rfl) (fun W' hS' => ?_) ?_ -- 5
  rotate_left
  · have c0 := (hS'.b.cell 0).trans (Pfx.c0 _); have c17 := (hS'.b.cell 17).trans (Pfx.c17 _); clear hS'; (go_simp; first | with_reducible rfl | rfl)
  try simp only [Act.put, List.setIfInBounds_toArray, List.set_cons_zero, List.set_cons_succ]
  refine hd_pure (v := ?_) (by rfl) (fun W' hS' => ?_) ?_ -- 6
  rotate_left
  · have c0 := (hS'.b.cell 0).trans (Pfx.c0 _); have c17 := (hS'.b.cell 17).trans (Pfx.c17 _); clear hS'; (go_simp; first | with_reducible rfl | rfl)
  try simp only [Act.put, List.setIfInBounds_toArray, List.set_cons_zero, List.set_cons_succ]
  refine hd_pure (v := ?_) (by rfl) (fun W' hS' => ?_) ?_ -- 7
  rotate_left
  · have c0 := (hS'.b.cell 0).trans (Pfx.c0 _); have c17 := (hS'.b.cell 17).trans (Pfx.c17 _); clear hS'; (go_simp; first | with_reducible rfl | rfl)
  try simp only [Act.put, List.setIfInBounds_toArray, List.set_cons_zero, List.set_cons_succ]
  refine hd_sole (by rfl) (fun K hK => ?_) -- 8
  go_simp
  refine (rmost_any _ _).mono ?_; rintro e w' ⟨rfl, rfl⟩
  refine hK _ _ (hSW) ?_
  clear hK K hSW
  intro hSW
  try simp only [Act.put, List.setIfInBounds_toArray, List.set_cons_zero, List.set_cons_succ]
  refine hd_pure (v := ?_) (by rfl) (fun W' hS' => ?_) ?_ -- 9
  rotate_left
  · have c0 := (hS'.b.cell 0).trans (Pfx.c0 _); have c17 := (hS'.b.cell 17).trans (Pfx.c17 _); clear hS'; (go_simp; first | with_reducible rfl | rfl)
  try simp only [Act.put, List.setIfInBounds_toArray, List.set_cons_zero, List.set_cons_succ]
  refine hd_pure (v := ?_) (by rfl) (fun W' hS' => ?_) ?_ -- 10
  rotate_left
  · have c0 := (hS'.b.cell 0).trans (Pfx.c0 _); have c17 := (hS'.b.cell 17).trans (Pfx.c17 _); clear hS'; (go_simp; first | with_reducible rfl | rfl)
  try simp only [Act.put, List.setIfInBounds_toArray, List.set_cons_zero, List.set_cons_succ]
  refine hd_nil ?_
  replace hW := hSW; clear hSW
  refine wpList_nil (NoPanic.normal ?_)
  have c17 := (hW.b.cell 17).trans (Pfx.c17 _)
  rw [HL.out] at c17
  go_wp2_with fail
  clear c17 d1 d2
  go_loopw [3] (fun i wr => ∃ k : Nat, l0 ≤ k ∧ k ≤ 128 ∧ i = .int .i64 k ∧ RB w p wr ∧ Hid (∀ j : Nat, l0 ≤ j → j < k → bitAt p.a j ≠ 1)) (fun i _ => 128 - (intOf i).toNat)
  case atStart => exact ⟨l0, Nat.le_refl _, hl128, rfl, hW, Lib.hid (fun j h1 h2 => absurd h2 (by omega))⟩
  case round =>
    clear hW
    obtain ⟨k, hk0, hk, rfl, hW, HJ⟩ := hrel
    by_cases hlt : k < 128
    · cases hb : decide (bitAt p.a k = 1)
      · have HB := Lib.hid (of_decide_eq_false hb)
        have b1 : ((bitAt p.a k : Int) == 1) = false := beq_eq_false_iff_ne.2 (by have := HB.out; omega)
        clear hb
        go_wp2_with (first | (refine wpList_load_at rfl 48 _ rfl w.heap.size 1 16 rfl _ _ hW.addr (A16.cells_length _) Tryd.underlying48 rfl info_a16 ?_) | (go_at_call 70; go_must (refine (bit_any p.a k hlt _).mono ?_; rintro e w3 ⟨rfl, hb3⟩; replace hW := hW.next hb3; clear hb3)))
        go_roundw
        case rel => exact ⟨k + 1, by omega, by omega, by go_num, hW, Lib.hid (fun j h1 h2 => by
          by_cases hjk : j = k
          · subst hjk; exact HB.out
          · exact HJ.out j h1 (by omega))⟩
        case measure => simp [intOf]; omega
      · have HB := Lib.hid (of_decide_eq_true hb)
        have b1 : ((bitAt p.a k : Int) == 1) = true := by rw [HB.out]; rfl
        have HP := Lib.hid (show pfxOk p = false by
          cases e : pfxOk p
          · rfl
          · exact absurd HB.out (HI.out.1 e k hlt (by rw [HL.out]; omega)))
        clear hb
        go_wp2_with (first | (refine wpList_load_at rfl 48 _ rfl w.heap.size 1 16 rfl _ _ hW.addr (A16.cells_length _) Tryd.underlying48 rfl info_a16 ?_) | (go_at_call 70; go_must (refine (bit_any p.a k hlt _).mono ?_; rintro e w3 ⟨rfl, hb3⟩; replace hW := hW.next hb3; clear hb3)))
        go_ret
        exact ⟨by rw [HP.out]; rfl, hW.lo⟩
    · have HP := Lib.hid (show pfxOk p = true from HI.out.2 fun i h1 h2 => HJ.out i (by rw [HL.out] at h2; omega) (by omega))
      go_wp2
      go_ret
      exact ⟨by rw [HP.out]; rfl, hW.lo⟩
theorem rright_any (p : Pfx) (w : World) : Calls Tryd.prog 34 #[p.val] w fun e w' => e = .returned (.bool (pfxOk p)) ∧ Below w.heap.size w w' := by
  by_cases h0 : p.len < 0
  · exact rright_neg p w h0
  by_cases h : p.len ≤ mostOf p.v6
  · exact rright_in p w (by omega) h
  · exact rright_big p w h0 (by omega)
end Go.Proofs.YtmoldmnhijcckaaDoor
