/- The contracts of addr.Cut and addr.Right. -/
import Derived.Test.YtmoldmnhijcckaaGreatMa00
import Derived.Test.YtmoldmnhijcckaaGreatMa01
import Derived.Laws.BitsAllLaws
set_option linter.unusedVariables false
set_option linter.unusedSectionVars false
set_option linter.unusedSimpArgs false
namespace Go.Proofs.YtmoldmnhijcckaaGreat
open Go.RowKit
attribute [local go_sem high] run_imax run_imin
def clampOf (v6 : Bool) (n : Int) : Int := imin (imax n 0) (mostOf v6)
def cutL (c : Int) (k : Nat) (l : List UInt8) : List UInt8 := l.mapIdx fun i b => if i < k then b &&& maskB (c - 8 * i) else b
def cutA (c : Int) (k : Nat) (a : A16) : A16 := ⟨cutL c k a.l, by simp [cutL, a.h]⟩
def cutOf (p : Pfx) : Pfx := ⟨p.v6, cutA (clampOf p.v6 p.len) 16 p.a, clampOf p.v6 p.len⟩
theorem clampOf_bd (v6 : Bool) (n : Int) : 0 ≤ clampOf v6 n ∧ clampOf v6 n ≤ 128 := by
  unfold clampOf; rw [imin_eq, imax_eq]; cases v6 <;> simp only [mostOf_t, mostOf_f] <;> omega
theorem cutA_zero (c : Int) (a : A16) : cutA c 0 a = a := by
  apply A16.ext'; simp only [cutA, cutL]; apply List.ext_getElem <;> simp
def A16.at (a : A16) (k : Nat) : UInt8 := a.l.getD k 0
theorem cutA_at (c : Int) (a : A16) {k : Nat} (hk : k < 16) : (cutA c k a).at k = a.at k := by
  have := a.h
  simp [A16.at, cutA, cutL, List.getD_eq_getElem?_getD]
theorem cutA_succ (c : Int) (a : A16) (k : Nat) (hk : k < 16) : (cutA c k a).cells.set k (bv (a.at k &&& maskB (c - 8 * k))) = (cutA c (k + 1) a).cells := by
  have := a.h
  apply List.ext_getElem
  · simp [A16.cells, cutA, cutL]
  · intro i h1 h2
    simp only [A16.cells, cutA, cutL, A16.at, List.getElem_set, List.getElem_map, List.getElem_mapIdx]
    by_cases hik : k = i
    · subst hik; simp [List.getD_eq_getElem?_getD, List.getElem?_eq_getElem (show k < a.l.length by omega)]
    · rw [if_neg hik]
      by_cases h3 : i < k
      · rw [if_pos h3, if_pos (by omega)]
      · rw [if_neg h3, if_neg (by omega)]
theorem Pfx.cells_at (p : Pfx) {k : Nat} (hk : k < 16) : p.cells[1 + k]? = some (bv (p.a.at k)) := by
  have := p.a.h
  rw [Nat.add_comm 1 k]
  simp only [Pfx.cells, List.getElem?_cons_succ]
  rw [List.getElem?_append_left (by simp [A16.cells_length]; omega)]
  simp [A16.cells, A16.at, List.getD_eq_getElem?_getD, List.getElem?_eq_getElem (show k < p.a.l.length by omega)]
theorem Pfx.cells_0 (p : Pfx) : p.cells[0]? = some (.bool p.v6) := rfl
theorem Pfx.cells_17 (p : Pfx) : p.cells[17]? = some (.int .i64 p.len) := by
  simp only [Pfx.cells, List.getElem?_cons_succ]
  rw [List.getElem?_append_right (by simp [A16.cells_length])]
  simp [A16.cells_length]
theorem Pfx.set_17 (v6 : Bool) (a : A16) (n m : Int) : (Pfx.cells ⟨v6, a, n⟩).set 17 (.int .i64 m) = Pfx.cells ⟨v6, a, m⟩ := by
  simp only [Pfx.cells, List.set_cons_succ]
  rw [List.set_append_right _ _ (by simp [A16.cells_length])]
  simp [A16.cells_length]
theorem Pfx.set_at (v6 : Bool) (a a' : A16) (n : Int) (k : Nat) (b : UInt8) (hk : k < 16) (h : a.cells.set k (bv b) = a'.cells) : (Pfx.cells ⟨v6, a, n⟩).set (1 + k) (bv b) = Pfx.cells ⟨v6, a', n⟩ := by
  rw [Nat.add_comm 1 k]
  simp only [Pfx.cells, List.set_cons_succ]
  rw [List.set_append_left _ _ (by simp [A16.cells_length]; omega), h]
def zPfx : List Value := [Value.bool false, Value.int IntKind.u8 0, Value.int IntKind.u8 0, Value.int IntKind.u8 0, Value.int IntKind.u8 0, Value.int IntKind.u8 0, Value.int IntKind.u8 0, Value.int IntKind.u8 0, Value.int IntKind.u8 0, Value.int IntKind.u8 0, Value.int IntKind.u8 0, Value.int IntKind.u8 0, Value.int IntKind.u8 0, Value.int IntKind.u8 0, Value.int IntKind.u8 0, Value.int IntKind.u8 0, Value.int IntKind.u8 0, Value.int IntKind.i64 0]

theorem and_u8 (a b : UInt8) : Go.bits .and .u8 (a.toNat : Int) (b.toNat : Int) = ((a &&& b).toNat : Int) := by
  rw [u8_and_nat _ _ a.toNat_lt b.toNat_lt, UInt8.toNat_and]
theorem info_pfx : (Tryz.prog.info? 65).map (·.size) = some 18 := by kernel_rfl

set_option maxRecDepth 100000 in
set_option maxHeartbeats 1000000 in
theorem cut_any (p : Pfx) (w : World) : Calls Tryz.prog 126 #[p.val] w fun e w' => e = .returned (cutOf p).val ∧ Below w.heap.size w w' := by
  obtain ⟨v6, a, n⟩ := p
  obtain ⟨hcb0, hcb1⟩ := clampOf_bd v6 n
  generalize hc : clampOf v6 n = c at hcb0 hcb1
  unfold clampOf at hc
  have Hc := Lib.hid hc; clear hc
  simp only [Pfx.val]
  go_enter Tryz.func126, Tryz.ntmps126
  go_wp2_with fail
  refine reg_sch2 8 [(true, 0), (true, 1), (true, 2), (true, 3), (true, 4), (false, 5), (true, 6), (true, 7)] (by kernel_rfl) (by kernel_rfl) (fun W => Blk W w.heap.size 65 (Pfx.cells ⟨v6, a, n⟩) ∧ Blk W (w.heap.size + 1) 65 zPfx ∧ Below w.heap.size w W) (fun W => Blk W w.heap.size 65 (Pfx.cells ⟨v6, a, n⟩) ∧ Blk W (w.heap.size + 1) 65 zPfx ∧ Below w.heap.size w W) ?_ ?_ ?_
  · exact ⟨((Blk.new _ _ _).alloc _).drew, by have h := (Blk.new (w.alloc (.cells (Pfx.cells ⟨v6, a, n⟩).toArray 65)) 65 zPfx).drew; rw [World.size_alloc] at h; exact h, (((Below.refl _ _).alloc (Nat.le_refl _) _).alloc (by simp) _).drew⟩
  · exact fun _ h => h
  intro W hSW
  simp only [List.map_cons, List.map_nil, List.getD_cons_zero, List.getD_cons_succ, List.drop_succ_cons, List.drop_zero]
  refine hd_pure (v := ?_) (by rfl) (fun W' hS' => ?_) ?_ -- 0
  rotate_left
  · have c0 := (hS'.1.cell 0).trans (Pfx.cells_0 _); have c17 := (hS'.1.cell 17).trans (Pfx.cells_17 _); clear hS'; (go_simp; first | with_reducible rfl | rfl)
  try simp only [Act.put, List.setIfInBounds_toArray, List.set_cons_zero, List.set_cons_succ]
  refine hd_pure (v := ?_) (by rfl) (fun W' hS' => ?_) ?_ -- 1
  rotate_left
  · have c0 := (hS'.1.cell 0).trans (Pfx.cells_0 _); have c17 := (hS'.1.cell 17).trans (Pfx.cells_17 _); clear hS'; (go_simp; first | with_reducible rfl | rfl)
  try simp only [Act.put, List.setIfInBounds_toArray, List.set_cons_zero, List.set_cons_succ]
  refine hd_pure (v := ?_) (by rfl) (fun W' hS' => ?_) ?_ -- 2
  rotate_left
  · have c0 := (hS'.1.cell 0).trans (Pfx.cells_0 _); have c17 := (hS'.1.cell 17).trans (Pfx.cells_17 _); clear hS'; (go_simp; first | with_reducible rfl | rfl)
  try simp only [Act.put, List.setIfInBounds_toArray, List.set_cons_zero, List.set_cons_succ]
  refine hd_pure (v := ?_) (by rfl) (fun W' hS' => ?_) ?_ -- 3
  rotate_left
  · have c0 := (hS'.1.cell 0).trans (Pfx.cells_0 _); have c17 := (hS'.1.cell 17).trans (Pfx.cells_17 _); clear hS'; (go_simp; first | with_reducible rfl | rfl)
  try simp only [Act.put, List.setIfInBounds_toArray, List.set_cons_zero, List.set_cons_succ]
  refine hd_pure (v := ?_) (by rfl) (fun W' hS' => ?_) ?_ -- 4
  rotate_left
  · have c0 := (hS'.1.cell 0).trans (Pfx.cells_0 _); have c17 := (hS'.1.cell 17).trans (Pfx.cells_17 _); clear hS'; (go_simp; first | with_reducible rfl | rfl)
  try simp only [Act.put, List.setIfInBounds_toArray, List.set_cons_zero, List.set_cons_succ]
  refine hd_sole (by rfl) (fun K hK => ?_) -- 5
  go_simp
  refine (addrMost_any _ _).mono ?_; rintro e w' ⟨rfl, rfl⟩
  refine hK _ _ (hSW) ?_
  clear hK K hSW
  intro hSW
  try simp only [Act.put, List.setIfInBounds_toArray, List.set_cons_zero, List.set_cons_succ]
  refine hd_pure (v := ?_) (by rfl) (fun W' hS' => ?_) ?_ -- 6
  rotate_left
  · have c0 := (hS'.1.cell 0).trans (Pfx.cells_0 _); have c17 := (hS'.1.cell 17).trans (Pfx.cells_17 _); clear hS'; (go_simp; first | with_reducible rfl | rfl)
  try simp only [Act.put, List.setIfInBounds_toArray, List.set_cons_zero, List.set_cons_succ]
  refine hd_pure (v := ?_) (by rfl) (fun W' hS' => ?_) ?_ -- 7
  rotate_left
  · have c0 := (hS'.1.cell 0).trans (Pfx.cells_0 _); have c17 := (hS'.1.cell 17).trans (Pfx.cells_17 _); clear hS'; (go_simp; first | with_reducible rfl | rfl)
  try simp only [Act.put, List.setIfInBounds_toArray, List.set_cons_zero, List.set_cons_succ]
  refine hd_nil ?_
  obtain ⟨hB, hZ, hbw⟩ := hSW; have c17 := (hB.cell 17).trans (Pfx.cells_17 _); have f17 := hB.frozen 17
  go_wp2_with fail
  refine NoPanic.normal ?_
  refine then_gen (fun W => Blk W w.heap.size 65 (Pfx.cells ⟨v6, cutA c 0 a, c⟩) ∧ Blk W (w.heap.size + 1) 65 zPfx ∧ Below w.heap.size w W) ⟨by rw [cutA_zero, ← Pfx.set_17 v6 a n c, ← Hc.out]; exact hB.set_ _ _, hZ.far (by simp) _, hbw.setCell (by simp) _⟩ ?_
  clear hB hZ hbw c17 f17
  rintro W ⟨hB, hZ, hbw⟩
  go_wp2_with fail

  go_loopw [3, 12] (fun x i wr => ∃ k : Nat, k ≤ 16 ∧ i = .int .i64 k ∧ Blk wr w.heap.size 65 (Pfx.cells ⟨v6, cutA c k a, c⟩) ∧ Blk wr (w.heap.size + 1) 65 zPfx ∧ Below w.heap.size w wr) (fun _ i _ => 16 - (intOf i).toNat)
  case atStart => exact ⟨0, by omega, rfl, hB, hZ, hbw⟩
  case round =>
    clear hB hZ hbw
    obtain ⟨k, hk, rfl, hB, hZ, hbw⟩ := hrel
    by_cases hlt : k < 16
    · have hk0 : (0 : Int) ≤ (k : Int) := by omega
      have hk1 : (k : Int) < 16 := by omega
      go_wp2_with fail
      refine reg_sch2 13 [(true, 0), (true, 1), (true, 2), (true, 3), (true, 4), (true, 5), (true, 6), (true, 7), (true, 8), (true, 11), (false, 9), (true, 10), (true, 12)] (by kernel_rfl) (by kernel_rfl) (fun W => Blk W w.heap.size 65 (Pfx.cells ⟨v6, cutA c k a, c⟩) ∧ Blk W (w.heap.size + 1) 65 zPfx ∧ Below w.heap.size w W) (fun W => Blk W w.heap.size 65 (Pfx.cells ⟨v6, cutA c k a, c⟩) ∧ Blk W (w.heap.size + 1) 65 zPfx ∧ Below w.heap.size w W) ?_ ?_ ?_
      · exact ⟨hB.drew, hZ.drew, hbw.drew⟩
      · exact fun _ h => h
      intro W hSW
      simp only [List.map_cons, List.map_nil, List.getD_cons_zero, List.getD_cons_succ, List.drop_succ_cons, List.drop_zero]
      refine hd_pure (v := ?_) (by rfl) (fun W' hS' => ?_) ?_ -- 0
      rotate_left
      · have c1 := (hS'.1.cell (1 + k)).trans (Pfx.cells_at _ hlt); have c17 := (hS'.1.cell 17).trans (Pfx.cells_17 _); rw [cutA_at c a hlt, bv] at c1; clear hS'; have e8 : IntKind.i64.wrap (8 * (k : Int)) = 8 * (k : Int) := IntWalk.i64_in _ (by omega); have e9 : IntKind.i64.wrap (c - 8 * (k : Int)) = c - 8 * (k : Int) := IntWalk.i64_in _ (by omega); (go_simp; first | with_reducible rfl | rfl)
      try simp only [Act.put, List.setIfInBounds_toArray, List.set_cons_zero, List.set_cons_succ]
      refine hd_pure (v := ?_) (by rfl) (fun W' hS' => ?_) ?_ -- 1
      rotate_left
      · have c1 := (hS'.1.cell (1 + k)).trans (Pfx.cells_at _ hlt); have c17 := (hS'.1.cell 17).trans (Pfx.cells_17 _); rw [cutA_at c a hlt, bv] at c1; clear hS'; have e8 : IntKind.i64.wrap (8 * (k : Int)) = 8 * (k : Int) := IntWalk.i64_in _ (by omega); have e9 : IntKind.i64.wrap (c - 8 * (k : Int)) = c - 8 * (k : Int) := IntWalk.i64_in _ (by omega); (go_simp; first | with_reducible rfl | rfl)
      try simp only [Act.put, List.setIfInBounds_toArray, List.set_cons_zero, List.set_cons_succ]
      refine hd_pure (v := ?_) (by rfl) (fun W' hS' => ?_) ?_ -- 2
      rotate_left
      · have c1 := (hS'.1.cell (1 + k)).trans (Pfx.cells_at _ hlt); have c17 := (hS'.1.cell 17).trans (Pfx.cells_17 _); rw [cutA_at c a hlt, bv] at c1; clear hS'; have e8 : IntKind.i64.wrap (8 * (k : Int)) = 8 * (k : Int) := IntWalk.i64_in _ (by omega); have e9 : IntKind.i64.wrap (c - 8 * (k : Int)) = c - 8 * (k : Int) := IntWalk.i64_in _ (by omega); (go_simp; first | with_reducible rfl | rfl)
      try simp only [Act.put, List.setIfInBounds_toArray, List.set_cons_zero, List.set_cons_succ]
      refine hd_pure (v := ?_) (by rfl) (fun W' hS' => ?_) ?_ -- 3
      rotate_left
      · have c1 := (hS'.1.cell (1 + k)).trans (Pfx.cells_at _ hlt); have c17 := (hS'.1.cell 17).trans (Pfx.cells_17 _); rw [cutA_at c a hlt, bv] at c1; clear hS'; have e8 : IntKind.i64.wrap (8 * (k : Int)) = 8 * (k : Int) := IntWalk.i64_in _ (by omega); have e9 : IntKind.i64.wrap (c - 8 * (k : Int)) = c - 8 * (k : Int) := IntWalk.i64_in _ (by omega); (go_simp; first | with_reducible rfl | rfl)
      try simp only [Act.put, List.setIfInBounds_toArray, List.set_cons_zero, List.set_cons_succ]
      refine hd_pure (v := ?_) (by rfl) (fun W' hS' => ?_) ?_ -- 4
      rotate_left
      · have c1 := (hS'.1.cell (1 + k)).trans (Pfx.cells_at _ hlt); have c17 := (hS'.1.cell 17).trans (Pfx.cells_17 _); rw [cutA_at c a hlt, bv] at c1; clear hS'; have e8 : IntKind.i64.wrap (8 * (k : Int)) = 8 * (k : Int) := IntWalk.i64_in _ (by omega); have e9 : IntKind.i64.wrap (c - 8 * (k : Int)) = c - 8 * (k : Int) := IntWalk.i64_in _ (by omega); (go_simp; first | with_reducible rfl | rfl)
      try simp only [Act.put, List.setIfInBounds_toArray, List.set_cons_zero, List.set_cons_succ]
      refine hd_pure (v := ?_) (by rfl) (fun W' hS' => ?_) ?_ -- 5
      rotate_left
      · have c1 := (hS'.1.cell (1 + k)).trans (Pfx.cells_at _ hlt); have c17 := (hS'.1.cell 17).trans (Pfx.cells_17 _); rw [cutA_at c a hlt, bv] at c1; clear hS'; have e8 : IntKind.i64.wrap (8 * (k : Int)) = 8 * (k : Int) := IntWalk.i64_in _ (by omega); have e9 : IntKind.i64.wrap (c - 8 * (k : Int)) = c - 8 * (k : Int) := IntWalk.i64_in _ (by omega); (go_simp; first | with_reducible rfl | rfl)
      try simp only [Act.put, List.setIfInBounds_toArray, List.set_cons_zero, List.set_cons_succ]
      refine hd_pure (v := ?_) (by rfl) (fun W' hS' => ?_) ?_ -- 6
      rotate_left
      · have c1 := (hS'.1.cell (1 + k)).trans (Pfx.cells_at _ hlt); have c17 := (hS'.1.cell 17).trans (Pfx.cells_17 _); rw [cutA_at c a hlt, bv] at c1; clear hS'; have e8 : IntKind.i64.wrap (8 * (k : Int)) = 8 * (k : Int) := IntWalk.i64_in _ (by omega); have e9 : IntKind.i64.wrap (c - 8 * (k : Int)) = c - 8 * (k : Int) := IntWalk.i64_in _ (by omega); (go_simp; first | with_reducible rfl | rfl)
      try simp only [Act.put, List.setIfInBounds_toArray, List.set_cons_zero, List.set_cons_succ]
      refine hd_pure (v := ?_) (by rfl) (fun W' hS' => ?_) ?_ -- 7
      rotate_left
      · have c1 := (hS'.1.cell (1 + k)).trans (Pfx.cells_at _ hlt); have c17 := (hS'.1.cell 17).trans (Pfx.cells_17 _); rw [cutA_at c a hlt, bv] at c1; clear hS'; have e8 : IntKind.i64.wrap (8 * (k : Int)) = 8 * (k : Int) := IntWalk.i64_in _ (by omega); have e9 : IntKind.i64.wrap (c - 8 * (k : Int)) = c - 8 * (k : Int) := IntWalk.i64_in _ (by omega); (go_simp; first | with_reducible rfl | rfl)
      try simp only [Act.put, List.setIfInBounds_toArray, List.set_cons_zero, List.set_cons_succ]
      refine hd_pure (v := ?_) (by rfl) (fun W' hS' => ?_) ?_ -- 8
      rotate_left
      · have c1 := (hS'.1.cell (1 + k)).trans (Pfx.cells_at _ hlt); have c17 := (hS'.1.cell 17).trans (Pfx.cells_17 _); rw [cutA_at c a hlt, bv] at c1; clear hS'; have e8 : IntKind.i64.wrap (8 * (k : Int)) = 8 * (k : Int) := IntWalk.i64_in _ (by omega); have e9 : IntKind.i64.wrap (c - 8 * (k : Int)) = c - 8 * (k : Int) := IntWalk.i64_in _ (by omega); (go_simp; first | with_reducible rfl | rfl)
      try simp only [Act.put, List.setIfInBounds_toArray, List.set_cons_zero, List.set_cons_succ]
      refine hd_pure (v := ?_) (by rfl) (fun W' hS' => ?_) ?_ -- 11
      rotate_left
      · have c1 := (hS'.1.cell (1 + k)).trans (Pfx.cells_at _ hlt); have c17 := (hS'.1.cell 17).trans (Pfx.cells_17 _); rw [cutA_at c a hlt, bv] at c1; clear hS'; have e8 : IntKind.i64.wrap (8 * (k : Int)) = 8 * (k : Int) := IntWalk.i64_in _ (by omega); have e9 : IntKind.i64.wrap (c - 8 * (k : Int)) = c - 8 * (k : Int) := IntWalk.i64_in _ (by omega); (go_simp; first | with_reducible rfl | rfl)
      try simp only [Act.put, List.setIfInBounds_toArray, List.set_cons_zero, List.set_cons_succ]
      refine hd_sole (by rfl) (fun K hK => ?_) -- 9
      go_simp
      refine (mask_any _ _).mono ?_; rintro e w' ⟨rfl, rfl⟩
      refine hK _ _ (hSW) ?_
      clear hK K hSW
      intro hSW
      unfold bv
      try simp only [Act.put, List.setIfInBounds_toArray, List.set_cons_zero, List.set_cons_succ]
      refine hd_pure (v := ?_) (by rfl) (fun W' hS' => ?_) ?_ -- 10
      rotate_left
      · have c1 := (hS'.1.cell (1 + k)).trans (Pfx.cells_at _ hlt); have c17 := (hS'.1.cell 17).trans (Pfx.cells_17 _); rw [cutA_at c a hlt, bv] at c1; clear hS'; have e8 : IntKind.i64.wrap (8 * (k : Int)) = 8 * (k : Int) := IntWalk.i64_in _ (by omega); have e9 : IntKind.i64.wrap (c - 8 * (k : Int)) = c - 8 * (k : Int) := IntWalk.i64_in _ (by omega); (go_simp; first | with_reducible rfl | rfl)
      try simp only [Act.put, List.setIfInBounds_toArray, List.set_cons_zero, List.set_cons_succ]
      refine hd_pure (v := ?_) (by rfl) (fun W' hS' => ?_) ?_ -- 12
      rotate_left
      · have c1 := (hS'.1.cell (1 + k)).trans (Pfx.cells_at _ hlt); have c17 := (hS'.1.cell 17).trans (Pfx.cells_17 _); rw [cutA_at c a hlt, bv] at c1; clear hS'; have e8 : IntKind.i64.wrap (8 * (k : Int)) = 8 * (k : Int) := IntWalk.i64_in _ (by omega); have e9 : IntKind.i64.wrap (c - 8 * (k : Int)) = c - 8 * (k : Int) := IntWalk.i64_in _ (by omega); (go_simp; first | with_reducible rfl | rfl)
      try simp only [Act.put, List.setIfInBounds_toArray, List.set_cons_zero, List.set_cons_succ]
      refine hd_nil ?_
      obtain ⟨hB, hZ, hbw⟩ := hSW; have c1 := (hB.cell (1 + k)).trans (Pfx.cells_at _ hlt); have f1 := hB.frozen (1 + k)
      go_wp2_with fail
      refine NoPanic.normal ?_
      go_wp2_with fail
      go_roundw
      case rel => exact ⟨k + 1, by omega, by go_num, by rw [and_u8, ← Pfx.set_at v6 (cutA c k a) (cutA c (k + 1) a) c k _ hlt (cutA_succ c a k hlt)]; exact hB.set_ _ _, hZ.far (by simp) _, hbw.setCell (by simp) _⟩
      case measure => simp [intOf]; omega
    · have hk16 : k = 16 := by omega
      subst hk16
      clear hlt hk
      go_wp2_with (first | (refine wpList_load_at rfl 65 _ rfl w.heap.size 0 18 rfl _ _ hB.range (Pfx.cells_length _) Tryz.underlying65 rfl info_pfx ?_) | (refine wpList_store_at rfl 65 _ _ rfl (w.heap.size + 1) 0 18 65 _ _ rfl rfl hZ (Pfx.cells_length _) (by decide) info_pfx (Pfx.one _) ?_))
      refine bodyPost_ret (results_cell1 rfl _ (w.heap.size + 1) 0 18 _ _ rfl ((hZ.setCells_all (by rw [Pfx.cells_length]; decide)).range) (Pfx.cells_length ⟨v6, cutA c 16 a, c⟩) Tryz.underlying65 rfl info_pfx) rfl ⟨?_, Below.setCells (by omega) _ _ hbw⟩
      simp only [cutOf, clampOf, Hc.out]
/-- Whether a prefix may be. -/
def pfxOk (p : Pfx) : Bool := decide (cutOf p = p)
set_option maxRecDepth 100000 in
set_option maxHeartbeats 1000000 in
theorem pfxRight_any (p : Pfx) (w : World) : Calls Tryz.prog 112 #[p.val] w fun e w' => e = .returned (.bool (pfxOk p)) ∧ Below w.heap.size w w' := by
  simp only [Pfx.val]
  have he := eq_pfx (cutOf p) p
  go_enter Tryz.func112, Tryz.ntmps112
  go_wp2_with fail
  refine reg_sch2 5 [(true, 0), (true, 2), (false, 1), (true, 3), (true, 4)] (by kernel_rfl) (by kernel_rfl) (fun W => Blk W w.heap.size 65 (Pfx.cells p) ∧ Below w.heap.size w W) (fun W => Blk W w.heap.size 65 (Pfx.cells p) ∧ Below w.heap.size w W) ?_ ?_ ?_
  · exact ⟨(Blk.new _ _ _).drew, ((Below.refl _ _).alloc (Nat.le_refl _) _).drew⟩
  · exact fun _ h => h
  intro W hSW
  simp only [List.map_cons, List.map_nil, List.getD_cons_zero, List.getD_cons_succ, List.drop_succ_cons, List.drop_zero]
  refine hd_pure (v := .agg p.cells.toArray) (by rfl) (fun W' hS' => exec_load_at 65 _ (by rfl) w.heap.size 0 18 (by rfl) _ _ hS'.1.range (Pfx.cells_length _) Tryz.underlying65 rfl info_pfx) ?_ -- 0
  try simp only [Act.put, List.setIfInBounds_toArray, List.set_cons_zero, List.set_cons_succ]
  refine hd_pure (v := .agg p.cells.toArray) (by rfl) (fun W' hS' => exec_load_at 65 _ (by rfl) w.heap.size 0 18 (by rfl) _ _ hS'.1.range (Pfx.cells_length _) Tryz.underlying65 rfl info_pfx) ?_ -- 2
  try simp only [Act.put, List.setIfInBounds_toArray, List.set_cons_zero, List.set_cons_succ]
  refine hd_sole (by rfl) (fun K hK => ?_) -- 1
  go_simp
  refine (cut_any p _).mono ?_; rintro e w' ⟨rfl, hb⟩
  refine hK _ _ (⟨hSW.1.below hb hSW.1.lt, below_then hSW.2 (Nat.le_refl _) hb⟩) ?_
  clear hK K hSW
  intro hSW
  clear hb; simp only [Pfx.val]
  try simp only [Act.put, List.setIfInBounds_toArray, List.set_cons_zero, List.set_cons_succ]
  refine hd_pure (v := ?_) (by rfl) (fun W' hS' => ?_) ?_ -- 3
  rotate_left
  · (go_simp; first | with_reducible rfl | rfl)
  try simp only [Act.put, List.setIfInBounds_toArray, List.set_cons_zero, List.set_cons_succ]
  refine hd_pure (v := ?_) (by rfl) (fun W' hS' => ?_) ?_ -- 4
  rotate_left
  · (go_simp; first | with_reducible rfl | rfl)
  try simp only [Act.put, List.setIfInBounds_toArray, List.set_cons_zero, List.set_cons_succ]
  refine hd_nil ?_
  have hb := hSW.2; clear hSW
  refine wpList_nil (NoPanic.normal ?_)
  go_wp2
  go_ret
  exact ⟨rfl, hb⟩
end Go.Proofs.YtmoldmnhijcckaaGreat
/- The cells of a message, one by one. -/
set_option linter.unusedVariables false
set_option linter.unusedSectionVars false
set_option linter.unusedSimpArgs false
namespace Go.Proofs.YtmoldmnhijcckaaGreat
open Go.RowKit
theorem Vrp.c1 (v : Vrp) : v.cells[1]? = some (.bool v.p.v6) := rfl
theorem Vrp.c18 (v : Vrp) : v.cells[18]? = some (.int .i64 v.p.len) := by
  simp only [Vrp.cells, List.getElem?_cons_succ]
  rw [List.getElem?_append_left (by simp [Pfx.cells_length]), Pfx.c17]
theorem Pdu.c0 (p : Pdu) : p.cells[0]? = some (.int .i64 p.kind) := rfl
theorem Pdu.c1 (p : Pdu) : p.cells[1]? = some (.int .i64 p.session) := rfl
theorem Pdu.c2 (p : Pdu) : p.cells[2]? = some (.int .u32 p.serial.toNat) := rfl
theorem Pdu.c3 (p : Pdu) : p.cells[3]? = some (.bool p.add) := rfl
theorem Pdu.cv (p : Pdu) (i : Nat) (h : i < 20) : p.cells[i + 4]? = p.v.cells[i]? := by
  simp only [Pdu.cells, List.getElem?_cons_succ]
  rw [List.getElem?_append_left (by rw [Vrp.cells_length]; exact h)]
theorem Pdu.c4 (p : Pdu) : p.cells[4]? = some (.int .u32 p.v.asn.toNat) := p.cv 0 (by omega)
theorem Pdu.c5 (p : Pdu) : p.cells[5]? = some (.bool p.v.p.v6) := p.cv 1 (by omega)
theorem Pdu.c22 (p : Pdu) : p.cells[22]? = some (.int .i64 p.v.p.len) := (p.cv 18 (by omega)).trans p.v.c18
theorem Pdu.c23 (p : Pdu) : p.cells[23]? = some (.int .i64 p.v.mx) := (p.cv 19 (by omega)).trans p.v.c19
theorem Pdu.c24 (p : Pdu) : p.cells[24]? = some (.int .i64 p.code) := by
  simp only [Pdu.cells, List.getElem?_cons_succ]
  rw [List.getElem?_append_right (by rw [Vrp.cells_length]; omega), Vrp.cells_length]; rfl
theorem Pdu.c25 (p : Pdu) : p.cells[25]? = some (.string p.text) := by
  simp only [Pdu.cells, List.getElem?_cons_succ]
  rw [List.getElem?_append_right (by rw [Vrp.cells_length]; omega), Vrp.cells_length]; rfl
theorem info_pdu : (Tryz.prog.info? 69).map (·.size) = some 26 := by kernel_rfl
theorem info_vrp : (Tryz.prog.info? 67).map (·.size) = some 20 := by kernel_rfl
theorem Blk.pdu_vrp {w : World} {g : Nat} {t : TypeId} {p : Pdu} (h : Blk w g t p.cells) : w.rangeAt g 4 p.v.cells := h.sub [.int .i64 p.kind, .int .i64 p.session, .int .u32 p.serial.toNat, .bool p.add] p.v.cells [.int .i64 p.code, .string p.text] 4 rfl rfl
theorem Blk.vrp_pfx {w : World} {g : Nat} {t : TypeId} {v : Vrp} (h : Blk w g t v.cells) : w.rangeAt g 1 v.p.cells := h.sub [.int .u32 v.asn.toNat] v.p.cells [.int .i64 v.mx] 1 rfl rfl
def zA16 : A16 := ⟨List.replicate 16 0, rfl⟩
def zPfxS : Pfx := ⟨false, zA16, 0⟩
def zVrpS : Vrp := ⟨0, zPfxS, 0⟩
/-- A message of which the kind alone is set. -/
def bareP (k : Int) : Pdu := ⟨k, 0, 0, false, zVrpS, 0, ByteArray.empty⟩
theorem stood29 : Tryz.prog.stoodInHeld 69 = false := by kernel_rfl
theorem isSome27 : (Tryz.prog.info? 67).isSome = true := by kernel_rfl
instance : DecidableEq Pdu := fun p q => decidable_of_iff (p.kind = q.kind ∧ p.session = q.session ∧ p.serial = q.serial ∧ p.add = q.add ∧ p.v = q.v ∧ p.code = q.code ∧ p.text = q.text) (by cases p; cases q; simp)
theorem beq_text (a b : ByteArray) : (a.toList == b.toList) = decide (a = b) := by
  rw [ByteArray.toList_eq, ByteArray.toList_eq, Bool.eq_iff_iff]
  obtain ⟨⟨x⟩⟩ := a
  obtain ⟨⟨y⟩⟩ := b
  simp
set_option maxRecDepth 100000 in
theorem eqIn_pdu (d : Nat) (p q : Pdu) (w : World) : (Op.equalIn (d + 5) 69 (.agg p.cells.toArray) (.agg q.cells.toArray)).run Tryz.prog w = .ok (decide (p = q)) w := by
  refine (eqA_of' Tryz.underlying69 stood29
    (eqf_cons' (by rfl) (part_one pk3 p.c0) (part_one pk3 q.c0) (run_equalIn_int w _ _ .i64 .i64 _ _ Tryz.underlying3)
    (eqf_cons' (by rfl) (part_one pk3 p.c1) (part_one pk3 q.c1) (run_equalIn_int w _ _ .i64 .i64 _ _ Tryz.underlying3)
    (eqf_cons' (by rfl) (part_one pk22 p.c2) (part_one pk22 q.c2) (run_equalIn_int w _ _ .u32 .u32 _ _ Tryz.underlying28)
    (eqf_cons' (by rfl) (part_one pk4 p.c3) (part_one pk4 q.c3) (run_equalIn_bool w _ _ _ _ Tryz.underlying4)
    (eqf_cons' (by rfl) (part_mid Tryz.underlying67 (.inr ⟨_, rfl⟩) cells27 isSome27 [.int .i64 p.kind, .int .i64 p.session, .int .u32 p.serial.toNat, .bool p.add] p.v.cells [.int .i64 p.code, .string p.text] 4 rfl rfl p.v.cells_length) (part_mid Tryz.underlying67 (.inr ⟨_, rfl⟩) cells27 isSome27 [.int .i64 q.kind, .int .i64 q.session, .int .u32 q.serial.toNat, .bool q.add] q.v.cells [.int .i64 q.code, .string q.text] 4 rfl rfl q.v.cells_length) (eqIn_vrp d p.v q.v w)
    (eqf_cons' (by rfl) (part_one pk3 p.c24) (part_one pk3 q.c24) (run_equalIn_int w _ _ .i64 .i64 _ _ Tryz.underlying3)
    (eqf_cons' (by rfl) (part_one pk9 p.c25) (part_one pk9 q.c25) (run_equalIn_string w _ _ _ _ Tryz.underlying9) eqf_nil')))))))).trans ?_
  refine congrArg (Result.ok · w) ?_
  rw [beq_text]
  obtain ⟨k, s, n, a, v, c, t⟩ := p
  obtain ⟨k', s', n', a', v', c', t'⟩ := q
  rw [Bool.eq_iff_iff]
  simp only [Bool.and_true, Bool.and_eq_true, beq_iff_eq, decide_eq_true_eq, Pdu.mk.injEq]
  exact ⟨fun ⟨h1, h2, h3, h4, h5, h6, h7⟩ => ⟨h1, h2, UInt32.toNat_inj.1 (by omega), h4, h5, h6, h7⟩, fun ⟨h1, h2, h3, h4, h5, h6, h7⟩ => ⟨h1, h2, by rw [h3], h4, h5, h6, h7⟩⟩
theorem eq_pdu (p q : Pdu) (w : World) : (Go.binOp .eql 69 (.agg p.cells.toArray) (.agg q.cells.toArray)).run Tryz.prog w = .ok (.bool (decide (p = q))) w := by
  rw [run_eql_struct, eqIn_pdu 9995]; rfl
theorem neq_pdu (p q : Pdu) (w : World) : (Go.binOp .neq 69 (.agg p.cells.toArray) (.agg q.cells.toArray)).run Tryz.prog w = .ok (.bool (!decide (p = q))) w := by
  rw [run_neq_struct, eqIn_pdu 9995]; rfl
/-- Its cells, written out. -/
abbrev bareL (k : Int) : List Value := [.int .i64 k, .int .i64 0, .int .u32 0, .bool false, .int .u32 0, .bool false, .int .u8 0, .int .u8 0, .int .u8 0, .int .u8 0, .int .u8 0, .int .u8 0, .int .u8 0, .int .u8 0, .int .u8 0, .int .u8 0, .int .u8 0, .int .u8 0, .int .u8 0, .int .u8 0, .int .u8 0, .int .u8 0, .int .i64 0, .int .i64 0, .int .i64 0, .string ⟨#[]⟩]
theorem bareL_eq (k : Int) : bareL k = (bareP k).cells := rfl
abbrev vrpL : List Value := [.int .u32 0, .bool false, .int .u8 0, .int .u8 0, .int .u8 0, .int .u8 0, .int .u8 0, .int .u8 0, .int .u8 0, .int .u8 0, .int .u8 0, .int .u8 0, .int .u8 0, .int .u8 0, .int .u8 0, .int .u8 0, .int .u8 0, .int .u8 0, .int .i64 0, .int .i64 0]
theorem vrpL_eq : vrpL = zVrpS.cells := rfl
abbrev pfxL : List Value := [.bool false, .int .u8 0, .int .u8 0, .int .u8 0, .int .u8 0, .int .u8 0, .int .u8 0, .int .u8 0, .int .u8 0, .int .u8 0, .int .u8 0, .int .u8 0, .int .u8 0, .int .u8 0, .int .u8 0, .int .u8 0, .int .u8 0, .int .i64 0]
theorem pfxL_eq : pfxL = zPfxS.cells := rfl
end Go.Proofs.YtmoldmnhijcckaaGreat
