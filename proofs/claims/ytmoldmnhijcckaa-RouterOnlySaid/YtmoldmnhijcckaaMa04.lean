/- The contracts of addr.Cut and addr.Right. -/
import Derived.Test.YtmoldmnhijcckaaMa00
import Derived.Test.YtmoldmnhijcckaaMa01
import Derived.Test.YtmoldmnhijcckaaReg
import Derived.Laws.BitsAllLaws
import Derived.Test.YtmoldmnhijcckaaMa03
set_option linter.unusedVariables false
set_option linter.unusedSectionVars false
set_option linter.unusedSimpArgs false
namespace Go.Proofs.Ytmoldmnhijcckaa
open Go.RowKit
attribute [local go_sem high] run_imax run_imin
def clampOf (v6 : Bool) (n : Int) : Int := imin (imax n 0) (mostOf v6)
def cutL (c : Int) (k : Nat) (l : List UInt8) : List UInt8 := l.mapIdx fun i b => if i < k then b &&& maskB (c - 8 * i) else b
def cutA (c : Int) (k : Nat) (a : A16) : A16 := ⟨cutL c k a.l, by simp [cutL, a.h]⟩
def cutOf (p : Pfx) : Pfx := ⟨p.v6, cutA (clampOf p.v6 p.len) 16 p.a, clampOf p.v6 p.len⟩
theorem clampOf_bd (v6 : Bool) (n : Int) : 0 ≤ clampOf v6 n ∧ clampOf v6 n ≤ 128 := by
  unfold clampOf; rw [imin_eq, imax_eq]; cases v6 <;> simp only [mostOf_t, mostOf_f] <;> omega
theorem cutA_zero (c : Int) (a : A16) : cutA c 0 a = a := by
  apply A16.ext'; simp only [cutA, cutL]; apply List.ext_getElem <;> simp
def A16.at (a : A16) (k : Nat) : UInt8 := a.l.getD k 0
theorem cutA_at (c : Int) (a : A16) {k : Nat} (hk : k < 16) : (cutA c k a).at k = a.at k := by
  have := a.h
  simp [A16.at, cutA, cutL, List.getD_eq_getElem?_getD]
theorem cutA_succ (c : Int) (a : A16) (k : Nat) (hk : k < 16) : (cutA c k a).cells.set k (bv (a.at k &&& maskB (c - 8 * k))) = (cutA c (k + 1) a).cells := by
  have := a.h
  apply List.ext_getElem
  · simp [A16.cells, cutA, cutL]
  · intro i h1 h2
    simp only [A16.cells, cutA, cutL, A16.at, List.getElem_set, List.getElem_map, List.getElem_mapIdx]
    by_cases hik : k = i
    · subst hik; simp [List.getD_eq_getElem?_getD, List.getElem?_eq_getElem (show k < a.l.length by omega)]
    · rw [if_neg hik]
      by_cases h3 : i < k
      · rw [if_pos h3, if_pos (by omega)]
      · rw [if_neg h3, if_neg (by omega)]
theorem Pfx.cells_at (p : Pfx) {k : Nat} (hk : k < 16) : p.cells[1 + k]? = some (bv (p.a.at k)) := by
  have := p.a.h
  rw [Nat.add_comm 1 k]
  simp only [Pfx.cells, List.getElem?_cons_succ]
  rw [List.getElem?_append_left (by simp [A16.cells_length]; omega)]
  simp [A16.cells, A16.at, List.getD_eq_getElem?_getD, List.getElem?_eq_getElem (show k < p.a.l.length by omega)]
theorem Pfx.cells_0 (p : Pfx) : p.cells[0]? = some (.bool p.v6) := rfl
theorem Pfx.cells_17 (p : Pfx) : p.cells[17]? = some (.int .i64 p.len) := by
  simp only [Pfx.cells, List.getElem?_cons_succ]
  rw [List.getElem?_append_right (by simp [A16.cells_length])]
  simp [A16.cells_length]
theorem Pfx.set_17 (v6 : Bool) (a : A16) (n m : Int) : (Pfx.cells ⟨v6, a, n⟩).set 17 (.int .i64 m) = Pfx.cells ⟨v6, a, m⟩ := by
  simp only [Pfx.cells, List.set_cons_succ]
  rw [List.set_append_right _ _ (by simp [A16.cells_length])]
  simp [A16.cells_length]
theorem Pfx.set_at (v6 : Bool) (a a' : A16) (n : Int) (k : Nat) (b : UInt8) (hk : k < 16) (h : a.cells.set k (bv b) = a'.cells) : (Pfx.cells ⟨v6, a, n⟩).set (1 + k) (bv b) = Pfx.cells ⟨v6, a', n⟩ := by
  rw [Nat.add_comm 1 k]
  simp only [Pfx.cells, List.set_cons_succ]
  rw [List.set_append_left _ _ (by simp [A16.cells_length]; omega), h]
def zPfx : List Value := [Value.bool false, Value.int IntKind.u8 0, Value.int IntKind.u8 0, Value.int IntKind.u8 0, Value.int IntKind.u8 0, Value.int IntKind.u8 0, Value.int IntKind.u8 0, Value.int IntKind.u8 0, Value.int IntKind.u8 0, Value.int IntKind.u8 0, Value.int IntKind.u8 0, Value.int IntKind.u8 0, Value.int IntKind.u8 0, Value.int IntKind.u8 0, Value.int IntKind.u8 0, Value.int IntKind.u8 0, Value.int IntKind.u8 0, Value.int IntKind.i64 0]

theorem and_u8 (a b : UInt8) : Go.bits .and .u8 (a.toNat : Int) (b.toNat : Int) = ((a &&& b).toNat : Int) := by
  rw [u8_and_nat _ _ a.toNat_lt b.toNat_lt, UInt8.toNat_and]
theorem info_pfx : (Try.prog.info? 25).map (·.size) = some 18 := by kernel_rfl

set_option maxRecDepth 100000 in
set_option maxHeartbeats 1000000 in
theorem cut_any (p : Pfx) (w : World) : Calls Try.prog 85 #[p.val] w fun e w' => e = .returned (cutOf p).val ∧ Below w.heap.size w w' := by
  obtain ⟨v6, a, n⟩ := p
  obtain ⟨hcb0, hcb1⟩ := clampOf_bd v6 n
  generalize hc : clampOf v6 n = c at hcb0 hcb1
  unfold clampOf at hc
  have Hc := Lib.hid hc; clear hc
  simp only [Pfx.val]
  go_enter Try.func85, Try.ntmps85
  go_wp2_with fail
  refine reg_sch2 8 [(true, 0), (true, 1), (true, 2), (true, 3), (true, 4), (false, 5), (true, 6), (true, 7)] (by kernel_rfl) (by kernel_rfl) (fun W => Blk W w.heap.size 25 (Pfx.cells ⟨v6, a, n⟩) ∧ Blk W (w.heap.size + 1) 25 zPfx ∧ Below w.heap.size w W) (fun W => Blk W w.heap.size 25 (Pfx.cells ⟨v6, a, n⟩) ∧ Blk W (w.heap.size + 1) 25 zPfx ∧ Below w.heap.size w W) ?_ ?_ ?_
  · exact ⟨((Blk.new _ _ _).alloc _).drew, by have h := (Blk.new (w.alloc (.cells (Pfx.cells ⟨v6, a, n⟩).toArray 25)) 25 zPfx).drew; rw [World.size_alloc] at h; exact h, (((Below.refl _ _).alloc (Nat.le_refl _) _).alloc (by simp) _).drew⟩
  · exact fun _ h => h
  intro W hSW
  simp only [List.map_cons, List.map_nil, List.getD_cons_zero, List.getD_cons_succ, List.drop_succ_cons, List.drop_zero]
  refine hd_pure (v := ?_) (by rfl) (fun W' hS' => ?_) ?_ -- 0
  rotate_left
  · have c0 := (hS'.1.cell 0).trans (Pfx.cells_0 _); have c17 := (hS'.1.cell 17).trans (Pfx.cells_17 _); clear hS'; (go_simp; first | with_reducible rfl | rfl)
  try simp only [Act.put, List.setIfInBounds_toArray, List.set_cons_zero, List.set_cons_succ]
  refine hd_pure (v := ?_) (by rfl) (fun W' hS' => ?_) ?_ -- 1
  rotate_left
  · have c0 := (hS'.1.cell 0).trans (Pfx.cells_0 _); have c17 := (hS'.1.cell 17).trans (Pfx.cells_17 _); clear hS'; (go_simp; first | with_reducible rfl | rfl)
  try simp only [Act.put, List.setIfInBounds_toArray, List.set_cons_zero, List.set_cons_succ]
  refine hd_pure (v := ?_) (by rfl) (fun W' hS' => ?_) ?_ -- 2
  rotate_left
  · have c0 := (hS'.1.cell 0).trans (Pfx.cells_0 _); have c17 := (hS'.1.cell 17).trans (Pfx.cells_17 _); clear hS'; (go_simp; first | with_reducible rfl | rfl)
  try simp only [Act.put, List.setIfInBounds_toArray, List.set_cons_zero, List.set_cons_succ]
  refine hd_pure (v := ?_) (by rfl) (fun W' hS' => ?_) ?_ -- 3
  rotate_left
  · have c0 := (hS'.1.cell 0).trans (Pfx.cells_0 _); have c17 := (hS'.1.cell 17).trans (Pfx.cells_17 _); clear hS'; (go_simp; first | with_reducible rfl | rfl)
  try simp only [Act.put, List.setIfInBounds_toArray, List.set_cons_zero, List.set_cons_succ]
  refine hd_pure (v := ?_) (by rfl) (fun W' hS' => ?_) ?_ -- 4
  rotate_left
  · have c0 := (hS'.1.cell 0).trans (Pfx.cells_0 _); have c17 := (hS'.1.cell 17).trans (Pfx.cells_17 _); clear hS'; (go_simp; first | with_reducible rfl | rfl)
  try simp only [Act.put, List.setIfInBounds_toArray, List.set_cons_zero, List.set_cons_succ]
  refine hd_sole (by rfl) (fun K hK => ?_) -- 5
  go_simp
  refine (addrMost_any _ _).mono ?_; rintro e w' ⟨rfl, rfl⟩
  refine hK _ _ (hSW) ?_
  clear hK K hSW
  intro hSW
  try simp only [Act.put, List.setIfInBounds_toArray, List.set_cons_zero, List.set_cons_succ]
  refine hd_pure (v := ?_) (by rfl) (fun W' hS' => ?_) ?_ -- 6
  rotate_left
  · have c0 := (hS'.1.cell 0).trans (Pfx.cells_0 _); have c17 := (hS'.1.cell 17).trans (Pfx.cells_17 _); clear hS'; (go_simp; first | with_reducible rfl | rfl)
  try simp only [Act.put, List.setIfInBounds_toArray, List.set_cons_zero, List.set_cons_succ]
  refine hd_pure (v := ?_) (by rfl) (fun W' hS' => ?_) ?_ -- 7
  rotate_left
  · have c0 := (hS'.1.cell 0).trans (Pfx.cells_0 _); have c17 := (hS'.1.cell 17).trans (Pfx.cells_17 _); clear hS'; (go_simp; first | with_reducible rfl | rfl)
  try simp only [Act.put, List.setIfInBounds_toArray, List.set_cons_zero, List.set_cons_succ]
  refine hd_nil ?_
  obtain ⟨hB, hZ, hbw⟩ := hSW; have c17 := (hB.cell 17).trans (Pfx.cells_17 _); have f17 := hB.frozen 17
  go_wp2_with fail
  refine NoPanic.normal ?_
  refine then_gen (fun W => Blk W w.heap.size 25 (Pfx.cells ⟨v6, cutA c 0 a, c⟩) ∧ Blk W (w.heap.size + 1) 25 zPfx ∧ Below w.heap.size w W) ⟨by rw [cutA_zero, ← Pfx.set_17 v6 a n c, ← Hc.out]; exact hB.set_ _ _, hZ.far (by simp) _, hbw.setCell (by simp) _⟩ ?_
  clear hB hZ hbw c17 f17
  rintro W ⟨hB, hZ, hbw⟩
  go_wp2_with fail

  go_loopw [3, 12] (fun x i wr => ∃ k : Nat, k ≤ 16 ∧ i = .int .i64 k ∧ Blk wr w.heap.size 25 (Pfx.cells ⟨v6, cutA c k a, c⟩) ∧ Blk wr (w.heap.size + 1) 25 zPfx ∧ Below w.heap.size w wr) (fun _ i _ => 16 - (intOf i).toNat)
  case atStart => exact ⟨0, by omega, rfl, hB, hZ, hbw⟩
  case round =>
    clear hB hZ hbw
    obtain ⟨k, hk, rfl, hB, hZ, hbw⟩ := hrel
    by_cases hlt : k < 16
    · have hk0 : (0 : Int) ≤ (k : Int) := by omega
      have hk1 : (k : Int) < 16 := by omega
      go_wp2_with fail
      refine reg_sch2 13 [(true, 0), (true, 1), (true, 2), (true, 3), (true, 4), (true, 5), (true, 6), (true, 7), (true, 8), (true, 11), (false, 9), (true, 10), (true, 12)] (by kernel_rfl) (by kernel_rfl) (fun W => Blk W w.heap.size 25 (Pfx.cells ⟨v6, cutA c k a, c⟩) ∧ Blk W (w.heap.size + 1) 25 zPfx ∧ Below w.heap.size w W) (fun W => Blk W w.heap.size 25 (Pfx.cells ⟨v6, cutA c k a, c⟩) ∧ Blk W (w.heap.size + 1) 25 zPfx ∧ Below w.heap.size w W) ?_ ?_ ?_
      · exact ⟨hB.drew, hZ.drew, hbw.drew⟩
      · exact fun _ h => h
      intro W hSW
      simp only [List.map_cons, List.map_nil, List.getD_cons_zero, List.getD_cons_succ, List.drop_succ_cons, List.drop_zero]
      refine hd_pure (v := ?_) (by rfl) (fun W' hS' => ?_) ?_ -- 0
      rotate_left
      · have c1 := (hS'.1.cell (1 + k)).trans (Pfx.cells_at _ hlt); have c17 := (hS'.1.cell 17).trans (Pfx.cells_17 _); rw [cutA_at c a hlt, bv] at c1; clear hS'; have e8 : IntKind.i64.wrap (8 * (k : Int)) = 8 * (k : Int) := IntWalk.i64_in _ (by omega); have e9 : IntKind.i64.wrap (c - 8 * (k : Int)) = c - 8 * (k : Int) := IntWalk.i64_in _ (by omega); (go_simp; first | with_reducible rfl | rfl)
      try simp only [Act.put, List.setIfInBounds_toArray, List.set_cons_zero, List.set_cons_succ]
      refine hd_pure (v := ?_) (by rfl) (fun W' hS' => ?_) ?_ -- 1
      rotate_left
      · have c1 := (hS'.1.cell (1 + k)).trans (Pfx.cells_at _ hlt); have c17 := (hS'.1.cell 17).trans (Pfx.cells_17 _); rw [cutA_at c a hlt, bv] at c1; clear hS'; have e8 : IntKind.i64.wrap (8 * (k : Int)) = 8 * (k : Int) := IntWalk.i64_in _ (by omega); have e9 : IntKind.i64.wrap (c - 8 * (k : Int)) = c - 8 * (k : Int) := IntWalk.i64_in _ (by omega); (go_simp; first | with_reducible rfl | rfl)
      try simp only [Act.put, List.setIfInBounds_toArray, List.set_cons_zero, List.set_cons_succ]
      refine hd_pure (v := ?_) (by rfl) (fun W' hS' => ?_) ?_ -- 2
      rotate_left
      · have c1 := (hS'.1.cell (1 + k)).trans (Pfx.cells_at _ hlt); have c17 := (hS'.1.cell 17).trans (Pfx.cells_17 _); rw [cutA_at c a hlt, bv] at c1; clear hS'; have e8 : IntKind.i64.wrap (8 * (k : Int)) = 8 * (k : Int) := IntWalk.i64_in _ (by omega); have e9 : IntKind.i64.wrap (c - 8 * (k : Int)) = c - 8 * (k : Int) := IntWalk.i64_in _ (by omega); (go_simp; first | with_reducible rfl | rfl)
      try simp only [Act.put, List.setIfInBounds_toArray, List.set_cons_zero, List.set_cons_succ]
      refine hd_pure (v := ?_) (by rfl) (fun W' hS' => ?_) ?_ -- 3
      rotate_left
      · have c1 := (hS'.1.cell (1 + k)).trans (Pfx.cells_at _ hlt); have c17 := (hS'.1.cell 17).trans (Pfx.cells_17 _); rw [cutA_at c a hlt, bv] at c1; clear hS'; have e8 : IntKind.i64.wrap (8 * (k : Int)) = 8 * (k : Int) := IntWalk.i64_in _ (by omega); have e9 : IntKind.i64.wrap (c - 8 * (k : Int)) = c - 8 * (k : Int) := IntWalk.i64_in _ (by omega); (go_simp; first | with_reducible rfl | rfl)
      try simp only [Act.put, List.setIfInBounds_toArray, List.set_cons_zero, List.set_cons_succ]
      refine hd_pure (v := ?_) (by rfl) (fun W' hS' => ?_) ?_ -- 4
      rotate_left
      · have c1 := (hS'.1.cell (1 + k)).trans (Pfx.cells_at _ hlt); have c17 := (hS'.1.cell 17).trans (Pfx.cells_17 _); rw [cutA_at c a hlt, bv] at c1; clear hS'; have e8 : IntKind.i64.wrap (8 * (k : Int)) = 8 * (k : Int) := IntWalk.i64_in _ (by omega); have e9 : IntKind.i64.wrap (c - 8 * (k : Int)) = c - 8 * (k : Int) := IntWalk.i64_in _ (by omega); (go_simp; first | with_reducible rfl | rfl)
      try simp only [Act.put, List.setIfInBounds_toArray, List.set_cons_zero, List.set_cons_succ]
      refine hd_pure (v := ?_) (by rfl) (fun W' hS' => ?_) ?_ -- 5
      rotate_left
      · have c1 := (hS'.1.cell (1 + k)).trans (Pfx.cells_at _ hlt); have c17 := (hS'.1.cell 17).trans (Pfx.cells_17 _); rw [cutA_at c a hlt, bv] at c1; clear hS'; have e8 : IntKind.i64.wrap (8 * (k : Int)) = 8 * (k : Int) := IntWalk.i64_in _ (by omega); have e9 : IntKind.i64.wrap (c - 8 * (k : Int)) = c - 8 * (k : Int) := IntWalk.i64_in _ (by omega); (go_simp; first | with_reducible rfl | rfl)
      try simp only [Act.put, List.setIfInBounds_toArray, List.set_cons_zero, List.set_cons_succ]
      refine hd_pure (v := ?_) (by rfl) (fun W' hS' => ?_) ?_ -- 6
      rotate_left
      · have c1 := (hS'.1.cell (1 + k)).trans (Pfx.cells_at _ hlt); have c17 := (hS'.1.cell 17).trans (Pfx.cells_17 _); rw [cutA_at c a hlt, bv] at c1; clear hS'; have e8 : IntKind.i64.wrap (8 * (k : Int)) = 8 * (k : Int) := IntWalk.i64_in _ (by omega); have e9 : IntKind.i64.wrap (c - 8 * (k : Int)) = c - 8 * (k : Int) := IntWalk.i64_in _ (by omega); (go_simp; first | with_reducible rfl | rfl)
      try simp only [Act.put, List.setIfInBounds_toArray, List.set_cons_zero, List.set_cons_succ]
      refine hd_pure (v := ?_) (by rfl) (fun W' hS' => ?_) ?_ -- 7
      rotate_left
      · have c1 := (hS'.1.cell (1 + k)).trans (Pfx.cells_at _ hlt); have c17 := (hS'.1.cell 17).trans (Pfx.cells_17 _); rw [cutA_at c a hlt, bv] at c1; clear hS'; have e8 : IntKind.i64.wrap (8 * (k : Int)) = 8 * (k : Int) := IntWalk.i64_in _ (by omega); have e9 : IntKind.i64.wrap (c - 8 * (k : Int)) = c - 8 * (k : Int) := IntWalk.i64_in _ (by omega); (go_simp; first | with_reducible rfl | rfl)
      try simp only [Act.put, List.setIfInBounds_toArray, List.set_cons_zero, List.set_cons_succ]
      refine hd_pure (v := ?_) (by rfl) (fun W' hS' => ?_) ?_ -- 8
      rotate_left
      · have c1 := (hS'.1.cell (1 + k)).trans (Pfx.cells_at _ hlt); have c17 := (hS'.1.cell 17).trans (Pfx.cells_17 _); rw [cutA_at c a hlt, bv] at c1; clear hS'; have e8 : IntKind.i64.wrap (8 * (k : Int)) = 8 * (k : Int) := IntWalk.i64_in _ (by omega); have e9 : IntKind.i64.wrap (c - 8 * (k : Int)) = c - 8 * (k : Int) := IntWalk.i64_in _ (by omega); (go_simp; first | with_reducible rfl | rfl)
      try simp only [Act.put, List.setIfInBounds_toArray, List.set_cons_zero, List.set_cons_succ]
      refine hd_pure (v := ?_) (by rfl) (fun W' hS' => ?_) ?_ -- 11
      rotate_left
      · have c1 := (hS'.1.cell (1 + k)).trans (Pfx.cells_at _ hlt); have c17 := (hS'.1.cell 17).trans (Pfx.cells_17 _); rw [cutA_at c a hlt, bv] at c1; clear hS'; have e8 : IntKind.i64.wrap (8 * (k : Int)) = 8 * (k : Int) := IntWalk.i64_in _ (by omega); have e9 : IntKind.i64.wrap (c - 8 * (k : Int)) = c - 8 * (k : Int) := IntWalk.i64_in _ (by omega); (go_simp; first | with_reducible rfl | rfl)
      try simp only [Act.put, List.setIfInBounds_toArray, List.set_cons_zero, List.set_cons_succ]
      refine hd_sole (by rfl) (fun K hK => ?_) -- 9
      go_simp
      refine (mask_any _ _).mono ?_; rintro e w' ⟨rfl, rfl⟩
      refine hK _ _ (hSW) ?_
      clear hK K hSW
      intro hSW
      unfold bv
      try simp only [Act.put, List.setIfInBounds_toArray, List.set_cons_zero, List.set_cons_succ]
      refine hd_pure (v := ?_) (by rfl) (fun W' hS' => ?_) ?_ -- 10
      rotate_left
      · have c1 := (hS'.1.cell (1 + k)).trans (Pfx.cells_at _ hlt); have c17 := (hS'.1.cell 17).trans (Pfx.cells_17 _); rw [cutA_at c a hlt, bv] at c1; clear hS'; have e8 : IntKind.i64.wrap (8 * (k : Int)) = 8 * (k : Int) := IntWalk.i64_in _ (by omega); have e9 : IntKind.i64.wrap (c - 8 * (k : Int)) = c - 8 * (k : Int) := IntWalk.i64_in _ (by omega); (go_simp; first | with_reducible rfl | rfl)
      try simp only [Act.put, List.setIfInBounds_toArray, List.set_cons_zero, List.set_cons_succ]
      refine hd_pure (v := ?_) (by rfl) (fun W' hS' => ?_) ?_ -- 12
      rotate_left
      · have c1 := (hS'.1.cell (1 + k)).trans (Pfx.cells_at _ hlt); have c17 := (hS'.1.cell 17).trans (Pfx.cells_17 _); rw [cutA_at c a hlt, bv] at c1; clear hS'; have e8 : IntKind.i64.wrap (8 * (k : Int)) = 8 * (k : Int) := IntWalk.i64_in _ (by omega); have e9 : IntKind.i64.wrap (c - 8 * (k : Int)) = c - 8 * (k : Int) := IntWalk.i64_in _ (by omega); (go_simp; first | with_reducible rfl | rfl)
      try simp only [Act.put, List.setIfInBounds_toArray, List.set_cons_zero, List.set_cons_succ]
      refine hd_nil ?_
      obtain ⟨hB, hZ, hbw⟩ := hSW; have c1 := (hB.cell (1 + k)).trans (Pfx.cells_at _ hlt); have f1 := hB.frozen (1 + k)
      go_wp2_with fail
      refine NoPanic.normal ?_
      go_wp2_with fail
      go_roundw
      case rel => exact ⟨k + 1, by omega, by go_num, by rw [and_u8, ← Pfx.set_at v6 (cutA c k a) (cutA c (k + 1) a) c k _ hlt (cutA_succ c a k hlt)]; exact hB.set_ _ _, hZ.far (by simp) _, hbw.setCell (by simp) _⟩
      case measure => simp [intOf]; omega
    · have hk16 : k = 16 := by omega
      subst hk16
      clear hlt hk
      go_wp2_with (first | (refine wpList_load_at rfl 25 _ rfl w.heap.size 0 18 rfl _ _ hB.range (Pfx.cells_length _) Try.underlying25 rfl info_pfx ?_) | (refine wpList_store_at rfl 25 _ _ rfl (w.heap.size + 1) 0 18 25 _ _ rfl rfl hZ (Pfx.cells_length _) (by decide) info_pfx (Pfx.one _) ?_))
      refine bodyPost_ret (results_cell1 rfl _ (w.heap.size + 1) 0 18 _ _ rfl ((hZ.setCells_all (by rw [Pfx.cells_length]; decide)).range) (Pfx.cells_length ⟨v6, cutA c 16 a, c⟩) Try.underlying25 rfl info_pfx) rfl ⟨?_, Below.setCells (by omega) _ _ hbw⟩
      simp only [cutOf, clampOf, Hc.out]
/-- Whether a prefix may be. -/
def pfxOk (p : Pfx) : Bool := decide (cutOf p = p)
set_option maxRecDepth 100000 in
set_option maxHeartbeats 1000000 in
theorem pfxRight_any (p : Pfx) (w : World) : Calls Try.prog 68 #[p.val] w fun e w' => e = .returned (.bool (pfxOk p)) ∧ Below w.heap.size w w' := by
  simp only [Pfx.val]
  have he := eq_pfx (cutOf p) p
  go_enter Try.func68, Try.ntmps68
  go_wp2_with fail
  refine reg_sch2 5 [(true, 0), (true, 2), (false, 1), (true, 3), (true, 4)] (by kernel_rfl) (by kernel_rfl) (fun W => Blk W w.heap.size 25 (Pfx.cells p) ∧ Below w.heap.size w W) (fun W => Blk W w.heap.size 25 (Pfx.cells p) ∧ Below w.heap.size w W) ?_ ?_ ?_
  · exact ⟨(Blk.new _ _ _).drew, ((Below.refl _ _).alloc (Nat.le_refl _) _).drew⟩
  · exact fun _ h => h
  intro W hSW
  simp only [List.map_cons, List.map_nil, List.getD_cons_zero, List.getD_cons_succ, List.drop_succ_cons, List.drop_zero]
  refine hd_pure (v := .agg p.cells.toArray) (by rfl) (fun W' hS' => exec_load_at 25 _ (by rfl) w.heap.size 0 18 (by rfl) _ _ hS'.1.range (Pfx.cells_length _) Try.underlying25 rfl info_pfx) ?_ -- 0
  try simp only [Act.put, List.setIfInBounds_toArray, List.set_cons_zero, List.set_cons_succ]
  refine hd_pure (v := .agg p.cells.toArray) (by rfl) (fun W' hS' => exec_load_at 25 _ (by rfl) w.heap.size 0 18 (by rfl) _ _ hS'.1.range (Pfx.cells_length _) Try.underlying25 rfl info_pfx) ?_ -- 2
  try simp only [Act.put, List.setIfInBounds_toArray, List.set_cons_zero, List.set_cons_succ]
  refine hd_sole (by rfl) (fun K hK => ?_) -- 1
  go_simp
  refine (cut_any p _).mono ?_; rintro e w' ⟨rfl, hb⟩
  refine hK _ _ (⟨hSW.1.below hb hSW.1.lt, below_then hSW.2 (Nat.le_refl _) hb⟩) ?_
  clear hK K hSW
  intro hSW
  clear hb; simp only [Pfx.val]
  try simp only [Act.put, List.setIfInBounds_toArray, List.set_cons_zero, List.set_cons_succ]
  refine hd_pure (v := ?_) (by rfl) (fun W' hS' => ?_) ?_ -- 3
  rotate_left
  · (go_simp; first | with_reducible rfl | rfl)
  try simp only [Act.put, List.setIfInBounds_toArray, List.set_cons_zero, List.set_cons_succ]
  refine hd_pure (v := ?_) (by rfl) (fun W' hS' => ?_) ?_ -- 4
  rotate_left
  · (go_simp; first | with_reducible rfl | rfl)
  try simp only [Act.put, List.setIfInBounds_toArray, List.set_cons_zero, List.set_cons_succ]
  refine hd_nil ?_
  have hb := hSW.2; clear hSW
  refine wpList_nil (NoPanic.normal ?_)
  go_wp2
  go_ret
  exact ⟨rfl, hb⟩
end Go.Proofs.Ytmoldmnhijcckaa
