/- The contract of lanyardref10.Cut: bit by bit. -/
import Derived.Test.YtmoldmnhijcckaaDoorRefU
set_option linter.unusedVariables false
set_option linter.unusedSectionVars false
set_option linter.unusedSimpArgs false
namespace Go.Proofs.YtmoldmnhijcckaaDoor
open Go.RowKit
attribute [local go_sem high] run_imax run_imin
/-- A bit shifted to the left, closed to the walk. -/
def shlB (c : Int) : Int := 2 ^ c.toNat
theorem shift_shlB (yk : IntKind) (c : Int) (h0 : 0 ≤ c) (h1 : c ≤ 7) : Op.shift .shl .u8 1 yk c = pure (.int .u8 (shlB c)) := by
  have h : c = 0 ∨ c = 1 ∨ c = 2 ∨ c = 3 ∨ c = 4 ∨ c = 5 ∨ c = 6 ∨ c = 7 := by omega
  rcases h with rfl | rfl | rfl | rfl | rfl | rfl | rfl | rfl <;> rfl
attribute [local go_sem high] shift_shlB
theorem Pfx.set_av (v6 : Bool) (a a' : A16) (n : Int) (k : Nat) (v : Value) (hk : k < 16) (h : a.cells.set k v = a'.cells) : (Pfx.cells ⟨v6, a, n⟩).set (1 + k) v = Pfx.cells ⟨v6, a', n⟩ := by
  rw [Nat.add_comm 1 k]
  simp only [Pfx.cells, List.set_cons_succ]
  rw [List.set_append_left _ _ (by simp [A16.cells_length]; omega), h]
theorem A16.cells_inj {a b : A16} (h : a.cells = b.cells) : a = b := by
  apply A16.ext'
  have hl := a.h
  have hr := b.h
  apply List.ext_getElem (by rw [hl, hr])
  intro k h1 h2
  have e : a.cells[k]? = b.cells[k]? := by rw [h]
  rw [a16_cell a k (by omega), a16_cell b k (by omega)] at e
  have e2 : (a.at k).toNat = (b.at k).toNat := by
    have := Option.some.inj e
    injection this with _ this
    exact Int.ofNat.inj this
  have e3 := UInt8.toNat_inj.1 e2
  simpa [A16.at, List.getD_eq_getElem?_getD, List.getElem?_eq_getElem h1, List.getElem?_eq_getElem h2] using e3
/-- A bit that is not there: nothing to do. -/
theorem clrA_skip (lo : Int) (a : A16) (i : Nat) (hi : i < 128) (hlo : lo ≤ i) (h : bitAt (clrA lo i a) i ≠ 1) : clrA lo ((i : Int) + 1) a = clrA lo i a := by
  have e := clrA_step lo a i hi hlo
  rw [if_neg h] at e
  apply A16.cells_inj
  rw [← e]
  apply List.ext_getElem?
  intro k
  rw [List.getElem?_set]
  by_cases hk : i / 8 = k
  · subst hk
    rw [if_pos rfl, if_pos (by rw [A16.cells_length]; omega), a16_cell _ _ (by omega)]
  · rw [if_neg hk]
theorem clrA_le (lo : Int) (a : A16) (i : Nat) (hi : i < 128) (hlo : lo ≤ i) (h : bitAt (clrA lo i a) i = 1) : 2 ^ (7 - i % 8) ≤ ((clrA lo i a).at (i / 8)).toNat := by
  have hs := (clr_step (a.at (i / 8)) (lo - 8 * ((i / 8 : Nat) : Int)) (i % 8) (by omega) (by omega)).2
  have e1 : (clrA lo i a).at (i / 8) = clrB (a.at (i / 8)) (lo - 8 * ((i / 8 : Nat) : Int)) ((i % 8 : Nat) : Int) := by
    rw [clrA_at _ _ _ _ (by omega)]; congr 1; omega
  unfold bitAt at h
  rw [e1] at h ⊢
  exact hs h
structure RC (w : World) (p : Pfx) (W : World) : Prop where
  b : Blk W w.heap.size 50 p.cells
  z : Blk W (w.heap.size + 1) 50 zPfx
  lo : Below w.heap.size w W
theorem RC.next {w : World} {p : Pfx} {W W' : World} (h : RC w p W) (hb : Below W.heap.size W W') : RC w p W' := ⟨h.b.below hb h.b.lt, h.z.below hb h.z.lt, below_then h.lo (Nat.le_refl _) hb⟩
theorem RC.drew {w : World} {p : Pfx} {W : World} (h : RC w p W) : RC w p W.drew := ⟨h.b.drew, h.z.drew, h.lo.drew⟩
theorem RC.new (w : World) (p : Pfx) : RC w p ((w.alloc (.cells p.cells.toArray 50)).alloc (.cells zPfx.toArray 50)) :=
  ⟨(Blk.new _ _ _).alloc _, blk_new' _ _ _ _ (by simp), ((Below.refl _ _).alloc (Nat.le_refl _) _).alloc (by simp) _⟩
theorem RC.ad {w : World} {p : Pfx} {W : World} (h : RC w p W) : W.rangeAt w.heap.size 1 p.a.cells := h.b.sub [.bool p.v6] p.a.cells [.int .i64 p.len] 1 rfl rfl
set_option maxRecDepth 100000 in
set_option maxHeartbeats 4000000 in
theorem rcut_any (p : Pfx) (w : World) : Calls Tryd.prog 40 #[p.val] w fun e w' => e = .returned (cutOf p).val ∧ Below w.heap.size w w' := by
  obtain ⟨v6, a, n⟩ := p
  obtain ⟨hcb0, hcb1⟩ := clampOf_bd v6 n
  have HF := Lib.hid (show cutOf ⟨v6, a, n⟩ = ⟨v6, cutA (clampOf v6 n) 16 a, clampOf v6 n⟩ from rfl)
  generalize hc : clampOf v6 n = c at hcb0 hcb1 HF
  unfold clampOf at hc
  have Hc := Lib.hid hc; clear hc
  obtain ⟨l0, hl0⟩ := Int.eq_ofNat_of_zero_le hcb0
  have hl128 : l0 ≤ 128 := by omega
  have hP := RC.new w ⟨v6, a, n⟩
  simp only [Pfx.val]
  go_enter Tryd.func40, Tryd.ntmps40
  go_wp2_with fail
  refine reg_sch2 8 [(true, 0), (true, 1), (true, 2), (true, 3), (true, 4), (false, 5), (true, 6), (true, 7)] (by kernel_rfl) (by kernel_rfl) (RC w ⟨v6, a, n⟩) (RC w ⟨v6, a, n⟩) ?_ ?_ ?_
  · exact hP.drew
  · exact fun _ h => h
  intro W hSW
  simp only [List.map_cons, List.map_nil, List.getD_cons_zero, List.getD_cons_succ, List.drop_succ_cons, List.drop_zero]
  refine hd_pure (v := ?_) (by rfl) (fun W' hS' => ?_) ?_ -- 0
  rotate_left
  · have c0 := (hS'.b.cell 0).trans (Pfx.cells_0 _); have c17 := (hS'.b.cell 17).trans (Pfx.cells_17 _); clear hS'; (go_simp; first | with_reducible rfl | rfl)
  try simp only [Act.put, List.setIfInBounds_toArray, List.set_cons_zero, List.set_cons_succ]
  refine hd_pure (v := ?_) (by rfl) (fun W' hS' => ?_) ?_ -- 1
  rotate_left
  · have c0 := (hS'.b.cell 0).trans (Pfx.cells_0 _); have c17 := (hS'.b.cell 17).trans (Pfx.cells_17 _); clear hS'; (go_simp; first | with_reducible rfl | rfl)
  try simp only [Act.put, List.setIfInBounds_toArray, List.set_cons_zero, List.set_cons_succ]
  refine hd_pure (v := ?_) (by rfl) (fun W' hS' => ?_) ?_ -- 2
  rotate_left
  · have c0 := (hS'.b.cell 0).trans (Pfx.cells_0 _); have c17 := (hS'.b.cell 17).trans (Pfx.cells_17 _); clear hS'; (go_simp; first | with_reducible rfl | rfl)
  try simp only [Act.put, List.setIfInBounds_toArray, List.set_cons_zero, List.set_cons_succ]
  refine hd_pure (v := ?_) (by rfl) (fun W' hS' => ?_) ?_ -- 3
  rotate_left
  · have c0 := (hS'.b.cell 0).trans (Pfx.cells_0 _); have c17 := (hS'.b.cell 17).trans (Pfx.cells_17 _); clear hS'; (go_simp; first | with_reducible rfl | rfl)
  try simp only [Act.put, List.setIfInBounds_toArray, List.set_cons_zero, List.set_cons_succ]
  refine hd_pure (v := ?_) (by rfl) (fun W' hS' => ?_) ?_ -- 4
  rotate_left
  · have c0 := (hS'.b.cell 0).trans (Pfx.cells_0 _); have c17 := (hS'.b.cell 17).trans (Pfx.cells_17 _); clear hS'; (go_simp; first | with_reducible rfl | rfl)
  try simp only [Act.put, List.setIfInBounds_toArray, List.set_cons_zero, List.set_cons_succ]
  refine hd_sole (by rfl) (fun K hK => ?_) -- 5
  go_simp
  refine (rmost_any _ _).mono ?_; rintro e w' ⟨rfl, rfl⟩
  refine hK _ _ (hSW) ?_
  clear hK K hSW
  intro hSW
  try simp only [Act.put, List.setIfInBounds_toArray, List.set_cons_zero, List.set_cons_succ]
  refine hd_pure (v := ?_) (by rfl) (fun W' hS' => ?_) ?_ -- 6
  rotate_left
  · have c0 := (hS'.b.cell 0).trans (Pfx.cells_0 _); have c17 := (hS'.b.cell 17).trans (Pfx.cells_17 _); clear hS'; (go_simp; first | with_reducible rfl | rfl)
  try simp only [Act.put, List.setIfInBounds_toArray, List.set_cons_zero, List.set_cons_succ]
  refine hd_pure (v := ?_) (by rfl) (fun W' hS' => ?_) ?_ -- 7
  rotate_left
  · have c0 := (hS'.b.cell 0).trans (Pfx.cells_0 _); have c17 := (hS'.b.cell 17).trans (Pfx.cells_17 _); clear hS'; (go_simp; first | with_reducible rfl | rfl)
  try simp only [Act.put, List.setIfInBounds_toArray, List.set_cons_zero, List.set_cons_succ]
  refine hd_nil ?_
  replace hP := hSW; clear hSW; have c17 := (hP.b.cell 17).trans (Pfx.cells_17 _); have f17 := hP.b.frozen 17
  go_wp2_with fail
  refine NoPanic.normal ?_
  refine then_gen (RC w ⟨v6, clrA l0 l0 a, l0⟩) ⟨by rw [clrA_start, ← hl0, ← Pfx.set_17 v6 a n c, ← Hc.out]; exact hP.b.set_ _ _, hP.z.far (by simp) _, hP.lo.setCell (by simp) _⟩ ?_
  clear hP c17 f17
  have HL := Lib.hid hl0
  clear hl0
  rintro W hP
  have c17 := (hP.b.cell 17).trans (Pfx.cells_17 _)
  go_wp2_with fail
  clear c17
  go_loopw [3] (fun i wr => ∃ k : Nat, l0 ≤ k ∧ k ≤ 128 ∧ i = .int .i64 k ∧ RC w ⟨v6, clrA l0 k a, l0⟩ wr) (fun i _ => 128 - (intOf i).toNat)
  case atStart => exact ⟨l0, Nat.le_refl _, hl128, rfl, hP⟩
  case round =>
    clear hP
    obtain ⟨k, hk0, hk, rfl, hP⟩ := hrel
    by_cases hlt : k < 128
    · cases hb : decide (bitAt (clrA l0 k a) k = 1)
      · have HB := Lib.hid (clrA_skip l0 a k hlt (by omega) (of_decide_eq_false hb))
        have b1 : ((bitAt (clrA l0 k a) k : Int) == 1) = false := beq_eq_false_iff_ne.2 (by have := of_decide_eq_false hb; omega)
        clear hb
        go_wp2_with (first | (refine wpList_load_at rfl 48 _ rfl w.heap.size 1 16 rfl _ _ hP.ad (A16.cells_length _) Tryd.underlying48 rfl info_a16 ?_))
        refine (bit_any (clrA l0 k a) k hlt _).mono ?_
        rintro e w3 ⟨rfl, hb3⟩
        replace hP := hP.next hb3
        clear hb3
        go_wp2_with fail
        go_roundw
        case rel => exact ⟨k + 1, by omega, by omega, by go_num, by rw [Int.natCast_succ, HB.out]; exact hP⟩
        case measure => simp [intOf]; omega
      · have HB := Lib.hid (of_decide_eq_true hb)
        have b1 : ((bitAt (clrA l0 k a) k : Int) == 1) = true := by rw [HB.out]; rfl
        clear hb
        go_wp2_with (first | (refine wpList_load_at rfl 48 _ rfl w.heap.size 1 16 rfl _ _ hP.ad (A16.cells_length _) Tryd.underlying48 rfl info_a16 ?_))
        refine (bit_any (clrA l0 k a) k hlt _).mono ?_
        rintro e w3 ⟨rfl, hb3⟩
        replace hP := hP.next hb3
        clear hb3
        have e1 : ((k : Int) / 8).toNat = k / 8 := by omega
        have h1 : (0 : Int) ≤ (k : Int) / 8 := by omega
        have h2 : (k : Int) / 8 < 16 := by omega
        have h3 : (0 : Int) ≤ 7 - (k : Int) % 8 := by omega
        have h4 : 7 - (k : Int) % 8 ≤ 7 := by omega
        obtain ⟨x, hx⟩ : ∃ x : Int, (((clrA l0 k a).at (k / 8)).toNat : Int) = x := ⟨_, rfl⟩
        obtain ⟨y, hy⟩ : ∃ y : Int, shlB (7 - (k : Int) % 8) = y := ⟨_, rfl⟩
        have HS := Lib.hid (show (clrA l0 k a).cells.set (k / 8) (.int .u8 (x - y)) = (clrA l0 ((k : Int) + 1) a).cells ∧ 0 ≤ x - y ∧ x - y < 256 ∧ y = 2 ^ (7 - k % 8) by
          have hs := clrA_step l0 a k hlt (by omega)
          have hle : 2 ^ (7 - k % 8) ≤ ((clrA l0 k a).at (k / 8)).toNat := clrA_le l0 a k hlt (by omega) HB.out
          have hlt2 := ((clrA l0 k a).at (k / 8)).toNat_lt
          have hy2 : y = ((2 ^ (7 - k % 8) : Nat) : Int) := by
            rw [← hy]; unfold shlB
            rw [show (7 - (k : Int) % 8).toNat = 7 - k % 8 by omega]
            simp
          rw [if_pos HB.out] at hs
          refine (fun h => ⟨h.1, h.2.1, h.2.2, by rw [hy2]; simp⟩ : _ ∧ _ ∧ _ → _) ?_
          generalize 2 ^ (7 - k % 8) = z at hs hle hy2
          refine ⟨?_, by omega, by omega⟩
          rw [← hs]
          congr 2
          omega)
        have e9 : IntKind.u8.wrap (x - y) = x - y := by
          have := HS.out.2
          show (x - y) % 256 = x - y
          omega
        have ew1 : IntKind.i64.wrap ((k : Int) / 8) = (k : Int) / 8 := IntWalk.i64_in _ (by omega)
        have ew2 : IntKind.i64.wrap (7 - (k : Int).tmod 8) = 7 - (k : Int) % 8 := by
          rw [Int.tmod_eq_emod_of_nonneg (by omega)]
          exact IntWalk.i64_in _ (by omega)
        have HX := Lib.hid hx
        clear hx
        go_wp2_with fail
        refine reg_sch2 14 [(true, 0), (true, 1), (true, 2), (true, 3), (true, 4), (true, 5), (true, 6), (true, 7), (true, 8), (true, 9), (true, 10), (true, 11), (true, 12), (true, 13)] (by kernel_rfl) (by kernel_rfl) (RC w ⟨v6, clrA l0 k a, l0⟩) (RC w ⟨v6, clrA l0 k a, l0⟩) ?_ ?_ ?_
        · exact hP.drew
        · exact fun _ h => h
        intro W hSW
        simp only [List.map_cons, List.map_nil, List.getD_cons_zero, List.getD_cons_succ, List.drop_succ_cons, List.drop_zero]
        refine hd_pure (v := ?_) (by rfl) (fun W' hS' => ?_) ?_ -- 0
        rotate_left
        · have c1 := (hS'.b.cell (1 + k / 8)).trans (Pfx.cells_at _ (show k / 8 < 16 by omega)); rw [bv, HX.out] at c1; clear hS'; (go_simp; first | with_reducible rfl | rfl)
        try simp only [Act.put, List.setIfInBounds_toArray, List.set_cons_zero, List.set_cons_succ]
        refine hd_pure (v := ?_) (by rfl) (fun W' hS' => ?_) ?_ -- 1
        rotate_left
        · have c1 := (hS'.b.cell (1 + k / 8)).trans (Pfx.cells_at _ (show k / 8 < 16 by omega)); rw [bv, HX.out] at c1; clear hS'; (go_simp; first | with_reducible rfl | rfl)
        try simp only [Act.put, List.setIfInBounds_toArray, List.set_cons_zero, List.set_cons_succ]
        refine hd_pure (v := ?_) (by rfl) (fun W' hS' => ?_) ?_ -- 2
        rotate_left
        · have c1 := (hS'.b.cell (1 + k / 8)).trans (Pfx.cells_at _ (show k / 8 < 16 by omega)); rw [bv, HX.out] at c1; clear hS'; (go_simp; first | with_reducible rfl | rfl)
        try simp only [Act.put, List.setIfInBounds_toArray, List.set_cons_zero, List.set_cons_succ]
        refine hd_pure (v := ?_) (by rfl) (fun W' hS' => ?_) ?_ -- 3
        rotate_left
        · have c1 := (hS'.b.cell (1 + k / 8)).trans (Pfx.cells_at _ (show k / 8 < 16 by omega)); rw [bv, HX.out] at c1; clear hS'; (go_simp; first | with_reducible rfl | rfl)
        try simp only [Act.put, List.setIfInBounds_toArray, List.set_cons_zero, List.set_cons_succ]
        refine hd_pure (v := ?_) (by rfl) (fun W' hS' => ?_) ?_ -- 4
        rotate_left
        · have c1 := (hS'.b.cell (1 + k / 8)).trans (Pfx.cells_at _ (show k / 8 < 16 by omega)); rw [bv, HX.out] at c1; clear hS'; (go_simp; first | with_reducible rfl | rfl)
        try simp only [Act.put, List.setIfInBounds_toArray, List.set_cons_zero, List.set_cons_succ]
        refine hd_pure (v := ?_) (by rfl) (fun W' hS' => ?_) ?_ -- 5
        rotate_left
        · have c1 := (hS'.b.cell (1 + k / 8)).trans (Pfx.cells_at _ (show k / 8 < 16 by omega)); rw [bv, HX.out] at c1; clear hS'; (go_simp; first | with_reducible rfl | rfl)
        try simp only [Act.put, List.setIfInBounds_toArray, List.set_cons_zero, List.set_cons_succ]
        refine hd_pure (v := ?_) (by rfl) (fun W' hS' => ?_) ?_ -- 6
        rotate_left
        · have c1 := (hS'.b.cell (1 + k / 8)).trans (Pfx.cells_at _ (show k / 8 < 16 by omega)); rw [bv, HX.out] at c1; clear hS'; (go_simp; first | with_reducible rfl | rfl)
        try simp only [Act.put, List.setIfInBounds_toArray, List.set_cons_zero, List.set_cons_succ]
        refine hd_pure (v := ?_) (by rfl) (fun W' hS' => ?_) ?_ -- 7
        rotate_left
        · have c1 := (hS'.b.cell (1 + k / 8)).trans (Pfx.cells_at _ (show k / 8 < 16 by omega)); rw [bv, HX.out] at c1; clear hS'; (go_simp; first | with_reducible rfl | rfl)
        try simp only [Act.put, List.setIfInBounds_toArray, List.set_cons_zero, List.set_cons_succ]
        refine hd_pure (v := ?_) (by rfl) (fun W' hS' => ?_) ?_ -- 8
        rotate_left
        · have c1 := (hS'.b.cell (1 + k / 8)).trans (Pfx.cells_at _ (show k / 8 < 16 by omega)); rw [bv, HX.out] at c1; clear hS'; (go_simp; first | with_reducible rfl | rfl)
        try simp only [Act.put, List.setIfInBounds_toArray, List.set_cons_zero, List.set_cons_succ]
        refine hd_pure (v := ?_) (by rfl) (fun W' hS' => ?_) ?_ -- 9
        rotate_left
        · have c1 := (hS'.b.cell (1 + k / 8)).trans (Pfx.cells_at _ (show k / 8 < 16 by omega)); rw [bv, HX.out] at c1; clear hS'; (go_simp; first | with_reducible rfl | rfl)
        try simp only [Act.put, List.setIfInBounds_toArray, List.set_cons_zero, List.set_cons_succ]
        refine hd_pure (v := ?_) (by rfl) (fun W' hS' => ?_) ?_ -- 10
        rotate_left
        · have c1 := (hS'.b.cell (1 + k / 8)).trans (Pfx.cells_at _ (show k / 8 < 16 by omega)); rw [bv, HX.out] at c1; clear hS'; (go_simp; first | with_reducible rfl | rfl)
        try simp only [Act.put, List.setIfInBounds_toArray, List.set_cons_zero, List.set_cons_succ]
        refine hd_pure (v := ?_) (by rfl) (fun W' hS' => ?_) ?_ -- 11
        rotate_left
        · have c1 := (hS'.b.cell (1 + k / 8)).trans (Pfx.cells_at _ (show k / 8 < 16 by omega)); rw [bv, HX.out] at c1; clear hS'; (go_simp; first | with_reducible rfl | rfl)
        try simp only [Act.put, List.setIfInBounds_toArray, List.set_cons_zero, List.set_cons_succ]
        refine hd_pure (v := ?_) (by rfl) (fun W' hS' => ?_) ?_ -- 12
        rotate_left
        · have c1 := (hS'.b.cell (1 + k / 8)).trans (Pfx.cells_at _ (show k / 8 < 16 by omega)); rw [bv, HX.out] at c1; clear hS'; (go_simp; first | with_reducible rfl | rfl)
        try simp only [Act.put, List.setIfInBounds_toArray, List.set_cons_zero, List.set_cons_succ]
        refine hd_pure (v := ?_) (by rfl) (fun W' hS' => ?_) ?_ -- 13
        rotate_left
        · have c1 := (hS'.b.cell (1 + k / 8)).trans (Pfx.cells_at _ (show k / 8 < 16 by omega)); rw [bv, HX.out] at c1; clear hS'; (go_simp; first | with_reducible rfl | rfl)
        try simp only [Act.put, List.setIfInBounds_toArray, List.set_cons_zero, List.set_cons_succ]
        refine hd_nil ?_
        replace hP := hSW; clear hSW; have c1 := (hP.b.cell (1 + k / 8)).trans (Pfx.cells_at _ (show k / 8 < 16 by omega)); have f1 := hP.b.frozen (1 + k / 8)
        go_wp2_with fail
        refine NoPanic.normal ?_
        go_wp2_with fail
        go_roundw
        case rel => exact ⟨k + 1, by omega, by omega, by go_num, ⟨by rw [show ((x - 2 ^ (7 - k % 8)) % 256 : Int) = x - y by rw [← HS.out.2.2.2]; exact e9, Int.natCast_succ, ← Pfx.set_av v6 (clrA l0 k a) _ l0 (k / 8) _ (by omega) HS.out.1]; exact hP.b.set_ _ _, hP.z.far (by simp) _, hP.lo.setCell (by simp) _⟩⟩
        case measure => simp [intOf]; omega
    · have hk128 : k = 128 := by omega
      subst hk128
      clear hlt hk
      go_wp2_with (first | (refine wpList_load_at rfl 50 _ rfl w.heap.size 0 18 rfl _ _ hP.b.range (Pfx.cells_length _) Tryd.underlying50 rfl info_pfx ?_) | (refine wpList_store_at rfl 50 _ _ rfl (w.heap.size + 1) 0 18 50 _ _ rfl rfl hP.z (Pfx.cells_length _) (by decide) info_pfx (Pfx.one _) ?_))
      refine bodyPost_ret (results_cell1 rfl _ (w.heap.size + 1) 0 18 _ _ rfl ((hP.z.setCells_all (by rw [Pfx.cells_length]; decide)).range) (Pfx.cells_length ⟨v6, clrA l0 128 a, l0⟩) Tryd.underlying50 rfl info_pfx) rfl ⟨?_, Below.setCells (by omega) _ _ hP.lo⟩
      rw [HF.out, ← HL.out, ← clrA_end]
      rfl
end Go.Proofs.YtmoldmnhijcckaaDoor
