/- The contract of pdu.Right. -/
import Derived.Test.YtmoldmnhijcckaaGreatMa13
import Derived.Test.YtmoldmnhijcckaaGreatMa03
import Derived.Test.YtmoldmnhijcckaaGreatMa14
import Derived.Deep.DeepCutAuto
set_option linter.unusedVariables false
set_option linter.unusedSectionVars false
set_option linter.unusedSimpArgs false
namespace Go.Proofs.YtmoldmnhijcckaaGreat
open Go.RowKit
attribute [local go_sem high] run_imax run_imin
/-- Whether a message may be. -/
def pduOk (p : Pdu) : Bool :=
  isKind p.kind && (decide (namedOf p = p) && (decide (0 ≤ imin p.session p.code) && (decide (imax p.session p.code ≤ 65535) && (decide (p.text.size ≤ 200) &&
    (if p.kind = 4 ∨ p.kind = 6 then vrpOk p.v && (p.v.p.v6 == decide (p.kind = 6)) else true)))))
/-- The box of the message, and nothing else turned. -/
def Bx (w : World) (p : Pdu) (W : World) : Prop := Blk W w.heap.size 69 p.cells ∧ Below w.heap.size w W
theorem Bx.next {w : World} {p : Pdu} {W W' : World} (h : Bx w p W) (hb : Below W.heap.size W W') : Bx w p W' := ⟨h.1.below hb h.1.lt, below_then h.2 (Nat.le_refl _) hb⟩
theorem Bx.drew {w : World} {p : Pdu} {W : World} (h : Bx w p W) : Bx w p W.drew := ⟨h.1.drew, h.2.drew⟩
theorem Bx.new (w : World) (p : Pdu) : Bx w p (w.alloc (.cells p.cells.toArray 69)) := ⟨Blk.new _ _ _, (Below.refl _ _).alloc (Nat.le_refl _) _⟩
set_option maxRecDepth 100000 in
set_option maxHeartbeats 1000000 in
theorem right_no (p : Pdu) (w : World) (h : (isKind p.kind && decide (namedOf p = p)) = false) : Calls Tryz.prog 55 #[p.val] w fun e w' => e = .returned (.bool (pduOk p)) ∧ Below w.heap.size w w' := by
  have HR := Lib.hid (show pduOk p = false by
    unfold pduOk
    rw [← Bool.and_assoc, h]; rfl)
  simp only [Pdu.val]
  cases hk : isKind p.kind
  · clear h
    go_enter Tryz.func55, Tryz.ntmps55
    go_wp2_with fail
    refine reg_sch2 9 [(true, 1), (true, 2), (false, 0), (false, 3), (true, 4), (true, 5), (true, 6), (true, 7), (true, 8)] (by kernel_rfl) (by kernel_rfl) (Bx w p) (Bx w p) ?_ ?_ ?_
    · exact (Bx.new w p).drew
    · exact fun _ h => h
    intro W hSW
    simp only [List.map_cons, List.map_nil, List.getD_cons_zero, List.getD_cons_succ, List.drop_succ_cons, List.drop_zero]
    refine hd_pure (v := ?_) (by rfl) (fun W' hS' => ?_) ?_ -- 1
    rotate_left
    · have c0 := (hS'.1.cell 0).trans (Pdu.c0 _); clear hS'; (go_simp; first | with_reducible rfl | rfl)
    try simp only [Act.put, List.setIfInBounds_toArray, List.set_cons_zero, List.set_cons_succ]
    refine hd_pure (v := ?_) (by rfl) (fun W' hS' => ?_) ?_ -- 2
    rotate_left
    · have c0 := (hS'.1.cell 0).trans (Pdu.c0 _); clear hS'; (go_simp; first | with_reducible rfl | rfl)
    try simp only [Act.put, List.setIfInBounds_toArray, List.set_cons_zero, List.set_cons_succ]
    refine hd_sole (by rfl) (fun K hK => ?_) -- 0
    go_simp
    refine (lengths_any _).mono ?_; rintro e w' ⟨b, rfl, hm, hb⟩
    refine hK _ _ (hSW.next hb) ?_
    clear hK K hSW
    intro hSW
    clear hb; have hl := run_len _ b hm p.kind true; simp only [if_true] at hl
    try simp only [Act.put, List.setIfInBounds_toArray, List.set_cons_zero, List.set_cons_succ]
    refine hd_sole (by rfl) (fun K hK => ?_) -- 3
    go_simp
    refine hK _ _ (hSW) ?_
    clear hK K hSW
    intro hSW
    clear hl hm
    try simp only [Act.put, List.setIfInBounds_toArray, List.set_cons_zero, List.set_cons_succ]
    refine hd_pure (v := ?_) (by rfl) (fun W' hS' => ?_) ?_ -- 4
    rotate_left
    · have c0 := (hS'.1.cell 0).trans (Pdu.c0 _); clear hS'; (go_simp; first | with_reducible rfl | rfl)
    try simp only [Act.put, List.setIfInBounds_toArray, List.set_cons_zero, List.set_cons_succ]
    refine hd_pure (v := ?_) (by rfl) (fun W' hS' => ?_) ?_ -- 5
    rotate_left
    · have c0 := (hS'.1.cell 0).trans (Pdu.c0 _); clear hS'; (go_simp; first | with_reducible rfl | rfl)
    try simp only [Act.put, List.setIfInBounds_toArray, List.set_cons_zero, List.set_cons_succ]
    refine hd_pure (v := ?_) (by rfl) (fun W' hS' => ?_) ?_ -- 6
    rotate_left
    · have c0 := (hS'.1.cell 0).trans (Pdu.c0 _); clear hS'; (go_simp; first | with_reducible rfl | rfl)
    try simp only [Act.put, List.setIfInBounds_toArray, List.set_cons_zero, List.set_cons_succ]
    refine hd_pure (v := ?_) (by rfl) (fun W' hS' => ?_) ?_ -- 7
    rotate_left
    · have c0 := (hS'.1.cell 0).trans (Pdu.c0 _); clear hS'; (go_simp; first | with_reducible rfl | rfl)
    try simp only [Act.put, List.setIfInBounds_toArray, List.set_cons_zero, List.set_cons_succ]
    refine hd_pure (v := ?_) (by rfl) (fun W' hS' => ?_) ?_ -- 8
    rotate_left
    · have c0 := (hS'.1.cell 0).trans (Pdu.c0 _); clear hS'; (go_simp; first | with_reducible rfl | rfl)
    try simp only [Act.put, List.setIfInBounds_toArray, List.set_cons_zero, List.set_cons_succ]
    refine hd_nil ?_
    have hX := hSW; clear hSW
    refine wpList_nil (NoPanic.normal ?_)
    go_wp2_with fail
    refine reg_sch2 8 [(true, 0), (true, 1), (true, 2), (true, 3), (true, 5), (false, 4), (true, 6), (true, 7)] (by kernel_rfl) (by kernel_rfl) (Bx w p) (Bx w p) ?_ ?_ ?_
    · exact hX.drew
    · exact fun _ h => h
    intro W hSW
    simp only [List.map_cons, List.map_nil, List.getD_cons_zero, List.getD_cons_succ, List.drop_succ_cons, List.drop_zero]
    refine hd_pure (v := ?_) (by rfl) (fun W' hS' => ?_) ?_ -- 0
    rotate_left
    · (go_simp; first | with_reducible rfl | rfl)
    try simp only [Act.put, List.setIfInBounds_toArray, List.set_cons_zero, List.set_cons_succ]
    refine hd_pure (v := ?_) (by rfl) (fun W' hS' => ?_) ?_ -- 1
    rotate_left
    · (go_simp; first | with_reducible rfl | rfl)
    try simp only [Act.put, List.setIfInBounds_toArray, List.set_cons_zero, List.set_cons_succ]
    refine hd_pure (v := ?_) (by rfl) (fun W' hS' => ?_) ?_ -- 2
    rotate_left
    · (go_simp; first | with_reducible rfl | rfl)
    try simp only [Act.put, List.setIfInBounds_toArray, List.set_cons_zero, List.set_cons_succ]
    refine hd_skip (by rfl) ?_
    try simp only [Act.put, List.setIfInBounds_toArray, List.set_cons_zero, List.set_cons_succ]
    refine hd_skip (by rfl) ?_
    try simp only [Act.put, List.setIfInBounds_toArray, List.set_cons_zero, List.set_cons_succ]
    refine hd_sole_skip (by rfl) ?_
    try simp only [Act.put, List.setIfInBounds_toArray, List.set_cons_zero, List.set_cons_succ]
    refine hd_skip (by rfl) ?_
    try simp only [Act.put, List.setIfInBounds_toArray, List.set_cons_zero, List.set_cons_succ]
    refine hd_pure (v := ?_) (by rfl) (fun W' hS' => ?_) ?_ -- 7
    rotate_left
    · (go_simp; first | with_reducible rfl | rfl)
    try simp only [Act.put, List.setIfInBounds_toArray, List.set_cons_zero, List.set_cons_succ]
    refine hd_nil ?_
    have hX2 := hSW; clear hSW hX
    refine wpList_nil (NoPanic.normal ?_)
    go_wp2_with fail
    go_ret
    exact ⟨by rw [HR.out]; rfl, hX2.2⟩
  · have hn : decide (namedOf p = p) = false := by rw [hk] at h; simpa using h
    clear h
    go_enter Tryz.func55, Tryz.ntmps55
    go_wp2_with fail
    refine reg_sch2 9 [(true, 1), (true, 2), (false, 0), (false, 3), (true, 4), (true, 5), (true, 6), (true, 7), (true, 8)] (by kernel_rfl) (by kernel_rfl) (Bx w p) (Bx w p) ?_ ?_ ?_
    · exact (Bx.new w p).drew
    · exact fun _ h => h
    intro W hSW
    simp only [List.map_cons, List.map_nil, List.getD_cons_zero, List.getD_cons_succ, List.drop_succ_cons, List.drop_zero]
    refine hd_pure (v := ?_) (by rfl) (fun W' hS' => ?_) ?_ -- 1
    rotate_left
    · have c0 := (hS'.1.cell 0).trans (Pdu.c0 _); clear hS'; (go_simp; first | with_reducible rfl | rfl)
    try simp only [Act.put, List.setIfInBounds_toArray, List.set_cons_zero, List.set_cons_succ]
    refine hd_pure (v := ?_) (by rfl) (fun W' hS' => ?_) ?_ -- 2
    rotate_left
    · have c0 := (hS'.1.cell 0).trans (Pdu.c0 _); clear hS'; (go_simp; first | with_reducible rfl | rfl)
    try simp only [Act.put, List.setIfInBounds_toArray, List.set_cons_zero, List.set_cons_succ]
    refine hd_sole (by rfl) (fun K hK => ?_) -- 0
    go_simp
    refine (lengths_any _).mono ?_; rintro e w' ⟨b, rfl, hm, hb⟩
    refine hK _ _ (hSW.next hb) ?_
    clear hK K hSW
    intro hSW
    clear hb; have hl := run_len _ b hm p.kind true; simp only [if_true] at hl
    try simp only [Act.put, List.setIfInBounds_toArray, List.set_cons_zero, List.set_cons_succ]
    refine hd_sole (by rfl) (fun K hK => ?_) -- 3
    go_simp
    refine hK _ _ (hSW) ?_
    clear hK K hSW
    intro hSW
    clear hl hm
    try simp only [Act.put, List.setIfInBounds_toArray, List.set_cons_zero, List.set_cons_succ]
    refine hd_pure (v := ?_) (by rfl) (fun W' hS' => ?_) ?_ -- 4
    rotate_left
    · have c0 := (hS'.1.cell 0).trans (Pdu.c0 _); clear hS'; (go_simp; first | with_reducible rfl | rfl)
    try simp only [Act.put, List.setIfInBounds_toArray, List.set_cons_zero, List.set_cons_succ]
    refine hd_pure (v := ?_) (by rfl) (fun W' hS' => ?_) ?_ -- 5
    rotate_left
    · have c0 := (hS'.1.cell 0).trans (Pdu.c0 _); clear hS'; (go_simp; first | with_reducible rfl | rfl)
    try simp only [Act.put, List.setIfInBounds_toArray, List.set_cons_zero, List.set_cons_succ]
    refine hd_pure (v := ?_) (by rfl) (fun W' hS' => ?_) ?_ -- 6
    rotate_left
    · have c0 := (hS'.1.cell 0).trans (Pdu.c0 _); clear hS'; (go_simp; first | with_reducible rfl | rfl)
    try simp only [Act.put, List.setIfInBounds_toArray, List.set_cons_zero, List.set_cons_succ]
    refine hd_pure (v := ?_) (by rfl) (fun W' hS' => ?_) ?_ -- 7
    rotate_left
    · have c0 := (hS'.1.cell 0).trans (Pdu.c0 _); clear hS'; (go_simp; first | with_reducible rfl | rfl)
    try simp only [Act.put, List.setIfInBounds_toArray, List.set_cons_zero, List.set_cons_succ]
    refine hd_pure (v := ?_) (by rfl) (fun W' hS' => ?_) ?_ -- 8
    rotate_left
    · have c0 := (hS'.1.cell 0).trans (Pdu.c0 _); clear hS'; (go_simp; first | with_reducible rfl | rfl)
    try simp only [Act.put, List.setIfInBounds_toArray, List.set_cons_zero, List.set_cons_succ]
    refine hd_nil ?_
    have hX := hSW; clear hSW
    refine wpList_nil (NoPanic.normal ?_)
    go_wp2_with fail
    refine reg_sch2 8 [(true, 0), (true, 1), (true, 2), (true, 3), (true, 5), (false, 4), (true, 6), (true, 7)] (by kernel_rfl) (by kernel_rfl) (Bx w p) (Bx w p) ?_ ?_ ?_
    · exact hX.drew
    · exact fun _ h => h
    intro W hSW
    simp only [List.map_cons, List.map_nil, List.getD_cons_zero, List.getD_cons_succ, List.drop_succ_cons, List.drop_zero]
    refine hd_pure (v := ?_) (by rfl) (fun W' hS' => ?_) ?_ -- 0
    rotate_left
    · (go_simp; first | with_reducible rfl | rfl)
    try simp only [Act.put, List.setIfInBounds_toArray, List.set_cons_zero, List.set_cons_succ]
    refine hd_pure (v := ?_) (by rfl) (fun W' hS' => ?_) ?_ -- 1
    rotate_left
    · (go_simp; first | with_reducible rfl | rfl)
    try simp only [Act.put, List.setIfInBounds_toArray, List.set_cons_zero, List.set_cons_succ]
    refine hd_pure (v := ?_) (by rfl) (fun W' hS' => ?_) ?_ -- 2
    rotate_left
    · (go_simp; first | with_reducible rfl | rfl)
    try simp only [Act.put, List.setIfInBounds_toArray, List.set_cons_zero, List.set_cons_succ]
    refine hd_pure (v := .agg p.cells.toArray) (by rfl) (fun W' hS' => exec_load_at 69 _ (by rfl) w.heap.size 0 26 (by rfl) _ _ hS'.1.range (Pdu.cells_length _) Tryz.underlying69 rfl info_pdu) ?_ -- 3
    try simp only [Act.put, List.setIfInBounds_toArray, List.set_cons_zero, List.set_cons_succ]
    refine hd_pure (v := .agg p.cells.toArray) (by rfl) (fun W' hS' => exec_load_at 69 _ (by rfl) w.heap.size 0 26 (by rfl) _ _ hS'.1.range (Pdu.cells_length _) Tryz.underlying69 rfl info_pdu) ?_ -- 5
    try simp only [Act.put, List.setIfInBounds_toArray, List.set_cons_zero, List.set_cons_succ]
    refine hd_sole (by rfl) (fun K hK => ?_) -- 4
    go_simp
    refine (named_any p _).mono ?_; rintro e w' ⟨rfl, hb⟩
    refine hK _ _ (hSW.next hb) ?_
    clear hK K hSW
    intro hSW
    clear hb; simp only [Pdu.val]
    try simp only [Act.put, List.setIfInBounds_toArray, List.set_cons_zero, List.set_cons_succ]
    refine hd_pure (v := ?_) (by rfl) (fun W' hS' => ?_) ?_ -- 6
    rotate_left
    · (have hq := neq_pdu (namedOf p) p; clear hS'; go_simp; first | with_reducible rfl | rfl)
    try simp only [Act.put, List.setIfInBounds_toArray, List.set_cons_zero, List.set_cons_succ]
    refine hd_pure (v := ?_) (by rfl) (fun W' hS' => ?_) ?_ -- 7
    rotate_left
    · (go_simp; first | with_reducible rfl | rfl)
    try simp only [Act.put, List.setIfInBounds_toArray, List.set_cons_zero, List.set_cons_succ]
    refine hd_nil ?_
    have hX2 := hSW; clear hSW hX
    refine wpList_nil (NoPanic.normal ?_)
    go_wp2_with fail
    go_ret
    exact ⟨by rw [HR.out]; rfl, hX2.2⟩
set_option maxRecDepth 100000 in
set_option maxHeartbeats 1000000 in
theorem right_range (p : Pdu) (w : World) (hk : isKind p.kind = true) (hn : decide (namedOf p = p) = true) (h : ¬ (0 ≤ imin p.session p.code ∧ imax p.session p.code ≤ 65535 ∧ p.text.size ≤ 200)) : Calls Tryz.prog 55 #[p.val] w fun e w' => e = .returned (.bool (pduOk p)) ∧ Below w.heap.size w w' := by
  have HR := Lib.hid (show pduOk p = false by
    unfold pduOk
    rw [hk, hn]
    by_cases h1 : 0 ≤ imin p.session p.code
    · by_cases h2 : imax p.session p.code ≤ 65535
      · have h3 : ¬ p.text.size ≤ 200 := fun h3 => h ⟨h1, h2, h3⟩
        simp [h1, h2, h3]
      · simp [h1, h2]
    · simp [h1])
  simp only [Pdu.val]
  by_cases h1 : 0 ≤ imin p.session p.code
  · have d1 : decide (imin p.session p.code < 0) = false := by simpa using h1
    by_cases h2 : imax p.session p.code ≤ 65535
    · have d2 : decide (65535 < imax p.session p.code) = false := by simpa using h2
      have h3 : ¬ p.text.size ≤ 200 := fun h3 => h ⟨h1, h2, h3⟩
      have d3 : decide ((200 : Int) < (p.text.size : Int)) = true := by simp; omega
      have d3' : decide (200 < p.text.size) = true := by simpa using h3
      clear h h1 h2 h3
      go_enter Tryz.func55, Tryz.ntmps55
      go_wp2_with fail
      refine reg_sch2 9 [(true, 1), (true, 2), (false, 0), (false, 3), (true, 4), (true, 5), (true, 6), (true, 7), (true, 8)] (by kernel_rfl) (by kernel_rfl) (Bx w p) (Bx w p) ?_ ?_ ?_
      · exact (Bx.new w p).drew
      · exact fun _ h => h
      intro W hSW
      simp only [List.map_cons, List.map_nil, List.getD_cons_zero, List.getD_cons_succ, List.drop_succ_cons, List.drop_zero]
      refine hd_pure (v := ?_) (by rfl) (fun W' hS' => ?_) ?_ -- 1
      rotate_left
      · have c0 := (hS'.1.cell 0).trans (Pdu.c0 _); clear hS'; (go_simp; first | with_reducible rfl | rfl)
      try simp only [Act.put, List.setIfInBounds_toArray, List.set_cons_zero, List.set_cons_succ]
      refine hd_pure (v := ?_) (by rfl) (fun W' hS' => ?_) ?_ -- 2
      rotate_left
      · have c0 := (hS'.1.cell 0).trans (Pdu.c0 _); clear hS'; (go_simp; first | with_reducible rfl | rfl)
      try simp only [Act.put, List.setIfInBounds_toArray, List.set_cons_zero, List.set_cons_succ]
      refine hd_sole (by rfl) (fun K hK => ?_) -- 0
      go_simp
      refine (lengths_any _).mono ?_; rintro e w' ⟨b, rfl, hm, hb⟩
      refine hK _ _ (hSW.next hb) ?_
      clear hK K hSW
      intro hSW
      clear hb; have hl := run_len _ b hm p.kind true; simp only [if_true] at hl
      try simp only [Act.put, List.setIfInBounds_toArray, List.set_cons_zero, List.set_cons_succ]
      refine hd_sole (by rfl) (fun K hK => ?_) -- 3
      go_simp
      refine hK _ _ (hSW) ?_
      clear hK K hSW
      intro hSW
      clear hl hm
      try simp only [Act.put, List.setIfInBounds_toArray, List.set_cons_zero, List.set_cons_succ]
      refine hd_pure (v := ?_) (by rfl) (fun W' hS' => ?_) ?_ -- 4
      rotate_left
      · have c0 := (hS'.1.cell 0).trans (Pdu.c0 _); clear hS'; (go_simp; first | with_reducible rfl | rfl)
      try simp only [Act.put, List.setIfInBounds_toArray, List.set_cons_zero, List.set_cons_succ]
      refine hd_pure (v := ?_) (by rfl) (fun W' hS' => ?_) ?_ -- 5
      rotate_left
      · have c0 := (hS'.1.cell 0).trans (Pdu.c0 _); clear hS'; (go_simp; first | with_reducible rfl | rfl)
      try simp only [Act.put, List.setIfInBounds_toArray, List.set_cons_zero, List.set_cons_succ]
      refine hd_pure (v := ?_) (by rfl) (fun W' hS' => ?_) ?_ -- 6
      rotate_left
      · have c0 := (hS'.1.cell 0).trans (Pdu.c0 _); clear hS'; (go_simp; first | with_reducible rfl | rfl)
      try simp only [Act.put, List.setIfInBounds_toArray, List.set_cons_zero, List.set_cons_succ]
      refine hd_pure (v := ?_) (by rfl) (fun W' hS' => ?_) ?_ -- 7
      rotate_left
      · have c0 := (hS'.1.cell 0).trans (Pdu.c0 _); clear hS'; (go_simp; first | with_reducible rfl | rfl)
      try simp only [Act.put, List.setIfInBounds_toArray, List.set_cons_zero, List.set_cons_succ]
      refine hd_pure (v := ?_) (by rfl) (fun W' hS' => ?_) ?_ -- 8
      rotate_left
      · have c0 := (hS'.1.cell 0).trans (Pdu.c0 _); clear hS'; (go_simp; first | with_reducible rfl | rfl)
      try simp only [Act.put, List.setIfInBounds_toArray, List.set_cons_zero, List.set_cons_succ]
      refine hd_nil ?_
      have hX := hSW; clear hSW
      refine wpList_nil (NoPanic.normal ?_)
      go_wp2_with fail
      refine reg_sch2 8 [(true, 0), (true, 1), (true, 2), (true, 3), (true, 5), (false, 4), (true, 6), (true, 7)] (by kernel_rfl) (by kernel_rfl) (Bx w p) (Bx w p) ?_ ?_ ?_
      · exact hX.drew
      · exact fun _ h => h
      intro W hSW
      simp only [List.map_cons, List.map_nil, List.getD_cons_zero, List.getD_cons_succ, List.drop_succ_cons, List.drop_zero]
      refine hd_pure (v := ?_) (by rfl) (fun W' hS' => ?_) ?_ -- 0
      rotate_left
      · (go_simp; first | with_reducible rfl | rfl)
      try simp only [Act.put, List.setIfInBounds_toArray, List.set_cons_zero, List.set_cons_succ]
      refine hd_pure (v := ?_) (by rfl) (fun W' hS' => ?_) ?_ -- 1
      rotate_left
      · (go_simp; first | with_reducible rfl | rfl)
      try simp only [Act.put, List.setIfInBounds_toArray, List.set_cons_zero, List.set_cons_succ]
      refine hd_pure (v := ?_) (by rfl) (fun W' hS' => ?_) ?_ -- 2
      rotate_left
      · (go_simp; first | with_reducible rfl | rfl)
      try simp only [Act.put, List.setIfInBounds_toArray, List.set_cons_zero, List.set_cons_succ]
      refine hd_pure (v := .agg p.cells.toArray) (by rfl) (fun W' hS' => exec_load_at 69 _ (by rfl) w.heap.size 0 26 (by rfl) _ _ hS'.1.range (Pdu.cells_length _) Tryz.underlying69 rfl info_pdu) ?_ -- 3
      try simp only [Act.put, List.setIfInBounds_toArray, List.set_cons_zero, List.set_cons_succ]
      refine hd_pure (v := .agg p.cells.toArray) (by rfl) (fun W' hS' => exec_load_at 69 _ (by rfl) w.heap.size 0 26 (by rfl) _ _ hS'.1.range (Pdu.cells_length _) Tryz.underlying69 rfl info_pdu) ?_ -- 5
      try simp only [Act.put, List.setIfInBounds_toArray, List.set_cons_zero, List.set_cons_succ]
      refine hd_sole (by rfl) (fun K hK => ?_) -- 4
      go_simp
      refine (named_any p _).mono ?_; rintro e w' ⟨rfl, hb⟩
      refine hK _ _ (hSW.next hb) ?_
      clear hK K hSW
      intro hSW
      clear hb; simp only [Pdu.val]
      try simp only [Act.put, List.setIfInBounds_toArray, List.set_cons_zero, List.set_cons_succ]
      refine hd_pure (v := ?_) (by rfl) (fun W' hS' => ?_) ?_ -- 6
      rotate_left
      · (have hq := neq_pdu (namedOf p) p; clear hS'; go_simp; first | with_reducible rfl | rfl)
      try simp only [Act.put, List.setIfInBounds_toArray, List.set_cons_zero, List.set_cons_succ]
      refine hd_pure (v := ?_) (by rfl) (fun W' hS' => ?_) ?_ -- 7
      rotate_left
      · (go_simp; first | with_reducible rfl | rfl)
      try simp only [Act.put, List.setIfInBounds_toArray, List.set_cons_zero, List.set_cons_succ]
      refine hd_nil ?_
      have hX2 := hSW; clear hSW hX
      refine wpList_nil (NoPanic.normal ?_)
      have c1 := (hX2.1.cell 1).trans p.c1; have c24 := (hX2.1.cell 24).trans p.c24; have c25 := (hX2.1.cell 25).trans p.c25; have c0 := (hX2.1.cell 0).trans p.c0
      go_wp2_with fail
      go_ret
      exact ⟨by rw [HR.out]; rfl, hX2.2⟩
    · have d2 : decide (65535 < imax p.session p.code) = true := by simpa using h2
      clear h h1 h2
      go_enter Tryz.func55, Tryz.ntmps55
      go_wp2_with fail
      refine reg_sch2 9 [(true, 1), (true, 2), (false, 0), (false, 3), (true, 4), (true, 5), (true, 6), (true, 7), (true, 8)] (by kernel_rfl) (by kernel_rfl) (Bx w p) (Bx w p) ?_ ?_ ?_
      · exact (Bx.new w p).drew
      · exact fun _ h => h
      intro W hSW
      simp only [List.map_cons, List.map_nil, List.getD_cons_zero, List.getD_cons_succ, List.drop_succ_cons, List.drop_zero]
      refine hd_pure (v := ?_) (by rfl) (fun W' hS' => ?_) ?_ -- 1
      rotate_left
      · have c0 := (hS'.1.cell 0).trans (Pdu.c0 _); clear hS'; (go_simp; first | with_reducible rfl | rfl)
      try simp only [Act.put, List.setIfInBounds_toArray, List.set_cons_zero, List.set_cons_succ]
      refine hd_pure (v := ?_) (by rfl) (fun W' hS' => ?_) ?_ -- 2
      rotate_left
      · have c0 := (hS'.1.cell 0).trans (Pdu.c0 _); clear hS'; (go_simp; first | with_reducible rfl | rfl)
      try simp only [Act.put, List.setIfInBounds_toArray, List.set_cons_zero, List.set_cons_succ]
      refine hd_sole (by rfl) (fun K hK => ?_) -- 0
      go_simp
      refine (lengths_any _).mono ?_; rintro e w' ⟨b, rfl, hm, hb⟩
      refine hK _ _ (hSW.next hb) ?_
      clear hK K hSW
      intro hSW
      clear hb; have hl := run_len _ b hm p.kind true; simp only [if_true] at hl
      try simp only [Act.put, List.setIfInBounds_toArray, List.set_cons_zero, List.set_cons_succ]
      refine hd_sole (by rfl) (fun K hK => ?_) -- 3
      go_simp
      refine hK _ _ (hSW) ?_
      clear hK K hSW
      intro hSW
      clear hl hm
      try simp only [Act.put, List.setIfInBounds_toArray, List.set_cons_zero, List.set_cons_succ]
      refine hd_pure (v := ?_) (by rfl) (fun W' hS' => ?_) ?_ -- 4
      rotate_left
      · have c0 := (hS'.1.cell 0).trans (Pdu.c0 _); clear hS'; (go_simp; first | with_reducible rfl | rfl)
      try simp only [Act.put, List.setIfInBounds_toArray, List.set_cons_zero, List.set_cons_succ]
      refine hd_pure (v := ?_) (by rfl) (fun W' hS' => ?_) ?_ -- 5
      rotate_left
      · have c0 := (hS'.1.cell 0).trans (Pdu.c0 _); clear hS'; (go_simp; first | with_reducible rfl | rfl)
      try simp only [Act.put, List.setIfInBounds_toArray, List.set_cons_zero, List.set_cons_succ]
      refine hd_pure (v := ?_) (by rfl) (fun W' hS' => ?_) ?_ -- 6
      rotate_left
      · have c0 := (hS'.1.cell 0).trans (Pdu.c0 _); clear hS'; (go_simp; first | with_reducible rfl | rfl)
      try simp only [Act.put, List.setIfInBounds_toArray, List.set_cons_zero, List.set_cons_succ]
      refine hd_pure (v := ?_) (by rfl) (fun W' hS' => ?_) ?_ -- 7
      rotate_left
      · have c0 := (hS'.1.cell 0).trans (Pdu.c0 _); clear hS'; (go_simp; first | with_reducible rfl | rfl)
      try simp only [Act.put, List.setIfInBounds_toArray, List.set_cons_zero, List.set_cons_succ]
      refine hd_pure (v := ?_) (by rfl) (fun W' hS' => ?_) ?_ -- 8
      rotate_left
      · have c0 := (hS'.1.cell 0).trans (Pdu.c0 _); clear hS'; (go_simp; first | with_reducible rfl | rfl)
      try simp only [Act.put, List.setIfInBounds_toArray, List.set_cons_zero, List.set_cons_succ]
      refine hd_nil ?_
      have hX := hSW; clear hSW
      refine wpList_nil (NoPanic.normal ?_)
      go_wp2_with fail
      refine reg_sch2 8 [(true, 0), (true, 1), (true, 2), (true, 3), (true, 5), (false, 4), (true, 6), (true, 7)] (by kernel_rfl) (by kernel_rfl) (Bx w p) (Bx w p) ?_ ?_ ?_
      · exact hX.drew
      · exact fun _ h => h
      intro W hSW
      simp only [List.map_cons, List.map_nil, List.getD_cons_zero, List.getD_cons_succ, List.drop_succ_cons, List.drop_zero]
      refine hd_pure (v := ?_) (by rfl) (fun W' hS' => ?_) ?_ -- 0
      rotate_left
      · (go_simp; first | with_reducible rfl | rfl)
      try simp only [Act.put, List.setIfInBounds_toArray, List.set_cons_zero, List.set_cons_succ]
      refine hd_pure (v := ?_) (by rfl) (fun W' hS' => ?_) ?_ -- 1
      rotate_left
      · (go_simp; first | with_reducible rfl | rfl)
      try simp only [Act.put, List.setIfInBounds_toArray, List.set_cons_zero, List.set_cons_succ]
      refine hd_pure (v := ?_) (by rfl) (fun W' hS' => ?_) ?_ -- 2
      rotate_left
      · (go_simp; first | with_reducible rfl | rfl)
      try simp only [Act.put, List.setIfInBounds_toArray, List.set_cons_zero, List.set_cons_succ]
      refine hd_pure (v := .agg p.cells.toArray) (by rfl) (fun W' hS' => exec_load_at 69 _ (by rfl) w.heap.size 0 26 (by rfl) _ _ hS'.1.range (Pdu.cells_length _) Tryz.underlying69 rfl info_pdu) ?_ -- 3
      try simp only [Act.put, List.setIfInBounds_toArray, List.set_cons_zero, List.set_cons_succ]
      refine hd_pure (v := .agg p.cells.toArray) (by rfl) (fun W' hS' => exec_load_at 69 _ (by rfl) w.heap.size 0 26 (by rfl) _ _ hS'.1.range (Pdu.cells_length _) Tryz.underlying69 rfl info_pdu) ?_ -- 5
      try simp only [Act.put, List.setIfInBounds_toArray, List.set_cons_zero, List.set_cons_succ]
      refine hd_sole (by rfl) (fun K hK => ?_) -- 4
      go_simp
      refine (named_any p _).mono ?_; rintro e w' ⟨rfl, hb⟩
      refine hK _ _ (hSW.next hb) ?_
      clear hK K hSW
      intro hSW
      clear hb; simp only [Pdu.val]
      try simp only [Act.put, List.setIfInBounds_toArray, List.set_cons_zero, List.set_cons_succ]
      refine hd_pure (v := ?_) (by rfl) (fun W' hS' => ?_) ?_ -- 6
      rotate_left
      · (have hq := neq_pdu (namedOf p) p; clear hS'; go_simp; first | with_reducible rfl | rfl)
      try simp only [Act.put, List.setIfInBounds_toArray, List.set_cons_zero, List.set_cons_succ]
      refine hd_pure (v := ?_) (by rfl) (fun W' hS' => ?_) ?_ -- 7
      rotate_left
      · (go_simp; first | with_reducible rfl | rfl)
      try simp only [Act.put, List.setIfInBounds_toArray, List.set_cons_zero, List.set_cons_succ]
      refine hd_nil ?_
      have hX2 := hSW; clear hSW hX
      refine wpList_nil (NoPanic.normal ?_)
      have c1 := (hX2.1.cell 1).trans p.c1; have c24 := (hX2.1.cell 24).trans p.c24; have c25 := (hX2.1.cell 25).trans p.c25; have c0 := (hX2.1.cell 0).trans p.c0
      go_wp2_with fail
      go_ret
      exact ⟨by rw [HR.out]; rfl, hX2.2⟩
  · have d1 : decide (imin p.session p.code < 0) = true := by simpa using h1
    clear h h1
    go_enter Tryz.func55, Tryz.ntmps55
    go_wp2_with fail
    refine reg_sch2 9 [(true, 1), (true, 2), (false, 0), (false, 3), (true, 4), (true, 5), (true, 6), (true, 7), (true, 8)] (by kernel_rfl) (by kernel_rfl) (Bx w p) (Bx w p) ?_ ?_ ?_
    · exact (Bx.new w p).drew
    · exact fun _ h => h
    intro W hSW
    simp only [List.map_cons, List.map_nil, List.getD_cons_zero, List.getD_cons_succ, List.drop_succ_cons, List.drop_zero]
    refine hd_pure (v := ?_) (by rfl) (fun W' hS' => ?_) ?_ -- 1
    rotate_left
    · have c0 := (hS'.1.cell 0).trans (Pdu.c0 _); clear hS'; (go_simp; first | with_reducible rfl | rfl)
    try simp only [Act.put, List.setIfInBounds_toArray, List.set_cons_zero, List.set_cons_succ]
    refine hd_pure (v := ?_) (by rfl) (fun W' hS' => ?_) ?_ -- 2
    rotate_left
    · have c0 := (hS'.1.cell 0).trans (Pdu.c0 _); clear hS'; (go_simp; first | with_reducible rfl | rfl)
    try simp only [Act.put, List.setIfInBounds_toArray, List.set_cons_zero, List.set_cons_succ]
    refine hd_sole (by rfl) (fun K hK => ?_) -- 0
    go_simp
    refine (lengths_any _).mono ?_; rintro e w' ⟨b, rfl, hm, hb⟩
    refine hK _ _ (hSW.next hb) ?_
    clear hK K hSW
    intro hSW
    clear hb; have hl := run_len _ b hm p.kind true; simp only [if_true] at hl
    try simp only [Act.put, List.setIfInBounds_toArray, List.set_cons_zero, List.set_cons_succ]
    refine hd_sole (by rfl) (fun K hK => ?_) -- 3
    go_simp
    refine hK _ _ (hSW) ?_
    clear hK K hSW
    intro hSW
    clear hl hm
    try simp only [Act.put, List.setIfInBounds_toArray, List.set_cons_zero, List.set_cons_succ]
    refine hd_pure (v := ?_) (by rfl) (fun W' hS' => ?_) ?_ -- 4
    rotate_left
    · have c0 := (hS'.1.cell 0).trans (Pdu.c0 _); clear hS'; (go_simp; first | with_reducible rfl | rfl)
    try simp only [Act.put, List.setIfInBounds_toArray, List.set_cons_zero, List.set_cons_succ]
    refine hd_pure (v := ?_) (by rfl) (fun W' hS' => ?_) ?_ -- 5
    rotate_left
    · have c0 := (hS'.1.cell 0).trans (Pdu.c0 _); clear hS'; (go_simp; first | with_reducible rfl | rfl)
    try simp only [Act.put, List.setIfInBounds_toArray, List.set_cons_zero, List.set_cons_succ]
    refine hd_pure (v := ?_) (by rfl) (fun W' hS' => ?_) ?_ -- 6
    rotate_left
    · have c0 := (hS'.1.cell 0).trans (Pdu.c0 _); clear hS'; (go_simp; first | with_reducible rfl | rfl)
    try simp only [Act.put, List.setIfInBounds_toArray, List.set_cons_zero, List.set_cons_succ]
    refine hd_pure (v := ?_) (by rfl) (fun W' hS' => ?_) ?_ -- 7
    rotate_left
    · have c0 := (hS'.1.cell 0).trans (Pdu.c0 _); clear hS'; (go_simp; first | with_reducible rfl | rfl)
    try simp only [Act.put, List.setIfInBounds_toArray, List.set_cons_zero, List.set_cons_succ]
    refine hd_pure (v := ?_) (by rfl) (fun W' hS' => ?_) ?_ -- 8
    rotate_left
    · have c0 := (hS'.1.cell 0).trans (Pdu.c0 _); clear hS'; (go_simp; first | with_reducible rfl | rfl)
    try simp only [Act.put, List.setIfInBounds_toArray, List.set_cons_zero, List.set_cons_succ]
    refine hd_nil ?_
    have hX := hSW; clear hSW
    refine wpList_nil (NoPanic.normal ?_)
    go_wp2_with fail
    refine reg_sch2 8 [(true, 0), (true, 1), (true, 2), (true, 3), (true, 5), (false, 4), (true, 6), (true, 7)] (by kernel_rfl) (by kernel_rfl) (Bx w p) (Bx w p) ?_ ?_ ?_
    · exact hX.drew
    · exact fun _ h => h
    intro W hSW
    simp only [List.map_cons, List.map_nil, List.getD_cons_zero, List.getD_cons_succ, List.drop_succ_cons, List.drop_zero]
    refine hd_pure (v := ?_) (by rfl) (fun W' hS' => ?_) ?_ -- 0
    rotate_left
    · (go_simp; first | with_reducible rfl | rfl)
    try simp only [Act.put, List.setIfInBounds_toArray, List.set_cons_zero, List.set_cons_succ]
    refine hd_pure (v := ?_) (by rfl) (fun W' hS' => ?_) ?_ -- 1
    rotate_left
    · (go_simp; first | with_reducible rfl | rfl)
    try simp only [Act.put, List.setIfInBounds_toArray, List.set_cons_zero, List.set_cons_succ]
    refine hd_pure (v := ?_) (by rfl) (fun W' hS' => ?_) ?_ -- 2
    rotate_left
    · (go_simp; first | with_reducible rfl | rfl)
    try simp only [Act.put, List.setIfInBounds_toArray, List.set_cons_zero, List.set_cons_succ]
    refine hd_pure (v := .agg p.cells.toArray) (by rfl) (fun W' hS' => exec_load_at 69 _ (by rfl) w.heap.size 0 26 (by rfl) _ _ hS'.1.range (Pdu.cells_length _) Tryz.underlying69 rfl info_pdu) ?_ -- 3
    try simp only [Act.put, List.setIfInBounds_toArray, List.set_cons_zero, List.set_cons_succ]
    refine hd_pure (v := .agg p.cells.toArray) (by rfl) (fun W' hS' => exec_load_at 69 _ (by rfl) w.heap.size 0 26 (by rfl) _ _ hS'.1.range (Pdu.cells_length _) Tryz.underlying69 rfl info_pdu) ?_ -- 5
    try simp only [Act.put, List.setIfInBounds_toArray, List.set_cons_zero, List.set_cons_succ]
    refine hd_sole (by rfl) (fun K hK => ?_) -- 4
    go_simp
    refine (named_any p _).mono ?_; rintro e w' ⟨rfl, hb⟩
    refine hK _ _ (hSW.next hb) ?_
    clear hK K hSW
    intro hSW
    clear hb; simp only [Pdu.val]
    try simp only [Act.put, List.setIfInBounds_toArray, List.set_cons_zero, List.set_cons_succ]
    refine hd_pure (v := ?_) (by rfl) (fun W' hS' => ?_) ?_ -- 6
    rotate_left
    · (have hq := neq_pdu (namedOf p) p; clear hS'; go_simp; first | with_reducible rfl | rfl)
    try simp only [Act.put, List.setIfInBounds_toArray, List.set_cons_zero, List.set_cons_succ]
    refine hd_pure (v := ?_) (by rfl) (fun W' hS' => ?_) ?_ -- 7
    rotate_left
    · (go_simp; first | with_reducible rfl | rfl)
    try simp only [Act.put, List.setIfInBounds_toArray, List.set_cons_zero, List.set_cons_succ]
    refine hd_nil ?_
    have hX2 := hSW; clear hSW hX
    refine wpList_nil (NoPanic.normal ?_)
    have c1 := (hX2.1.cell 1).trans p.c1; have c24 := (hX2.1.cell 24).trans p.c24; have c25 := (hX2.1.cell 25).trans p.c25; have c0 := (hX2.1.cell 0).trans p.c0
    go_wp2_with fail
    go_ret
    exact ⟨by rw [HR.out]; rfl, hX2.2⟩
set_option maxRecDepth 100000 in
set_option maxHeartbeats 1000000 in
theorem right_rest (p : Pdu) (w : World) (hk : isKind p.kind = true) (hn : decide (namedOf p = p) = true) (h : 0 ≤ imin p.session p.code ∧ imax p.session p.code ≤ 65535 ∧ p.text.size ≤ 200) : Calls Tryz.prog 55 #[p.val] w fun e w' => e = .returned (.bool (pduOk p)) ∧ Below w.heap.size w w' := by
  have HR := Lib.hid (show pduOk p = (if p.kind = 4 ∨ p.kind = 6 then vrpOk p.v && (p.v.p.v6 == decide (p.kind = 6)) else true) by
    unfold pduOk
    rw [hk, hn]
    simp [h.1, h.2.1, h.2.2])
  simp only [Pdu.val]
  obtain ⟨h1, h2, h3⟩ := h
  have d1 : decide (imin p.session p.code < 0) = false := by simpa using h1
  have d2 : decide (65535 < imax p.session p.code) = false := by simpa using h2
  have d3 : decide ((200 : Int) < (p.text.size : Int)) = false := by simp; omega
  have d3' : decide (200 < p.text.size) = false := by simpa using h3
  clear h1 h2 h3
  by_cases k4 : p.kind = 4
  · have b4 : (p.kind == 4) = true := by simpa using k4
    have b6 : (p.kind == 6) = false := by simp [k4]
    have HR2 := Lib.hid (show pduOk p = (vrpOk p.v && (p.v.p.v6 == false)) by rw [HR.out]; simp [k4])
    clear k4 HR
    go_enter Tryz.func55, Tryz.ntmps55
    go_wp2_with fail
    refine reg_sch2 9 [(true, 1), (true, 2), (false, 0), (false, 3), (true, 4), (true, 5), (true, 6), (true, 7), (true, 8)] (by kernel_rfl) (by kernel_rfl) (Bx w p) (Bx w p) ?_ ?_ ?_
    · exact (Bx.new w p).drew
    · exact fun _ h => h
    intro W hSW
    simp only [List.map_cons, List.map_nil, List.getD_cons_zero, List.getD_cons_succ, List.drop_succ_cons, List.drop_zero]
    refine hd_pure (v := ?_) (by rfl) (fun W' hS' => ?_) ?_ -- 1
    rotate_left
    · have c0 := (hS'.1.cell 0).trans (Pdu.c0 _); clear hS'; (go_simp; first | with_reducible rfl | rfl)
    try simp only [Act.put, List.setIfInBounds_toArray, List.set_cons_zero, List.set_cons_succ]
    refine hd_pure (v := ?_) (by rfl) (fun W' hS' => ?_) ?_ -- 2
    rotate_left
    · have c0 := (hS'.1.cell 0).trans (Pdu.c0 _); clear hS'; (go_simp; first | with_reducible rfl | rfl)
    try simp only [Act.put, List.setIfInBounds_toArray, List.set_cons_zero, List.set_cons_succ]
    refine hd_sole (by rfl) (fun K hK => ?_) -- 0
    go_simp
    refine (lengths_any _).mono ?_; rintro e w' ⟨b, rfl, hm, hb⟩
    refine hK _ _ (hSW.next hb) ?_
    clear hK K hSW
    intro hSW
    clear hb; have hl := run_len _ b hm p.kind true; simp only [if_true] at hl
    try simp only [Act.put, List.setIfInBounds_toArray, List.set_cons_zero, List.set_cons_succ]
    refine hd_sole (by rfl) (fun K hK => ?_) -- 3
    go_simp
    refine hK _ _ (hSW) ?_
    clear hK K hSW
    intro hSW
    clear hl hm
    try simp only [Act.put, List.setIfInBounds_toArray, List.set_cons_zero, List.set_cons_succ]
    refine hd_pure (v := ?_) (by rfl) (fun W' hS' => ?_) ?_ -- 4
    rotate_left
    · have c0 := (hS'.1.cell 0).trans (Pdu.c0 _); clear hS'; (go_simp; first | with_reducible rfl | rfl)
    try simp only [Act.put, List.setIfInBounds_toArray, List.set_cons_zero, List.set_cons_succ]
    refine hd_pure (v := ?_) (by rfl) (fun W' hS' => ?_) ?_ -- 5
    rotate_left
    · have c0 := (hS'.1.cell 0).trans (Pdu.c0 _); clear hS'; (go_simp; first | with_reducible rfl | rfl)
    try simp only [Act.put, List.setIfInBounds_toArray, List.set_cons_zero, List.set_cons_succ]
    refine hd_pure (v := ?_) (by rfl) (fun W' hS' => ?_) ?_ -- 6
    rotate_left
    · have c0 := (hS'.1.cell 0).trans (Pdu.c0 _); clear hS'; (go_simp; first | with_reducible rfl | rfl)
    try simp only [Act.put, List.setIfInBounds_toArray, List.set_cons_zero, List.set_cons_succ]
    refine hd_pure (v := ?_) (by rfl) (fun W' hS' => ?_) ?_ -- 7
    rotate_left
    · have c0 := (hS'.1.cell 0).trans (Pdu.c0 _); clear hS'; (go_simp; first | with_reducible rfl | rfl)
    try simp only [Act.put, List.setIfInBounds_toArray, List.set_cons_zero, List.set_cons_succ]
    refine hd_pure (v := ?_) (by rfl) (fun W' hS' => ?_) ?_ -- 8
    rotate_left
    · have c0 := (hS'.1.cell 0).trans (Pdu.c0 _); clear hS'; (go_simp; first | with_reducible rfl | rfl)
    try simp only [Act.put, List.setIfInBounds_toArray, List.set_cons_zero, List.set_cons_succ]
    refine hd_nil ?_
    have hX := hSW; clear hSW
    refine wpList_nil (NoPanic.normal ?_)
    go_wp2_with fail
    refine reg_sch2 8 [(true, 0), (true, 1), (true, 2), (true, 3), (true, 5), (false, 4), (true, 6), (true, 7)] (by kernel_rfl) (by kernel_rfl) (Bx w p) (Bx w p) ?_ ?_ ?_
    · exact hX.drew
    · exact fun _ h => h
    intro W hSW
    simp only [List.map_cons, List.map_nil, List.getD_cons_zero, List.getD_cons_succ, List.drop_succ_cons, List.drop_zero]
    refine hd_pure (v := ?_) (by rfl) (fun W' hS' => ?_) ?_ -- 0
    rotate_left
    · (go_simp; first | with_reducible rfl | rfl)
    try simp only [Act.put, List.setIfInBounds_toArray, List.set_cons_zero, List.set_cons_succ]
    refine hd_pure (v := ?_) (by rfl) (fun W' hS' => ?_) ?_ -- 1
    rotate_left
    · (go_simp; first | with_reducible rfl | rfl)
    try simp only [Act.put, List.setIfInBounds_toArray, List.set_cons_zero, List.set_cons_succ]
    refine hd_pure (v := ?_) (by rfl) (fun W' hS' => ?_) ?_ -- 2
    rotate_left
    · (go_simp; first | with_reducible rfl | rfl)
    try simp only [Act.put, List.setIfInBounds_toArray, List.set_cons_zero, List.set_cons_succ]
    refine hd_pure (v := .agg p.cells.toArray) (by rfl) (fun W' hS' => exec_load_at 69 _ (by rfl) w.heap.size 0 26 (by rfl) _ _ hS'.1.range (Pdu.cells_length _) Tryz.underlying69 rfl info_pdu) ?_ -- 3
    try simp only [Act.put, List.setIfInBounds_toArray, List.set_cons_zero, List.set_cons_succ]
    refine hd_pure (v := .agg p.cells.toArray) (by rfl) (fun W' hS' => exec_load_at 69 _ (by rfl) w.heap.size 0 26 (by rfl) _ _ hS'.1.range (Pdu.cells_length _) Tryz.underlying69 rfl info_pdu) ?_ -- 5
    try simp only [Act.put, List.setIfInBounds_toArray, List.set_cons_zero, List.set_cons_succ]
    refine hd_sole (by rfl) (fun K hK => ?_) -- 4
    go_simp
    refine (named_any p _).mono ?_; rintro e w' ⟨rfl, hb⟩
    refine hK _ _ (hSW.next hb) ?_
    clear hK K hSW
    intro hSW
    clear hb; simp only [Pdu.val]
    try simp only [Act.put, List.setIfInBounds_toArray, List.set_cons_zero, List.set_cons_succ]
    refine hd_pure (v := ?_) (by rfl) (fun W' hS' => ?_) ?_ -- 6
    rotate_left
    · (have hq := neq_pdu (namedOf p) p; clear hS'; go_simp; first | with_reducible rfl | rfl)
    try simp only [Act.put, List.setIfInBounds_toArray, List.set_cons_zero, List.set_cons_succ]
    refine hd_pure (v := ?_) (by rfl) (fun W' hS' => ?_) ?_ -- 7
    rotate_left
    · (go_simp; first | with_reducible rfl | rfl)
    try simp only [Act.put, List.setIfInBounds_toArray, List.set_cons_zero, List.set_cons_succ]
    refine hd_nil ?_
    have hX2 := hSW; clear hSW hX
    refine wpList_nil (NoPanic.normal ?_)
    have c1 := (hX2.1.cell 1).trans p.c1; have c24 := (hX2.1.cell 24).trans p.c24; have c25 := (hX2.1.cell 25).trans p.c25; have c0 := (hX2.1.cell 0).trans p.c0
    go_upto_region 9 with fail
    cases hv : vrpOk p.v
    all_goals
      clear c1 c24 c25 d1 d2 d3 d3'
      have HV := Lib.hid hv
      clear hv
      have c5 := (hX2.1.cell 5).trans p.c5
      go_wp2_with (refine wpList_load_at rfl 67 _ rfl w.heap.size 4 20 rfl _ _ hX2.1.pdu_vrp (Vrp.cells_length _) Tryz.underlying67 rfl info_vrp ?_)
      refine (one_any p.v _).mono ?_
      rintro e w5 ⟨rfl, hb5⟩
      replace hX2 := hX2.next hb5
      clear hb5 c0 c5
      have c5 := (hX2.1.cell 5).trans p.c5
      have c0 := (hX2.1.cell 0).trans p.c0
      rw [HV.out]
      go_wp2
      go_ret
      exact ⟨by rw [HR2.out, HV.out]; simp, hX2.2⟩
  · by_cases k6 : p.kind = 6
    · have b4 : (p.kind == 4) = false := by simpa using k4
      have b6 : (p.kind == 6) = true := by simp [k6]
      have HR2 := Lib.hid (show pduOk p = (vrpOk p.v && (p.v.p.v6 == true)) by rw [HR.out]; simp [k6])
      clear k4 k6 HR
      go_enter Tryz.func55, Tryz.ntmps55
      go_wp2_with fail
      refine reg_sch2 9 [(true, 1), (true, 2), (false, 0), (false, 3), (true, 4), (true, 5), (true, 6), (true, 7), (true, 8)] (by kernel_rfl) (by kernel_rfl) (Bx w p) (Bx w p) ?_ ?_ ?_
      · exact (Bx.new w p).drew
      · exact fun _ h => h
      intro W hSW
      simp only [List.map_cons, List.map_nil, List.getD_cons_zero, List.getD_cons_succ, List.drop_succ_cons, List.drop_zero]
      refine hd_pure (v := ?_) (by rfl) (fun W' hS' => ?_) ?_ -- 1
      rotate_left
      · have c0 := (hS'.1.cell 0).trans (Pdu.c0 _); clear hS'; (go_simp; first | with_reducible rfl | rfl)
      try simp only [Act.put, List.setIfInBounds_toArray, List.set_cons_zero, List.set_cons_succ]
      refine hd_pure (v := ?_) (by rfl) (fun W' hS' => ?_) ?_ -- 2
      rotate_left
      · have c0 := (hS'.1.cell 0).trans (Pdu.c0 _); clear hS'; (go_simp; first | with_reducible rfl | rfl)
      try simp only [Act.put, List.setIfInBounds_toArray, List.set_cons_zero, List.set_cons_succ]
      refine hd_sole (by rfl) (fun K hK => ?_) -- 0
      go_simp
      refine (lengths_any _).mono ?_; rintro e w' ⟨b, rfl, hm, hb⟩
      refine hK _ _ (hSW.next hb) ?_
      clear hK K hSW
      intro hSW
      clear hb; have hl := run_len _ b hm p.kind true; simp only [if_true] at hl
      try simp only [Act.put, List.setIfInBounds_toArray, List.set_cons_zero, List.set_cons_succ]
      refine hd_sole (by rfl) (fun K hK => ?_) -- 3
      go_simp
      refine hK _ _ (hSW) ?_
      clear hK K hSW
      intro hSW
      clear hl hm
      try simp only [Act.put, List.setIfInBounds_toArray, List.set_cons_zero, List.set_cons_succ]
      refine hd_pure (v := ?_) (by rfl) (fun W' hS' => ?_) ?_ -- 4
      rotate_left
      · have c0 := (hS'.1.cell 0).trans (Pdu.c0 _); clear hS'; (go_simp; first | with_reducible rfl | rfl)
      try simp only [Act.put, List.setIfInBounds_toArray, List.set_cons_zero, List.set_cons_succ]
      refine hd_pure (v := ?_) (by rfl) (fun W' hS' => ?_) ?_ -- 5
      rotate_left
      · have c0 := (hS'.1.cell 0).trans (Pdu.c0 _); clear hS'; (go_simp; first | with_reducible rfl | rfl)
      try simp only [Act.put, List.setIfInBounds_toArray, List.set_cons_zero, List.set_cons_succ]
      refine hd_pure (v := ?_) (by rfl) (fun W' hS' => ?_) ?_ -- 6
      rotate_left
      · have c0 := (hS'.1.cell 0).trans (Pdu.c0 _); clear hS'; (go_simp; first | with_reducible rfl | rfl)
      try simp only [Act.put, List.setIfInBounds_toArray, List.set_cons_zero, List.set_cons_succ]
      refine hd_pure (v := ?_) (by rfl) (fun W' hS' => ?_) ?_ -- 7
      rotate_left
      · have c0 := (hS'.1.cell 0).trans (Pdu.c0 _); clear hS'; (go_simp; first | with_reducible rfl | rfl)
      try simp only [Act.put, List.setIfInBounds_toArray, List.set_cons_zero, List.set_cons_succ]
      refine hd_pure (v := ?_) (by rfl) (fun W' hS' => ?_) ?_ -- 8
      rotate_left
      · have c0 := (hS'.1.cell 0).trans (Pdu.c0 _); clear hS'; (go_simp; first | with_reducible rfl | rfl)
      try simp only [Act.put, List.setIfInBounds_toArray, List.set_cons_zero, List.set_cons_succ]
      refine hd_nil ?_
      have hX := hSW; clear hSW
      refine wpList_nil (NoPanic.normal ?_)
      go_wp2_with fail
      refine reg_sch2 8 [(true, 0), (true, 1), (true, 2), (true, 3), (true, 5), (false, 4), (true, 6), (true, 7)] (by kernel_rfl) (by kernel_rfl) (Bx w p) (Bx w p) ?_ ?_ ?_
      · exact hX.drew
      · exact fun _ h => h
      intro W hSW
      simp only [List.map_cons, List.map_nil, List.getD_cons_zero, List.getD_cons_succ, List.drop_succ_cons, List.drop_zero]
      refine hd_pure (v := ?_) (by rfl) (fun W' hS' => ?_) ?_ -- 0
      rotate_left
      · (go_simp; first | with_reducible rfl | rfl)
      try simp only [Act.put, List.setIfInBounds_toArray, List.set_cons_zero, List.set_cons_succ]
      refine hd_pure (v := ?_) (by rfl) (fun W' hS' => ?_) ?_ -- 1
      rotate_left
      · (go_simp; first | with_reducible rfl | rfl)
      try simp only [Act.put, List.setIfInBounds_toArray, List.set_cons_zero, List.set_cons_succ]
      refine hd_pure (v := ?_) (by rfl) (fun W' hS' => ?_) ?_ -- 2
      rotate_left
      · (go_simp; first | with_reducible rfl | rfl)
      try simp only [Act.put, List.setIfInBounds_toArray, List.set_cons_zero, List.set_cons_succ]
      refine hd_pure (v := .agg p.cells.toArray) (by rfl) (fun W' hS' => exec_load_at 69 _ (by rfl) w.heap.size 0 26 (by rfl) _ _ hS'.1.range (Pdu.cells_length _) Tryz.underlying69 rfl info_pdu) ?_ -- 3
      try simp only [Act.put, List.setIfInBounds_toArray, List.set_cons_zero, List.set_cons_succ]
      refine hd_pure (v := .agg p.cells.toArray) (by rfl) (fun W' hS' => exec_load_at 69 _ (by rfl) w.heap.size 0 26 (by rfl) _ _ hS'.1.range (Pdu.cells_length _) Tryz.underlying69 rfl info_pdu) ?_ -- 5
      try simp only [Act.put, List.setIfInBounds_toArray, List.set_cons_zero, List.set_cons_succ]
      refine hd_sole (by rfl) (fun K hK => ?_) -- 4
      go_simp
      refine (named_any p _).mono ?_; rintro e w' ⟨rfl, hb⟩
      refine hK _ _ (hSW.next hb) ?_
      clear hK K hSW
      intro hSW
      clear hb; simp only [Pdu.val]
      try simp only [Act.put, List.setIfInBounds_toArray, List.set_cons_zero, List.set_cons_succ]
      refine hd_pure (v := ?_) (by rfl) (fun W' hS' => ?_) ?_ -- 6
      rotate_left
      · (have hq := neq_pdu (namedOf p) p; clear hS'; go_simp; first | with_reducible rfl | rfl)
      try simp only [Act.put, List.setIfInBounds_toArray, List.set_cons_zero, List.set_cons_succ]
      refine hd_pure (v := ?_) (by rfl) (fun W' hS' => ?_) ?_ -- 7
      rotate_left
      · (go_simp; first | with_reducible rfl | rfl)
      try simp only [Act.put, List.setIfInBounds_toArray, List.set_cons_zero, List.set_cons_succ]
      refine hd_nil ?_
      have hX2 := hSW; clear hSW hX
      refine wpList_nil (NoPanic.normal ?_)
      have c1 := (hX2.1.cell 1).trans p.c1; have c24 := (hX2.1.cell 24).trans p.c24; have c25 := (hX2.1.cell 25).trans p.c25; have c0 := (hX2.1.cell 0).trans p.c0
      go_upto_region 9 with fail
      cases hv : vrpOk p.v
      all_goals
        clear c1 c24 c25 d1 d2 d3 d3'
        have HV := Lib.hid hv
        clear hv
        have c5 := (hX2.1.cell 5).trans p.c5
        go_wp2_with (refine wpList_load_at rfl 67 _ rfl w.heap.size 4 20 rfl _ _ hX2.1.pdu_vrp (Vrp.cells_length _) Tryz.underlying67 rfl info_vrp ?_)
        refine (one_any p.v _).mono ?_
        rintro e w5 ⟨rfl, hb5⟩
        replace hX2 := hX2.next hb5
        clear hb5 c0 c5
        have c5 := (hX2.1.cell 5).trans p.c5
        have c0 := (hX2.1.cell 0).trans p.c0
        rw [HV.out]
        go_wp2
        go_ret
        exact ⟨by rw [HR2.out, HV.out]; simp, hX2.2⟩
    · have b4 : (p.kind == 4) = false := by simpa using k4
      have b6 : (p.kind == 6) = false := by simpa using k6
      have HR2 := Lib.hid (show pduOk p = true by rw [HR.out]; simp [k4, k6])
      clear k4 k6 HR
      go_enter Tryz.func55, Tryz.ntmps55
      go_wp2_with fail
      refine reg_sch2 9 [(true, 1), (true, 2), (false, 0), (false, 3), (true, 4), (true, 5), (true, 6), (true, 7), (true, 8)] (by kernel_rfl) (by kernel_rfl) (Bx w p) (Bx w p) ?_ ?_ ?_
      · exact (Bx.new w p).drew
      · exact fun _ h => h
      intro W hSW
      simp only [List.map_cons, List.map_nil, List.getD_cons_zero, List.getD_cons_succ, List.drop_succ_cons, List.drop_zero]
      refine hd_pure (v := ?_) (by rfl) (fun W' hS' => ?_) ?_ -- 1
      rotate_left
      · have c0 := (hS'.1.cell 0).trans (Pdu.c0 _); clear hS'; (go_simp; first | with_reducible rfl | rfl)
      try simp only [Act.put, List.setIfInBounds_toArray, List.set_cons_zero, List.set_cons_succ]
      refine hd_pure (v := ?_) (by rfl) (fun W' hS' => ?_) ?_ -- 2
      rotate_left
      · have c0 := (hS'.1.cell 0).trans (Pdu.c0 _); clear hS'; (go_simp; first | with_reducible rfl | rfl)
      try simp only [Act.put, List.setIfInBounds_toArray, List.set_cons_zero, List.set_cons_succ]
      refine hd_sole (by rfl) (fun K hK => ?_) -- 0
      go_simp
      refine (lengths_any _).mono ?_; rintro e w' ⟨b, rfl, hm, hb⟩
      refine hK _ _ (hSW.next hb) ?_
      clear hK K hSW
      intro hSW
      clear hb; have hl := run_len _ b hm p.kind true; simp only [if_true] at hl
      try simp only [Act.put, List.setIfInBounds_toArray, List.set_cons_zero, List.set_cons_succ]
      refine hd_sole (by rfl) (fun K hK => ?_) -- 3
      go_simp
      refine hK _ _ (hSW) ?_
      clear hK K hSW
      intro hSW
      clear hl hm
      try simp only [Act.put, List.setIfInBounds_toArray, List.set_cons_zero, List.set_cons_succ]
      refine hd_pure (v := ?_) (by rfl) (fun W' hS' => ?_) ?_ -- 4
      rotate_left
      · have c0 := (hS'.1.cell 0).trans (Pdu.c0 _); clear hS'; (go_simp; first | with_reducible rfl | rfl)
      try simp only [Act.put, List.setIfInBounds_toArray, List.set_cons_zero, List.set_cons_succ]
      refine hd_pure (v := ?_) (by rfl) (fun W' hS' => ?_) ?_ -- 5
      rotate_left
      · have c0 := (hS'.1.cell 0).trans (Pdu.c0 _); clear hS'; (go_simp; first | with_reducible rfl | rfl)
      try simp only [Act.put, List.setIfInBounds_toArray, List.set_cons_zero, List.set_cons_succ]
      refine hd_pure (v := ?_) (by rfl) (fun W' hS' => ?_) ?_ -- 6
      rotate_left
      · have c0 := (hS'.1.cell 0).trans (Pdu.c0 _); clear hS'; (go_simp; first | with_reducible rfl | rfl)
      try simp only [Act.put, List.setIfInBounds_toArray, List.set_cons_zero, List.set_cons_succ]
      refine hd_pure (v := ?_) (by rfl) (fun W' hS' => ?_) ?_ -- 7
      rotate_left
      · have c0 := (hS'.1.cell 0).trans (Pdu.c0 _); clear hS'; (go_simp; first | with_reducible rfl | rfl)
      try simp only [Act.put, List.setIfInBounds_toArray, List.set_cons_zero, List.set_cons_succ]
      refine hd_pure (v := ?_) (by rfl) (fun W' hS' => ?_) ?_ -- 8
      rotate_left
      · have c0 := (hS'.1.cell 0).trans (Pdu.c0 _); clear hS'; (go_simp; first | with_reducible rfl | rfl)
      try simp only [Act.put, List.setIfInBounds_toArray, List.set_cons_zero, List.set_cons_succ]
      refine hd_nil ?_
      have hX := hSW; clear hSW
      refine wpList_nil (NoPanic.normal ?_)
      go_wp2_with fail
      refine reg_sch2 8 [(true, 0), (true, 1), (true, 2), (true, 3), (true, 5), (false, 4), (true, 6), (true, 7)] (by kernel_rfl) (by kernel_rfl) (Bx w p) (Bx w p) ?_ ?_ ?_
      · exact hX.drew
      · exact fun _ h => h
      intro W hSW
      simp only [List.map_cons, List.map_nil, List.getD_cons_zero, List.getD_cons_succ, List.drop_succ_cons, List.drop_zero]
      refine hd_pure (v := ?_) (by rfl) (fun W' hS' => ?_) ?_ -- 0
      rotate_left
      · (go_simp; first | with_reducible rfl | rfl)
      try simp only [Act.put, List.setIfInBounds_toArray, List.set_cons_zero, List.set_cons_succ]
      refine hd_pure (v := ?_) (by rfl) (fun W' hS' => ?_) ?_ -- 1
      rotate_left
      · (go_simp; first | with_reducible rfl | rfl)
      try simp only [Act.put, List.setIfInBounds_toArray, List.set_cons_zero, List.set_cons_succ]
      refine hd_pure (v := ?_) (by rfl) (fun W' hS' => ?_) ?_ -- 2
      rotate_left
      · (go_simp; first | with_reducible rfl | rfl)
      try simp only [Act.put, List.setIfInBounds_toArray, List.set_cons_zero, List.set_cons_succ]
      refine hd_pure (v := .agg p.cells.toArray) (by rfl) (fun W' hS' => exec_load_at 69 _ (by rfl) w.heap.size 0 26 (by rfl) _ _ hS'.1.range (Pdu.cells_length _) Tryz.underlying69 rfl info_pdu) ?_ -- 3
      try simp only [Act.put, List.setIfInBounds_toArray, List.set_cons_zero, List.set_cons_succ]
      refine hd_pure (v := .agg p.cells.toArray) (by rfl) (fun W' hS' => exec_load_at 69 _ (by rfl) w.heap.size 0 26 (by rfl) _ _ hS'.1.range (Pdu.cells_length _) Tryz.underlying69 rfl info_pdu) ?_ -- 5
      try simp only [Act.put, List.setIfInBounds_toArray, List.set_cons_zero, List.set_cons_succ]
      refine hd_sole (by rfl) (fun K hK => ?_) -- 4
      go_simp
      refine (named_any p _).mono ?_; rintro e w' ⟨rfl, hb⟩
      refine hK _ _ (hSW.next hb) ?_
      clear hK K hSW
      intro hSW
      clear hb; simp only [Pdu.val]
      try simp only [Act.put, List.setIfInBounds_toArray, List.set_cons_zero, List.set_cons_succ]
      refine hd_pure (v := ?_) (by rfl) (fun W' hS' => ?_) ?_ -- 6
      rotate_left
      · (have hq := neq_pdu (namedOf p) p; clear hS'; go_simp; first | with_reducible rfl | rfl)
      try simp only [Act.put, List.setIfInBounds_toArray, List.set_cons_zero, List.set_cons_succ]
      refine hd_pure (v := ?_) (by rfl) (fun W' hS' => ?_) ?_ -- 7
      rotate_left
      · (go_simp; first | with_reducible rfl | rfl)
      try simp only [Act.put, List.setIfInBounds_toArray, List.set_cons_zero, List.set_cons_succ]
      refine hd_nil ?_
      have hX2 := hSW; clear hSW hX
      refine wpList_nil (NoPanic.normal ?_)
      have c1 := (hX2.1.cell 1).trans p.c1; have c24 := (hX2.1.cell 24).trans p.c24; have c25 := (hX2.1.cell 25).trans p.c25; have c0 := (hX2.1.cell 0).trans p.c0
      go_wp2_with fail
      go_ret
      exact ⟨by rw [HR2.out]; rfl, hX2.2⟩
theorem right_any (p : Pdu) (w : World) : Calls Tryz.prog 55 #[p.val] w fun e w' => e = .returned (.bool (pduOk p)) ∧ Below w.heap.size w w' := by
  cases h : (isKind p.kind && decide (namedOf p = p))
  · exact right_no p w h
  · have h1 : isKind p.kind = true := (Bool.and_eq_true _ _ ▸ h).1
    have h2 : decide (namedOf p = p) = true := (Bool.and_eq_true _ _ ▸ h).2
    by_cases h3 : 0 ≤ imin p.session p.code ∧ imax p.session p.code ≤ 65535 ∧ p.text.size ≤ 200
    · exact right_rest p w h1 h2 h3
    · exact right_range p w h1 h2 h3
end Go.Proofs.YtmoldmnhijcckaaGreat
