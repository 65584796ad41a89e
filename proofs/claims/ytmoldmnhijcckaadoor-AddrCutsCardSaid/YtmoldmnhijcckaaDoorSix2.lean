/- The text of the six-family prefix of length nought: the address, the text. -/
import Derived.Test.YtmoldmnhijcckaaDoorSix
set_option linter.unusedVariables false
set_option linter.unusedSectionVars false
set_option linter.unusedSimpArgs false
namespace Go.Proofs.YtmoldmnhijcckaaDoor
open Go.RowKit
theorem pfx_a {W : World} {g : Nat} {p : Pfx} (h : Blk W g 50 p.cells) (ha : p.a = z16) : W.rangeAt g 1 z16.cells := by
  rw [← ha]
  exact h.sub [.bool p.v6] p.a.cells [.int .i64 p.len] 1 rfl rfl
set_option maxRecDepth 100000 in
set_option maxHeartbeats 4000000 in
theorem address6 (p : Pfx) (h6 : p.v6 = true) (ha : p.a = z16) (w : World) : Calls Tryd.prog 58 #[p.val] w fun e w' => e = .returned (.string ⟨#[58, 58]⟩) ∧ Below w.heap.size w w' := by
  simp only [Pfx.val]
  have hB : Blk (w.alloc (.cells p.cells.toArray 50)) w.heap.size 50 p.cells ∧ Below w.heap.size w (w.alloc (.cells p.cells.toArray 50)) := ⟨Blk.new _ _ _, (Below.refl _ _).alloc (Nat.le_refl _) _⟩
  have c0 := (hB.1.cell 0).trans (Pfx.c0 _)
  rw [h6] at c0
  have Ha : ∀ W, Blk W w.heap.size 50 p.cells → W.rangeAt w.heap.size 1 z16.cells := fun W h => pfx_a h ha
  have hz := zeros_all
  have hr0 := row_none z16 0 (by omega)
  have hr8 := row_none z16 8 (by omega)
  simp only [A16.val] at hz hr0 hr8
  have hzl := A16.cells_length z16
  generalize z16.cells = zc at hz hr0 hr8 hzl Ha
  clear h6 ha
  go_enter Tryd.func58, Tryd.ntmps58
  go_wp2_with (first | (go_at_call 92; go_must (refine (hz _).mono ?_; rintro e w3 ⟨rfl, hb⟩; replace hB := And.intro (hB.1.below hb hB.1.lt) (below_then hB.2 (Nat.le_refl _) hb); clear hb)) | (refine wpList_load_at rfl 48 _ rfl w.heap.size 1 16 rfl _ _ (Ha _ hB.1) hzl Tryd.underlying48 rfl info_a16 ?_))
  refine reg_sch2 11 [(true, 0), (true, 1), (true, 2), (true, 5), (true, 6), (true, 7), (false, 3), (true, 4), (false, 8), (true, 9), (true, 10)] (by kernel_rfl) (by kernel_rfl) (fun W => Blk W w.heap.size 50 p.cells ∧ Below w.heap.size w W) (fun W => Blk W w.heap.size 50 p.cells ∧ Below w.heap.size w W) ?_ ?_ ?_
  · exact ⟨hB.1.drew, hB.2.drew⟩
  · exact fun _ h => h
  intro W hSW
  simp only [List.map_cons, List.map_nil, List.getD_cons_zero, List.getD_cons_succ, List.drop_succ_cons, List.drop_zero]
  refine hd_pure (v := ?_) (by rfl) (fun W' hS' => ?_) ?_ -- 0
  rotate_left
  · clear hS'; (go_simp; first | with_reducible rfl | rfl)
  try simp only [Act.put, List.setIfInBounds_toArray, List.set_cons_zero, List.set_cons_succ]
  refine hd_pure (v := .agg zc.toArray) (by rfl) (fun W' hS' => exec_load_at 48 _ (by rfl) w.heap.size 1 16 (by rfl) _ _ (Ha _ hS'.1) hzl Tryd.underlying48 rfl info_a16) ?_ -- 1
  try simp only [Act.put, List.setIfInBounds_toArray, List.set_cons_zero, List.set_cons_succ]
  refine hd_pure (v := ?_) (by rfl) (fun W' hS' => ?_) ?_ -- 2
  rotate_left
  · clear hS'; (go_simp; first | with_reducible rfl | rfl)
  try simp only [Act.put, List.setIfInBounds_toArray, List.set_cons_zero, List.set_cons_succ]
  refine hd_pure (v := ?_) (by rfl) (fun W' hS' => ?_) ?_ -- 5
  rotate_left
  · clear hS'; (go_simp; first | with_reducible rfl | rfl)
  try simp only [Act.put, List.setIfInBounds_toArray, List.set_cons_zero, List.set_cons_succ]
  refine hd_pure (v := .agg zc.toArray) (by rfl) (fun W' hS' => exec_load_at 48 _ (by rfl) w.heap.size 1 16 (by rfl) _ _ (Ha _ hS'.1) hzl Tryd.underlying48 rfl info_a16) ?_ -- 6
  try simp only [Act.put, List.setIfInBounds_toArray, List.set_cons_zero, List.set_cons_succ]
  refine hd_pure (v := ?_) (by rfl) (fun W' hS' => ?_) ?_ -- 7
  rotate_left
  · clear hS'; (go_simp; first | with_reducible rfl | rfl)
  try simp only [Act.put, List.setIfInBounds_toArray, List.set_cons_zero, List.set_cons_succ]
  refine hd_sole (by rfl) (fun K hK => ?_) -- 3
  go_simp
  refine (hr0 _).mono ?_; rintro e w' ⟨rfl, hb⟩
  refine hK _ _ (⟨hSW.1.below hb hSW.1.lt, below_then hSW.2 (Nat.le_refl _) hb⟩) ?_
  clear hK K hSW
  intro hSW
  clear hb
  try simp only [Act.put, List.setIfInBounds_toArray, List.set_cons_zero, List.set_cons_succ]
  refine hd_pure (v := ?_) (by rfl) (fun W' hS' => ?_) ?_ -- 4
  rotate_left
  · clear hS'; (go_simp; first | with_reducible rfl | rfl)
  try simp only [Act.put, List.setIfInBounds_toArray, List.set_cons_zero, List.set_cons_succ]
  refine hd_sole (by rfl) (fun K hK => ?_) -- 8
  go_simp
  refine (hr8 _).mono ?_; rintro e w' ⟨rfl, hb⟩
  refine hK _ _ (⟨hSW.1.below hb hSW.1.lt, below_then hSW.2 (Nat.le_refl _) hb⟩) ?_
  clear hK K hSW
  intro hSW
  clear hb
  try simp only [Act.put, List.setIfInBounds_toArray, List.set_cons_zero, List.set_cons_succ]
  refine hd_pure (v := ?_) (by rfl) (fun W' hS' => ?_) ?_ -- 9
  rotate_left
  · clear hS'; (go_simp; first | with_reducible rfl | rfl)
  try simp only [Act.put, List.setIfInBounds_toArray, List.set_cons_zero, List.set_cons_succ]
  refine hd_pure (v := ?_) (by rfl) (fun W' hS' => ?_) ?_ -- 10
  rotate_left
  · clear hS'; (go_simp; first | with_reducible rfl | rfl)
  try simp only [Act.put, List.setIfInBounds_toArray, List.set_cons_zero, List.set_cons_succ]
  refine hd_nil ?_
  have hb := hSW.2; clear hSW
  refine wpList_nil (NoPanic.normal ?_)
  go_wp2
  go_ret
  exact ⟨by rfl, hb⟩
theorem text6 (p : Pfx) (h6 : p.v6 = true) (ha : p.a = z16) (hl : p.len = 0) (w : World) : Calls Tryd.prog 29 #[p.val] w fun e w' => e = .returned (.tuple #[.string ⟨#[58, 58, 47, 48]⟩, .int .i64 0]) ∧ Below w.heap.size w w' := by
  have hok : pfxOk p = true := by
    obtain ⟨v, a, n⟩ := p
    simp only at h6 ha hl
    subst h6 ha hl
    decide +kernel
  have := text_ok p hok 0 (by rw [hl]; rfl) ⟨#[58, 58]⟩ (by decide) (by decide +kernel) w (fun W _ => address6 p h6 ha W) (itoa_small w (by omega))
  refine this.mono ?_
  rintro e w' ⟨rfl, hb⟩
  refine ⟨?_, hb⟩
  have e : slash ⟨#[58, 58]⟩ (dec 0) = ⟨#[58, 58, 47, 48]⟩ := by
    unfold dec
    rw [Lib.decDigits, dif_pos (by decide)]
    rfl
  rw [e]
end Go.Proofs.YtmoldmnhijcckaaDoor
