/- The contract of addr.Text, where the address's text and the length's numeral are known. -/
import Derived.Test.YtmoldmnhijcckaaDoorAd4
set_option linter.unusedVariables false
set_option linter.unusedSectionVars false
set_option linter.unusedSimpArgs false
namespace Go.Proofs.YtmoldmnhijcckaaDoor
open Go.RowKit
def AddrAt (w : World) (p : Pfx) (s : ByteArray) : Prop := ∀ W, Below w.heap.size w W → Calls Tryd.prog 58 #[p.val] W fun e w' => e = .returned (.string s) ∧ Below W.heap.size W w'
def slash (s t : ByteArray) : ByteArray := s ++ ⟨#[47]⟩ ++ t
set_option maxRecDepth 100000 in
set_option maxHeartbeats 1000000 in
theorem text_no (p : Pfx) (hp : pfxOk p = false) (w : World) : Calls Tryd.prog 29 #[p.val] w fun e w' => e = .returned (.tuple #[.string ⟨#[]⟩, .int .i64 1]) ∧ Below w.heap.size w w' := by
  simp only [Pfx.val]
  have hP : Blk (w.alloc (.cells p.cells.toArray 50)) w.heap.size 50 p.cells ∧ Below w.heap.size w (w.alloc (.cells p.cells.toArray 50)) := ⟨Blk.new _ _ _, (Below.refl _ _).alloc (Nat.le_refl _) _⟩
  have HP := Lib.hid hp
  clear hp
  go_enter Tryd.func29, Tryd.ntmps29
  go_wp2_with (first | (go_at_call 33; refine (pfxRight_any p _).mono ?_; rintro e w3 ⟨rfl, hb⟩; rw [HP.out]; have hlo := below_then hP.2 (Nat.le_refl _) hb) | (refine wpList_load_at rfl 50 _ rfl w.heap.size 0 18 rfl _ _ hP.1.range (Pfx.cells_length _) Tryd.underlying50 rfl info_pfx ?_))
  exact bodyPost_ret (v := .tuple #[.string ⟨#[]⟩, .int .i64 1]) (by simp [results, Tryd.results29, go_sem]) rfl ⟨rfl, hlo⟩
set_option maxRecDepth 100000 in
set_option maxHeartbeats 1000000 in
theorem text_ok (p : Pfx) (hp : pfxOk p = true) (n : Nat) (hn : p.len = n) (s : ByteArray) (hs : s.size ≤ 1000) (hs2 : (dec n).size ≤ 1000) (w : World) (ha : AddrAt w p s) (hi : ItoaAt w n) : Calls Tryd.prog 29 #[p.val] w fun e w' => e = .returned (.tuple #[.string (slash s (dec n)), .int .i64 0]) ∧ Below w.heap.size w w' := by
  unfold AddrAt at ha
  simp only [Pfx.val] at *
  have hP : Blk (w.alloc (.cells p.cells.toArray 50)) w.heap.size 50 p.cells ∧ Below w.heap.size w (w.alloc (.cells p.cells.toArray 50)) := ⟨Blk.new _ _ _, (Below.refl _ _).alloc (Nat.le_refl _) _⟩
  have HP := Lib.hid hp
  have HN := Lib.hid hn
  clear hp hn
  go_enter Tryd.func29, Tryd.ntmps29
  go_wp2_with (first | (go_at_call 33; refine (pfxRight_any p _).mono ?_; rintro e w3 ⟨rfl, hb⟩; rw [HP.out]; replace hP := And.intro (hP.1.below hb hP.1.lt) (below_then hP.2 (Nat.le_refl _) hb); clear hb) | (refine wpList_load_at rfl 50 _ rfl w.heap.size 0 18 rfl _ _ hP.1.range (Pfx.cells_length _) Tryd.underlying50 rfl info_pfx ?_))
  refine reg_sch2 9 [(true, 0), (true, 3), (true, 4), (false, 1), (true, 2), (false, 5), (true, 6), (true, 7), (true, 8)] (by kernel_rfl) (by kernel_rfl) (fun W => Blk W w.heap.size 50 p.cells ∧ Below w.heap.size w W) (fun W => Blk W w.heap.size 50 p.cells ∧ Below w.heap.size w W) ?_ ?_ ?_
  · exact ⟨hP.1.drew, hP.2.drew⟩
  · exact fun _ h => h
  intro W hSW
  simp only [List.map_cons, List.map_nil, List.getD_cons_zero, List.getD_cons_succ, List.drop_succ_cons, List.drop_zero]
  refine hd_pure (v := .agg p.cells.toArray) (by rfl) (fun W' hS' => exec_load_at 50 _ (by rfl) w.heap.size 0 18 (by rfl) _ _ hS'.1.range (Pfx.cells_length _) Tryd.underlying50 rfl info_pfx) ?_ -- 0
  try simp only [Act.put, List.setIfInBounds_toArray, List.set_cons_zero, List.set_cons_succ]
  refine hd_pure (v := ?_) (by rfl) (fun W' hS' => ?_) ?_ -- 3
  rotate_left
  · have c17 := (hS'.1.cell 17).trans (Pfx.c17 _); rw [HN.out] at c17; clear hS'; (go_simp; first | with_reducible rfl | rfl)
  try simp only [Act.put, List.setIfInBounds_toArray, List.set_cons_zero, List.set_cons_succ]
  refine hd_pure (v := ?_) (by rfl) (fun W' hS' => ?_) ?_ -- 4
  rotate_left
  · have c17 := (hS'.1.cell 17).trans (Pfx.c17 _); rw [HN.out] at c17; clear hS'; (go_simp; first | with_reducible rfl | rfl)
  try simp only [Act.put, List.setIfInBounds_toArray, List.set_cons_zero, List.set_cons_succ]
  refine hd_sole (by rfl) (fun K hK => ?_) -- 1
  go_simp
  refine (ha _ hSW.2).mono ?_; rintro e w' ⟨rfl, hb⟩
  refine hK _ _ (⟨hSW.1.below hb hSW.1.lt, below_then hSW.2 (Nat.le_refl _) hb⟩) ?_
  clear hK K hSW
  intro hSW
  clear hb
  try simp only [Act.put, List.setIfInBounds_toArray, List.set_cons_zero, List.set_cons_succ]
  refine hd_pure (v := ?_) (by rfl) (fun W' hS' => ?_) ?_ -- 2
  rotate_left
  · go_simp; rw [if_neg (by omega)]
  try simp only [Act.put, List.setIfInBounds_toArray, List.set_cons_zero, List.set_cons_succ]
  refine hd_sole (by rfl) (fun K hK => ?_) -- 5
  go_simp
  refine (hi _ hSW.2).mono ?_; rintro e w' ⟨rfl, hb⟩
  refine hK _ _ (⟨hSW.1.below hb hSW.1.lt, below_then hSW.2 (Nat.le_refl _) hb⟩) ?_
  clear hK K hSW
  intro hSW
  clear hb
  try simp only [Act.put, List.setIfInBounds_toArray, List.set_cons_zero, List.set_cons_succ]
  refine hd_pure (v := ?_) (by rfl) (fun W' hS' => ?_) ?_ -- 6
  rotate_left
  · go_simp; rw [if_neg (by first | omega | (trace_state; omega))]
  try simp only [Act.put, List.setIfInBounds_toArray, List.set_cons_zero, List.set_cons_succ]
  refine hd_pure (v := ?_) (by rfl) (fun W' hS' => ?_) ?_ -- 7
  rotate_left
  · have c17 := (hS'.1.cell 17).trans (Pfx.c17 _); rw [HN.out] at c17; clear hS'; (go_simp; first | with_reducible rfl | rfl)
  try simp only [Act.put, List.setIfInBounds_toArray, List.set_cons_zero, List.set_cons_succ]
  refine hd_pure (v := ?_) (by rfl) (fun W' hS' => ?_) ?_ -- 8
  rotate_left
  · have c17 := (hS'.1.cell 17).trans (Pfx.c17 _); rw [HN.out] at c17; clear hS'; (go_simp; first | with_reducible rfl | rfl)
  try simp only [Act.put, List.setIfInBounds_toArray, List.set_cons_zero, List.set_cons_succ]
  refine hd_nil ?_
  have hb := hSW.2; clear hSW
  refine wpList_nil (NoPanic.normal ?_)
  go_wp2
  exact bodyPost_ret (v := .tuple #[.string (slash s (dec n)), .int .i64 0]) (by simp [results, Tryd.results29, go_sem, slash]) rfl ⟨rfl, hb⟩
end Go.Proofs.YtmoldmnhijcckaaDoor
