/- The text of the six-family prefix of length nought. -/
import Derived.Test.YtmoldmnhijcckaaDoorTxt
import Derived.Test.YtmoldmnhijcckaaDoorFour
set_option linter.unusedVariables false
set_option linter.unusedSectionVars false
set_option linter.unusedSimpArgs false
namespace Go.Proofs.YtmoldmnhijcckaaDoor
open Go.RowKit
def tOf (k : Nat) : Int := if k = 9 then 8 else 0
def bOf (k : Nat) : Int := if k = 0 then -1 else if k = 9 then -1 else 0
def z16 : A16 := ⟨List.replicate 16 0, by simp⟩
theorem z16_cells : z16.cells = zA := rfl
theorem z16_at (k : Nat) (hk : k < 16) : z16.cells[k]? = some (.int .u8 0) := by
  rw [A16.cells_k z16 hk]
  have h : ∀ k : Fin 16, (z16.at k.val).toNat = 0 := by decide
  rw [h ⟨k, hk⟩]
  rfl
set_option maxRecDepth 100000 in
set_option maxHeartbeats 2000000 in
theorem row_none (a : A16) (n : Nat) (hn : n ≤ 8) (w : World) : Calls Tryd.prog 93 #[a.val, .int .i64 n, .int .i64 n] w fun e w' => e = .returned (.string ⟨#[]⟩) ∧ Below w.heap.size w w' := by
  simp only [A16.val]
  have hb : Below w.heap.size w (w.alloc (.cells a.cells.toArray 48)) := (Below.refl _ _).alloc (Nat.le_refl _) _
  have hnn : decide ((n : Int) < (n : Int)) = false := by simp
  go_enter Tryd.func93, Tryd.ntmps93
  go_wp2_with fail
  go_loopw [7, 8] (fun s7 s8 wr => s7 = .slice none 0 0 ∧ s8 = .int .i64 n ∧ Below w.heap.size w wr) (fun _ _ _ => 0)
  case atStart => exact ⟨rfl, rfl, hb⟩
  case round =>
    clear hb
    obtain ⟨rfl, rfl, hb⟩ := hrel
    go_wp2_with (go_at_call 94; refine (Tryd.strings_Join_none none 0 ⟨#[58]⟩ _).mono ?_; rintro e w3 ⟨rfl, rfl⟩)
    exact bodyPost_ret (v := .string ⟨#[]⟩) (by simp [results, Tryd.results93, go_sem]) rfl ⟨rfl, hb⟩
set_option maxRecDepth 100000 in
set_option maxHeartbeats 4000000 in
theorem zeros_all (w : World) : Calls Tryd.prog 92 #[z16.val] w fun e w' => e = .returned (.tuple #[.int .i64 0, .int .i64 8]) ∧ Below w.heap.size w w' := by
  simp only [A16.val]
  have hB : Blk (w.alloc (.cells z16.cells.toArray 48)) w.heap.size 48 z16.cells ∧ Below w.heap.size w (w.alloc (.cells z16.cells.toArray 48)) := ⟨Blk.new _ _ _, (Below.refl _ _).alloc (Nat.le_refl _) _⟩
  generalize z16.cells.toArray = zz at hB ⊢
  go_enter Tryd.func92, Tryd.ntmps92
  go_wp2_with fail
  go_loopw [4, 5, 6, 7] (fun s4 s5 s6 s7 wr => ∃ (k : Nat) (t b : Int), k ≤ 9 ∧ s7 = .int .i64 k ∧ s4 = .int .i64 0 ∧ s5 = .int .i64 t ∧ s6 = .int .i64 b ∧ t = tOf k ∧ b = bOf k ∧ Blk wr w.heap.size 48 z16.cells ∧ Below w.heap.size w wr) (fun _ _ _ i _ => 9 - (intOf i).toNat)
  case atStart => exact ⟨0, 0, -1, by omega, rfl, rfl, rfl, rfl, rfl, rfl, hB.1, hB.2⟩
  case round =>
    clear hB
    obtain ⟨k, t, b, hk, rfl, rfl, rfl, rfl, ht, hbb, hB, hb⟩ := hrel
    obtain rfl | rfl | rfl | rfl | rfl | rfl | rfl | rfl | rfl | rfl : k = 0 ∨ k = 1 ∨ k = 2 ∨ k = 3 ∨ k = 4 ∨ k = 5 ∨ k = 6 ∨ k = 7 ∨ k = 8 ∨ k = 9 := by omega
    · have c0 := (hB.cell 0).trans (z16_at 0 (by decide))
      have c1 := (hB.cell 1).trans (z16_at 1 (by decide))
      obtain rfl : t = 0 := ht
      obtain rfl : b = -1 := hbb
      go_wp2_with fail
      go_roundw
      case rel => exact ⟨0 + 1, _, _, by omega, rfl, rfl, rfl, rfl, rfl, rfl, hB, hb⟩
      case measure => simp [intOf]
    · have c0 := (hB.cell 2).trans (z16_at 2 (by decide))
      have c1 := (hB.cell 3).trans (z16_at 3 (by decide))
      obtain rfl : t = 0 := ht
      obtain rfl : b = 0 := hbb
      go_wp2_with fail
      go_roundw
      case rel => exact ⟨1 + 1, _, _, by omega, rfl, rfl, rfl, rfl, rfl, rfl, hB, hb⟩
      case measure => simp [intOf]
    · have c0 := (hB.cell 4).trans (z16_at 4 (by decide))
      have c1 := (hB.cell 5).trans (z16_at 5 (by decide))
      obtain rfl : t = 0 := ht
      obtain rfl : b = 0 := hbb
      go_wp2_with fail
      go_roundw
      case rel => exact ⟨2 + 1, _, _, by omega, rfl, rfl, rfl, rfl, rfl, rfl, hB, hb⟩
      case measure => simp [intOf]
    · have c0 := (hB.cell 6).trans (z16_at 6 (by decide))
      have c1 := (hB.cell 7).trans (z16_at 7 (by decide))
      obtain rfl : t = 0 := ht
      obtain rfl : b = 0 := hbb
      go_wp2_with fail
      go_roundw
      case rel => exact ⟨3 + 1, _, _, by omega, rfl, rfl, rfl, rfl, rfl, rfl, hB, hb⟩
      case measure => simp [intOf]
    · have c0 := (hB.cell 8).trans (z16_at 8 (by decide))
      have c1 := (hB.cell 9).trans (z16_at 9 (by decide))
      obtain rfl : t = 0 := ht
      obtain rfl : b = 0 := hbb
      go_wp2_with fail
      go_roundw
      case rel => exact ⟨4 + 1, _, _, by omega, rfl, rfl, rfl, rfl, rfl, rfl, hB, hb⟩
      case measure => simp [intOf]
    · have c0 := (hB.cell 10).trans (z16_at 10 (by decide))
      have c1 := (hB.cell 11).trans (z16_at 11 (by decide))
      obtain rfl : t = 0 := ht
      obtain rfl : b = 0 := hbb
      go_wp2_with fail
      go_roundw
      case rel => exact ⟨5 + 1, _, _, by omega, rfl, rfl, rfl, rfl, rfl, rfl, hB, hb⟩
      case measure => simp [intOf]
    · have c0 := (hB.cell 12).trans (z16_at 12 (by decide))
      have c1 := (hB.cell 13).trans (z16_at 13 (by decide))
      obtain rfl : t = 0 := ht
      obtain rfl : b = 0 := hbb
      go_wp2_with fail
      go_roundw
      case rel => exact ⟨6 + 1, _, _, by omega, rfl, rfl, rfl, rfl, rfl, rfl, hB, hb⟩
      case measure => simp [intOf]
    · have c0 := (hB.cell 14).trans (z16_at 14 (by decide))
      have c1 := (hB.cell 15).trans (z16_at 15 (by decide))
      obtain rfl : t = 0 := ht
      obtain rfl : b = 0 := hbb
      go_wp2_with fail
      go_roundw
      case rel => exact ⟨7 + 1, _, _, by omega, rfl, rfl, rfl, rfl, rfl, rfl, hB, hb⟩
      case measure => simp [intOf]
    · obtain rfl : t = 0 := ht
      obtain rfl : b = 0 := hbb
      go_wp2_with fail
      go_roundw
      case rel => exact ⟨9, _, _, by omega, rfl, rfl, rfl, rfl, rfl, rfl, hB, hb⟩
      case measure => simp [intOf]
    · obtain rfl : t = 8 := ht
      obtain rfl : b = -1 := hbb
      go_wp2_with fail
      exact bodyPost_ret (v := .tuple #[.int .i64 0, .int .i64 8]) (by simp [results, Tryd.results92, go_sem]) rfl ⟨rfl, hb⟩
end Go.Proofs.YtmoldmnhijcckaaDoor
