/- The contract of pdu.lengths: the map that it makes, and what is looked up in it. -/
import Derived.Test.YtmoldmnhijcckaaLeaf
import Derived.Test.YtmoldmnhijcckaaMaps
set_option linter.unusedVariables false
set_option linter.unusedSectionVars false
set_option linter.unusedSimpArgs false
namespace Go.Proofs.Ytmoldmnhijcckaa
open Go.RowKit
def iv (n : Int) : Value := .int .i64 n
def lenL : List (Int × Value) := [(0, iv 12), (1, iv 12), (2, iv 8), (3, iv 8), (4, iv 20), (6, iv 32), (7, iv 24), (8, iv 8), (10, iv 16)]
def lenOf (k : Int) : Int := if k = 0 ∨ k = 1 then 12 else if k = 2 ∨ k = 3 ∨ k = 8 then 8 else if k = 4 then 20 else if k = 6 then 32 else if k = 7 then 24 else if k = 10 then 16 else 0
def isKind (k : Int) : Bool := decide (k = 0 ∨ k = 1 ∨ k = 2 ∨ k = 3 ∨ k = 4 ∨ k = 6 ∨ k = 7 ∨ k = 8 ∨ k = 10)
theorem len_get (k : Int) : (mget k lenL).getD (iv 0) = iv (lenOf k) ∧ (mget k lenL).isSome = isKind k := by
  by_cases h : k = 0 ∨ k = 1 ∨ k = 2 ∨ k = 3 ∨ k = 4 ∨ k = 6 ∨ k = 7 ∨ k = 8 ∨ k = 10
  · rcases h with rfl | rfl | rfl | rfl | rfl | rfl | rfl | rfl | rfl <;> exact ⟨rfl, rfl⟩
  · obtain ⟨h0, h1, h2, h3, h4, h6, h7, h8, h10⟩ : k ≠ 0 ∧ k ≠ 1 ∧ k ≠ 2 ∧ k ≠ 3 ∧ k ≠ 4 ∧ k ≠ 6 ∧ k ≠ 7 ∧ k ≠ 8 ∧ k ≠ 10 := by omega
    simp [mget, lenL, lenOf, isKind, h0, h1, h2, h3, h4, h6, h7, h8, h10]
theorem kkInt : KK Try.prog 3 (Value.int .i64) := KK.int Try.underlying3
def MInt (w : World) (b : Nat) (m : List (Int × Value)) : Prop := MapAt w b (Value.int .i64) m
theorem zeroInt (w : World) : (zeroValue 3).run Try.prog w = .ok (.int .i64 0) w := by kernel_rfl
theorem run_len (w : World) (b : Nat) (h : MInt w b lenL) (k : Int) (ok : Bool) : (Instr.lookup 72 (.map (some b)) (.int .i64 k) ok).run Try.prog w = .ok (if ok then .tuple #[.int .i64 (lenOf k), .bool (isKind k)] else .int .i64 (lenOf k)) w := by
  have := run_lookup_at (w := w) Try.underlying72 kkInt h _ zeroInt k ok
  obtain ⟨h1, h2⟩ := len_get k
  unfold iv at h1
  rw [this, h1, h2]
set_option maxRecDepth 100000 in
set_option maxHeartbeats 1000000 in
theorem lengths_any (w : World) : Calls Try.prog 38 #[] w fun e w' => ∃ b, e = .returned (.map (some b)) ∧ MInt w' b lenL ∧ Below w.heap.size w w' := by
  have hmm := @run_makeMap Try.prog
  have hm : MapAt (w.alloc (.map #[] 0)) w.heap.size (Value.int .i64) [] := MapAt.new w _
  have hb : Below w.heap.size w (w.alloc (.map #[] 0)) := (Below.refl _ _).alloc (Nat.le_refl _) _
  go_enter Try.func38, Try.ntmps38
  go_wp2_with (refine wpList_update_at rfl _ _ _ (.inl rfl) Try.underlying72 kkInt rfl _ rfl _ rfl hm ?_; intro w1 hm1 hg1 _; replace hb := hb.grown hg1 hb.size (by simp); replace hm := hm1; clear hm1 hg1)
  go_ret
  exact ⟨_, rfl, hm, hb⟩
end Go.Proofs.Ytmoldmnhijcckaa
