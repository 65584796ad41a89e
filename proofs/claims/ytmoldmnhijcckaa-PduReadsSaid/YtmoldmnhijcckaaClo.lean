/- The contracts of bytes.Clone and lanyardref25.Same. Conditions: a length that memory allows. -/
import Derived.Test.YtmoldmnhijcckaaAwake
import Derived.Test.YtmoldmnhijcckaaBack
import Derived.Test.YtmoldmnhijcckaaAllL
import Derived.WalkSpells
import Derived.Deep.DeepCutAuto
import Derived.Deep.DeepMust
set_option linter.unusedVariables false
set_option linter.unusedSectionVars false
set_option linter.unusedSimpArgs false
namespace Go.Proofs.Ytmoldmnhijcckaa
open Go.RowKit
theorem clone_any (bs : List UInt8) (A : Option Addr) (c B : Nat) (hlen : bs.length ≤ 140737488355000) (w : World) (hB : B ≤ w.heap.size) (hr : Reads w B 1 A bs.length (bs.map bv)) :
    Calls Try.prog 50 #[.slice A bs.length c] w fun e w' => ∃ A' c', e = .returned (.slice A' bs.length c') ∧ bs.length ≤ c' ∧ Reads w' w'.heap.size 1 A' bs.length (bs.map bv) ∧ Below w.heap.size w w' := by
  cases A with
  | none =>
    have h0 : bs.length = 0 := by
      rcases Nat.eq_zero_or_pos bs.length with h | h
      · exact h
      · obtain ⟨ad, e, _⟩ := hr.2 h
        cases e
    have H0 := Lib.hid (List.eq_nil_of_length_eq_zero h0)
    clear hr
    have hz : (Go.binOp .eql 30 (.slice none bs.length c) (.slice none 0 0)).run Try.prog w = .ok (.bool true) w := Lib.run_eql_slice_nil w _ _ none bs.length c 0 0 Try.underlying30
    rw [h0] at hz ⊢
    clear h0
    go_enter Try.func50, Try.ntmps50
    go_wp2
    go_ret
    exact ⟨none, 0, rfl, Nat.le_refl _, by rw [H0.out]; exact Reads.none_, Below.refl _ _⟩
  | some ad =>
    obtain ⟨i0, hi0, hz0, hz1, hz2⟩ := info_parts info5b
    have hl0 := own_lit0 w w.heap.size 5 1 (Nat.le_refl _)
    have hbA : Below w.heap.size w (w.alloc (.cells #[] 5)) := (Below.refl _ _).alloc (Nat.le_refl _) _
    have hz : (Go.binOp .eql 30 (.slice (some ad) bs.length c) (.slice none 0 0)).run Try.prog w = .ok (.bool false) w := Lib.run_eql_slice_nil w _ _ (some ad) bs.length c 0 0 Try.underlying30
    go_enter Try.func50, Try.ntmps50
    go_wp2_with (at_builtin; go_must (refine wpList_append_any _ rfl _ _ 30 rfl w.heap.size 5 i0 _ 1 1 Try.underlying30 hi0 hz0 hz1 hz2 rfl (by omega) _ 0 _ rfl hl0 B (some ad) bs.length c _ rfl (hr.alloc hB _) (bv_one _) (by simp only [maxLen]; omega) (by omega) (by simp) ?_; intro v4 w4 ho4 hg4 _; rw [Nat.zero_add, List.nil_append] at ho4; obtain ⟨A4, c4, rfl⟩ := own_slice' ho4; have hb4 := hbA.grown hg4 (by simp) (fun k hk => (own_base_le hl0 k hk).1); clear hg4))
    go_ret
    exact ⟨A4, c4, rfl, own_cap ho4, Reads.of_own ho4, hb4⟩
theorem clone_n (bs : List UInt8) (n : Nat) (hn : bs.length = n) (A : Option Addr) (c B : Nat) (hlen : n ≤ 140737488355000) (w : World) (hB : B ≤ w.heap.size) (hr : Reads w B 1 A n (bs.map bv)) :
    Calls Try.prog 50 #[.slice A n c] w fun e w' => ∃ A' c', e = .returned (.slice A' n c') ∧ n ≤ c' ∧ Reads w' w'.heap.size 1 A' n (bs.map bv) ∧ Below w.heap.size w w' := by
  subst hn
  exact clone_any bs A c B hlen w hB hr
end Go.Proofs.Ytmoldmnhijcckaa
