/- bytes.Clone: the row is the call's own. Blobs as the program holds them. -/
import Derived.Test.YtmoldmnhijcckaaDoorApp
import Derived.Test.YtmoldmnhijcckaaDoorRepM
import Derived.WalkSpells
import Derived.Deep.DeepCutAuto
import Derived.Deep.DeepMust
set_option linter.unusedVariables false
set_option linter.unusedSectionVars false
set_option linter.unusedSimpArgs false
namespace Go.Proofs.YtmoldmnhijcckaaDoor
open Go.RowKit
theorem info5b : (Tryd.prog.info? 5).map (fun i => (i.zero, i.size, i.bytes)) = some (some (.int .u8 0), 1, 1) := by kernel_rfl
theorem own_cap {w : World} {base n c size : Nat} {e : TypeId} {A : Option Addr} {xs : List Value} (h : w.ownsRow base e size (.slice A n c) n xs) : n ≤ c := by
  rcases h.2 with ⟨h, rfl⟩ | ⟨g, cap, cur, h, _, _, hnc, _⟩
  · exact Nat.zero_le _
  · injection h with _ _ h
    subst h
    exact hnc
theorem own_lit0 (w : World) (base : Nat) (e : TypeId) (size : Nat) (hb : base ≤ w.heap.size) : (w.alloc (.cells #[] e)).ownsRow base e size (.slice (some ⟨w.heap.size, 0, none⟩) 0 0) 0 [] := by
  have := World.ownsRow_lit (base := base) (e := e) (size := size) w #[] 0 hb (by simp) (by simp)
  exact this
theorem clone_any (bs : List UInt8) (A : Option Addr) (c B : Nat) (hlen : bs.length ≤ 140737488355000) (w : World) (hB : B ≤ w.heap.size) (hr : Reads w B 1 A bs.length (bs.map bv)) :
    Calls Tryd.prog 49 #[.slice A bs.length c] w fun e w' => ∃ A' c', e = .returned (.slice A' bs.length c') ∧ w'.ownsRow w.heap.size 5 1 (.slice A' bs.length c') bs.length (bs.map bv) ∧ Below w.heap.size w w' := by
  cases A with
  | none =>
    have h0 : bs.length = 0 := by
      rcases Nat.eq_zero_or_pos bs.length with h | h
      · exact h
      · obtain ⟨ad, e, _⟩ := hr.2 h
        cases e
    have H0 := Lib.hid (List.eq_nil_of_length_eq_zero h0)
    clear hr
    have hz : (Go.binOp .eql 25 (.slice none bs.length c) (.slice none 0 0)).run Tryd.prog w = .ok (.bool true) w := Lib.run_eql_slice_nil w _ _ none bs.length c 0 0 Tryd.underlying25
    rw [h0] at hz ⊢
    clear h0
    go_enter Tryd.func49, Tryd.ntmps49
    go_wp2
    go_ret
    exact ⟨none, 0, rfl, by rw [H0.out]; exact World.ownsRow_nil _ _ _ _, Below.refl _ _⟩
  | some ad =>
    obtain ⟨i0, hi0, hz0, hz1, hz2⟩ := info_parts info5b
    have hl0 := own_lit0 w w.heap.size 5 1 (Nat.le_refl _)
    have hbA : Below w.heap.size w (w.alloc (.cells #[] 5)) := (Below.refl _ _).alloc (Nat.le_refl _) _
    have hz : (Go.binOp .eql 25 (.slice (some ad) bs.length c) (.slice none 0 0)).run Tryd.prog w = .ok (.bool false) w := Lib.run_eql_slice_nil w _ _ (some ad) bs.length c 0 0 Tryd.underlying25
    go_enter Tryd.func49, Tryd.ntmps49
    go_wp2_with (at_builtin; go_must (refine wpList_append_any _ rfl _ _ 25 rfl w.heap.size 5 i0 _ 1 1 Tryd.underlying25 hi0 hz0 hz1 hz2 rfl (by omega) _ 0 _ rfl hl0 B (some ad) bs.length c _ rfl (hr.alloc hB _) (bv_one _) (by simp only [maxLen]; omega) (by omega) (by simp) ?_; intro v4 w4 ho4 hg4 _; rw [Nat.zero_add, List.nil_append] at ho4; obtain ⟨A4, c4, rfl⟩ := own_slice' ho4; have hb4 := hbA.grown hg4 (by simp) (fun k hk => (own_base_le hl0 k hk).1); clear hg4))
    go_ret
    exact ⟨A4, c4, rfl, ho4, hb4⟩
theorem own_own_ne {w : World} {b1 b2 n1 n2 s1 s2 : Nat} {e1 e2 : TypeId} {v1 v2 : Value} {x1 x2 : List Value} (h : w.ownsRow b1 e1 s1 v1 n1 x1) (h' : w.ownsRow b2 e2 s2 v2 n2 x2) (hne : e1 ≠ e2) (k : Nat) (hk : v1.ownBlock = some k) : v2.ownBlock ≠ some k := by
  intro hk2
  rcases h.2 with ⟨rfl, _⟩ | ⟨g, cap, cur, rfl, hb, hh, _⟩
  · simp [Value.ownBlock] at hk
  · rcases h'.2 with ⟨rfl, _⟩ | ⟨g', cap', cur', rfl, hb', hh', _⟩
    · simp [Value.ownBlock] at hk2
    · have e : g = k := by simpa [Value.ownBlock] using hk
      have e' : g' = k := by simpa [Value.ownBlock] using hk2
      subst e
      subst e'
      rw [hh] at hh'
      injection hh' with hh'
      injection hh' with _ hh' _
      exact hne hh'
end Go.Proofs.YtmoldmnhijcckaaDoor
