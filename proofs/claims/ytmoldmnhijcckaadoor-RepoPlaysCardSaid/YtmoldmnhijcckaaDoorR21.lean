/- lanyardref21's repo in memory; the contract of its at. -/
import Derived.Test.YtmoldmnhijcckaaDoorRoP
import Derived.Test.YtmoldmnhijcckaaDoorU20
set_option linter.unusedVariables false
set_option linter.unusedSectionVars false
set_option linter.unusedSimpArgs false
namespace Go.Proofs.YtmoldmnhijcckaaDoor
open Go.RowKit
structure R21 (W : World) (g : Nat) (ls : List Blb) (ks : List ByteArray) : Prop where
  blk : ∃ v a, Blk W g 44 [v, a] ∧ W.ownsRow (g + 1) 27 2 v ls.length (ls.flatMap Blb.cells) ∧ W.ownsRow (g + 1) 9 1 a ks.length (ks.map Value.string)
  rd : ∀ e ∈ ls, OwnB W (g + 1) e
theorem R21.next {W W' : World} {g : Nat} {ls : List Blb} {ks : List ByteArray} (h : R21 W g ls ks) (hb : Below W.heap.size W W') : R21 W' g ls ks := by
  obtain ⟨v, a, hB, hv, ha⟩ := h.blk
  exact ⟨⟨v, a, hB.below hb hB.lt, own_below hv hb, own_below ha hb⟩, fun e he => ⟨own_below (h.rd e he).1 hb, (h.rd e he).2⟩⟩
theorem R21.drew {W : World} {g : Nat} {ls : List Blb} {ks : List ByteArray} (h : R21 W g ls ks) : R21 W.drew g ls ks := ⟨h.blk, h.rd⟩
theorem R21.gsize {W : World} {g : Nat} {ls : List Blb} {ks : List ByteArray} (h : R21 W g ls ks) : g + 1 ≤ W.heap.size := by
  obtain ⟨v, a, hB, _⟩ := h.blk
  exact hB.lt
def AtPost (ls : List Blb) (u : ByteArray) (e : Ending) : Prop :=
  (∃ i, ∃ h : i < ls.length, e = .returned (.int .i64 i) ∧ ls[i].u = u ∧ ∀ t (ht : t < i), (ls[t]'(by omega)).u ≠ u) ∨ (e = .returned (.int .i64 (-1)) ∧ ∀ y ∈ ls, y.u ≠ u)
set_option maxRecDepth 100000 in
set_option maxHeartbeats 2000000 in
theorem at21_any (u : ByteArray) (w : World) (g : Nat) (ls : List Blb) (ks : List ByteArray) (h : R21 w g ls ks) (hl : ls.length ≤ 1000000) :
    Calls Tryd.prog 56 #[.pointer (some ⟨g, 0, none⟩), .string u] w fun e w' => AtPost ls u e ∧ w = w' := by
  obtain ⟨v, a, hB, hv, ha⟩ := h.blk
  obtain ⟨A, c, rfl⟩ := own_slice' hv
  have c0 : w.cell? ⟨g, 0, none⟩ = some (.slice A ls.length c) := hB.cell 0
  clear hB ha h
  go_enter Tryd.func56, Tryd.ntmps56
  go_wp2_with fail
  go_loopw [5] (fun vi wr => ∃ k : Nat, vi = .int .i64 k ∧ k ≤ ls.length ∧ w = wr ∧ Hid (∀ t (h : t < ls.length), t < k → ls[t].u ≠ u)) (fun vi _ => ls.length - (intOf vi).toNat)
  case atStart => exact ⟨0, rfl, by omega, rfl, Lib.hid fun t _ h => by omega⟩
  case round =>
    obtain ⟨k, rfl, hk, rfl, HM⟩ := hrel
    by_cases hlt : k < ls.length
    · have hk0 : (0 : Int) ≤ (k : Int) := by omega
      have hk1 : (k : Int) < (ls.length : Int) := by omega
      obtain ⟨ad, rfl, _, _⟩ := (Reads.of_own hv).2 (by omega)
      have hat := (Reads.of_own hv).elem Blb.len hlt rfl 0 _ rfl
      rw [add_nil'] at hat
      by_cases hx : ls[k].u = u
      · have be : (ls[k].u.toList == u.toList) = true := by rw [eqS]; exact decide_eq_true hx
        have HX := Lib.hid hx
        clear hx hv
        go_wp2_with fail
        go_ret
        exact ⟨.inl ⟨k, hlt, rfl, HX.out, fun t ht => HM.out t (by omega) ht⟩, rfl⟩
      · have be : (ls[k].u.toList == u.toList) = false := by rw [eqS]; exact decide_eq_false hx
        have HN := Lib.hid (show ∀ t (h : t < ls.length), t < k + 1 → ls[t].u ≠ u from fun t h1 h2 => by
          by_cases h3 : t = k
          · subst h3; exact hx
          · exact HM.out t h1 (by omega))
        clear hx hv HM
        go_wp2_with fail
        go_roundw
        case rel => exact ⟨k + 1, by go_num, by omega, by first | rfl | trivial, HN⟩
        case measure => simp [intOf]; omega
    · have hkk : k = ls.length := by omega
      subst hkk
      clear hlt hk
      go_wp2_with fail
      go_ret
      exact ⟨.inr ⟨rfl, fun y hy => by
        obtain ⟨t, ht, rfl⟩ := List.getElem_of_mem hy
        exact HM.out t ht ht⟩, rfl⟩
end Go.Proofs.YtmoldmnhijcckaaDoor
