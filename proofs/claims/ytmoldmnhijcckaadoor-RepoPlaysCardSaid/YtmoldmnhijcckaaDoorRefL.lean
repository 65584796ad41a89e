/- The plain law of a prefix's bits: what the references ask of each bit is what the program asks of each byte. No program stands in this text. -/
import Derived.Test.YtmoldmnhijcckaaDoorCut
set_option linter.unusedVariables false
set_option linter.unusedSectionVars false
set_option linter.unusedSimpArgs false
namespace Go.Proofs.YtmoldmnhijcckaaDoor
open Go.RowKit
/-- A bit of a byte, the highest first. -/
def bitB (b : UInt8) (j : Nat) : Nat := b.toNat / 2 ^ (7 - j) % 2
def bitAt (a : A16) (i : Nat) : Nat := bitB (a.at (i / 8)) (i % 8)
theorem byte_mask_fin : ∀ b : Fin 256, ∀ m : Fin 9, decide (UInt8.ofNat b.val &&& maskB (m.val : Int) = UInt8.ofNat b.val) = (List.range 8).all fun j => !(decide (m.val ≤ j) && decide (bitB (UInt8.ofNat b.val) j = 1)) := by decide +kernel
theorem maskB_clip (n : Int) : ∃ m : Fin 9, maskB n = maskB (m.val : Int) ∧ ∀ j : Nat, j < 8 → ((m.val ≤ j) ↔ n ≤ j) := by
  by_cases h0 : n ≤ 0
  · exact ⟨0, (by unfold maskB; rw [if_pos h0]; rfl), fun j hj => by show 0 ≤ j ↔ _; omega⟩
  · by_cases h8 : 8 ≤ n
    · exact ⟨8, (by unfold maskB; rw [if_neg h0, if_pos h8]; rfl), fun j hj => by show 8 ≤ j ↔ _; omega⟩
    · refine ⟨⟨n.toNat, by omega⟩, by simp only; rw [Int.toNat_of_nonneg (by omega)], fun j hj => by simp only; omega⟩
theorem byte_mask (b : UInt8) (n : Int) : (b &&& maskB n = b) ↔ ∀ j : Nat, j < 8 → n ≤ j → bitB b j ≠ 1 := by
  obtain ⟨m, h1, h2⟩ := maskB_clip n
  have h := byte_mask_fin ⟨b.toNat, b.toNat_lt⟩ m
  simp only [UInt8.ofNat_toNat] at h
  rw [h1]
  constructor
  · intro e j hj hn
    rw [decide_eq_true e] at h
    have h3 := (List.all_eq_true.1 h.symm) j (by simpa using hj)
    intro e1
    simp [e1, (h2 j hj).2 hn] at h3
  · intro e
    have h3 : ((List.range 8).all fun j => !(decide (m.val ≤ j) && decide (bitB b j = 1))) = true := by
      rw [List.all_eq_true]
      intro j hj
      have hj' : j < 8 := by simpa using hj
      by_cases hm : m.val ≤ j
      · have := e j hj' ((h2 j hj').1 hm)
        simp [this]
      · simp [hm]
    rw [h3] at h
    exact of_decide_eq_true h
theorem cutA_iff (c : Int) (a : A16) : cutA c 16 a = a ↔ ∀ i : Nat, i < 128 → c ≤ i → bitAt a i ≠ 1 := by
  have hl := a.h
  have e : cutA c 16 a = a ↔ ∀ k : Nat, k < 16 → a.at k &&& maskB (c - 8 * k) = a.at k := by
    constructor
    · intro h k hk
      have h1 : a.l[k]? = (cutA c 16 a).l[k]? := by rw [h]
      simp only [cutA, cutL, List.getElem?_mapIdx, List.getElem?_eq_getElem (show k < a.l.length by omega), Option.map_some, if_pos hk] at h1
      injection h1 with h1
      simp only [A16.at, List.getD_eq_getElem?_getD, List.getElem?_eq_getElem (show k < a.l.length by omega), Option.getD_some]
      exact h1.symm
    · intro h
      apply A16.ext'
      apply List.ext_getElem (by rw [(cutA c 16 a).h, hl])
      intro k h1 h2
      have h3 : k < 16 := by omega
      have := h k h3
      simp only [A16.at, List.getD_eq_getElem?_getD, List.getElem?_eq_getElem h2, Option.getD_some] at this
      simp only [cutA, cutL, List.getElem_mapIdx, if_pos h3]
      exact this
  rw [e]
  constructor
  · intro h i hi hc
    have := (byte_mask _ _).1 (h (i / 8) (by omega)) (i % 8) (by omega) (by omega)
    exact this
  · intro h k hk
    rw [byte_mask]
    intro j hj hn
    have := h (8 * k + j) (by omega) (by omega)
    unfold bitAt at this
    rwa [show (8 * k + j) / 8 = k by omega, show (8 * k + j) % 8 = j by omega] at this
theorem pfxOk_iff (p : Pfx) : pfxOk p = true ↔ 0 ≤ p.len ∧ p.len ≤ mostOf p.v6 ∧ ∀ i : Nat, i < 128 → p.len ≤ i → bitAt p.a i ≠ 1 := by
  obtain ⟨v6, a, n⟩ := p
  have hm : 0 ≤ mostOf v6 := by cases v6 <;> decide
  have hc : clampOf v6 n = min (max n 0) (mostOf v6) := by unfold clampOf; rw [imin_eq, imax_eq]
  unfold pfxOk cutOf
  simp only [decide_eq_true_eq, Pfx.mk.injEq, true_and]
  constructor
  · rintro ⟨h1, h2⟩
    rw [h2] at h1
    exact ⟨by omega, by omega, (cutA_iff n a).1 h1⟩
  · rintro ⟨h1, h2, h3⟩
    have h4 : clampOf v6 n = n := by omega
    rw [h4]
    exact ⟨(cutA_iff n a).2 h3, rfl⟩
end Go.Proofs.YtmoldmnhijcckaaDoor
