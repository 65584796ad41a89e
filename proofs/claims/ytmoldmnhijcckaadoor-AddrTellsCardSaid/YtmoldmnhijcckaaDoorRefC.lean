/- The plain law of a prefix that is cut bit by bit. No program stands in this text. -/
import Derived.Test.YtmoldmnhijcckaaDoorRefL
import Derived.Test.YtmoldmnhijcckaaDoorAddrL
set_option linter.unusedVariables false
set_option linter.unusedSectionVars false
set_option linter.unusedSimpArgs false
namespace Go.Proofs.YtmoldmnhijcckaaDoor
open Go.RowKit
/-- A byte without its bits from one to another. -/
def clrB (b : UInt8) (lo hi : Int) : UInt8 := b &&& (maskB lo ||| ~~~ maskB hi)
theorem clr_step_fin : ∀ b : Fin 256, ∀ lo : Fin 9, ∀ j : Fin 8, (!decide (lo.val ≤ j.val) || decide ((if bitB (clrB (UInt8.ofNat b.val) lo.val j.val) j.val = 1 then (clrB (UInt8.ofNat b.val) lo.val j.val).toNat - 2 ^ (7 - j.val) else (clrB (UInt8.ofNat b.val) lo.val j.val).toNat) = (clrB (UInt8.ofNat b.val) lo.val ((j.val : Int) + 1)).toNat ∧
    (bitB (clrB (UInt8.ofNat b.val) lo.val j.val) j.val = 1 → 2 ^ (7 - j.val) ≤ (clrB (UInt8.ofNat b.val) lo.val j.val).toNat))) = true := by decide +kernel
theorem clr_same_fin : ∀ b : Fin 256, ∀ lo : Fin 9, decide (clrB (UInt8.ofNat b.val) lo.val lo.val = UInt8.ofNat b.val ∧ clrB (UInt8.ofNat b.val) lo.val 8 = UInt8.ofNat b.val &&& maskB lo.val) = true := by decide +kernel
theorem clr_clip (b : UInt8) (lo hi : Int) : clrB b lo hi = clrB b (clip8 lo) (clip8 hi) := by unfold clrB; rw [← maskB_clip8, ← maskB_clip8]
theorem clr_start (b : UInt8) (lo : Int) : clrB b lo lo = b := by
  obtain ⟨i, hi⟩ := clip8_fin lo
  have h := (of_decide_eq_true (clr_same_fin ⟨b.toNat, b.toNat_lt⟩ i)).1
  simp only [UInt8.ofNat_toNat] at h
  rw [clr_clip, hi]; exact h
theorem clr_end (b : UInt8) (lo hi : Int) (h8 : 8 ≤ hi) : clrB b lo hi = b &&& maskB lo := by
  obtain ⟨i, hi'⟩ := clip8_fin lo
  have h := (of_decide_eq_true (clr_same_fin ⟨b.toNat, b.toNat_lt⟩ i)).2
  simp only [UInt8.ofNat_toNat] at h
  have e : clip8 hi = 8 := by unfold clip8; rw [if_neg (by omega), if_pos h8]
  rw [clr_clip, hi', e, maskB_clip8 lo, hi']; exact h
theorem clr_step (b : UInt8) (lo : Int) (j : Nat) (hj : j < 8) (hlo : lo ≤ j) :
    (if bitB (clrB b lo j) j = 1 then (clrB b lo j).toNat - 2 ^ (7 - j) else (clrB b lo j).toNat) = (clrB b lo ((j : Int) + 1)).toNat ∧ (bitB (clrB b lo j) j = 1 → 2 ^ (7 - j) ≤ (clrB b lo j).toNat) := by
  obtain ⟨i, hi⟩ := clip8_fin lo
  have hle : i.val ≤ j := by
    unfold clip8 at hi; repeat' split at hi
    all_goals omega
  have h := clr_step_fin ⟨b.toNat, b.toNat_lt⟩ i ⟨j, hj⟩
  simp only [hle, decide_true, Bool.not_true, Bool.false_or, UInt8.ofNat_toNat] at h
  have h := of_decide_eq_true h
  have e : ∀ hi' : Int, clrB b lo hi' = clrB b i.val hi' := fun hi' => by unfold clrB; rw [maskB_clip8 lo, hi]
  rw [e, e]; exact h
def clrA (lo hi : Int) (a : A16) : A16 := ⟨a.l.mapIdx fun k b => clrB b (lo - 8 * k) (hi - 8 * k), by simp [a.h]⟩
theorem clrA_at (lo hi : Int) (a : A16) (k : Nat) (hk : k < 16) : (clrA lo hi a).at k = clrB (a.at k) (lo - 8 * k) (hi - 8 * k) := by
  have := a.h
  simp [A16.at, clrA, List.getD_eq_getElem?_getD, List.getElem?_eq_getElem (show k < a.l.length by omega)]
theorem clrA_start (lo : Int) (a : A16) : clrA lo lo a = a := by
  apply A16.ext'
  simp only [clrA]
  apply List.ext_getElem (by simp)
  intro k h1 h2
  simp [clr_start]
theorem clrA_end (lo : Int) (a : A16) : clrA lo 128 a = cutA lo 16 a := by
  have := a.h
  apply A16.ext'
  simp only [clrA, cutA, cutL]
  apply List.ext_getElem (by simp)
  intro k h1 h2
  have h3 : k < 16 := by simp at h2; omega
  simp only [List.getElem_mapIdx, if_pos h3]
  exact clr_end _ _ _ (by omega)
/-- One bit more. -/
theorem clrA_step (lo : Int) (a : A16) (i : Nat) (hi : i < 128) (hlo : lo ≤ i) :
    (clrA lo i a).cells.set (i / 8) (.int .u8 ((if bitAt (clrA lo i a) i = 1 then ((clrA lo i a).at (i / 8)).toNat - 2 ^ (7 - i % 8) else ((clrA lo i a).at (i / 8)).toNat : Nat) : Int)) = (clrA lo ((i : Int) + 1) a).cells := by
  have hl := a.h
  have hk : i / 8 < 16 := by omega
  have hs := (clr_step (a.at (i / 8)) (lo - 8 * ((i / 8 : Nat) : Int)) (i % 8) (by omega) (by omega)).1
  have e1 : (clrA lo i a).at (i / 8) = clrB (a.at (i / 8)) (lo - 8 * ((i / 8 : Nat) : Int)) ((i % 8 : Nat) : Int) := by
    rw [clrA_at _ _ _ _ hk]; congr 1; omega
  apply List.ext_getElem
  · simp [A16.cells, clrA]
  · intro k h1 h2
    have hk2 : k < 16 := by simp [A16.cells, clrA] at h2; omega
    simp only [A16.cells, List.getElem_set, List.getElem_map]
    have e2 : (clrA lo ((i : Int) + 1) a).l[k]'(by rw [(clrA _ _ _).h]; exact hk2) = clrB (a.at k) (lo - 8 * k) ((i : Int) + 1 - 8 * k) := by
      simp [clrA, A16.at, List.getD_eq_getElem?_getD, List.getElem?_eq_getElem (show k < a.l.length by omega)]
    have e3 : (clrA lo i a).l[k]'(by rw [(clrA _ _ _).h]; exact hk2) = clrB (a.at k) (lo - 8 * k) ((i : Int) - 8 * k) := by
      simp [clrA, A16.at, List.getD_eq_getElem?_getD, List.getElem?_eq_getElem (show k < a.l.length by omega)]
    rw [e2, e3]
    by_cases hik : i / 8 = k
    · rw [if_pos hik]
      subst hik
      unfold bitAt bv
      rw [e1, hs, show ((i % 8 : Nat) : Int) + 1 = (i : Int) + 1 - 8 * ((i / 8 : Nat) : Int) by omega]
    · rw [if_neg hik]
      congr 1
      rw [clr_clip, clr_clip _ _ ((i : Int) + 1 - 8 * k)]
      congr 1
      unfold clip8
      repeat' split
      all_goals omega
end Go.Proofs.YtmoldmnhijcckaaDoor
