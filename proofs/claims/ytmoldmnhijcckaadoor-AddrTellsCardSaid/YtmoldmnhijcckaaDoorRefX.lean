/- The plain laws of the references of covering and of the order. No program stands in this text. -/
import Derived.Test.YtmoldmnhijcckaaDoorRefL
import Derived.Test.YtmoldmnhijcckaaDoorAddrL
set_option linter.unusedVariables false
set_option linter.unusedSectionVars false
set_option linter.unusedSimpArgs false
namespace Go.Proofs.YtmoldmnhijcckaaDoor
open Go.RowKit
theorem bit_mask_fin : ∀ b : Fin 256, ∀ m : Fin 9, ∀ j : Fin 8, decide (bitB (UInt8.ofNat b.val &&& maskB (m.val : Int)) j.val = if j.val < m.val then bitB (UInt8.ofNat b.val) j.val else 0) = true := by decide +kernel
theorem bit_mask (b : UInt8) (n : Int) (j : Nat) (hj : j < 8) : bitB (b &&& maskB n) j = if (j : Int) < n then bitB b j else 0 := by
  obtain ⟨m, h1, h2⟩ := maskB_clip n
  have h := of_decide_eq_true (bit_mask_fin ⟨b.toNat, b.toNat_lt⟩ m ⟨j, hj⟩)
  simp only [UInt8.ofNat_toNat] at h
  rw [h1, h]
  have := h2 j hj
  by_cases hm : j < m.val
  · rw [if_pos hm, if_pos (by omega)]
  · rw [if_neg hm, if_neg (by omega)]
theorem byte_bits_fin : ∀ b : Fin 256, decide (b.val = (List.range 8).foldl (fun s j => 2 * s + bitB (UInt8.ofNat b.val) j) 0) = true := by decide +kernel
theorem byte_ext {b c : UInt8} (h : ∀ j : Nat, j < 8 → bitB b j = bitB c j) : b = c := by
  have h1 := of_decide_eq_true (byte_bits_fin ⟨b.toNat, b.toNat_lt⟩)
  have h2 := of_decide_eq_true (byte_bits_fin ⟨c.toNat, c.toNat_lt⟩)
  simp only [UInt8.ofNat_toNat] at h1 h2
  apply UInt8.toNat_inj.1
  rw [h1, h2]
  have e : List.range 8 = [0, 1, 2, 3, 4, 5, 6, 7] := by decide
  rw [e]
  simp only [List.foldl_cons, List.foldl_nil, h 0 (by decide), h 1 (by decide), h 2 (by decide), h 3 (by decide), h 4 (by decide), h 5 (by decide), h 6 (by decide), h 7 (by decide)]
theorem cutA_atm (c : Int) (a : A16) (k : Nat) (hk : k < 16) : (cutA c 16 a).at k = a.at k &&& maskB (c - 8 * k) := by
  have := a.h
  simp [A16.at, cutA, cutL, List.getD_eq_getElem?_getD, List.getElem?_eq_getElem (show k < a.l.length by omega), hk]
theorem cutA_bit (c : Int) (a : A16) (i : Nat) (hi : i < 128) : bitAt (cutA c 16 a) i = if (i : Int) < c then bitAt a i else 0 := by
  unfold bitAt
  rw [cutA_atm c a (i / 8) (by omega), bit_mask _ _ _ (by omega)]
  by_cases h : (i : Int) < c
  · rw [if_pos h, if_pos (by omega)]
  · rw [if_neg h, if_neg (by omega)]
theorem a16_ext {a b : A16} (h : ∀ i : Nat, i < 128 → bitAt a i = bitAt b i) : a = b := by
  have ha := a.h
  have hb := b.h
  apply A16.ext'
  apply List.ext_getElem (by rw [ha, hb])
  intro k h1 h2
  have e : a.at k = b.at k := byte_ext fun j hj => by
    have := h (8 * k + j) (by omega)
    unfold bitAt at this
    rwa [show (8 * k + j) / 8 = k by omega, show (8 * k + j) % 8 = j by omega] at this
  simpa [A16.at, List.getD_eq_getElem?_getD, List.getElem?_eq_getElem h1, List.getElem?_eq_getElem h2] using e
theorem covers_bits (p q : Pfx) : coversOf p q = true ↔ pfxOk p = true ∧ pfxOk q = true ∧ p.v6 = q.v6 ∧ p.len ≤ q.len ∧ ∀ i : Nat, i < 128 → (i : Int) < p.len → bitAt p.a i = bitAt q.a i := by
  rw [covers_iff]
  constructor
  · rintro ⟨h1, h2, h3, h4, h5⟩
    refine ⟨h1, h2, h3, h4, fun i hi hl => ?_⟩
    rw [← h5, cutA_bit _ _ _ hi, if_pos hl]
  · rintro ⟨h1, h2, h3, h4, h5⟩
    refine ⟨h1, h2, h3, h4, a16_ext fun i hi => ?_⟩
    rw [cutA_bit _ _ _ hi]
    by_cases hl : (i : Int) < p.len
    · rw [if_pos hl, h5 i hi hl]
    · rw [if_neg hl]
      have h6 := ((pfxOk_iff p).1 h1).2.2 i hi (by omega)
      have h7 : bitAt p.a i < 2 := Nat.mod_lt _ (by decide)
      omega
theorem cmpL_at (a b : A16) (k : Nat) (hk : k < 16) : cmpL (a.l.drop k) (b.l.drop k) = if (a.at k).toNat < (b.at k).toNat then -1 else if (b.at k).toNat < (a.at k).toNat then 1 else cmpL (a.l.drop (k + 1)) (b.l.drop (k + 1)) := by
  have ha := a.h
  have hb := b.h
  rw [List.drop_eq_getElem_cons (show k < a.l.length by omega), List.drop_eq_getElem_cons (show k < b.l.length by omega)]
  simp [cmpL, A16.at, List.getD_eq_getElem?_getD, List.getElem?_eq_getElem (show k < a.l.length by omega), List.getElem?_eq_getElem (show k < b.l.length by omega)]
theorem cmpL_end (a b : A16) : cmpL (a.l.drop 16) (b.l.drop 16) = 0 := by
  rw [List.drop_of_length_le (by rw [a.h]; decide), List.drop_of_length_le (by rw [b.h]; decide)]
  rfl
end Go.Proofs.YtmoldmnhijcckaaDoor
