/- The plain laws of prefixes: what is cut may be; covering goes on; the order. No program stands in this text. -/
import Derived.Test.YtmoldmnhijcckaaMa04
set_option linter.unusedVariables false
set_option linter.unusedSectionVars false
set_option linter.unusedSimpArgs false
namespace Go.Proofs.Ytmoldmnhijcckaa
open Go.RowKit
theorem maskB_mono_fin : ∀ b : Fin 256, ∀ c d : Fin 9, decide ((UInt8.ofNat b.val &&& maskB (d.val : Int)) &&& maskB (c.val : Int) = UInt8.ofNat b.val &&& maskB ((min c.val d.val : Nat) : Int)) = true := by decide +kernel
theorem maskB_le_fin : ∀ b : Fin 256, ∀ c : Fin 9, decide ((UInt8.ofNat b.val &&& maskB (c.val : Int)).toNat ≤ b.val) = true := by decide +kernel
def clip8 (n : Int) : Int := if n ≤ 0 then 0 else if 8 ≤ n then 8 else n
theorem maskB_clip8 (n : Int) : maskB n = maskB (clip8 n) := by
  unfold clip8
  by_cases h0 : n ≤ 0
  · rw [if_pos h0]; unfold maskB; simp [h0]
  · by_cases h8 : 8 ≤ n
    · rw [if_neg h0, if_pos h8]; unfold maskB; simp [h0, h8]
    · rw [if_neg h0, if_neg h8]
theorem clip8_fin (n : Int) : ∃ m : Fin 9, clip8 n = (m.val : Int) := by
  have : 0 ≤ clip8 n ∧ clip8 n ≤ 8 := by unfold clip8; split <;> (try split) <;> omega
  exact ⟨⟨(clip8 n).toNat, by omega⟩, by simp only; omega⟩
theorem mask_mask (b : UInt8) (c d : Int) : (b &&& maskB d) &&& maskB c = b &&& maskB (min c d) := by
  obtain ⟨i, hi⟩ := clip8_fin c
  obtain ⟨j, hj⟩ := clip8_fin d
  have h := of_decide_eq_true (maskB_mono_fin ⟨b.toNat, b.toNat_lt⟩ i j)
  simp only [UInt8.ofNat_toNat] at h
  have hm : clip8 (min c d) = ((min i.val j.val : Nat) : Int) := by
    have : clip8 (min c d) = min (clip8 c) (clip8 d) := by unfold clip8; repeat' split
                                                           all_goals omega
    rw [this, hi, hj]; omega
  rw [maskB_clip8 c, maskB_clip8 d, maskB_clip8 (min c d), hi, hj, hm, h]
theorem mask_le (b : UInt8) (c : Int) : (b &&& maskB c).toNat ≤ b.toNat := by
  obtain ⟨i, hi⟩ := clip8_fin c
  have h := of_decide_eq_true (maskB_le_fin ⟨b.toNat, b.toNat_lt⟩ i)
  simp only [UInt8.ofNat_toNat] at h
  rw [maskB_clip8 c, hi]
  exact h
theorem cutA_cutA (c d : Int) (a : A16) : cutA c 16 (cutA d 16 a) = cutA (min c d) 16 a := by
  have hl := a.h
  apply A16.ext'
  apply List.ext_getElem (by rw [(cutA c 16 _).h, (cutA _ 16 a).h])
  intro k h1 h2
  have h3 : k < 16 := by have := (cutA (min c d) 16 a).h; omega
  simp only [cutA, cutL, List.getElem_mapIdx, if_pos h3]
  rw [mask_mask, show min (c - 8 * (k : Int)) (d - 8 * (k : Int)) = min c d - 8 * k by omega]
theorem clampOf_eq (v6 : Bool) (n : Int) : clampOf v6 n = min (max n 0) (mostOf v6) := by unfold clampOf; rw [imin_eq, imax_eq]
theorem mostOf_nn (v6 : Bool) : 0 ≤ mostOf v6 := by cases v6 <;> decide
theorem clamp_clamp (v6 : Bool) (n : Int) : clampOf v6 (clampOf v6 n) = clampOf v6 n := by
  have := mostOf_nn v6
  rw [clampOf_eq, clampOf_eq]; omega
theorem cut_cut (p : Pfx) : cutOf (cutOf p) = cutOf p := by
  unfold cutOf
  simp only [clamp_clamp, cutA_cutA, Int.min_self]
theorem ok_cut (p : Pfx) : pfxOk (cutOf p) = true := by unfold pfxOk; rw [cut_cut]; simp
theorem ok_eq {p : Pfx} (h : pfxOk p = true) : cutOf p = p := of_decide_eq_true h
theorem ok_len {p : Pfx} (h : pfxOk p = true) : clampOf p.v6 p.len = p.len ∧ 0 ≤ p.len ∧ p.len ≤ mostOf p.v6 := by
  have e : clampOf p.v6 p.len = p.len := congrArg Pfx.len (ok_eq h)
  have hm := mostOf_nn p.v6
  refine ⟨e, ?_⟩
  rw [clampOf_eq] at e
  omega
theorem ok_addr {p : Pfx} (h : pfxOk p = true) : cutA p.len 16 p.a = p.a := by
  have e : cutA (clampOf p.v6 p.len) 16 p.a = p.a := congrArg Pfx.a (ok_eq h)
  rwa [(ok_len h).1] at e
/-- Whether a prefix has all addresses of another one. -/
def coversOf (p q : Pfx) : Bool := pfxOk p && (pfxOk q && (decide (p.v6 = q.v6) && (decide (p.len ≤ q.len) && decide (cutOf ⟨q.v6, q.a, p.len⟩ = p))))
theorem covers_iff {p q : Pfx} : coversOf p q = true ↔ pfxOk p = true ∧ pfxOk q = true ∧ p.v6 = q.v6 ∧ p.len ≤ q.len ∧ cutA p.len 16 q.a = p.a := by
  unfold coversOf
  simp only [Bool.and_eq_true, decide_eq_true_eq]
  constructor
  · rintro ⟨h1, h2, h3, h4, h5⟩
    refine ⟨h1, h2, h3, h4, ?_⟩
    have e : cutA (clampOf q.v6 p.len) 16 q.a = p.a := congrArg Pfx.a h5
    rwa [← h3, (ok_len h1).1] at e
  · rintro ⟨h1, h2, h3, h4, h5⟩
    refine ⟨h1, h2, h3, h4, ?_⟩
    unfold cutOf
    simp only [← h3, (ok_len h1).1, h5]
theorem covers_self (p : Pfx) : coversOf p p = pfxOk p := by
  rw [Bool.eq_iff_iff, covers_iff]
  exact ⟨fun h => h.1, fun h => ⟨h, h, rfl, Int.le_refl _, ok_addr h⟩⟩
theorem covers_trans {p q r : Pfx} (h1 : coversOf p q = true) (h2 : coversOf q r = true) : coversOf p r = true := by
  rw [covers_iff] at *
  obtain ⟨a1, a2, a3, a4, a5⟩ := h1
  obtain ⟨b1, b2, b3, b4, b5⟩ := h2
  refine ⟨a1, b2, a3.trans b3, by omega, ?_⟩
  rw [← a5, ← b5, cutA_cutA, show min p.len q.len = p.len by omega]
theorem covers_anti {p q : Pfx} (h1 : coversOf p q = true) (h2 : coversOf q p = true) : p = q := by
  rw [covers_iff] at *
  obtain ⟨a1, a2, a3, a4, a5⟩ := h1
  obtain ⟨b1, b2, b3, b4, b5⟩ := h2
  have hl : p.len = q.len := by omega
  have ha : p.a = q.a := by rw [← a5, hl]; exact ok_addr a2
  cases p; cases q
  simp_all
/-- How bytes are ordered. -/
def cmpL : List UInt8 → List UInt8 → Int
  | [], [] => 0
  | [], _ :: _ => -1
  | _ :: _, [] => 1
  | a :: l, b :: r => if a.toNat < b.toNat then -1 else if b.toNat < a.toNat then 1 else cmpL l r
def cmpI (x y : Int) : Int := if x < y then -1 else if y < x then 1 else 0
/-- How prefixes are ordered. -/
def cmpOf (p q : Pfx) : Int := if p.v6 = q.v6 then (if cmpL p.a.l q.a.l = 0 then cmpI p.len q.len else cmpL p.a.l q.a.l) else if q.v6 then -1 else 1
theorem cmpL_bd : ∀ l r : List UInt8, cmpL l r = -1 ∨ cmpL l r = 0 ∨ cmpL l r = 1
  | [], [] => .inr (.inl rfl)
  | [], _ :: _ => .inl rfl
  | _ :: _, [] => .inr (.inr rfl)
  | a :: l, b :: r => by
    unfold cmpL
    split
    · exact .inl rfl
    · split
      · exact .inr (.inr rfl)
      · exact cmpL_bd l r
theorem cmpL_anti : ∀ l r : List UInt8, cmpL r l = - cmpL l r
  | [], [] => rfl
  | [], _ :: _ => rfl
  | _ :: _, [] => rfl
  | a :: l, b :: r => by
    unfold cmpL
    rcases Nat.lt_trichotomy a.toNat b.toNat with h | h | h
    · rw [if_pos h, if_neg (by omega), if_pos h]; rfl
    · rw [if_neg (by omega), if_neg (by omega), if_neg (by omega), if_neg (by omega)]; exact cmpL_anti l r
    · rw [if_pos h, if_neg (by omega), if_pos h]
theorem cmpL_zero : ∀ l r : List UInt8, cmpL l r = 0 ↔ l = r
  | [], [] => by simp [cmpL]
  | [], _ :: _ => by simp [cmpL]
  | _ :: _, [] => by simp [cmpL]
  | a :: l, b :: r => by
    unfold cmpL
    rcases Nat.lt_trichotomy a.toNat b.toNat with h | h | h
    · rw [if_pos h]; simp; intro e; subst e; omega
    · rw [if_neg (by omega), if_neg (by omega), cmpL_zero l r]
      have := UInt8.toNat_inj.1 h
      subst this; simp
    · rw [if_neg (by omega), if_pos h]; simp; intro e; subst e; omega
theorem cmpL_lt_trans : ∀ l r s : List UInt8, cmpL l r = -1 → cmpL r s = -1 → cmpL l s = -1
  | [], [], _ => by simp [cmpL]
  | _ :: _, [], _ => by simp [cmpL]
  | [], b :: r, [] => by simp [cmpL]
  | [], b :: r, c :: s => by simp [cmpL]
  | a :: l, b :: r, [] => by simp [cmpL]
  | a :: l, b :: r, c :: s => by
    unfold cmpL
    intro h1 h2
    rcases Nat.lt_trichotomy a.toNat b.toNat with h | h | h
    · rcases Nat.lt_trichotomy b.toNat c.toNat with k | k | k
      · rw [if_pos (by omega)]
      · rw [if_pos (by omega)]
      · rw [if_neg (by omega), if_pos k] at h2; simp at h2
    · rw [if_neg (by omega), if_neg (by omega)] at h1
      rcases Nat.lt_trichotomy b.toNat c.toNat with k | k | k
      · rw [if_pos (by omega)]
      · rw [if_neg (by omega), if_neg (by omega)] at h2
        rw [if_neg (by omega), if_neg (by omega)]
        exact cmpL_lt_trans l r s h1 h2
      · rw [if_neg (by omega), if_pos k] at h2; simp at h2
    · rw [if_neg (by omega), if_pos h] at h1; simp at h1
theorem cmp_anti (p q : Pfx) : cmpOf q p = - cmpOf p q := by
  unfold cmpOf
  have h := cmpL_anti p.a.l q.a.l
  by_cases hv : p.v6 = q.v6
  · rw [if_pos hv, if_pos hv.symm, h]
    by_cases h0 : cmpL p.a.l q.a.l = 0
    · rw [if_pos h0, if_pos (by omega)]; unfold cmpI; repeat' split
      all_goals omega
    · rw [if_neg h0, if_neg (by omega)]
  · rw [if_neg hv, if_neg (fun e => hv e.symm)]
    cases h1 : p.v6 <;> cases h2 : q.v6 <;> simp_all
theorem cmp_zero (p q : Pfx) : cmpOf p q = 0 ↔ p = q := by
  unfold cmpOf
  have h := cmpL_zero p.a.l q.a.l
  by_cases hv : p.v6 = q.v6
  · rw [if_pos hv]
    by_cases h0 : cmpL p.a.l q.a.l = 0
    · rw [if_pos h0]
      have ha := A16.ext' (h.1 h0)
      unfold cmpI
      cases p; cases q
      simp at hv ha ⊢
      subst hv ha
      repeat' split
      all_goals (simp; omega)
    · rw [if_neg h0]
      constructor
      · intro e; exact absurd e h0
      · intro e; subst e; exact h.2 rfl
  · rw [if_neg hv]
    constructor
    · intro e; split at e <;> simp at e
    · intro e; subst e; exact absurd rfl hv
theorem cmp_lt_trans {p q r : Pfx} (h1 : cmpOf p q = -1) (h2 : cmpOf q r = -1) : cmpOf p r = -1 := by
  unfold cmpOf at *
  by_cases hv : p.v6 = q.v6
  · by_cases hw : q.v6 = r.v6
    · rw [if_pos hv] at h1
      rw [if_pos hw] at h2
      rw [if_pos (hv.trans hw)]
      by_cases c1 : cmpL p.a.l q.a.l = 0
      · have e1 := (cmpL_zero _ _).1 c1
        rw [if_pos c1] at h1
        rw [e1]
        by_cases c2 : cmpL q.a.l r.a.l = 0
        · rw [if_pos c2] at h2 ⊢
          unfold cmpI at *
          have a1 : p.len < q.len := by by_cases h : p.len < q.len; exact h; rw [if_neg h] at h1; split at h1 <;> simp at h1
          have a2 : q.len < r.len := by by_cases h : q.len < r.len; exact h; rw [if_neg h] at h2; split at h2 <;> simp at h2
          rw [if_pos (by omega)]
        · rw [if_neg c2] at h2 ⊢; exact h2
      · rw [if_neg c1] at h1
        by_cases c2 : cmpL q.a.l r.a.l = 0
        · have e2 := (cmpL_zero _ _).1 c2
          rw [← e2, if_neg c1]; exact h1
        · rw [if_neg c2] at h2
          have h3 := cmpL_lt_trans _ _ _ h1 h2
          rw [if_neg (by omega), h3]
    · rw [if_neg hw] at h2
      rw [if_neg (fun e => hw (hv.symm.trans e))]
      exact h2
  · rw [if_neg hv] at h1
    by_cases hw : q.v6 = r.v6
    · rw [if_neg (fun e => hv (e.trans hw.symm)), ← hw]; exact h1
    · rw [if_neg hw] at h2
      cases h3 : q.v6 <;> cases h4 : r.v6 <;> simp_all
theorem cmp_bd (p q : Pfx) : cmpOf p q = -1 ∨ cmpOf p q = 0 ∨ cmpOf p q = 1 := by
  unfold cmpOf
  split
  · split
    · unfold cmpI; repeat' split
      all_goals simp
    · exact cmpL_bd _ _
  · split <;> simp
theorem cmp_trans {p q r : Pfx} (h : cmpOf p q = cmpOf q r) : cmpOf p r = cmpOf p q := by
  rcases cmp_bd p q with h1 | h1 | h1
  · rw [h1]; exact cmp_lt_trans h1 (h ▸ h1)
  · have e := (cmp_zero _ _).1 h1
    rw [h, e]
  · rw [h1]
    have a1 := cmp_anti p q
    have a2 := cmp_anti q r
    have a3 := cmp_lt_trans (p := r) (q := q) (r := p) (by omega) (by omega)
    have a4 := cmp_anti r p
    omega
theorem cmpL_le : ∀ (l r : List UInt8), l.length = r.length → (∀ i : Nat, (l.getD i 0).toNat ≤ (r.getD i 0).toNat) → cmpL l r ≤ 0
  | [], [], _, _ => by decide
  | [], _ :: _, h, _ => by simp at h
  | _ :: _, [], h, _ => by simp at h
  | a :: l, b :: r, h, hh => by
    unfold cmpL
    have h0 := hh 0
    simp at h0
    split
    · decide
    · rw [if_neg (by omega)]
      exact cmpL_le l r (by simpa using h) fun i => by simpa using hh (i + 1)
theorem covers_cmp {p q : Pfx} (h : coversOf p q = true) : cmpOf p q ≤ 0 := by
  rw [covers_iff] at h
  obtain ⟨_, _, h3, h4, h5⟩ := h
  have hl := p.a.h
  have hr := q.a.h
  have hle : cmpL p.a.l q.a.l ≤ 0 := by
    refine cmpL_le _ _ (by rw [hl, hr]) fun i => ?_
    by_cases hi : i < 16
    · rw [← h5]
      simp only [cutA, cutL, List.getD_eq_getElem?_getD, List.getElem?_mapIdx, List.getElem?_eq_getElem (show i < q.a.l.length by omega), Option.map_some, Option.getD_some, if_pos hi]
      exact mask_le _ _
    · simp [List.getD_eq_getElem?_getD, List.getElem?_eq_none (show p.a.l.length ≤ i by omega)]
  unfold cmpOf
  rw [if_pos h3]
  split
  · unfold cmpI; repeat' split
    all_goals omega
  · exact hle
/-- A shorter cut of what is cut covers it. -/
theorem cuts_law (p : Pfx) (n : Int) : let c := cutOf p; let d := cutOf ⟨c.v6, c.a, n⟩; d.len ≤ c.len → coversOf d c = true := by
  intro c d h
  rw [covers_iff]
  refine ⟨ok_cut _, ok_cut _, rfl, h, rfl⟩
end Go.Proofs.Ytmoldmnhijcckaa
