/- The plain laws of prefixes: what is cut may be; covering goes on; the order. No program stands in this text. -/
import Derived.Test.YtmoldmnhijcckaaGreatMa02
import Derived.Test.YtmoldmnhijcckaaGreatMa00
import Derived.Maps.AppendAt
import Derived.Deep.AppendLies
import Derived.RegionTactic
import Derived.OwnWalk
set_option linter.unusedVariables false
set_option linter.unusedSectionVars false
set_option linter.unusedSimpArgs false
namespace Go.Proofs.YtmoldmnhijcckaaGreat
open Go.RowKit
theorem maskB_mono_fin : ∀ b : Fin 256, ∀ c d : Fin 9, decide ((UInt8.ofNat b.val &&& maskB (d.val : Int)) &&& maskB (c.val : Int) = UInt8.ofNat b.val &&& maskB ((min c.val d.val : Nat) : Int)) = true := by decide +kernel
theorem maskB_le_fin : ∀ b : Fin 256, ∀ c : Fin 9, decide ((UInt8.ofNat b.val &&& maskB (c.val : Int)).toNat ≤ b.val) = true := by decide +kernel
def clip8 (n : Int) : Int := if n ≤ 0 then 0 else if 8 ≤ n then 8 else n
theorem maskB_clip8 (n : Int) : maskB n = maskB (clip8 n) := by
  unfold clip8
  by_cases h0 : n ≤ 0
  · rw [if_pos h0]; unfold maskB; simp [h0]
  · by_cases h8 : 8 ≤ n
    · rw [if_neg h0, if_pos h8]; unfold maskB; simp [h0, h8]
    · rw [if_neg h0, if_neg h8]
theorem clip8_fin (n : Int) : ∃ m : Fin 9, clip8 n = (m.val : Int) := by
  have : 0 ≤ clip8 n ∧ clip8 n ≤ 8 := by unfold clip8; split <;> (try split) <;> omega
  exact ⟨⟨(clip8 n).toNat, by omega⟩, by simp only; omega⟩
theorem mask_mask (b : UInt8) (c d : Int) : (b &&& maskB d) &&& maskB c = b &&& maskB (min c d) := by
  obtain ⟨i, hi⟩ := clip8_fin c
  obtain ⟨j, hj⟩ := clip8_fin d
  have h := of_decide_eq_true (maskB_mono_fin ⟨b.toNat, b.toNat_lt⟩ i j)
  simp only [UInt8.ofNat_toNat] at h
  have hm : clip8 (min c d) = ((min i.val j.val : Nat) : Int) := by
    have : clip8 (min c d) = min (clip8 c) (clip8 d) := by unfold clip8; repeat' split
                                                           all_goals omega
    rw [this, hi, hj]; omega
  rw [maskB_clip8 c, maskB_clip8 d, maskB_clip8 (min c d), hi, hj, hm, h]
theorem mask_le (b : UInt8) (c : Int) : (b &&& maskB c).toNat ≤ b.toNat := by
  obtain ⟨i, hi⟩ := clip8_fin c
  have h := of_decide_eq_true (maskB_le_fin ⟨b.toNat, b.toNat_lt⟩ i)
  simp only [UInt8.ofNat_toNat] at h
  rw [maskB_clip8 c, hi]
  exact h
theorem cutA_cutA (c d : Int) (a : A16) : cutA c 16 (cutA d 16 a) = cutA (min c d) 16 a := by
  have hl := a.h
  apply A16.ext'
  apply List.ext_getElem (by rw [(cutA c 16 _).h, (cutA _ 16 a).h])
  intro k h1 h2
  have h3 : k < 16 := by have := (cutA (min c d) 16 a).h; omega
  simp only [cutA, cutL, List.getElem_mapIdx, if_pos h3]
  rw [mask_mask, show min (c - 8 * (k : Int)) (d - 8 * (k : Int)) = min c d - 8 * k by omega]
theorem clampOf_eq (v6 : Bool) (n : Int) : clampOf v6 n = min (max n 0) (mostOf v6) := by unfold clampOf; rw [imin_eq, imax_eq]
theorem mostOf_nn (v6 : Bool) : 0 ≤ mostOf v6 := by cases v6 <;> decide
theorem clamp_clamp (v6 : Bool) (n : Int) : clampOf v6 (clampOf v6 n) = clampOf v6 n := by
  have := mostOf_nn v6
  rw [clampOf_eq, clampOf_eq]; omega
theorem cut_cut (p : Pfx) : cutOf (cutOf p) = cutOf p := by
  unfold cutOf
  simp only [clamp_clamp, cutA_cutA, Int.min_self]
theorem ok_cut (p : Pfx) : pfxOk (cutOf p) = true := by unfold pfxOk; rw [cut_cut]; simp
theorem ok_eq {p : Pfx} (h : pfxOk p = true) : cutOf p = p := of_decide_eq_true h
theorem ok_len {p : Pfx} (h : pfxOk p = true) : clampOf p.v6 p.len = p.len ∧ 0 ≤ p.len ∧ p.len ≤ mostOf p.v6 := by
  have e : clampOf p.v6 p.len = p.len := congrArg Pfx.len (ok_eq h)
  have hm := mostOf_nn p.v6
  refine ⟨e, ?_⟩
  rw [clampOf_eq] at e
  omega
theorem ok_addr {p : Pfx} (h : pfxOk p = true) : cutA p.len 16 p.a = p.a := by
  have e : cutA (clampOf p.v6 p.len) 16 p.a = p.a := congrArg Pfx.a (ok_eq h)
  rwa [(ok_len h).1] at e
/-- Whether a prefix has all addresses of another one. -/
def coversOf (p q : Pfx) : Bool := pfxOk p && (pfxOk q && (decide (p.v6 = q.v6) && (decide (p.len ≤ q.len) && decide (cutOf ⟨q.v6, q.a, p.len⟩ = p))))
theorem covers_iff {p q : Pfx} : coversOf p q = true ↔ pfxOk p = true ∧ pfxOk q = true ∧ p.v6 = q.v6 ∧ p.len ≤ q.len ∧ cutA p.len 16 q.a = p.a := by
  unfold coversOf
  simp only [Bool.and_eq_true, decide_eq_true_eq]
  constructor
  · rintro ⟨h1, h2, h3, h4, h5⟩
    refine ⟨h1, h2, h3, h4, ?_⟩
    have e : cutA (clampOf q.v6 p.len) 16 q.a = p.a := congrArg Pfx.a h5
    rwa [← h3, (ok_len h1).1] at e
  · rintro ⟨h1, h2, h3, h4, h5⟩
    refine ⟨h1, h2, h3, h4, ?_⟩
    unfold cutOf
    simp only [← h3, (ok_len h1).1, h5]
theorem covers_self (p : Pfx) : coversOf p p = pfxOk p := by
  rw [Bool.eq_iff_iff, covers_iff]
  exact ⟨fun h => h.1, fun h => ⟨h, h, rfl, Int.le_refl _, ok_addr h⟩⟩
theorem covers_trans {p q r : Pfx} (h1 : coversOf p q = true) (h2 : coversOf q r = true) : coversOf p r = true := by
  rw [covers_iff] at *
  obtain ⟨a1, a2, a3, a4, a5⟩ := h1
  obtain ⟨b1, b2, b3, b4, b5⟩ := h2
  refine ⟨a1, b2, a3.trans b3, by omega, ?_⟩
  rw [← a5, ← b5, cutA_cutA, show min p.len q.len = p.len by omega]
theorem covers_anti {p q : Pfx} (h1 : coversOf p q = true) (h2 : coversOf q p = true) : p = q := by
  rw [covers_iff] at *
  obtain ⟨a1, a2, a3, a4, a5⟩ := h1
  obtain ⟨b1, b2, b3, b4, b5⟩ := h2
  have hl : p.len = q.len := by omega
  have ha : p.a = q.a := by rw [← a5, hl]; exact ok_addr a2
  cases p; cases q
  simp_all
/-- How bytes are ordered. -/
def cmpL : List UInt8 → List UInt8 → Int
  | [], [] => 0
  | [], _ :: _ => -1
  | _ :: _, [] => 1
  | a :: l, b :: r => if a.toNat < b.toNat then -1 else if b.toNat < a.toNat then 1 else cmpL l r
def cmpI (x y : Int) : Int := if x < y then -1 else if y < x then 1 else 0
/-- How prefixes are ordered. -/
def cmpOf (p q : Pfx) : Int := if p.v6 = q.v6 then (if cmpL p.a.l q.a.l = 0 then cmpI p.len q.len else cmpL p.a.l q.a.l) else if q.v6 then -1 else 1
theorem cmpL_bd : ∀ l r : List UInt8, cmpL l r = -1 ∨ cmpL l r = 0 ∨ cmpL l r = 1
  | [], [] => .inr (.inl rfl)
  | [], _ :: _ => .inl rfl
  | _ :: _, [] => .inr (.inr rfl)
  | a :: l, b :: r => by
    unfold cmpL
    split
    · exact .inl rfl
    · split
      · exact .inr (.inr rfl)
      · exact cmpL_bd l r
theorem cmpL_anti : ∀ l r : List UInt8, cmpL r l = - cmpL l r
  | [], [] => rfl
  | [], _ :: _ => rfl
  | _ :: _, [] => rfl
  | a :: l, b :: r => by
    unfold cmpL
    rcases Nat.lt_trichotomy a.toNat b.toNat with h | h | h
    · rw [if_pos h, if_neg (by omega), if_pos h]; rfl
    · rw [if_neg (by omega), if_neg (by omega), if_neg (by omega), if_neg (by omega)]; exact cmpL_anti l r
    · rw [if_pos h, if_neg (by omega), if_pos h]
theorem cmpL_zero : ∀ l r : List UInt8, cmpL l r = 0 ↔ l = r
  | [], [] => by simp [cmpL]
  | [], _ :: _ => by simp [cmpL]
  | _ :: _, [] => by simp [cmpL]
  | a :: l, b :: r => by
    unfold cmpL
    rcases Nat.lt_trichotomy a.toNat b.toNat with h | h | h
    · rw [if_pos h]; simp; intro e; subst e; omega
    · rw [if_neg (by omega), if_neg (by omega), cmpL_zero l r]
      have := UInt8.toNat_inj.1 h
      subst this; simp
    · rw [if_neg (by omega), if_pos h]; simp; intro e; subst e; omega
theorem cmpL_lt_trans : ∀ l r s : List UInt8, cmpL l r = -1 → cmpL r s = -1 → cmpL l s = -1
  | [], [], _ => by simp [cmpL]
  | _ :: _, [], _ => by simp [cmpL]
  | [], b :: r, [] => by simp [cmpL]
  | [], b :: r, c :: s => by simp [cmpL]
  | a :: l, b :: r, [] => by simp [cmpL]
  | a :: l, b :: r, c :: s => by
    unfold cmpL
    intro h1 h2
    rcases Nat.lt_trichotomy a.toNat b.toNat with h | h | h
    · rcases Nat.lt_trichotomy b.toNat c.toNat with k | k | k
      · rw [if_pos (by omega)]
      · rw [if_pos (by omega)]
      · rw [if_neg (by omega), if_pos k] at h2; simp at h2
    · rw [if_neg (by omega), if_neg (by omega)] at h1
      rcases Nat.lt_trichotomy b.toNat c.toNat with k | k | k
      · rw [if_pos (by omega)]
      · rw [if_neg (by omega), if_neg (by omega)] at h2
        rw [if_neg (by omega), if_neg (by omega)]
        exact cmpL_lt_trans l r s h1 h2
      · rw [if_neg (by omega), if_pos k] at h2; simp at h2
    · rw [if_neg (by omega), if_pos h] at h1; simp at h1
theorem cmp_anti (p q : Pfx) : cmpOf q p = - cmpOf p q := by
  unfold cmpOf
  have h := cmpL_anti p.a.l q.a.l
  by_cases hv : p.v6 = q.v6
  · rw [if_pos hv, if_pos hv.symm, h]
    by_cases h0 : cmpL p.a.l q.a.l = 0
    · rw [if_pos h0, if_pos (by omega)]; unfold cmpI; repeat' split
      all_goals omega
    · rw [if_neg h0, if_neg (by omega)]
  · rw [if_neg hv, if_neg (fun e => hv e.symm)]
    cases h1 : p.v6 <;> cases h2 : q.v6 <;> simp_all
theorem cmp_zero (p q : Pfx) : cmpOf p q = 0 ↔ p = q := by
  unfold cmpOf
  have h := cmpL_zero p.a.l q.a.l
  by_cases hv : p.v6 = q.v6
  · rw [if_pos hv]
    by_cases h0 : cmpL p.a.l q.a.l = 0
    · rw [if_pos h0]
      have ha := A16.ext' (h.1 h0)
      unfold cmpI
      cases p; cases q
      simp at hv ha ⊢
      subst hv ha
      repeat' split
      all_goals (simp; omega)
    · rw [if_neg h0]
      constructor
      · intro e; exact absurd e h0
      · intro e; subst e; exact h.2 rfl
  · rw [if_neg hv]
    constructor
    · intro e; split at e <;> simp at e
    · intro e; subst e; exact absurd rfl hv
theorem cmp_lt_trans {p q r : Pfx} (h1 : cmpOf p q = -1) (h2 : cmpOf q r = -1) : cmpOf p r = -1 := by
  unfold cmpOf at *
  by_cases hv : p.v6 = q.v6
  · by_cases hw : q.v6 = r.v6
    · rw [if_pos hv] at h1
      rw [if_pos hw] at h2
      rw [if_pos (hv.trans hw)]
      by_cases c1 : cmpL p.a.l q.a.l = 0
      · have e1 := (cmpL_zero _ _).1 c1
        rw [if_pos c1] at h1
        rw [e1]
        by_cases c2 : cmpL q.a.l r.a.l = 0
        · rw [if_pos c2] at h2 ⊢
          unfold cmpI at *
          have a1 : p.len < q.len := by by_cases h : p.len < q.len; exact h; rw [if_neg h] at h1; split at h1 <;> simp at h1
          have a2 : q.len < r.len := by by_cases h : q.len < r.len; exact h; rw [if_neg h] at h2; split at h2 <;> simp at h2
          rw [if_pos (by omega)]
        · rw [if_neg c2] at h2 ⊢; exact h2
      · rw [if_neg c1] at h1
        by_cases c2 : cmpL q.a.l r.a.l = 0
        · have e2 := (cmpL_zero _ _).1 c2
          rw [← e2, if_neg c1]; exact h1
        · rw [if_neg c2] at h2
          have h3 := cmpL_lt_trans _ _ _ h1 h2
          rw [if_neg (by omega), h3]
    · rw [if_neg hw] at h2
      rw [if_neg (fun e => hw (hv.symm.trans e))]
      exact h2
  · rw [if_neg hv] at h1
    by_cases hw : q.v6 = r.v6
    · rw [if_neg (fun e => hv (e.trans hw.symm)), ← hw]; exact h1
    · rw [if_neg hw] at h2
      cases h3 : q.v6 <;> cases h4 : r.v6 <;> simp_all
theorem cmp_bd (p q : Pfx) : cmpOf p q = -1 ∨ cmpOf p q = 0 ∨ cmpOf p q = 1 := by
  unfold cmpOf
  split
  · split
    · unfold cmpI; repeat' split
      all_goals simp
    · exact cmpL_bd _ _
  · split <;> simp
theorem cmp_trans {p q r : Pfx} (h : cmpOf p q = cmpOf q r) : cmpOf p r = cmpOf p q := by
  rcases cmp_bd p q with h1 | h1 | h1
  · rw [h1]; exact cmp_lt_trans h1 (h ▸ h1)
  · have e := (cmp_zero _ _).1 h1
    rw [h, e]
  · rw [h1]
    have a1 := cmp_anti p q
    have a2 := cmp_anti q r
    have a3 := cmp_lt_trans (p := r) (q := q) (r := p) (by omega) (by omega)
    have a4 := cmp_anti r p
    omega
theorem cmpL_le : ∀ (l r : List UInt8), l.length = r.length → (∀ i : Nat, (l.getD i 0).toNat ≤ (r.getD i 0).toNat) → cmpL l r ≤ 0
  | [], [], _, _ => by decide
  | [], _ :: _, h, _ => by simp at h
  | _ :: _, [], h, _ => by simp at h
  | a :: l, b :: r, h, hh => by
    unfold cmpL
    have h0 := hh 0
    simp at h0
    split
    · decide
    · rw [if_neg (by omega)]
      exact cmpL_le l r (by simpa using h) fun i => by simpa using hh (i + 1)
theorem covers_cmp {p q : Pfx} (h : coversOf p q = true) : cmpOf p q ≤ 0 := by
  rw [covers_iff] at h
  obtain ⟨_, _, h3, h4, h5⟩ := h
  have hl := p.a.h
  have hr := q.a.h
  have hle : cmpL p.a.l q.a.l ≤ 0 := by
    refine cmpL_le _ _ (by rw [hl, hr]) fun i => ?_
    by_cases hi : i < 16
    · rw [← h5]
      simp only [cutA, cutL, List.getD_eq_getElem?_getD, List.getElem?_mapIdx, List.getElem?_eq_getElem (show i < q.a.l.length by omega), Option.map_some, Option.getD_some, if_pos hi]
      exact mask_le _ _
    · simp [List.getD_eq_getElem?_getD, List.getElem?_eq_none (show p.a.l.length ≤ i by omega)]
  unfold cmpOf
  rw [if_pos h3]
  split
  · unfold cmpI; repeat' split
    all_goals omega
  · exact hle
/-- A shorter cut of what is cut covers it. -/
theorem cuts_law (p : Pfx) (n : Int) : let c := cutOf p; let d := cutOf ⟨c.v6, c.a, n⟩; d.len ≤ c.len → coversOf d c = true := by
  intro c d h
  rw [covers_iff]
  refine ⟨ok_cut _, ok_cut _, rfl, h, rfl⟩
end Go.Proofs.YtmoldmnhijcckaaGreat
/- append onto a row of the call's own, whatever the source; the same for bytes. For whatever program. -/
set_option linter.unusedVariables false
set_option linter.unusedSectionVars false
set_option linter.unusedSimpArgs false
namespace Go.Proofs.YtmoldmnhijcckaaGreat
open Go Go.RowKit
section
variable {P : Program} (w : World)

theorem run_append_of_nil (base : Nat) (t ty e : TypeId) (i : TypeInfo) (size : Nat) (ht : P.underlying t = some (.slice e)) (hi : P.info? e = some i)
    (v : Value) (n : Nat) (xs : List Value) (hown : w.ownsRow base e size v n xs) (c : Nat) : (Builtin.append_ #[t, t] ty #[v, .slice none 0 c]).run P w = .ok v w := by
  rcases hown.2 with ⟨rfl, rfl⟩ | ⟨g, cap, cur, rfl, _, _, hnc, _⟩
  · simp [Builtin.append_, run_underlying ht, sizeOf, typeInfo, hi, Builtin.lenOf, Builtin.firstCells]
  · simp [Builtin.append_, run_underlying ht, sizeOf, typeInfo, hi, Builtin.lenOf, Builtin.firstCells, hnc, storeCells]

theorem run_append_any (base : Nat) (t ty e : TypeId) (i : TypeInfo) (z : Value) (size bytes : Nat) (ht : P.underlying t = some (.slice e)) (hi : P.info? e = some i) (hz : i.zero = some z)
    (hsize : i.size = size) (hby : i.bytes = bytes) (hzs : z.cells.size = size) (hsz : 0 < size)
    (v : Value) (n : Nat) (xs : List Value) (hown : w.ownsRow base e size v n xs)
    (B : Nat) (A : Option Addr) (m c : Nat) (news : List Value) (hr : Reads w B size A m news) (h1 : ∀ u ∈ news, u.oneCell' = true)
    (h63 : n + m ≤ maxLen) (hbytes : (n + m) * bytes ≤ 140737488355328) (hbase : base ≤ w.heap.size) :
    ∃ v' w', (Builtin.append_ #[t, t] ty #[v, .slice A m c]).run P w = .ok v' w' ∧ w'.ownsRow base e size v' (n + m) (xs ++ news) ∧ w.grownBy w' v.ownBlock ∧
      (v'.ownBlock = v.ownBlock ∨ v'.ownBlock = some w.heap.size) := by
  rcases A with _ | ad
  · have hm : m = 0 := by
      rcases Nat.eq_zero_or_pos m with h0 | h0
      · exact h0
      · obtain ⟨ad, h, _⟩ := hr.2 h0
        cases h
    subst hm
    have hn : news = [] := List.eq_nil_of_length_eq_zero (by simpa using hr.1)
    subst hn
    exact ⟨v, w, run_append_of_nil w base t ty e i size ht hi v n xs hown c, by simpa using hown, World.grownBy.refl w _, .inl rfl⟩
  · have hcells : ∀ j u, news[j]? = some u → w.cell? (ad.add j) = some u := by
      intro j u hu
      rcases Nat.eq_zero_or_pos m with h0 | h0
      · subst h0
        have hn : news = [] := List.eq_nil_of_length_eq_zero (by simpa using hr.1)
        subst hn
        simp at hu
      · obtain ⟨ad', h, _, hc⟩ := hr.2 h0
        injection h with h
        subst h
        exact hc j u hu
    obtain ⟨v', w', hrun, h2, h3, _, h5⟩ := run_append_own_at (P := P) w base t ty e i z size bytes ht hi hz hsize hby hzs hsz v n xs hown ad m c news hr.1 hcells h1 h63 hbytes hbase
    exact ⟨v', w', hrun, h2, h3, h5⟩

theorem wp_append_any {o : Oper} {a : Act} {K : Act → World → Prop} {Q : Exit → Act → World → Prop} (s x : Operand) (t : TypeId)
    (ho : o.op = .call { callee := .builtin .append, args := #[s, x], argTypes := #[t, t] })
    (base : Nat) (e : TypeId) (i : TypeInfo) (z : Value) (size bytes : Nat) (ht : P.underlying t = some (.slice e)) (hi : P.info? e = some i) (hz : i.zero = some z)
    (hsize : i.size = size) (hby : i.bytes = bytes) (hzs : z.cells.size = size) (hsz : 0 < size)
    (v : Value) (n : Nat) (xs : List Value) (hs : a.eval s = v) (hown : w.ownsRow base e size v n xs)
    (B : Nat) (A : Option Addr) (m c : Nat) (news : List Value) (hx : a.eval x = .slice A m c) (hr : Reads w B size A m news) (h1 : ∀ u ∈ news, u.oneCell' = true)
    (h63 : n + m ≤ maxLen) (hbytes : (n + m) * bytes ≤ 140737488355328) (hbase : base ≤ w.heap.size)
    (h : ∀ v' w', w'.ownsRow base e size v' (n + m) (xs ++ news) → w.grownBy w' v.ownBlock → (v'.ownBlock = v.ownBlock ∨ v'.ownBlock = some w.heap.size) → K (a.put o.dst v') w') : o.wp P a w K Q := by
  obtain ⟨v', w', hrun, h2, h3, h4⟩ := run_append_any (P := P) w base t o.type e i z size bytes ht hi hz hsize hby hzs hsz v n xs hown B A m c news hr h1 h63 hbytes hbase
  unfold Oper.wp execOp
  simp only [ho, resolve, invoke, builtin, Sem.run_bind, Sem.run_pure, Result.andThen_ok, List.map_toArray, List.map_cons, List.map_nil, hs, hx, hrun]
  exact h v' w' h2 h3 h4

theorem wpList_append_any {ops : Array Oper} {rest : List Oper} {o : Oper} {a : Act} {Q : Exit → Act → World → Prop} (hgd : o.guard = none) (s x : Operand) (t : TypeId)
    (ho : o.op = .call { callee := .builtin .append, args := #[s, x], argTypes := #[t, t] })
    (base : Nat) (e : TypeId) (i : TypeInfo) (z : Value) (size bytes : Nat) (ht : P.underlying t = some (.slice e)) (hi : P.info? e = some i) (hz : i.zero = some z)
    (hsize : i.size = size) (hby : i.bytes = bytes) (hzs : z.cells.size = size) (hsz : 0 < size)
    (v : Value) (n : Nat) (xs : List Value) (hs : a.eval s = v) (hown : w.ownsRow base e size v n xs)
    (B : Nat) (A : Option Addr) (m c : Nat) (news : List Value) (hx : a.eval x = .slice A m c) (hr : Reads w B size A m news) (h1 : ∀ u ∈ news, u.oneCell' = true)
    (h63 : n + m ≤ maxLen) (hbytes : (n + m) * bytes ≤ 140737488355328) (hbase : base ≤ w.heap.size)
    (h : ∀ v' w', w'.ownsRow base e size v' (n + m) (xs ++ news) → w.grownBy w' v.ownBlock → (v'.ownBlock = v.ownBlock ∨ v'.ownBlock = some w.heap.size) → wpList P ops Q rest (a.put o.dst v') w') : wpList P ops Q (o :: rest) a w :=
  wpList_plain hgd fun _ hK => wp_append_any w s x t ho base e i z size bytes ht hi hz hsize hby hzs hsz v n xs hs hown B A m c news hx hr h1 h63 hbytes hbase fun v' w' h2 h3 h4 => hK _ _ (h v' w' h2 h3 h4)
end

/-- Rows of one element type and blocks of another one never meet. -/
theorem own_blk_ne {w : World} {base g n size : Nat} {e t : TypeId} {v : Value} {xs cs : List Value} (h : w.ownsRow base e size v n xs) (hg : Blk w g t cs) (hne : e ≠ t) : v.ownBlock ≠ some g := by
  rcases h.2 with ⟨rfl, _⟩ | ⟨g', cap, cur, rfl, _, hh, _⟩
  · simp [Value.ownBlock]
  · intro he
    have : g' = g := by simpa [Value.ownBlock] using he
    subst this
    unfold Blk at hg
    rw [hh] at hg
    injection hg with hg
    injection hg with _ ht
    exact hne ht
theorem own_base_le {w : World} {base : Nat} {e : TypeId} {size n : Nat} {v : Value} {xs : List Value} (h : w.ownsRow base e size v n xs) (k : Nat) (hk : v.ownBlock = some k) : base ≤ k ∧ k < w.heap.size := by
  rcases h.2 with ⟨rfl, _⟩ | ⟨g, cap, cur, rfl, hb, hh, _⟩
  · simp [Value.ownBlock] at hk
  · have : g = k := by simpa [Value.ownBlock] using hk
    subst this
    exact ⟨hb, (Array.getElem?_eq_some_iff.1 hh).1⟩
theorem own_kept {w w' : World} {base : Nat} {e : TypeId} {size n : Nat} {v : Value} {xs : List Value} (h : w.ownsRow base e size v n xs) (hb : ∀ k, v.ownBlock = some k → w'.heap[k]? = w.heap[k]?) : w'.ownsRow base e size v n xs := by
  obtain ⟨h1, h2⟩ := h
  refine ⟨h1, ?_⟩
  rcases h2 with h2 | ⟨g, cap, cur, rfl, hg, hh, r⟩
  · exact .inl h2
  · exact .inr ⟨g, cap, cur, rfl, hg, by rw [hb g rfl]; exact hh, r⟩
theorem own_below {w w' : World} {base : Nat} {e : TypeId} {size n : Nat} {v : Value} {xs : List Value} (h : w.ownsRow base e size v n xs) (hb : Below w.heap.size w w') : w'.ownsRow base e size v n xs :=
  own_kept h fun k hk => hb.block k (own_base_le h k hk).2
theorem own_base_mono {w : World} {base B : Nat} {e : TypeId} {size n : Nat} {v : Value} {xs : List Value} (h : w.ownsRow base e size v n xs) (hB : B ≤ base) : w.ownsRow B e size v n xs := by
  obtain ⟨h1, h2⟩ := h
  refine ⟨h1, ?_⟩
  rcases h2 with h2 | ⟨g, cap, cur, rfl, hg, r⟩
  · exact .inl h2
  · exact .inr ⟨g, cap, cur, rfl, Nat.le_trans hB hg, r⟩
theorem own_slice' {w : World} {base n : Nat} {e : TypeId} {size : Nat} {v : Value} {xs : List Value} (h : w.ownsRow base e size v n xs) : ∃ A c, v = .slice A n c := by
  rcases h.2 with ⟨rfl, rfl⟩ | ⟨g, cap, cur, rfl, _⟩
  · exact ⟨none, 0, rfl⟩
  · exact ⟨_, cap, rfl⟩
theorem bv_one (bs : List UInt8) : ∀ u ∈ bs.map bv, u.oneCell' = true := by
  intro u hu; simp only [List.mem_map] at hu; obtain ⟨b, _, rfl⟩ := hu; rfl
end Go.Proofs.YtmoldmnhijcckaaGreat
/- Laws at operations that are guarded, the guard being met. For whatever program. -/
set_option linter.unusedVariables false
set_option linter.unusedSectionVars false
set_option linter.unusedSimpArgs false
namespace Go.Proofs.YtmoldmnhijcckaaGreat
open Go Go.RowKit
section
variable {P : Program} {ops : Array Oper} {rest : List Oper} {op : Oper} {a : Act} {w : World} {Q : Exit → Act → World → Prop}
theorem wpList_want (hw : Region.wanted op (yielded ops a.tmps) = true) (h : ∀ K : Act → World → Prop, (∀ a w, wpList P ops Q rest a w → K a w) → op.wp P a w K Q) : wpList P ops Q (op :: rest) a w :=
  wpList_step fun K hK => by rw [if_pos hw]; exact h K hK
theorem wpList_load_g (hw : Region.wanted op (yielded ops a.tmps) = true) (ty : TypeId) (x : Operand) (ho : op.op = .load ty x) (g o n : Nat) (hx : a.eval x = .pointer (some ⟨g, o, none⟩)) (vs : List Value) (d : TypeDesc)
    (hr : w.rangeAt g o vs) (hl : vs.length = n) (hu : P.underlying ty = some d) (hd : d.isRow = true) (hi : (P.info? ty).map (·.size) = some n)
    (h : wpList P ops Q rest (a.put op.dst (.agg vs.toArray)) w) : wpList P ops Q (op :: rest) a w :=
  wpList_want hw fun _ hK => wp_load_mid ty x ho g o hx vs d hr hu hd (by rw [hl]; exact hi) (hK _ _ h)
end
end Go.Proofs.YtmoldmnhijcckaaGreat
/- The plain law of a prefix's bits: what the references ask of each bit is what the program asks of each byte. No program stands in this text. -/
set_option linter.unusedVariables false
set_option linter.unusedSectionVars false
set_option linter.unusedSimpArgs false
namespace Go.Proofs.YtmoldmnhijcckaaGreat
open Go.RowKit
/-- A bit of a byte, the highest first. -/
def bitB (b : UInt8) (j : Nat) : Nat := b.toNat / 2 ^ (7 - j) % 2
def bitAt (a : A16) (i : Nat) : Nat := bitB (a.at (i / 8)) (i % 8)
theorem byte_mask_fin : ∀ b : Fin 256, ∀ m : Fin 9, decide (UInt8.ofNat b.val &&& maskB (m.val : Int) = UInt8.ofNat b.val) = (List.range 8).all fun j => !(decide (m.val ≤ j) && decide (bitB (UInt8.ofNat b.val) j = 1)) := by decide +kernel
theorem maskB_clip (n : Int) : ∃ m : Fin 9, maskB n = maskB (m.val : Int) ∧ ∀ j : Nat, j < 8 → ((m.val ≤ j) ↔ n ≤ j) := by
  by_cases h0 : n ≤ 0
  · exact ⟨0, (by unfold maskB; rw [if_pos h0]; rfl), fun j hj => by show 0 ≤ j ↔ _; omega⟩
  · by_cases h8 : 8 ≤ n
    · exact ⟨8, (by unfold maskB; rw [if_neg h0, if_pos h8]; rfl), fun j hj => by show 8 ≤ j ↔ _; omega⟩
    · refine ⟨⟨n.toNat, by omega⟩, by simp only; rw [Int.toNat_of_nonneg (by omega)], fun j hj => by simp only; omega⟩
theorem byte_mask (b : UInt8) (n : Int) : (b &&& maskB n = b) ↔ ∀ j : Nat, j < 8 → n ≤ j → bitB b j ≠ 1 := by
  obtain ⟨m, h1, h2⟩ := maskB_clip n
  have h := byte_mask_fin ⟨b.toNat, b.toNat_lt⟩ m
  simp only [UInt8.ofNat_toNat] at h
  rw [h1]
  constructor
  · intro e j hj hn
    rw [decide_eq_true e] at h
    have h3 := (List.all_eq_true.1 h.symm) j (by simpa using hj)
    intro e1
    simp [e1, (h2 j hj).2 hn] at h3
  · intro e
    have h3 : ((List.range 8).all fun j => !(decide (m.val ≤ j) && decide (bitB b j = 1))) = true := by
      rw [List.all_eq_true]
      intro j hj
      have hj' : j < 8 := by simpa using hj
      by_cases hm : m.val ≤ j
      · have := e j hj' ((h2 j hj').1 hm)
        simp [this]
      · simp [hm]
    rw [h3] at h
    exact of_decide_eq_true h
theorem cutA_iff (c : Int) (a : A16) : cutA c 16 a = a ↔ ∀ i : Nat, i < 128 → c ≤ i → bitAt a i ≠ 1 := by
  have hl := a.h
  have e : cutA c 16 a = a ↔ ∀ k : Nat, k < 16 → a.at k &&& maskB (c - 8 * k) = a.at k := by
    constructor
    · intro h k hk
      have h1 : a.l[k]? = (cutA c 16 a).l[k]? := by rw [h]
      simp only [cutA, cutL, List.getElem?_mapIdx, List.getElem?_eq_getElem (show k < a.l.length by omega), Option.map_some, if_pos hk] at h1
      injection h1 with h1
      simp only [A16.at, List.getD_eq_getElem?_getD, List.getElem?_eq_getElem (show k < a.l.length by omega), Option.getD_some]
      exact h1.symm
    · intro h
      apply A16.ext'
      apply List.ext_getElem (by rw [(cutA c 16 a).h, hl])
      intro k h1 h2
      have h3 : k < 16 := by omega
      have := h k h3
      simp only [A16.at, List.getD_eq_getElem?_getD, List.getElem?_eq_getElem h2, Option.getD_some] at this
      simp only [cutA, cutL, List.getElem_mapIdx, if_pos h3]
      exact this
  rw [e]
  constructor
  · intro h i hi hc
    have := (byte_mask _ _).1 (h (i / 8) (by omega)) (i % 8) (by omega) (by omega)
    exact this
  · intro h k hk
    rw [byte_mask]
    intro j hj hn
    have := h (8 * k + j) (by omega) (by omega)
    unfold bitAt at this
    rwa [show (8 * k + j) / 8 = k by omega, show (8 * k + j) % 8 = j by omega] at this
theorem pfxOk_iff (p : Pfx) : pfxOk p = true ↔ 0 ≤ p.len ∧ p.len ≤ mostOf p.v6 ∧ ∀ i : Nat, i < 128 → p.len ≤ i → bitAt p.a i ≠ 1 := by
  obtain ⟨v6, a, n⟩ := p
  have hm : 0 ≤ mostOf v6 := by cases v6 <;> decide
  have hc : clampOf v6 n = min (max n 0) (mostOf v6) := by unfold clampOf; rw [imin_eq, imax_eq]
  unfold pfxOk cutOf
  simp only [decide_eq_true_eq, Pfx.mk.injEq, true_and]
  constructor
  · rintro ⟨h1, h2⟩
    rw [h2] at h1
    exact ⟨by omega, by omega, (cutA_iff n a).1 h1⟩
  · rintro ⟨h1, h2, h3⟩
    have h4 : clampOf v6 n = n := by omega
    rw [h4]
    exact ⟨(cutA_iff n a).2 h3, rfl⟩
end Go.Proofs.YtmoldmnhijcckaaGreat
