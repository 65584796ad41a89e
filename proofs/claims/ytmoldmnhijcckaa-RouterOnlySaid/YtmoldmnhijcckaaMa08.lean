/- append onto a row of the call's own, whatever the source; the same for bytes. For whatever program. -/
import Derived.Test.YtmoldmnhijcckaaMa01
import Derived.Maps.AppendAt
import Derived.Deep.AppendLies
import Derived.RegionTactic
import Derived.OwnWalk
import Derived.Test.YtmoldmnhijcckaaMa04
set_option linter.unusedVariables false
set_option linter.unusedSectionVars false
set_option linter.unusedSimpArgs false
namespace Go.Proofs.Ytmoldmnhijcckaa
open Go Go.RowKit
section
variable {P : Program} (w : World)

theorem run_append_of_nil (base : Nat) (t ty e : TypeId) (i : TypeInfo) (size : Nat) (ht : P.underlying t = some (.slice e)) (hi : P.info? e = some i)
    (v : Value) (n : Nat) (xs : List Value) (hown : w.ownsRow base e size v n xs) (c : Nat) : (Builtin.append_ #[t, t] ty #[v, .slice none 0 c]).run P w = .ok v w := by
  rcases hown.2 with ⟨rfl, rfl⟩ | ⟨g, cap, cur, rfl, _, _, hnc, _⟩
  · simp [Builtin.append_, run_underlying ht, sizeOf, typeInfo, hi, Builtin.lenOf, Builtin.firstCells]
  · simp [Builtin.append_, run_underlying ht, sizeOf, typeInfo, hi, Builtin.lenOf, Builtin.firstCells, hnc, storeCells]

theorem run_append_any (base : Nat) (t ty e : TypeId) (i : TypeInfo) (z : Value) (size bytes : Nat) (ht : P.underlying t = some (.slice e)) (hi : P.info? e = some i) (hz : i.zero = some z)
    (hsize : i.size = size) (hby : i.bytes = bytes) (hzs : z.cells.size = size) (hsz : 0 < size)
    (v : Value) (n : Nat) (xs : List Value) (hown : w.ownsRow base e size v n xs)
    (B : Nat) (A : Option Addr) (m c : Nat) (news : List Value) (hr : Reads w B size A m news) (h1 : ∀ u ∈ news, u.oneCell' = true)
    (h63 : n + m ≤ maxLen) (hbytes : (n + m) * bytes ≤ 140737488355328) (hbase : base ≤ w.heap.size) :
    ∃ v' w', (Builtin.append_ #[t, t] ty #[v, .slice A m c]).run P w = .ok v' w' ∧ w'.ownsRow base e size v' (n + m) (xs ++ news) ∧ w.grownBy w' v.ownBlock ∧
      (v'.ownBlock = v.ownBlock ∨ v'.ownBlock = some w.heap.size) := by
  rcases A with _ | ad
  · have hm : m = 0 := by
      rcases Nat.eq_zero_or_pos m with h0 | h0
      · exact h0
      · obtain ⟨ad, h, _⟩ := hr.2 h0
        cases h
    subst hm
    have hn : news = [] := List.eq_nil_of_length_eq_zero (by simpa using hr.1)
    subst hn
    exact ⟨v, w, run_append_of_nil w base t ty e i size ht hi v n xs hown c, by simpa using hown, World.grownBy.refl w _, .inl rfl⟩
  · have hcells : ∀ j u, news[j]? = some u → w.cell? (ad.add j) = some u := by
      intro j u hu
      rcases Nat.eq_zero_or_pos m with h0 | h0
      · subst h0
        have hn : news = [] := List.eq_nil_of_length_eq_zero (by simpa using hr.1)
        subst hn
        simp at hu
      · obtain ⟨ad', h, _, hc⟩ := hr.2 h0
        injection h with h
        subst h
        exact hc j u hu
    obtain ⟨v', w', hrun, h2, h3, _, h5⟩ := run_append_own_at (P := P) w base t ty e i z size bytes ht hi hz hsize hby hzs hsz v n xs hown ad m c news hr.1 hcells h1 h63 hbytes hbase
    exact ⟨v', w', hrun, h2, h3, h5⟩

theorem wp_append_any {o : Oper} {a : Act} {K : Act → World → Prop} {Q : Exit → Act → World → Prop} (s x : Operand) (t : TypeId)
    (ho : o.op = .call { callee := .builtin .append, args := #[s, x], argTypes := #[t, t] })
    (base : Nat) (e : TypeId) (i : TypeInfo) (z : Value) (size bytes : Nat) (ht : P.underlying t = some (.slice e)) (hi : P.info? e = some i) (hz : i.zero = some z)
    (hsize : i.size = size) (hby : i.bytes = bytes) (hzs : z.cells.size = size) (hsz : 0 < size)
    (v : Value) (n : Nat) (xs : List Value) (hs : a.eval s = v) (hown : w.ownsRow base e size v n xs)
    (B : Nat) (A : Option Addr) (m c : Nat) (news : List Value) (hx : a.eval x = .slice A m c) (hr : Reads w B size A m news) (h1 : ∀ u ∈ news, u.oneCell' = true)
    (h63 : n + m ≤ maxLen) (hbytes : (n + m) * bytes ≤ 140737488355328) (hbase : base ≤ w.heap.size)
    (h : ∀ v' w', w'.ownsRow base e size v' (n + m) (xs ++ news) → w.grownBy w' v.ownBlock → (v'.ownBlock = v.ownBlock ∨ v'.ownBlock = some w.heap.size) → K (a.put o.dst v') w') : o.wp P a w K Q := by
  obtain ⟨v', w', hrun, h2, h3, h4⟩ := run_append_any (P := P) w base t o.type e i z size bytes ht hi hz hsize hby hzs hsz v n xs hown B A m c news hr h1 h63 hbytes hbase
  unfold Oper.wp execOp
  simp only [ho, resolve, invoke, builtin, Sem.run_bind, Sem.run_pure, Result.andThen_ok, List.map_toArray, List.map_cons, List.map_nil, hs, hx, hrun]
  exact h v' w' h2 h3 h4

theorem wpList_append_any {ops : Array Oper} {rest : List Oper} {o : Oper} {a : Act} {Q : Exit → Act → World → Prop} (hgd : o.guard = none) (s x : Operand) (t : TypeId)
    (ho : o.op = .call { callee := .builtin .append, args := #[s, x], argTypes := #[t, t] })
    (base : Nat) (e : TypeId) (i : TypeInfo) (z : Value) (size bytes : Nat) (ht : P.underlying t = some (.slice e)) (hi : P.info? e = some i) (hz : i.zero = some z)
    (hsize : i.size = size) (hby : i.bytes = bytes) (hzs : z.cells.size = size) (hsz : 0 < size)
    (v : Value) (n : Nat) (xs : List Value) (hs : a.eval s = v) (hown : w.ownsRow base e size v n xs)
    (B : Nat) (A : Option Addr) (m c : Nat) (news : List Value) (hx : a.eval x = .slice A m c) (hr : Reads w B size A m news) (h1 : ∀ u ∈ news, u.oneCell' = true)
    (h63 : n + m ≤ maxLen) (hbytes : (n + m) * bytes ≤ 140737488355328) (hbase : base ≤ w.heap.size)
    (h : ∀ v' w', w'.ownsRow base e size v' (n + m) (xs ++ news) → w.grownBy w' v.ownBlock → (v'.ownBlock = v.ownBlock ∨ v'.ownBlock = some w.heap.size) → wpList P ops Q rest (a.put o.dst v') w') : wpList P ops Q (o :: rest) a w :=
  wpList_plain hgd fun _ hK => wp_append_any w s x t ho base e i z size bytes ht hi hz hsize hby hzs hsz v n xs hs hown B A m c news hx hr h1 h63 hbytes hbase fun v' w' h2 h3 h4 => hK _ _ (h v' w' h2 h3 h4)
end

/-- Rows of one element type and blocks of another one never meet. -/
theorem own_blk_ne {w : World} {base g n size : Nat} {e t : TypeId} {v : Value} {xs cs : List Value} (h : w.ownsRow base e size v n xs) (hg : Blk w g t cs) (hne : e ≠ t) : v.ownBlock ≠ some g := by
  rcases h.2 with ⟨rfl, _⟩ | ⟨g', cap, cur, rfl, _, hh, _⟩
  · simp [Value.ownBlock]
  · intro he
    have : g' = g := by simpa [Value.ownBlock] using he
    subst this
    unfold Blk at hg
    rw [hh] at hg
    injection hg with hg
    injection hg with _ ht
    exact hne ht
theorem own_base_le {w : World} {base : Nat} {e : TypeId} {size n : Nat} {v : Value} {xs : List Value} (h : w.ownsRow base e size v n xs) (k : Nat) (hk : v.ownBlock = some k) : base ≤ k ∧ k < w.heap.size := by
  rcases h.2 with ⟨rfl, _⟩ | ⟨g, cap, cur, rfl, hb, hh, _⟩
  · simp [Value.ownBlock] at hk
  · have : g = k := by simpa [Value.ownBlock] using hk
    subst this
    exact ⟨hb, (Array.getElem?_eq_some_iff.1 hh).1⟩
theorem own_kept {w w' : World} {base : Nat} {e : TypeId} {size n : Nat} {v : Value} {xs : List Value} (h : w.ownsRow base e size v n xs) (hb : ∀ k, v.ownBlock = some k → w'.heap[k]? = w.heap[k]?) : w'.ownsRow base e size v n xs := by
  obtain ⟨h1, h2⟩ := h
  refine ⟨h1, ?_⟩
  rcases h2 with h2 | ⟨g, cap, cur, rfl, hg, hh, r⟩
  · exact .inl h2
  · exact .inr ⟨g, cap, cur, rfl, hg, by rw [hb g rfl]; exact hh, r⟩
theorem own_below {w w' : World} {base : Nat} {e : TypeId} {size n : Nat} {v : Value} {xs : List Value} (h : w.ownsRow base e size v n xs) (hb : Below w.heap.size w w') : w'.ownsRow base e size v n xs :=
  own_kept h fun k hk => hb.block k (own_base_le h k hk).2
theorem own_base_mono {w : World} {base B : Nat} {e : TypeId} {size n : Nat} {v : Value} {xs : List Value} (h : w.ownsRow base e size v n xs) (hB : B ≤ base) : w.ownsRow B e size v n xs := by
  obtain ⟨h1, h2⟩ := h
  refine ⟨h1, ?_⟩
  rcases h2 with h2 | ⟨g, cap, cur, rfl, hg, r⟩
  · exact .inl h2
  · exact .inr ⟨g, cap, cur, rfl, Nat.le_trans hB hg, r⟩
theorem own_slice' {w : World} {base n : Nat} {e : TypeId} {size : Nat} {v : Value} {xs : List Value} (h : w.ownsRow base e size v n xs) : ∃ A c, v = .slice A n c := by
  rcases h.2 with ⟨rfl, rfl⟩ | ⟨g, cap, cur, rfl, _⟩
  · exact ⟨none, 0, rfl⟩
  · exact ⟨_, cap, rfl⟩
theorem bv_one (bs : List UInt8) : ∀ u ∈ bs.map bv, u.oneCell' = true := by
  intro u hu; simp only [List.mem_map] at hu; obtain ⟨b, _, rfl⟩ := hu; rfl
end Go.Proofs.Ytmoldmnhijcckaa
/- Laws at operations that are guarded, the guard being met. For whatever program. -/
set_option linter.unusedVariables false
set_option linter.unusedSectionVars false
set_option linter.unusedSimpArgs false
namespace Go.Proofs.Ytmoldmnhijcckaa
open Go Go.RowKit
section
variable {P : Program} {ops : Array Oper} {rest : List Oper} {op : Oper} {a : Act} {w : World} {Q : Exit → Act → World → Prop}
theorem wpList_want (hw : Region.wanted op (yielded ops a.tmps) = true) (h : ∀ K : Act → World → Prop, (∀ a w, wpList P ops Q rest a w → K a w) → op.wp P a w K Q) : wpList P ops Q (op :: rest) a w :=
  wpList_step fun K hK => by rw [if_pos hw]; exact h K hK
theorem wpList_load_g (hw : Region.wanted op (yielded ops a.tmps) = true) (ty : TypeId) (x : Operand) (ho : op.op = .load ty x) (g o n : Nat) (hx : a.eval x = .pointer (some ⟨g, o, none⟩)) (vs : List Value) (d : TypeDesc)
    (hr : w.rangeAt g o vs) (hl : vs.length = n) (hu : P.underlying ty = some d) (hd : d.isRow = true) (hi : (P.info? ty).map (·.size) = some n)
    (h : wpList P ops Q rest (a.put op.dst (.agg vs.toArray)) w) : wpList P ops Q (op :: rest) a w :=
  wpList_want hw fun _ hK => wp_load_mid ty x ho g o hx vs d hr hu hd (by rw [hl]; exact hi) (hK _ _ h)
end
end Go.Proofs.Ytmoldmnhijcckaa
/- The plain law of a prefix's bits: what the references ask of each bit is what the program asks of each byte. No program stands in this text. -/
set_option linter.unusedVariables false
set_option linter.unusedSectionVars false
set_option linter.unusedSimpArgs false
namespace Go.Proofs.Ytmoldmnhijcckaa
open Go.RowKit
/-- A bit of a byte, the highest first. -/
def bitB (b : UInt8) (j : Nat) : Nat := b.toNat / 2 ^ (7 - j) % 2
def bitAt (a : A16) (i : Nat) : Nat := bitB (a.at (i / 8)) (i % 8)
theorem byte_mask_fin : ∀ b : Fin 256, ∀ m : Fin 9, decide (UInt8.ofNat b.val &&& maskB (m.val : Int) = UInt8.ofNat b.val) = (List.range 8).all fun j => !(decide (m.val ≤ j) && decide (bitB (UInt8.ofNat b.val) j = 1)) := by decide +kernel
theorem maskB_clip (n : Int) : ∃ m : Fin 9, maskB n = maskB (m.val : Int) ∧ ∀ j : Nat, j < 8 → ((m.val ≤ j) ↔ n ≤ j) := by
  by_cases h0 : n ≤ 0
  · exact ⟨0, (by unfold maskB; rw [if_pos h0]; rfl), fun j hj => by show 0 ≤ j ↔ _; omega⟩
  · by_cases h8 : 8 ≤ n
    · exact ⟨8, (by unfold maskB; rw [if_neg h0, if_pos h8]; rfl), fun j hj => by show 8 ≤ j ↔ _; omega⟩
    · refine ⟨⟨n.toNat, by omega⟩, by simp only; rw [Int.toNat_of_nonneg (by omega)], fun j hj => by simp only; omega⟩
theorem byte_mask (b : UInt8) (n : Int) : (b &&& maskB n = b) ↔ ∀ j : Nat, j < 8 → n ≤ j → bitB b j ≠ 1 := by
  obtain ⟨m, h1, h2⟩ := maskB_clip n
  have h := byte_mask_fin ⟨b.toNat, b.toNat_lt⟩ m
  simp only [UInt8.ofNat_toNat] at h
  rw [h1]
  constructor
  · intro e j hj hn
    rw [decide_eq_true e] at h
    have h3 := (List.all_eq_true.1 h.symm) j (by simpa using hj)
    intro e1
    simp [e1, (h2 j hj).2 hn] at h3
  · intro e
    have h3 : ((List.range 8).all fun j => !(decide (m.val ≤ j) && decide (bitB b j = 1))) = true := by
      rw [List.all_eq_true]
      intro j hj
      have hj' : j < 8 := by simpa using hj
      by_cases hm : m.val ≤ j
      · have := e j hj' ((h2 j hj').1 hm)
        simp [this]
      · simp [hm]
    rw [h3] at h
    exact of_decide_eq_true h
theorem cutA_iff (c : Int) (a : A16) : cutA c 16 a = a ↔ ∀ i : Nat, i < 128 → c ≤ i → bitAt a i ≠ 1 := by
  have hl := a.h
  have e : cutA c 16 a = a ↔ ∀ k : Nat, k < 16 → a.at k &&& maskB (c - 8 * k) = a.at k := by
    constructor
    · intro h k hk
      have h1 : a.l[k]? = (cutA c 16 a).l[k]? := by rw [h]
      simp only [cutA, cutL, List.getElem?_mapIdx, List.getElem?_eq_getElem (show k < a.l.length by omega), Option.map_some, if_pos hk] at h1
      injection h1 with h1
      simp only [A16.at, List.getD_eq_getElem?_getD, List.getElem?_eq_getElem (show k < a.l.length by omega), Option.getD_some]
      exact h1.symm
    · intro h
      apply A16.ext'
      apply List.ext_getElem (by rw [(cutA c 16 a).h, hl])
      intro k h1 h2
      have h3 : k < 16 := by omega
      have := h k h3
      simp only [A16.at, List.getD_eq_getElem?_getD, List.getElem?_eq_getElem h2, Option.getD_some] at this
      simp only [cutA, cutL, List.getElem_mapIdx, if_pos h3]
      exact this
  rw [e]
  constructor
  · intro h i hi hc
    have := (byte_mask _ _).1 (h (i / 8) (by omega)) (i % 8) (by omega) (by omega)
    exact this
  · intro h k hk
    rw [byte_mask]
    intro j hj hn
    have := h (8 * k + j) (by omega) (by omega)
    unfold bitAt at this
    rwa [show (8 * k + j) / 8 = k by omega, show (8 * k + j) % 8 = j by omega] at this
theorem pfxOk_iff (p : Pfx) : pfxOk p = true ↔ 0 ≤ p.len ∧ p.len ≤ mostOf p.v6 ∧ ∀ i : Nat, i < 128 → p.len ≤ i → bitAt p.a i ≠ 1 := by
  obtain ⟨v6, a, n⟩ := p
  have hm : 0 ≤ mostOf v6 := by cases v6 <;> decide
  have hc : clampOf v6 n = min (max n 0) (mostOf v6) := by unfold clampOf; rw [imin_eq, imax_eq]
  unfold pfxOk cutOf
  simp only [decide_eq_true_eq, Pfx.mk.injEq, true_and]
  constructor
  · rintro ⟨h1, h2⟩
    rw [h2] at h1
    exact ⟨by omega, by omega, (cutA_iff n a).1 h1⟩
  · rintro ⟨h1, h2, h3⟩
    have h4 : clampOf v6 n = n := by omega
    rw [h4]
    exact ⟨(cutA_iff n a).2 h3, rfl⟩
end Go.Proofs.Ytmoldmnhijcckaa
