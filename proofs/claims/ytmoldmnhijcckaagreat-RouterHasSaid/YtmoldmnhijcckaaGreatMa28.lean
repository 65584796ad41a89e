/- The law PduBack, walked. -/
import Derived.Test.YtmoldmnhijcckaaGreatMa27
import Derived.Test.YtmoldmnhijcckaaGreatMa04
import Derived.Deep.DeepCutAuto
import Derived.Deep.DeepMust
import Derived.WalkSpells
set_option linter.unusedVariables false
set_option linter.unusedSectionVars false
set_option linter.unusedSimpArgs false
namespace Go.Proofs.YtmoldmnhijcckaaGreat
open Go.RowKit
/-- What is written, under a name of its own. -/
theorem write_ok (p : Pdu) (h : pduOk p = true) (xs : List UInt8) (hx : xs = wrB p) (w : World) : Calls Tryz.prog 34 #[p.val] w fun e w' => ∃ A c, e = .returned (.tuple #[.slice A xs.length c, .int .i64 0]) ∧ w'.ownsRow w.heap.size 5 1 (.slice A xs.length c) xs.length (xs.map bv) ∧ Below w.heap.size w w' := by
  subst hx
  refine (write_any p w).mono ?_
  rintro e w1 ⟨h1, _, hb⟩
  obtain ⟨v, rfl, hov⟩ := h1 h
  obtain ⟨A, c, rfl⟩ := own_slice' hov
  exact ⟨A, c, rfl, hov, hb⟩
theorem own_lit0 (w : World) (base : Nat) (e : TypeId) (size : Nat) (hb : base ≤ w.heap.size) : (w.alloc (.cells #[] e)).ownsRow base e size (.slice (some ⟨w.heap.size, 0, none⟩) 0 0) 0 [] := by
  have := World.ownsRow_lit (base := base) (e := e) (size := size) w #[] 0 hb (by simp) (by simp)
  exact this
structure BK (w : World) (B : Nat) (A : Option Addr) (bs : List UInt8) (p : Pdu) (W : World) : Prop where
  bx : Bx w p W
  rd : Reads W B 1 A bs.length (bs.map bv)
theorem BK.next {w : World} {B : Nat} {A : Option Addr} {bs : List UInt8} {p : Pdu} {W W' : World} (h : BK w B A bs p W) (hB : B ≤ w.heap.size) (hb : Below W.heap.size W W') : BK w B A bs p W' :=
  ⟨h.bx.next hb, h.rd.below hb (by have := h.bx.2.size; omega)⟩
theorem BK.start {w : World} {B : Nat} {A : Option Addr} {bs : List UInt8} (hB : B ≤ w.heap.size) (hr : Reads w B 1 A bs.length (bs.map bv)) (p : Pdu) : BK w B A bs p (w.alloc (.cells p.cells.toArray 69)) :=
  ⟨Bx.new w p, hr.alloc hB _⟩
end Go.Proofs.YtmoldmnhijcckaaGreat
/- The law PduJust, walked. -/
set_option linter.unusedVariables false
set_option linter.unusedSectionVars false
set_option linter.unusedSimpArgs false
namespace Go.Proofs.YtmoldmnhijcckaaGreat
open Go.RowKit
theorem readOf_cases (bs : List UInt8) : readOf bs = (bareP 0, 0, 0, 3) ∨ readOf bs = (bareP 0, 0, 4, 2) ∨ readOf bs = (bareP 0, 0, 5, 2) ∨ readOf bs = (bareP 0, 0, 0, 2) ∨
    ∃ q : Pdu, ∃ l : Nat, readOf bs = (q, (l : Int), 0, 0) ∧ pduOk q = true ∧ wrB q = bs.take l ∧ 8 ≤ l ∧ l ≤ bs.length := by
  unfold readOf
  split
  · exact .inl rfl
  split
  · exact .inr (.inl rfl)
  split
  · exact .inr (.inr (.inl rfl))
  rename_i h8 h1 hk
  split
  · exact .inr (.inr (.inr (.inl rfl)))
  rename_i hl
  split
  · exact .inl rfl
  rename_i hlt
  split
  · exact .inr (.inr (.inr (.inl rfl)))
  rename_i hq
  have hk' : isKind (kd bs) = true := by simpa using hk
  have hl' : longOk bs = true := by simpa using hl
  have hg := long_ge hk' hl'
  simp only [Bool.not_eq_false, Bool.and_eq_true, decide_eq_true_eq] at hq
  exact .inr (.inr (.inr (.inr ⟨_, longOf bs, rfl, hq.1, hq.2, by omega, by omega⟩)))
structure RW (w : World) (B : Nat) (A : Option Addr) (bs : List UInt8) (g : Nat) (q : Pdu) (W : World) : Prop where
  rd : Reads W B 1 A bs.length (bs.map bv)
  q : Blk W g 69 q.cells
  b : Below w.heap.size w W
theorem RW.next {w : World} {B g : Nat} {A : Option Addr} {bs : List UInt8} {q : Pdu} {W W' : World} (h : RW w B A bs g q W) (hB : B ≤ w.heap.size) (hb : Below W.heap.size W W') : RW w B A bs g q W' :=
  ⟨h.rd.below hb (by have := h.b.size; omega), h.q.below hb h.q.lt, below_then h.b (Nat.le_refl _) hb⟩
theorem RW.drew {w : World} {B g : Nat} {A : Option Addr} {bs : List UInt8} {q : Pdu} {W : World} (h : RW w B A bs g q W) : RW w B A bs g q W.drew := ⟨h.rd.drew, h.q.drew, h.b.drew⟩
structure RW2 (w : World) (B : Nat) (A : Option Addr) (bs : List UInt8) (g : Nat) (q : Pdu) (B2 : Nat) (A' : Option Addr) (W : World) : Prop where
  rw : RW w B A bs g q W
  r2 : Reads W B2 1 A' (wrB q).length ((wrB q).map bv)
  le : B2 ≤ W.heap.size
theorem RW2.next {w : World} {B g : Nat} {A : Option Addr} {bs : List UInt8} {q : Pdu} {B2 : Nat} {A' : Option Addr} {W W' : World} (h : RW2 w B A bs g q B2 A' W) (hB : B ≤ w.heap.size) (hb : Below W.heap.size W W') : RW2 w B A bs g q B2 A' W' :=
  ⟨h.rw.next hB hb, h.r2.below hb h.le, Nat.le_trans h.le hb.size⟩
theorem RW2.drew {w : World} {B g : Nat} {A : Option Addr} {bs : List UInt8} {q : Pdu} {B2 : Nat} {A' : Option Addr} {W : World} (h : RW2 w B A bs g q B2 A' W) : RW2 w B A bs g q B2 A' W.drew := ⟨h.rw.drew, h.r2.drew, h.le⟩
end Go.Proofs.YtmoldmnhijcckaaGreat
/- The plain law behind PduParts: the messages of bytes; wherever the bytes are parted, they are read as they were. No program stands in this text. -/
set_option linter.unusedVariables false
set_option linter.unusedSectionVars false
set_option linter.unusedSimpArgs false
namespace Go.Proofs.YtmoldmnhijcckaaGreat
open Go.RowKit
theorem readOf_zero {bs : List UInt8} (h : (readOf bs).2.2.2 = 0) : ∃ l : Nat, (readOf bs).2.1 = l ∧ 8 ≤ l ∧ l ≤ bs.length := by
  rcases readOf_cases bs with e | e | e | e | ⟨q, l, e, _, _, h1, h2⟩
  all_goals rw [e] at h
  any_goals (exfalso; revert h; decide)
  exact ⟨l, by rw [e], h1, h2⟩
/-- The messages of bytes, what is left, a code, an error. -/
def allOf (bs : List UInt8) : List Pdu × List UInt8 × Int × Int :=
  if h : (readOf bs).2.2.2 = 0 then
    ((readOf bs).1 :: (allOf (bs.drop (readOf bs).2.1.toNat)).1, (allOf (bs.drop (readOf bs).2.1.toNat)).2)
  else if (readOf bs).2.2.2 = 3 then ([], bs, 0, 0) else ([], bs, (readOf bs).2.2.1, (readOf bs).2.2.2)
termination_by bs.length
decreasing_by
  all_goals
    obtain ⟨l, h1, h2, h3⟩ := readOf_zero h
    rw [h1, List.length_drop]
    omega
theorem all_ok {bs : List UInt8} {q : Pdu} {n c : Int} (h : readOf bs = (q, n, c, 0)) : allOf bs = (q :: (allOf (bs.drop n.toNat)).1, (allOf (bs.drop n.toNat)).2) := by
  rw [allOf, dif_pos (by rw [h]), h]
theorem all_short {bs : List UInt8} {q : Pdu} {n c : Int} (h : readOf bs = (q, n, c, 3)) : allOf bs = ([], bs, 0, 0) := by
  rw [allOf, dif_neg (by rw [h]; simp), if_pos (by rw [h])]
theorem all_bad {bs : List UInt8} {q : Pdu} {n c x : Int} (h : readOf bs = (q, n, c, x)) (h0 : x ≠ 0) (h3 : x ≠ 3) : allOf bs = ([], bs, c, x) := by
  rw [allOf, dif_neg (by rw [h]; exact h0), if_neg (by rw [h]; exact h3), h]
theorem all_wr {p : Pdu} (h : pduOk p = true) (r : List UInt8) : allOf (wrB p ++ r) = (p :: (allOf r).1, (allOf r).2) := by
  rw [all_ok (read_wr h r), Int.toNat_natCast, List.drop_left' rfl]
theorem all_nil : allOf [] = ([], [], 0, 0) := all_short (q := bareP 0) (n := 0) (c := 0) (by unfold readOf; rw [if_pos (by simp)])
theorem all_flat (ps : List Pdu) (h : ∀ p ∈ ps, pduOk p = true) : allOf (ps.flatMap wrB) = (ps, [], 0, 0) := by
  induction ps with
  | nil => exact all_nil
  | cons p ps ih =>
    rw [List.flatMap_cons, all_wr (h p (by simp)), ih fun q hq => h q (by simp [hq])]
theorem parts_law (ps : List Pdu) (h : ∀ p ∈ ps, pduOk p = true) : ∀ k : Nat, k ≤ (ps.flatMap wrB).length → ∃ (j : Nat) (rest : List UInt8), allOf ((ps.flatMap wrB).take k) = (ps.take j, rest, 0, 0) ∧ rest.length ≤ k ∧
    allOf (rest ++ (ps.flatMap wrB).drop k) = (ps.drop j, [], 0, 0) := by
  induction ps with
  | nil => intro k hk; exact ⟨0, [], by simpa using all_nil, by simp, by simpa using all_nil⟩
  | cons p ps ih =>
    intro k hk
    have hp := h p (by simp)
    by_cases hlt : k < (wrB p).length
    · refine ⟨0, (wrB p).take k, ?_, by simp; omega, ?_⟩
      · rw [List.flatMap_cons, List.take_append_of_le_length (by omega)]
        exact all_short (read_cutoff hp k hlt)
      · have := all_flat (p :: ps) h
        rw [List.flatMap_cons] at this ⊢
        rw [List.drop_append_of_le_length (by omega), ← List.append_assoc, List.take_append_drop]
        exact this
    · obtain ⟨j, rest, h1, h2, h3⟩ := ih (fun q hq => h q (by simp [hq])) (k - (wrB p).length) (by rw [List.flatMap_cons, List.length_append] at hk; omega)
      refine ⟨j + 1, rest, ?_, by omega, ?_⟩
      · rw [List.flatMap_cons, List.take_append, List.take_of_length_le (by omega), all_wr hp, h1]; rfl
      · rw [List.flatMap_cons, List.drop_append, List.drop_of_length_le (by omega), List.nil_append]; exact h3
end Go.Proofs.YtmoldmnhijcckaaGreat
/- The contracts of bytes.Clone and lanyardref25.Same. Conditions: a length that memory allows. -/
set_option linter.unusedVariables false
set_option linter.unusedSectionVars false
set_option linter.unusedSimpArgs false
namespace Go.Proofs.YtmoldmnhijcckaaGreat
open Go.RowKit
theorem clone_any (bs : List UInt8) (A : Option Addr) (c B : Nat) (hlen : bs.length ≤ 140737488355000) (w : World) (hB : B ≤ w.heap.size) (hr : Reads w B 1 A bs.length (bs.map bv)) :
    Calls Tryz.prog 73 #[.slice A bs.length c] w fun e w' => ∃ A' c', e = .returned (.slice A' bs.length c') ∧ bs.length ≤ c' ∧ Reads w' w'.heap.size 1 A' bs.length (bs.map bv) ∧ Below w.heap.size w w' := by
  cases A with
  | none =>
    have h0 : bs.length = 0 := by
      rcases Nat.eq_zero_or_pos bs.length with h | h
      · exact h
      · obtain ⟨ad, e, _⟩ := hr.2 h
        cases e
    have H0 := Lib.hid (List.eq_nil_of_length_eq_zero h0)
    clear hr
    have hz : (Go.binOp .eql 29 (.slice none bs.length c) (.slice none 0 0)).run Tryz.prog w = .ok (.bool true) w := Lib.run_eql_slice_nil w _ _ none bs.length c 0 0 Tryz.underlying29
    rw [h0] at hz ⊢
    clear h0
    go_enter Tryz.func73, Tryz.ntmps73
    go_wp2
    go_ret
    exact ⟨none, 0, rfl, Nat.le_refl _, by rw [H0.out]; exact Reads.none_, Below.refl _ _⟩
  | some ad =>
    obtain ⟨i0, hi0, hz0, hz1, hz2⟩ := info_parts info5b
    have hl0 := own_lit0 w w.heap.size 5 1 (Nat.le_refl _)
    have hbA : Below w.heap.size w (w.alloc (.cells #[] 5)) := (Below.refl _ _).alloc (Nat.le_refl _) _
    have hz : (Go.binOp .eql 29 (.slice (some ad) bs.length c) (.slice none 0 0)).run Tryz.prog w = .ok (.bool false) w := Lib.run_eql_slice_nil w _ _ (some ad) bs.length c 0 0 Tryz.underlying29
    go_enter Tryz.func73, Tryz.ntmps73
    go_wp2_with (at_builtin; go_must (refine wpList_append_any _ rfl _ _ 29 rfl w.heap.size 5 i0 _ 1 1 Tryz.underlying29 hi0 hz0 hz1 hz2 rfl (by omega) _ 0 _ rfl hl0 B (some ad) bs.length c _ rfl (hr.alloc hB _) (bv_one _) (by simp only [maxLen]; omega) (by omega) (by simp) ?_; intro v4 w4 ho4 hg4 _; rw [Nat.zero_add, List.nil_append] at ho4; obtain ⟨A4, c4, rfl⟩ := own_slice' ho4; have hb4 := hbA.grown hg4 (by simp) (fun k hk => (own_base_le hl0 k hk).1); clear hg4))
    go_ret
    exact ⟨A4, c4, rfl, own_cap ho4, Reads.of_own ho4, hb4⟩
theorem clone_n (bs : List UInt8) (n : Nat) (hn : bs.length = n) (A : Option Addr) (c B : Nat) (hlen : n ≤ 140737488355000) (w : World) (hB : B ≤ w.heap.size) (hr : Reads w B 1 A n (bs.map bv)) :
    Calls Tryz.prog 73 #[.slice A n c] w fun e w' => ∃ A' c', e = .returned (.slice A' n c') ∧ n ≤ c' ∧ Reads w' w'.heap.size 1 A' n (bs.map bv) ∧ Below w.heap.size w w' := by
  subst hn
  exact clone_any bs A c B hlen w hB hr
end Go.Proofs.YtmoldmnhijcckaaGreat
