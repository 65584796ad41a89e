/- The plain law behind PduParts: the messages of bytes; wherever the bytes are parted, they are read as they were. No program stands in this text. -/
import Derived.Test.YtmoldmnhijcckaaBackL
import Derived.Test.YtmoldmnhijcckaaJust
set_option linter.unusedVariables false
set_option linter.unusedSectionVars false
set_option linter.unusedSimpArgs false
namespace Go.Proofs.Ytmoldmnhijcckaa
open Go.RowKit
theorem readOf_zero {bs : List UInt8} (h : (readOf bs).2.2.2 = 0) : ∃ l : Nat, (readOf bs).2.1 = l ∧ 8 ≤ l ∧ l ≤ bs.length := by
  rcases readOf_cases bs with e | e | e | e | ⟨q, l, e, _, _, h1, h2⟩
  all_goals rw [e] at h
  any_goals (exfalso; revert h; decide)
  exact ⟨l, by rw [e], h1, h2⟩
/-- The messages of bytes, what is left, a code, an error. -/
def allOf (bs : List UInt8) : List Pdu × List UInt8 × Int × Int :=
  if h : (readOf bs).2.2.2 = 0 then
    ((readOf bs).1 :: (allOf (bs.drop (readOf bs).2.1.toNat)).1, (allOf (bs.drop (readOf bs).2.1.toNat)).2)
  else if (readOf bs).2.2.2 = 3 then ([], bs, 0, 0) else ([], bs, (readOf bs).2.2.1, (readOf bs).2.2.2)
termination_by bs.length
decreasing_by
  all_goals
    obtain ⟨l, h1, h2, h3⟩ := readOf_zero h
    rw [h1, List.length_drop]
    omega
theorem all_ok {bs : List UInt8} {q : Pdu} {n c : Int} (h : readOf bs = (q, n, c, 0)) : allOf bs = (q :: (allOf (bs.drop n.toNat)).1, (allOf (bs.drop n.toNat)).2) := by
  rw [allOf, dif_pos (by rw [h]), h]
theorem all_short {bs : List UInt8} {q : Pdu} {n c : Int} (h : readOf bs = (q, n, c, 3)) : allOf bs = ([], bs, 0, 0) := by
  rw [allOf, dif_neg (by rw [h]; simp), if_pos (by rw [h])]
theorem all_bad {bs : List UInt8} {q : Pdu} {n c x : Int} (h : readOf bs = (q, n, c, x)) (h0 : x ≠ 0) (h3 : x ≠ 3) : allOf bs = ([], bs, c, x) := by
  rw [allOf, dif_neg (by rw [h]; exact h0), if_neg (by rw [h]; exact h3), h]
theorem all_wr {p : Pdu} (h : pduOk p = true) (r : List UInt8) : allOf (wrB p ++ r) = (p :: (allOf r).1, (allOf r).2) := by
  rw [all_ok (read_wr h r), Int.toNat_natCast, List.drop_left' rfl]
theorem all_nil : allOf [] = ([], [], 0, 0) := all_short (q := bareP 0) (n := 0) (c := 0) (by unfold readOf; rw [if_pos (by simp)])
theorem all_flat (ps : List Pdu) (h : ∀ p ∈ ps, pduOk p = true) : allOf (ps.flatMap wrB) = (ps, [], 0, 0) := by
  induction ps with
  | nil => exact all_nil
  | cons p ps ih =>
    rw [List.flatMap_cons, all_wr (h p (by simp)), ih fun q hq => h q (by simp [hq])]
theorem parts_law (ps : List Pdu) (h : ∀ p ∈ ps, pduOk p = true) : ∀ k : Nat, k ≤ (ps.flatMap wrB).length → ∃ (j : Nat) (rest : List UInt8), allOf ((ps.flatMap wrB).take k) = (ps.take j, rest, 0, 0) ∧ rest.length ≤ k ∧
    allOf (rest ++ (ps.flatMap wrB).drop k) = (ps.drop j, [], 0, 0) := by
  induction ps with
  | nil => intro k hk; exact ⟨0, [], by simpa using all_nil, by simp, by simpa using all_nil⟩
  | cons p ps ih =>
    intro k hk
    have hp := h p (by simp)
    by_cases hlt : k < (wrB p).length
    · refine ⟨0, (wrB p).take k, ?_, by simp; omega, ?_⟩
      · rw [List.flatMap_cons, List.take_append_of_le_length (by omega)]
        exact all_short (read_cutoff hp k hlt)
      · have := all_flat (p :: ps) h
        rw [List.flatMap_cons] at this ⊢
        rw [List.drop_append_of_le_length (by omega), ← List.append_assoc, List.take_append_drop]
        exact this
    · obtain ⟨j, rest, h1, h2, h3⟩ := ih (fun q hq => h q (by simp [hq])) (k - (wrB p).length) (by rw [List.flatMap_cons, List.length_append] at hk; omega)
      refine ⟨j + 1, rest, ?_, by omega, ?_⟩
      · rw [List.flatMap_cons, List.take_append, List.take_of_length_le (by omega), all_wr hp, h1]; rfl
      · rw [List.flatMap_cons, List.drop_append, List.drop_of_length_le (by omega), List.nil_append]; exact h3
end Go.Proofs.Ytmoldmnhijcckaa
