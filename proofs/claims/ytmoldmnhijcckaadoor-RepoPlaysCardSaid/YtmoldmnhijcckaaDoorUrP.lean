/- The plain law of places: cut at strokes, and gone through sign by sign, they are the same. No walk stands in this text. -/
import Derived.Test.YtmoldmnhijcckaaDoorNam
set_option linter.unusedVariables false
set_option linter.unusedSectionVars false
set_option linter.unusedSimpArgs false
namespace Go.Proofs.YtmoldmnhijcckaaDoor
open Go.RowKit
def nameL (l : List UInt8) : Bool := nameB ⟨l.toArray⟩
def splitL : List UInt8 → List UInt8 → List (List UInt8)
  | cur, [] => [cur]
  | cur, c :: r => if c = 47 then cur :: splitL [] r else splitL (cur ++ [c]) r
theorem index_one (c : UInt8) (b : UInt8) (l : List UInt8) : Lib.index (b :: l) [c] = if b = c then 0 else if Lib.index l [c] == -1 then -1 else Lib.index l [c] + 1 := by
  rw [Lib.index]
  by_cases h : b = c
  · subst h; simp [List.isPrefixOf]
  · have : ([c] : List UInt8).isPrefixOf (b :: l) = false := by simp [List.isPrefixOf, Ne.symm h]
    rw [this, if_neg h]
    simp
theorem split_stroke (r : List UInt8) : Lib.split (47 :: r) [47] = [] :: Lib.split r [47] := by
  unfold Lib.split
  rw [Lib.count_cons_eq, Nat.add_comm 1, Lib.splitK, index_one, if_pos rfl]
  rfl
theorem split_other {c : UInt8} (hc : c ≠ 47) (r h : List UInt8) (t : List (List UInt8)) (e : Lib.split r [47] = h :: t) : Lib.split (c :: r) [47] = (c :: h) :: t := by
  unfold Lib.split at e ⊢
  rw [Lib.count_cons_ne _ _ _ hc]
  cases hk : Lib.count r [47] with
  | zero =>
    rw [hk] at e
    unfold Lib.splitK at e ⊢
    injection e with e1 e2
    subst e1
    subst e2
    rfl
  | succ k =>
    rw [hk] at e
    by_cases hm : Lib.index r [47] = -1
    · rw [Lib.count_miss hm] at hk; omega
    · have hge := Lib.index_ge r [47]
      obtain ⟨j, hj⟩ : ∃ j : Nat, Lib.index r [47] = j := ⟨(Lib.index r [47]).toNat, by omega⟩
      rw [Lib.splitK, hj, if_neg (by simp)] at e
      rw [Lib.splitK, index_one, if_neg hc, hj, if_neg (show ¬ ((j : Int) == -1) = true by simp), if_neg (show ¬ ((j : Int) + 1 == -1) = true by rw [beq_iff_eq]; omega)]
      have e3 : ((j : Int) + 1).toNat = j + 1 := by omega
      injection e with e1 e2
      rw [e3, ← e1, ← e2]
      simp [Nat.add_right_comm]
theorem split_L : ∀ (s cur : List UInt8), ∃ h t, Lib.split s [47] = h :: t ∧ splitL cur s = (cur ++ h) :: t
  | [], cur => ⟨[], [], by unfold Lib.split; rw [Lib.count_miss (by rfl)]; rfl, by simp [splitL]⟩
  | c :: r, cur => by
    by_cases hc : c = 47
    · subst hc
      obtain ⟨h, t, h1, h2⟩ := split_L r []
      exact ⟨[], Lib.split r [47], split_stroke r, by simp only [splitL, if_true, List.append_nil]; rw [h2, h1]; rfl⟩
    · obtain ⟨h, t, h1, h2⟩ := split_L r (cur ++ [c])
      refine ⟨c :: h, t, split_other hc r h t h1, ?_⟩
      rw [splitL, if_neg hc, h2]
      simp
theorem parts_all (t : ByteArray) : (partsB t).all nameB = (splitL [] t.data.toList).all nameL := by
  obtain ⟨h, l, h1, h2⟩ := split_L t.data.toList []
  rw [h2, List.nil_append, ← h1]
  have h3 := Lib.splitB_data stroke 0 (Lib.countB t stroke) t
  have h4 : Lib.split t.data.toList [47] = (partsB t).map (·.data.toList) := h3.symm
  rw [h4, List.all_map]
  congr 1
/-- A place gone through sign by sign: what is left, and the part at hand. -/
def uR (big : Bool) : List UInt8 → List UInt8 → Bool
  | cur, [] => if cur.isEmpty && big then true else nameL cur
  | cur, c :: r => if c = 47 then nameL cur && uR big [] r else uR big (cur ++ [c]) r
def trimL (l : List UInt8) : List UInt8 := if l.getLast? = some 47 then l.dropLast else l
theorem trimL_cons (c : UInt8) (r : List UInt8) (hr : r ≠ []) : trimL (c :: r) = c :: trimL r := by
  unfold trimL
  rw [List.getLast?_cons_of_ne_nil hr, List.dropLast_cons_of_ne_nil hr]
  split <;> rfl
theorem uR_split : ∀ (l cur : List UInt8), (l ≠ [] ∨ cur ≠ []) → uR true cur l = (splitL cur (trimL l)).all nameL
  | [], cur, h => by
    have hc : cur ≠ [] := h.resolve_left (by simp)
    have : cur.isEmpty = false := by cases cur with | nil => exact absurd rfl hc | cons _ _ => rfl
    simp [uR, trimL, splitL, this]
  | c :: r, cur, _ => by
    by_cases hc : c = 47
    · subst hc
      cases r with
      | nil => simp [uR, trimL, splitL]
      | cons d r =>
        have ih := uR_split (d :: r) [] (.inl (by simp))
        rw [trimL_cons _ _ (by simp)]
        rw [uR, if_pos rfl, ih, splitL, if_pos rfl]
        rfl
    · cases r with
      | nil =>
        have ih := uR_split [] (cur ++ [c]) (.inr (by simp))
        rw [uR, if_neg hc, ih]
        have e1 : trimL [c] = [c] := by unfold trimL; rw [if_neg]; simpa using hc
        rw [e1]
        simp [trimL, splitL, hc]
      | cons d r =>
        have ih := uR_split (d :: r) (cur ++ [c]) (.inl (by simp))
        rw [trimL_cons _ _ (by simp), uR, if_neg hc, ih, splitL, if_neg hc]
theorem trim_L (l : List UInt8) : Lib.trimSuffix l [47] = trimL l := by
  unfold Lib.trimSuffix trimL Lib.hasSuffix
  by_cases h : l.getLast? = some 47
  · obtain ⟨ys, hy⟩ := List.getLast?_eq_some_iff.1 h
    subst hy
    have : ([47] : List UInt8).isSuffixOf (ys ++ [47]) = true := by rw [List.isSuffixOf_iff_suffix]; exact List.suffix_append _ _
    rw [if_pos h, if_pos this]
    simp
  · have : ¬ ([47] : List UInt8).isSuffixOf l = true := by
      rw [List.isSuffixOf_iff_suffix]
      rintro ⟨ys, hy⟩
      apply h
      rw [← hy]
      simp
    rw [if_neg h, if_neg this]
theorem uri_R (s : ByteArray) (hp : Lib.hasPrefix s.data.toList scheme.data.toList = true) (h2 : s.size ≤ 200) (h9 : 9 ≤ s.size) : uriB s = uR (decide (9 < s.size)) [] (s.data.toList.drop 8) := by
  have hl : s.data.toList.length = s.size := by simp
  have e1 : bareB s = ⟨(trimL (s.data.toList.drop 8)).toArray⟩ := by
    unfold bareB restB Lib.trimPrefix
    rw [if_pos hp]
    show ByteArray.mk (Lib.trimSuffix (s.data.toList.drop 8) [47]).toArray = _
    rw [trim_L]
  have e2 : uriB s = (splitL [] (trimL (s.data.toList.drop 8))).all nameL := by
    unfold uriB
    rw [hp, decide_eq_true h2, e1, parts_all]
    rfl
  rw [e2]
  have hne : s.data.toList.drop 8 ≠ [] := fun e => by have := congrArg List.length e; rw [List.length_drop] at this; simp at this; omega
  by_cases hb : 9 < s.size
  · rw [decide_eq_true hb, uR_split _ _ (.inl hne)]
  · rw [decide_eq_false hb]
    have h1 : (s.data.toList.drop 8).length = 1 := by rw [List.length_drop]; omega
    generalize s.data.toList.drop 8 = l at h1
    match l, h1 with
    | [c], _ =>
      by_cases hc : c = 47
      · subst hc
        decide
      · have e3 : trimL [c] = [c] := by unfold trimL; rw [if_neg]; simpa using hc
        rw [e3]
        simp [uR, splitL, hc]
theorem uri_short (s : ByteArray) (h : s.size < 9) : uriB s = false := by
  cases hp : Lib.hasPrefix s.data.toList scheme.data.toList
  · unfold uriB; rw [hp]; rfl
  · have hl : s.data.toList.length = s.size := by simp
    have h8 : s.data.toList.drop 8 = [] := List.drop_eq_nil_of_le (by omega)
    have e1 : bareB s = ⟨#[]⟩ := by
      unfold bareB restB Lib.trimPrefix
      rw [if_pos hp]
      show ByteArray.mk (Lib.trimSuffix (s.data.toList.drop 8) [47]).toArray = _
      rw [h8]
      rfl
    unfold uriB
    rw [e1, parts_all]
    simp [splitL, nameL, nameB]
    intro _ _ h3
    exact absurd rfl h3
theorem uri_long (s : ByteArray) (h : 200 < s.size) : uriB s = false := by
  unfold uriB
  rw [decide_eq_false (by omega : ¬ s.size ≤ 200)]
  simp
theorem uri_other (s : ByteArray) (h : Lib.hasPrefix s.data.toList scheme.data.toList = false) : uriB s = false := by
  unfold uriB
  rw [h]
  rfl
end Go.Proofs.YtmoldmnhijcckaaDoor
