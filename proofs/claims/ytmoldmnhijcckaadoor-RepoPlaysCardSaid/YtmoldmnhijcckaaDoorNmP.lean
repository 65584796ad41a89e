/- The plain law of names put in, one by one, at their places. No walk stands in this text. -/
import Derived.Test.YtmoldmnhijcckaaDoorRepP
import Derived.Test.YtmoldmnhijcckaaDoorU20
import Derived.Lib.IndexAny
set_option linter.unusedVariables false
set_option linter.unusedSectionVars false
set_option linter.unusedSimpArgs false
namespace Go.Proofs.YtmoldmnhijcckaaDoor
open Go.RowKit
def atL (l : List (List UInt8)) (n : List UInt8) : Nat := (l.takeWhile fun x => decide (x < n)).length
def insL (l : List (List UInt8)) (n : List UInt8) : List (List UInt8) := l.take (atL l n) ++ n :: l.drop (atL l n)
theorem insL_perm (l : List (List UInt8)) (n : List UInt8) : (insL l n).Perm (l ++ [n]) := by
  unfold insL
  have h : (l.take (atL l n) ++ n :: l.drop (atL l n)).Perm (n :: (l.take (atL l n) ++ l.drop (atL l n))) := List.perm_middle
  rw [List.take_append_drop] at h
  exact h.trans (List.perm_append_comm (l₁ := [n]) (l₂ := l))
theorem take_while (p : List UInt8 → Bool) : ∀ l : List (List UInt8), l.take (l.takeWhile p).length = l.takeWhile p ∧ l.drop (l.takeWhile p).length = l.dropWhile p
  | [] => ⟨rfl, rfl⟩
  | a :: l => by
    by_cases h : p a = true
    · have ih := take_while p l
      simp [h, ih]
    · simp [h]
theorem insL_sorted (l : List (List UInt8)) (n : List UInt8) (h : l.Pairwise (· ≤ ·)) : (insL l n).Pairwise (· ≤ ·) := by
  unfold insL atL
  obtain ⟨h1, h2⟩ := take_while (fun x => decide (x < n)) l
  rw [h1, h2]
  have hs : l.takeWhile (fun x => decide (x < n)) ++ l.dropWhile (fun x => decide (x < n)) = l := List.takeWhile_append_dropWhile
  have ht : ∀ x ∈ l.takeWhile (fun x => decide (x < n)), x < n := by
    have hall : ∀ l : List (List UInt8), ∀ x ∈ l.takeWhile (fun x => decide (x < n)), x < n := by
      intro l
      induction l with
      | nil => intro x hx; simp at hx
      | cons a l ih =>
        intro x hx
        by_cases ha : a < n
        · rw [List.takeWhile_cons_of_pos (by simpa using ha)] at hx
          rcases List.mem_cons.1 hx with rfl | hx
          · exact ha
          · exact ih x hx
        · rw [List.takeWhile_cons_of_neg (by simpa using ha)] at hx
          simp at hx
    exact hall l
  have hd : ∀ y ∈ l.dropWhile (fun x => decide (x < n)), n ≤ y := by
    cases hl : l.dropWhile (fun x => decide (x < n)) with
    | nil => intro y hy; simp at hy
    | cons z r =>
      have hz : ¬ z < n := by
        have := List.head?_dropWhile_not (fun x => decide (x < n)) l
        rw [hl] at this
        simpa using this
      have hzn : n ≤ z := List.not_lt.1 hz
      rw [← hs, hl] at h
      have h3 := (List.pairwise_append.1 h).2.1
      intro y hy
      rcases List.mem_cons.1 hy with rfl | hy
      · exact hzn
      · exact List.le_trans hzn ((List.pairwise_cons.1 h3).1 y hy)
  rw [← hs] at h
  obtain ⟨p1, p2, p3⟩ := List.pairwise_append.1 h
  rw [List.pairwise_append]
  refine ⟨p1, List.pairwise_cons.2 ⟨hd, p2⟩, fun a ha b hb => ?_⟩
  rcases List.mem_cons.1 hb with rfl | hb
  · exact List.le_of_lt (ht a ha)
  · exact p3 a ha b hb
def insAll (acc : List (List UInt8)) (ts : List (List UInt8)) : List (List UInt8) := ts.foldl insL acc
theorem insAll_law : ∀ (ts acc : List (List UInt8)), acc.Pairwise (· ≤ ·) → (insAll acc ts).Pairwise (· ≤ ·) ∧ (insAll acc ts).Perm (acc ++ ts)
  | [], acc, h => ⟨h, by simp [insAll]⟩
  | t :: ts, acc, h => by
    have ih := insAll_law ts (insL acc t) (insL_sorted acc t h)
    refine ⟨ih.1, ih.2.trans ?_⟩
    have := (insL_perm acc t).append_right ts
    simpa using this
theorem insAll_sort (ts : List (List UInt8)) : insAll [] ts = ts.mergeSort leB := by
  have h := insAll_law ts [] List.Pairwise.nil
  have tr : ∀ a b c : List UInt8, leB a b = true → leB b c = true → leB a c = true := fun a b c h1 h2 => by simp only [leB, decide_eq_true_eq] at *; exact List.le_trans h1 h2
  have tot : ∀ a b : List UInt8, (leB a b || leB b a) = true := fun a b => by simp only [leB, Bool.or_eq_true, decide_eq_true_eq]; exact List.le_total a b
  have hp := List.pairwise_mergeSort tr tot ts
  refine List.Perm.eq_of_pairwise (le := fun a b => leB a b = true) ?_ ?_ hp ?_
  · intro a b _ _ h1 h2
    simp only [leB, decide_eq_true_eq] at *
    exact List.le_antisymm h1 h2
  · refine h.1.imp ?_
    intro a b hab
    simpa [leB] using hab
  · exact (by simpa using h.2 : (insAll [] ts).Perm ts).trans (List.mergeSort_perm ts leB).symm
theorem atL_le (l : List (List UInt8)) (n : List UInt8) : atL l n ≤ l.length := by
  unfold atL
  exact (List.takeWhile_sublist _).length_le
theorem atL_step (n : List UInt8) : ∀ (l : List (List UInt8)) (a : Nat) (h : a ≤ l.length) (hlt : ∀ t (ht : t < a), l[t]'(by omega) < n) (hend : ∀ h : a < l.length, ¬ l[a] < n), atL l n = a
  | [], a, h, _, _ => by simp at h; subst h; rfl
  | x :: l, 0, h, _, hend => by
    have : ¬ x < n := hend (by simp)
    unfold atL
    rw [List.takeWhile_cons_of_neg (by simpa using this)]
    rfl
  | x :: l, a + 1, h, hlt, hend => by
    have hx : x < n := hlt 0 (by omega)
    have ih := atL_step n l a (by simpa using h) (fun t ht => hlt (t + 1) (by omega)) (fun h => hend (by simpa using h))
    unfold atL at ih ⊢
    rw [List.takeWhile_cons_of_pos (by simpa using hx), List.length_cons, ih]
theorem pref_ext (u d : ByteArray) : (u.extract 0 d.size = d) ↔ Lib.hasPrefix u.data.toList d.data.toList = true := by
  have e1 : (u.extract 0 d.size).data.toList = u.data.toList.take d.size := Lib.extract_from_zero u d.size
  have hl : d.data.toList.length = d.size := by simp
  unfold Lib.hasPrefix
  rw [List.isPrefixOf_iff_prefix, List.prefix_iff_eq_take, hl]
  constructor
  · intro h
    rw [← e1, h]
  · intro h
    apply ByteArray.ext
    apply Array.toList_inj.1
    rw [e1, ← h]
theorem nameIn_far (d u : ByteArray) (h : u.extract 0 d.size ≠ d) : nameIn d u = none := by
  unfold nameIn
  rw [if_neg]
  intro hc
  simp only [Bool.and_eq_true] at hc
  exact h ((pref_ext u d).2 hc.1)
theorem nameIn_short (d u : ByteArray) (h : u.size ≤ d.size) : nameIn d u = none := by
  cases hn : nameIn d u with
  | none => rfl
  | some t =>
    exfalso
    obtain ⟨h1, h2, _⟩ := nameIn_some hn
    have hl := congrArg List.length h1
    rw [List.length_append] at hl
    have hu : u.data.toList.length = u.size := by simp
    have hd : d.data.toList.length = d.size := by simp
    have : t.length = 0 := by omega
    rw [List.eq_nil_of_length_eq_zero this] at h2
    simp at h2
theorem nameIn_at (d u : ByteArray) (h : u.extract 0 d.size = d) (hlt : d.size < u.size) : nameIn d u = if decide (0 ≤ Lib.indexByte (u.extract d.size u.size).data.toList 47) then none else some (u.extract d.size u.size).data.toList := by
  have hp := (pref_ext u d).1 h
  have hd : d.data.toList.length = d.size := by simp
  have hu : u.data.toList.length = u.size := by simp
  have e2 : tailB d u = (u.extract d.size u.size).data.toList := by
    unfold tailB Lib.trimPrefix
    rw [if_pos hp, Lib.extract_data, hd]
    rw [List.take_of_length_le (by rw [List.length_drop]; omega)]
  have hne : (u.extract d.size u.size).data.toList.isEmpty = false := by
    have : (u.extract d.size u.size).data.toList.length = u.size - d.size := by
      rw [← e2]
      unfold tailB Lib.trimPrefix
      rw [if_pos hp, List.length_drop]
      omega
    cases hx : (u.extract d.size u.size).data.toList with
    | nil => rw [hx] at this; simp at this; omega
    | cons _ _ => rfl
  unfold nameIn
  rw [hp, e2, hne]
  cases decide (0 ≤ Lib.indexByte (u.extract d.size u.size).data.toList 47) <;> rfl
theorem bare_end (n : ByteArray) : decide (0 ≤ Lib.indexByte n.data.toList 47) = !(n.data.toList.all fun c => c != 47) := by
  rw [← Lib.contains_iff_indexByte]
  induction n.data.toList with
  | nil => rfl
  | cons a l ih =>
    rw [List.contains_cons, List.all_cons, ih]
    by_cases h : a = 47
    · subst h; rfl
    · have h1 : ((47 : UInt8) == a) = false := beq_eq_false_iff_ne.2 (fun e => h e.symm)
      have h2 : (a != 47) = true := bne_iff_ne.2 h
      rw [h1, h2]
      rfl
theorem namesIns (es : List Blb) (d : ByteArray) : insAll [] (namesRaw es d) = namesOf es d := insAll_sort _
end Go.Proofs.YtmoldmnhijcckaaDoor
