/- The plain laws of names within a place: they are of blobs, rise, and are told. No walk stands in this text. -/
import Derived.Test.YtmoldmnhijcckaaDoorRepE
import Derived.Sort.Walk0
set_option linter.unusedVariables false
set_option linter.unusedSectionVars false
set_option linter.unusedSimpArgs false
namespace Go.Proofs.YtmoldmnhijcckaaDoor
open Go.RowKit
theorem nameIn_some {d u : ByteArray} {t : List UInt8} (h : nameIn d u = some t) : u.data.toList = d.data.toList ++ t ∧ t.isEmpty = false ∧ ¬ 0 ≤ Lib.indexByte t 47 := by
  unfold nameIn at h
  split at h
  · rename_i hc
    simp only [Bool.and_eq_true, Bool.not_eq_true', decide_eq_false_iff_not] at hc
    obtain ⟨h1, h2, h3⟩ := hc
    injection h with h
    subst h
    refine ⟨?_, h2, h3⟩
    unfold tailB Lib.trimPrefix
    rw [if_pos h1]
    unfold Lib.hasPrefix at h1
    obtain ⟨r, hr⟩ := List.isPrefixOf_iff_prefix.1 h1
    rw [← hr, List.drop_left]
  · cases h
theorem addF_keys (l : List (ByteArray × List UInt8)) (b : Blb) (h : l.Pairwise fun p q => p.1 ≠ q.1) : (addF l b).Pairwise fun p q => p.1 ≠ q.1 := by
  unfold addF
  split
  · exact h
  · rename_i hn
    rw [List.pairwise_append]
    refine ⟨h, List.pairwise_singleton _ _, fun a ha c hc => ?_⟩
    obtain rfl := List.mem_singleton.1 hc
    intro e
    apply hn
    rw [List.any_eq_true]
    exact ⟨a, ha, by rw [e]; exact (beqB _ _).2 rfl⟩
theorem firstsOf_keys (xs : List Blb) : (firstsOf xs).Pairwise fun p q => p.1 ≠ q.1 := by
  have : ∀ (xs : List Blb) (l : List (ByteArray × List UInt8)), l.Pairwise (fun p q => p.1 ≠ q.1) → (xs.foldl addF l).Pairwise fun p q => p.1 ≠ q.1 := by
    intro xs
    induction xs with
    | nil => intro l h; exact h
    | cons x xs ih => intro l h; exact ih _ (addF_keys l x h)
  exact this xs [] List.Pairwise.nil
theorem raw_nodup {es : List Blb} {xs : List Blb} (hes : es.map (fun e => (e.u, e.bs)) = firstsOf xs) (d : ByteArray) : (namesRaw es d).Nodup := by
  rw [namesRaw_map, hes]
  unfold List.Nodup
  rw [List.pairwise_filterMap]
  refine (firstsOf_keys xs).imp fun {p q} hne b hb b' hb' e => hne ?_
  subst e
  have h1 := (nameIn_some hb).1
  have h2 := (nameIn_some hb').1
  exact ByteArray.ext (Array.toList_inj.1 (h1.trans h2.symm))
theorem names_mem {es : List Blb} {d : ByteArray} {t : List UInt8} (h : t ∈ namesOf es d) : ∃ e ∈ es, nameIn d e.u = some t := by
  unfold namesOf at h
  rw [List.mem_mergeSort] at h
  unfold namesRaw at h
  obtain ⟨e, he, h2⟩ := List.mem_filterMap.1 h
  exact ⟨e, he, h2⟩
theorem names_get {es : List Blb} {d : ByteArray} {t : List UInt8} (h : t ∈ namesOf es d) : ∃ bs, getK es (d ++ ⟨t.toArray⟩) = some bs := by
  obtain ⟨e, he, hn⟩ := names_mem h
  have hu : e.u = d ++ ⟨t.toArray⟩ := by
    apply ByteArray.ext
    apply Array.toList_inj.1
    rw [(nameIn_some hn).1]
    simp
  unfold getK
  cases hf : es.find? fun x => d ++ ⟨t.toArray⟩ == x.u with
  | some x => exact ⟨x.bs, rfl⟩
  | none =>
    have := List.find?_eq_none.1 hf e he
    exact absurd ((beqB _ _).2 hu.symm) this
theorem names_rise {es : List Blb} {xs : List Blb} (hes : es.map (fun e => (e.u, e.bs)) = firstsOf xs) (d : ByteArray) {i j : Nat} (hij : i < j) (hj : j < (namesOf es d).length) : (namesOf es d)[i]'(by omega) < (namesOf es d)[j] := by
  have tr : ∀ a b c : List UInt8, leB a b = true → leB b c = true → leB a c = true := fun a b c h1 h2 => by simp only [leB, decide_eq_true_eq] at *; exact List.le_trans h1 h2
  have tot : ∀ a b : List UInt8, (leB a b || leB b a) = true := fun a b => by simp only [leB, Bool.or_eq_true, decide_eq_true_eq]; exact List.le_total a b
  have hp := List.pairwise_iff_getElem.1 (List.pairwise_mergeSort tr tot (namesRaw es d)) i j (by unfold namesOf at hj; omega) hj hij
  have hnd : (namesOf es d).Nodup := (List.mergeSort_perm _ _).nodup_iff.2 (raw_nodup hes d)
  have hne := List.pairwise_iff_getElem.1 hnd i j (by omega) hj hij
  simp only [decide_eq_true_eq] at hp
  by_cases hlt : (namesOf es d)[i]'(by omega) < (namesOf es d)[j]
  · exact hlt
  · exact absurd (List.le_antisymm hp (List.not_lt.1 hlt)) hne
def zzU : ByteArray := ⟨#[114, 115, 121, 110, 99, 58, 47, 47, 122, 122, 47, 122, 122, 47, 122, 122]⟩
def zzD : ByteArray := ⟨#[114, 115, 121, 110, 99, 58, 47, 47, 122, 122, 47, 122, 122, 47]⟩
theorem zz_good : uriB zzU = true ∧ dirB zzU = false := by decide +kernel
theorem zz_take : ∀ k : Fin 17, (!(Lib.hasSuffix (zzU.data.toList.take k.val) stroke.data.toList && decide (¬ 0 ≤ Lib.indexByte (zzU.data.toList.drop k.val) 47) && !(zzU.data.toList.drop k.val).isEmpty) || decide (zzU.data.toList.take k.val = zzD.data.toList)) = true := by decide +kernel
theorem zz_none {d : ByteArray} (hd : dirB d = true) (hne : d ≠ zzD) : nameIn d zzU = none := by
  cases h : nameIn d zzU with
  | none => rfl
  | some t =>
    exfalso
    obtain ⟨h1, h2, h3⟩ := nameIn_some h
    have hs : Lib.hasSuffix d.data.toList stroke.data.toList = true := by unfold dirB at hd; simp at hd; exact hd.2
    have hlen : d.data.toList.length ≤ 16 := by
      have := congrArg List.length h1
      rw [List.length_append] at this
      have h16 : zzU.data.toList.length = 16 := rfl
      omega
    have e1 : zzU.data.toList.take d.data.toList.length = d.data.toList := by rw [h1, List.take_left]
    have e2 : zzU.data.toList.drop d.data.toList.length = t := by rw [h1, List.drop_left]
    have hz := zz_take ⟨d.data.toList.length, by omega⟩
    simp only [e1, e2, hs, h2, Bool.not_false, Bool.and_true, Bool.true_and] at hz
    rw [decide_eq_true h3] at hz
    simp at hz
    exact hne (ByteArray.ext hz)
theorem addF_names (l : List (ByteArray × List UInt8)) (b : Blb) (d : ByteArray) (h : nameIn d b.u = none) : (addF l b).filterMap (fun q => nameIn d q.1) = l.filterMap fun q => nameIn d q.1 := by
  unfold addF
  split
  · rfl
  · rw [List.filterMap_append]
    simp [h]
end Go.Proofs.YtmoldmnhijcckaaDoor
