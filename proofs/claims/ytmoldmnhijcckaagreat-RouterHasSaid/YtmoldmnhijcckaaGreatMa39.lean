/- Serials, as plain law: which are remembered, and what a router is told that asks by one. -/
import Derived.Test.YtmoldmnhijcckaaGreatMa38
import Derived.Test.YtmoldmnhijcckaaGreatMa12
set_option linter.unusedVariables false
set_option linter.unusedSectionVars false
set_option linter.unusedSimpArgs false
namespace Go.Proofs.YtmoldmnhijcckaaGreat
open Go.RowKit
/-- The serials that are remembered when there were n other rows. -/
def serL (n : Nat) : List UInt32 := (List.range' (n - min n 5) (min n 5)).map fun j => 10 + UInt32.ofNat j
def updM (l : List UInt32) : List UInt32 := if 5 < l.length then l.drop 1 else l
theorem ser_step : ∀ n, n < 12 → updM (serL n ++ [9 + UInt32.ofNat n + 1]) = serL (n + 1) := by decide
theorem ser_num : ∀ n, n < 12 → (9 + UInt32.ofNat n + 1 : UInt32) = 9 + UInt32.ofNat (n + 1) := by decide
theorem ser_last : ∀ m, m < 12 → serL (m + 1) = (serL (m + 1)).dropLast ++ [9 + UInt32.ofNat (m + 1)] ∧ (9 + UInt32.ofNat (m + 1)) ∉ (serL (m + 1)).dropLast := by decide
theorem ser_len : ∀ n, n < 13 → (serL n).length = min n 5 := by decide
theorem ser_mem (n : Nat) (hn : n ≤ 12) (ago : UInt32) : (9 + UInt32.ofNat n - ago ∈ serL n) ↔ ago.toNat < min n 5 := by
  unfold serL
  rw [List.mem_map]
  have ha := ago.toNat_lt
  constructor
  · rintro ⟨j, hj, e⟩
    have hj' := List.mem_range'_1.1 hj
    have e2 := congrArg UInt32.toNat e
    rw [UInt32.toNat_sub, UInt32.toNat_add, UInt32.toNat_add, UInt32.toNat_ofNat, UInt32.toNat_ofNat] at e2
    simp at e2
    omega
  · intro h
    refine ⟨n - 1 - ago.toNat, List.mem_range'_1.2 ⟨by omega, by omega⟩, UInt32.toNat.inj ?_⟩
    rw [UInt32.toNat_sub, UInt32.toNat_add, UInt32.toNat_add, UInt32.toNat_ofNat, UInt32.toNat_ofNat]
    simp
    omega
structure SerOk (n : Nat) (st : UInt32 × List (List Vrp × UInt32)) : Prop where
  few : n ≤ 12
  sn : st.1 = 9 + UInt32.ofNat n
  l : st.2.map Prod.snd = serL n
theorem SerOk.start : SerOk 0 (9, []) := ⟨by omega, by decide, by decide⟩
theorem updS_snd (l : List (List Vrp × UInt32)) : (updS l).map Prod.snd = updM (l.map Prod.snd) := by
  unfold updS updM
  rw [List.length_map]
  split
  · rw [List.map_drop]
  · rfl
theorem updS_last (l : List (List Vrp × UInt32)) (x : List Vrp × UInt32) : (updS (l ++ [x])).getLast? = some x := by
  unfold updS
  split
  · rename_i h
    rw [List.getLast?_drop, if_neg (by omega)]
    simp
  · simp
theorem SerOk.last {n : Nat} {st : UInt32 × List (List Vrp × UInt32)} (h : SerOk n st) (hn : 0 < n) : ∃ l s, st.2 = l ++ [s] ∧ s.2 = 9 + UInt32.ofNat n ∧ ∀ x ∈ l, x.2 ≠ 9 + UInt32.ofNat n := by
  obtain ⟨m, rfl⟩ : ∃ m, n = m + 1 := ⟨n - 1, by omega⟩
  obtain ⟨e1, e2⟩ := ser_last m (by have := h.few; omega)
  have hl := h.l
  rcases List.eq_nil_or_concat st.2 with e | ⟨l, s, e⟩
  · rw [e, e1] at hl
    simp at hl
  · rw [List.concat_eq_append] at e
    rw [e, e1, List.map_append] at hl
    obtain ⟨h1, h2⟩ := List.append_inj' hl rfl
    refine ⟨l, s, e, by simpa using h2, fun x hx hs => e2 ?_⟩
    rw [← h1, ← hs]
    exact List.mem_map.2 ⟨x, hx, rfl⟩
theorem SerOk.none_ {n : Nat} {st : UInt32 × List (List Vrp × UInt32)} (h : SerOk n st) (hn : n = 0) : st.2 = [] := by
  subst hn
  have := h.l
  exact List.map_eq_nil_iff.1 this
theorem SerOk.step {n : Nat} {st : UInt32 × List (List Vrp × UInt32)} (h : SerOk n st) (hn : n < 12) (xs : List Vrp) :
    SerOk (if decide (st.2.getLast?.map Prod.fst ≠ some (rowOf xs)) = true then n + 1 else n) (mkStep st xs) ∧ (mkStep st xs).2.getLast?.map Prod.fst = some (rowOf xs) ∧
    (decide (st.2.getLast?.map Prod.fst ≠ some (rowOf xs)) = true ∨ 0 < n) := by
  unfold mkStep
  by_cases he : st.2.getLast?.map Prod.fst = some (rowOf xs)
  · rw [if_pos he]
    simp only [he]
    refine ⟨by simpa using h, trivial, .inr ?_⟩
    rcases Nat.eq_zero_or_pos n with h0 | h0
    · rw [h.none_ h0] at he
      simp at he
    · exact h0
  · rw [if_neg he]
    refine ⟨?_, ?_, .inl (by simpa using he)⟩
    · rw [if_pos (by simpa using he)]
      refine ⟨by omega, ?_, ?_⟩
      · rw [h.sn]; exact ser_num n hn
      · show (updS _).map Prod.snd = _
        rw [updS_snd, List.map_append, h.l, h.sn]
        exact ser_step n hn
    · show (updS _).getLast?.map Prod.fst = _
      rw [updS_last]
      rfl
theorem mkStep_same (st : UInt32 × List (List Vrp × UInt32)) (xs : List Vrp) (h : st.2.getLast?.map Prod.fst = some (rowOf xs)) : mkStep st xs = st := by
  unfold mkStep; rw [if_pos h]
theorem lessF_self (l : List Vrp) : lessF l l = [] := by
  unfold lessF
  rw [List.filter_eq_nil_iff]
  intro a ha
  simp [ha]
theorem tellAll_flat (vs : List Vrp) (add : Bool) : ∃ ps : List Pdu, tellAll vs add = ps.flatMap wrB ∧ (∀ p ∈ ps, pduOk p = true) ∧ (vs = [] → ps = []) := by
  refine ⟨(vs.map fun v => pdOf v add).filter pduOk, ?_, fun p hp => (List.mem_filter.1 hp).2, fun h => by rw [h]; rfl⟩
  unfold tellAll
  induction vs with
  | nil => rfl
  | cons v vs ih =>
    rw [List.flatMap_cons, ih, List.map_cons, List.filter_cons]
    unfold wrD
    cases hp : pduOk (pdOf v add)
    · simp
    · simp
theorem okBegin : pduOk (pdS 3 7 0 0) = true := by kernel_rfl
theorem okNoData : pduOk (pdS 10 0 0 2) = true := by kernel_rfl
theorem okLost : pduOk (pdS 8 0 0 0) = true := by kernel_rfl
theorem okAsk (s : UInt32) : pduOk (pdS 1 7 s 0) = true := by
  unfold pduOk
  simp [pdS, isKind, namedOf, imin, imax]
  exact ⟨⟨rfl, rfl, rfl, rfl, rfl⟩, rfl⟩
theorem okEnd (s : UInt32) : pduOk (pdS 7 7 s 0) = true := by
  unfold pduOk
  simp [pdS, isKind, namedOf, imin, imax]
  exact ⟨⟨rfl, rfl, rfl, rfl, rfl⟩, rfl⟩
/-- What is told to who asks by a serial. -/
def SerP (n : Nat) (ago : UInt32) (ps : List Pdu) : Prop :=
  (n = 0 ∧ ps = [pdS 10 0 0 2]) ∨ (0 < n ∧ ago.toNat < min n 5 ∧ ∃ qs, ps = pdS 3 7 0 0 :: (qs ++ [pdS 7 7 (9 + UInt32.ofNat n) 0]) ∧ (ago.toNat = 0 → qs = [])) ∨ (0 < n ∧ ¬ ago.toNat < min n 5 ∧ ps = [pdS 8 0 0 0])
theorem ser_since {n : Nat} (s r : List Vrp × UInt32) (hs : s.2 = 9 + UInt32.ofNat n) : ∃ qs : List Pdu, sinceG 7 s r.1 = (pdS 3 7 0 0 :: (qs ++ [pdS 7 7 (9 + UInt32.ofNat n) 0])).flatMap wrB ∧ (∀ p ∈ qs, pduOk p = true) ∧ (r.1 = s.1 → qs = []) := by
  obtain ⟨p1, e1, o1, z1⟩ := tellAll_flat (moreOf s.1 r.1) false
  obtain ⟨p2, e2, o2, z2⟩ := tellAll_flat (moreOf r.1 s.1) true
  refine ⟨p1 ++ p2, ?_, fun p hp => (List.mem_append.1 hp).elim (o1 p) (o2 p), fun h => ?_⟩
  · unfold sinceG sinceB
    simp only
    rw [e1, e2, hs]
    unfold wrD
    rw [okBegin, okEnd]
    simp
  · rw [z1 (by rw [h]; exact lessF_self _), z2 (by rw [h]; exact lessF_self _)]
    rfl
theorem ser_take {n : Nat} {st : UInt32 × List (List Vrp × UInt32)} (h : SerOk n st) (ago : UInt32) :
    ∃ ps : List Pdu, takeG 7 st.2 (pdS 1 7 (9 + UInt32.ofNat n - ago) 0) = (ps.flatMap wrB, true) ∧ (∀ p ∈ ps, pduOk p = true) ∧ SerP n ago ps := by
  unfold takeG
  rw [if_neg (show ¬ (pdS 1 7 (9 + UInt32.ofNat n - ago) 0).kind = 10 from (show ¬ (1 : Int) = 10 by decide)), if_pos (.inr rfl)]
  rcases Nat.eq_zero_or_pos n with h0 | h0
  · rw [h.none_ h0]
    refine ⟨[pdS 10 0 0 2], ?_, fun p hp => by rw [List.mem_singleton] at hp; subst hp; exact okNoData, .inl ⟨h0, rfl⟩⟩
    unfold wrD
    simp [okNoData]
  · obtain ⟨l, s, e, hs, hl⟩ := h.last h0
    have hg : st.2.getLast? = some s := by rw [e]; simp
    rw [hg]
    simp only
    rw [if_neg (show ¬ (pdS 1 7 (9 + UInt32.ofNat n - ago) 0).kind = 2 from (show ¬ (1 : Int) = 2 by decide)), if_pos (show (pdS 1 7 (9 + UInt32.ofNat n - ago) 0).session = 7 from rfl)]
    have hm := ser_mem n h.few ago
    rw [← h.l] at hm
    by_cases hin : ago.toNat < min n 5
    · obtain ⟨x, hx, hxs⟩ := List.mem_map.1 (hm.2 hin)
      cases hf : st.2.find? (fun s => s.2 == (pdS 1 7 (9 + UInt32.ofNat n - ago) 0).serial) with
      | none =>
        have := List.find?_eq_none.1 hf x hx
        exact absurd (by simpa [pdS] using hxs) this
      | some r =>
        obtain ⟨qs, q1, q2, q3⟩ := ser_since s r hs
        refine ⟨_, by simp only; rw [q1], fun p hp => ?_, .inr (.inl ⟨h0, hin, qs, rfl, fun ha => q3 ?_⟩)⟩
        · rcases List.mem_cons.1 hp with rfl | hp
          · exact okBegin
          · rcases List.mem_append.1 hp with hp | hp
            · exact q2 p hp
            · rw [List.mem_singleton] at hp; subst hp; exact okEnd _
        · have ha0 : ago = 0 := UInt32.toNat.inj ha
          have hr2 := List.find?_some hf
          have hrm := List.mem_of_find?_eq_some hf
          have hr3 : r.2 = 9 + UInt32.ofNat n := by
            have : r.2 = 9 + UInt32.ofNat n - ago := by simpa [pdS] using hr2
            rw [this, ha0]
            simp
          rw [e] at hrm
          rcases List.mem_append.1 hrm with hr | hr
          · exact absurd hr3 (hl r hr)
          · rw [List.mem_singleton] at hr; rw [hr]
    · cases hf : st.2.find? (fun s => s.2 == (pdS 1 7 (9 + UInt32.ofNat n - ago) 0).serial) with
      | some r =>
        have hr2 := List.find?_some hf
        exact absurd (hm.1 (List.mem_map.2 ⟨r, List.mem_of_find?_eq_some hf, by simpa [pdS] using hr2⟩)) hin
      | none =>
        refine ⟨[pdS 8 0 0 0], ?_, fun p hp => by rw [List.mem_singleton] at hp; subst hp; exact okLost, .inr (.inr ⟨h0, hin, rfl⟩)⟩
        simp only
        unfold wrD
        simp [okLost]
theorem ser_feed {n : Nat} {st : UInt32 × List (List Vrp × UInt32)} (h : SerOk n st) (ago : UInt32) (ss : List SetV) (ha : absS ss = st.2) :
    ∃ ps : List Pdu, feedF 7 ss [] (wrB (pdS 1 7 (9 + UInt32.ofNat n - ago) 0)) = (ps.flatMap wrB, some []) ∧ allOf (ps.flatMap wrB) = (ps, [], 0, 0) ∧ SerP n ago ps := by
  obtain ⟨ps, h1, h2, h3⟩ := ser_take h ago
  refine ⟨ps, ?_, all_flat ps h2, h3⟩
  have h4 := all_flat [pdS 1 7 (9 + UInt32.ofNat n - ago) 0] (fun p hp => by rw [List.mem_singleton] at hp; subst hp; exact okAsk _)
  rw [List.flatMap_cons, List.flatMap_nil, List.append_nil] at h4
  unfold feedF
  rw [List.nil_append, h4]
  simp only [goF, takeG_eq, ha, h1, if_true, List.append_nil]
end Go.Proofs.YtmoldmnhijcckaaGreat
/- The row of a list depends on what is in it alone. -/
set_option linter.unusedVariables false
set_option linter.unusedSectionVars false
set_option linter.unusedSimpArgs false
namespace Go.Proofs.YtmoldmnhijcckaaGreat
open Go.RowKit
theorem mem_addD {acc : List Vrp} {x y : Vrp} (h : x ∈ acc ∨ x = y) : x ∈ addD acc y := by
  unfold addD
  split
  · rename_i hl
    rcases h with h | rfl
    · exact h
    · exact List.mem_of_getLast? hl
  · rcases h with h | rfl <;> simp [*]
theorem mem_dedF' {ys : List Vrp} {x : Vrp} (h : x ∈ ys) : x ∈ dedF ys := by
  have : ∀ (ys acc : List Vrp), x ∈ acc ∨ x ∈ ys → x ∈ ys.foldl addD acc := by
    intro ys
    induction ys with
    | nil => intro acc h; simpa using h
    | cons y ys ih =>
      intro acc h
      refine ih _ ?_
      rcases h with h | h
      · exact .inl (mem_addD (.inl h))
      · rcases List.mem_cons.1 h with rfl | h
        · exact .inl (mem_addD (.inr rfl))
        · exact .inr h
  exact this ys [] (.inr h)
theorem mem_rowOf {xs : List Vrp} {x : Vrp} : x ∈ rowOf xs ↔ vrpOk x = true ∧ x ∈ xs :=
  ⟨rowOf_ok, fun h => mem_dedF' (by rw [List.mem_mergeSort, List.mem_filter]; exact ⟨h.2, h.1⟩)⟩
theorem cmpV_irr (a : Vrp) : cmpV a a = 0 := by have := compV.anti a a; omega
theorem rise_unique : ∀ {l m : List Vrp}, RiseV l → RiseV m → (∀ x, x ∈ l ↔ x ∈ m) → l = m
  | [], [], _, _, _ => rfl
  | [], b :: m, _, _, h => absurd ((h b).2 (by simp)) (by simp)
  | a :: l, [], _, _, h => absurd ((h a).1 (by simp)) (by simp)
  | a :: l, b :: m, hl, hm, h => by
    have hl' := List.pairwise_cons.1 hl
    have hm' := List.pairwise_cons.1 hm
    have hab : a = b := by
      rcases List.mem_cons.1 ((h a).1 (by simp)) with e | ha
      · exact e
      · rcases List.mem_cons.1 ((h b).2 (by simp)) with e | hb
        · exact e.symm
        · have h1 := hm'.1 a ha
          have h2 := hl'.1 b hb
          have := compV.anti a b
          omega
    subst hab
    have : l = m := rise_unique hl'.2 hm'.2 fun x => by
      constructor
      · intro hx
        rcases List.mem_cons.1 ((h x).1 (by simp [hx])) with e | hx'
        · have := hl'.1 x hx
          rw [e, cmpV_irr] at this
          omega
        · exact hx'
      · intro hx
        rcases List.mem_cons.1 ((h x).2 (by simp [hx])) with e | hx'
        · have := hm'.1 x hx
          rw [e, cmpV_irr] at this
          omega
        · exact hx'
    rw [this]
theorem rowOf_congr {xs ys : List Vrp} (h : ∀ x, x ∈ xs ↔ x ∈ ys) : rowOf xs = rowOf ys :=
  rise_unique (rowOf_rise _) (rowOf_rise _) fun x => by rw [mem_rowOf, mem_rowOf, h]
theorem rowOf_self {xs : List Vrp} (hr : RiseV xs) (hok : ∀ x ∈ xs, vrpOk x = true) : rowOf xs = xs :=
  rise_unique (rowOf_rise _) hr fun x => by rw [mem_rowOf]; exact ⟨fun h => h.2, fun h => ⟨hok x h, h⟩⟩
end Go.Proofs.YtmoldmnhijcckaaGreat
/- A router that asks a cache, as plain law. -/
set_option linter.unusedVariables false
set_option linter.unusedSectionVars false
set_option linter.unusedSimpArgs false
namespace Go.Proofs.YtmoldmnhijcckaaGreat
open Go.RowKit
theorem ok_pdOf {v : Vrp} (h : vrpOk v = true) (add : Bool) : pduOk (pdOf v add) = true := by
  unfold pduOk pdOf
  cases hv : v.p.v6 <;> simp [hv, h, isKind, namedOf, imin, imax]
  · exact ⟨⟨rfl, rfl, rfl, rfl, rfl⟩, by decide⟩
  · exact ⟨⟨rfl, rfl, rfl, rfl, rfl⟩, by decide⟩
theorem tellAll_ok (vs : List Vrp) (add : Bool) (h : ∀ v ∈ vs, vrpOk v = true) : tellAll vs add = (vs.map fun v => pdOf v add).flatMap wrB := by
  unfold tellAll
  induction vs with
  | nil => rfl
  | cons v vs ih =>
    rw [List.flatMap_cons, ih (fun x hx => h x (by simp [hx])), List.map_cons, List.flatMap_cons, wrD_ok (ok_pdOf (h v (by simp)) add)]
theorem pdOf_kind (v : Vrp) (add : Bool) : (pdOf v add).kind = 4 ∨ (pdOf v add).kind = 6 := by
  unfold pdOf
  cases v.p.v6 <;> simp
theorem take_pdOf (s : RoS) (v : Vrp) (add : Bool) : takeR s (pdOf v add) = changeR s (pdOf v add) := by
  unfold takeR
  have := pdOf_kind v add
  rw [if_neg (by omega), if_neg (by omega), if_pos this]
theorem go_add (rest : List Pdu) : ∀ (vs : List Vrp) (s : RoS) (n : Int) (ks : List Vrp), s.nx = some (n, ks) → vs.Nodup → (∀ v ∈ vs, v ∉ ks) → goR s (vs.map (fun v => pdOf v true) ++ rest) = goR { s with nx := some (n, ks ++ vs) } rest
  | [], s, n, ks, h, _, _ => by
    rw [List.append_nil, ← h]
    rfl
  | v :: vs, s, n, ks, h, hn, hnot => by
    have h1 : takeR s (pdOf v true) = ({ s with nx := some (n, ks ++ [v]) }, 0) := by
      rw [take_pdOf]
      unfold changeR
      rw [h]
      show (if (true = true) then (if v ∈ ks then _ else _) else _) = _
      rw [if_pos rfl, if_neg (hnot v (by simp))]
      rfl
    have hn' := List.nodup_cons.1 hn
    rw [List.map_cons, List.cons_append, goR, h1, if_pos rfl]
    have ih := go_add rest vs { s with nx := some (n, ks ++ [v]) } n (ks ++ [v]) rfl hn'.2 (fun x hx hm => by
      rcases List.mem_append.1 hm with hm | hm
      · exact hnot x (by simp [hx]) hm
      · rw [List.mem_singleton] at hm; subst hm; exact hn'.1 hx)
    rw [ih]
    simp
theorem go_del (rest : List Pdu) : ∀ (vs : List Vrp) (s : RoS) (n : Int) (ks : List Vrp), s.nx = some (n, ks) → vs.Nodup → (∀ v ∈ vs, v ∈ ks) → goR s (vs.map (fun v => pdOf v false) ++ rest) = goR { s with nx := some (n, ks.filter fun x => !decide (x ∈ vs)) } rest
  | [], s, n, ks, h, _, _ => by
    have : (ks.filter fun x => !decide (x ∈ ([] : List Vrp))) = ks := List.filter_eq_self.2 fun x _ => by simp
    rw [this, ← h]
    rfl
  | v :: vs, s, n, ks, h, hn, hin => by
    have h1 : takeR s (pdOf v false) = ({ s with nx := some (n, ks.filter fun x => !decide (x = v)) }, 0) := by
      rw [take_pdOf]
      unfold changeR
      rw [h]
      show (if (false = true) then _ else (if v ∈ ks then _ else _)) = _
      rw [if_neg (by decide), if_pos (hin v (by simp))]
      rfl
    have hn' := List.nodup_cons.1 hn
    rw [List.map_cons, List.cons_append, goR, h1, if_pos rfl]
    have ih := go_del rest vs { s with nx := some (n, ks.filter fun x => !decide (x = v)) } n (ks.filter fun x => !decide (x = v)) rfl hn'.2 (fun x hx => by
      rw [List.mem_filter]
      refine ⟨hin x (by simp [hx]), ?_⟩
      have : x ≠ v := fun e => hn'.1 (by rw [← e]; exact hx)
      simp [this])
    rw [ih, List.filter_filter]
    have : (fun x => (!decide (x ∈ vs) && !decide (x = v))) = fun x => !decide (x ∈ v :: vs) := by
      funext x
      by_cases h1 : x = v <;> by_cases h2 : x ∈ vs <;> simp [h1, h2]
    rw [this]
theorem rise_nodup {xs : List Vrp} (h : RiseV xs) : xs.Nodup := h.imp fun {a b} hab e => by rw [e, cmpV_irr] at hab; omega
theorem lessF_nodup {av bs : List Vrp} (h : av.Nodup) : (lessF av bs).Nodup := h.sublist List.filter_sublist
theorem mem_lessF {av bs : List Vrp} {x : Vrp} : x ∈ lessF av bs ↔ x ∈ av ∧ x ∉ bs := by
  unfold lessF
  rw [List.mem_filter]
  simp
/-- A row: rising, and of what may be. -/
def Row (xs : List Vrp) : Prop := RiseV xs ∧ ∀ x ∈ xs, vrpOk x = true
theorem Row.of (xs : List Vrp) : Row (rowOf xs) := ⟨rowOf_rise xs, fun x hx => (rowOf_ok hx).1⟩
theorem Row.self {xs : List Vrp} (h : Row xs) : rowOf xs = xs := rowOf_self h.1 h.2
def sincePs (row : List Vrp) (sn : UInt32) (xs : List Vrp) : List Pdu := pdS 3 7 0 0 :: ((moreOf row xs).map (fun v => pdOf v false) ++ ((moreOf xs row).map (fun v => pdOf v true) ++ [pdS 7 7 sn 0]))
theorem sincePs_ok (row : List Vrp) (sn : UInt32) (xs : List Vrp) : ∀ p ∈ sincePs row sn xs, pduOk p = true := by
  intro p hp
  unfold sincePs at hp
  rcases List.mem_cons.1 hp with rfl | hp
  · exact okBegin
  rcases List.mem_append.1 hp with hp | hp
  · obtain ⟨v, hv, rfl⟩ := List.mem_map.1 hp
    exact ok_pdOf ((Row.of _).2 v (mem_lessF.1 hv).1) _
  rcases List.mem_append.1 hp with hp | hp
  · obtain ⟨v, hv, rfl⟩ := List.mem_map.1 hp
    exact ok_pdOf ((Row.of _).2 v (mem_lessF.1 hv).1) _
  · rw [List.mem_singleton] at hp; subst hp; exact okEnd _
theorem since_ps (s : List Vrp × UInt32) (xs : List Vrp) : sinceG 7 s xs = (sincePs s.1 s.2 xs).flatMap wrB := by
  unfold sinceG sinceB sincePs
  simp only
  rw [tellAll_ok (moreOf s.1 xs) _ (fun v hv => (Row.of _).2 v (mem_lessF.1 hv).1), tellAll_ok (moreOf xs s.1) _ (fun v hv => (Row.of _).2 v (mem_lessF.1 hv).1), wrD_ok okBegin, wrD_ok (okEnd _)]
  simp
theorem go_since (r : RoS) (hw : r.waits = true) (base : List Vrp) (hb : (r.kind ≠ 1 ∧ base = []) ∨ (r.kind = 1 ∧ r.h = some (7, base))) (xs : List Vrp) (hx : ∀ x, x ∈ base ↔ x ∈ rowOf xs) (row : List Vrp) (hrow : Row row) (sn : UInt32) :
    ∃ ks, goR r (sincePs row sn xs) = ({ r with h := some (7, ks), sn := sn, nx := none, asked := false }, 0) ∧ ∀ x, x ∈ ks ↔ x ∈ row := by
  have hbeg : takeR r (pdS 3 7 0 0) = ({ r with nx := some (7, base) }, 0) := by
    show beginR r (pdS 3 7 0 0) = _
    unfold beginR
    rw [if_neg (by rw [hw]; decide)]
    rcases hb with ⟨h1, rfl⟩ | ⟨h1, h2⟩
    · rw [if_neg h1]; rfl
    · rw [if_pos h1, h2]
      simp only
      rw [if_neg (by show ¬ ((7 : Int) ≠ 7); decide)]
      rfl
  unfold sincePs
  rw [goR, hbeg, if_pos rfl]
  rw [go_del _ (moreOf row xs) _ 7 base rfl (lessF_nodup (rise_nodup (rowOf_rise _))) (fun v hv => (hx v).2 (mem_lessF.1 hv).1)]
  rw [go_add _ (moreOf xs row) _ 7 _ rfl (lessF_nodup (rise_nodup (rowOf_rise _))) (fun v hv hm => (mem_lessF.1 hv).2 ((hx v).1 (List.mem_filter.1 hm).1))]
  refine ⟨(base.filter fun x => !decide (x ∈ moreOf row xs)) ++ moreOf xs row, ?_, fun x => ?_⟩
  · rw [goR]
    have hend : takeR { r with nx := some (7, (base.filter fun x => !decide (x ∈ moreOf row xs)) ++ moreOf xs row) } (pdS 7 7 sn 0) = ({ r with h := some (7, (base.filter fun x => !decide (x ∈ moreOf row xs)) ++ moreOf xs row), sn := sn, nx := none, asked := false }, 0) := rfl
    rw [hend]
    rfl
  · have hm1 : x ∈ moreOf row xs ↔ x ∈ rowOf xs ∧ x ∉ rowOf row := mem_lessF
    have hm2 : x ∈ moreOf xs row ↔ x ∈ rowOf row ∧ x ∉ rowOf xs := mem_lessF
    rw [hrow.self] at hm1 hm2
    rw [List.mem_append, List.mem_filter, hm2, hx]
    simp only [Bool.not_eq_true', decide_eq_false_iff_not, hm1]
    by_cases h1 : x ∈ rowOf xs <;> by_cases h2 : x ∈ row <;> simp [h1, h2]
/-- A whole question, answered by a cache that has something: what the router is behind it. -/
theorem sync_law (q : RoQ) (hb : q.b = false) (hl : q.l = []) (L : List (List Vrp × UInt32)) (s : List Vrp × UInt32) (hs : L.getLast? = some s) (hrow : ∀ r ∈ L, Row r.1)
    (hq : q.s.h = none ∨ ∃ ks, q.s.h = some (7, ks) ∧ ∀ r ∈ L, r.2 = q.s.sn → ∀ x, x ∈ ks ↔ x ∈ r.1) :
    ∃ (p : Pdu) (ps : List Pdu) (q' : RoQ), (askQ q).2 = wrB p ∧ pduOk p = true ∧ takeG 7 L p = (ps.flatMap wrB, true) ∧ (∀ x ∈ ps, pduOk x = true) ∧ takeQ (askQ q).1 (ps.flatMap wrB) = (q', 0) ∧ q'.b = false ∧ q'.l = [] ∧
      ((q'.s.h = none ∧ q.s.h ≠ none) ∨ ∃ ks, q'.s.h = some (7, ks) ∧ q'.s.sn = s.2 ∧ ∀ x, x ∈ ks ↔ x ∈ s.1) := by
  have hsm : s ∈ L := List.mem_of_getLast? hs
  have htake : ∀ (r : RoS) (ps : List Pdu) (r' : RoS), (∀ x ∈ ps, pduOk x = true) → goR r ps = (r', 0) → takeQ ⟨r, [], false⟩ (ps.flatMap wrB) = (⟨r', [], false⟩, 0) := fun r ps r' hok hg => by
    unfold takeQ thruR
    rw [List.nil_append, all_flat ps hok]
    simp [hg]
  rcases hq with h0 | ⟨ks, h1, h2⟩
  · have ha : askQ q = (⟨{ q.s with asked := true, kind := 2, nx := none }, [], false⟩, wrB (pdS 2 0 0 0)) := by
      unfold askQ
      rw [hb, h0]
      simp only [Bool.false_eq_true, if_false]
      rw [wrD_ok (show pduOk (pdS 2 0 0 0) = true from by kernel_rfl)]
    obtain ⟨ks, hg, hk⟩ := go_since { q.s with asked := true, kind := 2, nx := none } rfl [] (.inl ⟨(show (2 : Int) ≠ 1 by decide), rfl⟩) [] (fun x => by rw [rowOf_nil]) s.1 (hrow s hsm) s.2
    refine ⟨pdS 2 0 0 0, sincePs s.1 s.2 [], _, by rw [ha], by kernel_rfl, ?_, sincePs_ok _ _ _, by rw [ha]; exact htake _ _ _ (sincePs_ok _ _ _) hg, rfl, rfl, .inr ⟨ks, rfl, rfl, hk⟩⟩
    unfold takeG
    rw [if_neg (show ¬ (pdS 2 0 0 0).kind = 10 by decide), if_pos (.inl rfl), hs]
    simp only
    rw [if_pos (by rfl), since_ps]
  · have ha : askQ q = (⟨{ q.s with asked := true, kind := 1, nx := none }, [], false⟩, wrB (pdS 1 7 q.s.sn 0)) := by
      unfold askQ
      rw [hb, h1]
      simp only [Bool.false_eq_true, if_false]
      rw [wrD_ok (okAsk _)]
    cases hf : L.find? (fun s => s.2 == q.s.sn) with
    | some r =>
      have hr2 : r.2 = q.s.sn := by simpa using List.find?_some hf
      have hrm := List.mem_of_find?_eq_some hf
      obtain ⟨ks', hg, hk⟩ := go_since { q.s with asked := true, kind := 1, nx := none } rfl ks (.inr ⟨rfl, h1⟩) r.1 (fun x => by rw [(hrow r hrm).self]; exact h2 r hrm hr2 x) s.1 (hrow s hsm) s.2
      refine ⟨pdS 1 7 q.s.sn 0, sincePs s.1 s.2 r.1, _, by rw [ha], okAsk _, ?_, sincePs_ok _ _ _, by rw [ha]; exact htake _ _ _ (sincePs_ok _ _ _) hg, rfl, rfl, .inr ⟨ks', rfl, rfl, hk⟩⟩
      unfold takeG
      rw [if_neg (show ¬ (pdS 1 7 q.s.sn 0).kind = 10 from (show ¬ (1 : Int) = 10 by decide)), if_pos (.inr rfl), hs]
      simp only
      rw [if_neg (show ¬ (pdS 1 7 q.s.sn 0).kind = 2 from (show ¬ (1 : Int) = 2 by decide)), if_pos (show (pdS 1 7 q.s.sn 0).session = 7 from rfl)]
      show (match L.find? (fun s => s.2 == q.s.sn) with | some r => _ | none => _) = _
      rw [hf]
      simp only
      rw [since_ps]
    | none =>
      have hg : goR { q.s with asked := true, kind := 1, nx := none } [pdS 8 0 0 0] = ({ q.s with h := none, asked := false, kind := 1, nx := none }, 0) := rfl
      refine ⟨pdS 1 7 q.s.sn 0, [pdS 8 0 0 0], _, by rw [ha], okAsk _, ?_, fun x hx => by rw [List.mem_singleton] at hx; subst hx; exact okLost, by rw [ha]; exact htake _ _ _ (fun x hx => by rw [List.mem_singleton] at hx; subst hx; exact okLost) hg, rfl, rfl, .inl ⟨rfl, by rw [h1]; simp⟩⟩
      unfold takeG
      rw [if_neg (show ¬ (pdS 1 7 q.s.sn 0).kind = 10 from (show ¬ (1 : Int) = 10 by decide)), if_pos (.inr rfl), hs]
      simp only
      rw [if_neg (show ¬ (pdS 1 7 q.s.sn 0).kind = 2 from (show ¬ (1 : Int) = 2 by decide)), if_pos (show (pdS 1 7 q.s.sn 0).session = 7 from rfl)]
      show (match L.find? (fun s => s.2 == q.s.sn) with | some r => _ | none => _) = _
      rw [hf]
      simp only
      rw [wrD_ok okLost]
      simp
end Go.Proofs.YtmoldmnhijcckaaGreat
