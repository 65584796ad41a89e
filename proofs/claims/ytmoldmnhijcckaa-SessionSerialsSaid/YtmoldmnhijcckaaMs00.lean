/- Serials, as plain law: which are remembered, and what a router is told that asks by one. -/
import Derived.Test.YtmoldmnhijcckaaMa51
set_option linter.unusedVariables false
set_option linter.unusedSectionVars false
set_option linter.unusedSimpArgs false
namespace Go.Proofs.Ytmoldmnhijcckaa
open Go.RowKit
/-- The serials that are remembered when there were n other rows. -/
def serL (n : Nat) : List UInt32 := (List.range' (n - min n 5) (min n 5)).map fun j => 10 + UInt32.ofNat j
def updM (l : List UInt32) : List UInt32 := if 5 < l.length then l.drop 1 else l
theorem ser_step : ∀ n, n < 12 → updM (serL n ++ [9 + UInt32.ofNat n + 1]) = serL (n + 1) := by decide
theorem ser_num : ∀ n, n < 12 → (9 + UInt32.ofNat n + 1 : UInt32) = 9 + UInt32.ofNat (n + 1) := by decide
theorem ser_last : ∀ m, m < 12 → serL (m + 1) = (serL (m + 1)).dropLast ++ [9 + UInt32.ofNat (m + 1)] ∧ (9 + UInt32.ofNat (m + 1)) ∉ (serL (m + 1)).dropLast := by decide
theorem ser_len : ∀ n, n < 13 → (serL n).length = min n 5 := by decide
theorem ser_mem (n : Nat) (hn : n ≤ 12) (ago : UInt32) : (9 + UInt32.ofNat n - ago ∈ serL n) ↔ ago.toNat < min n 5 := by
  unfold serL
  rw [List.mem_map]
  have ha := ago.toNat_lt
  constructor
  · rintro ⟨j, hj, e⟩
    have hj' := List.mem_range'_1.1 hj
    have e2 := congrArg UInt32.toNat e
    rw [UInt32.toNat_sub, UInt32.toNat_add, UInt32.toNat_add, UInt32.toNat_ofNat, UInt32.toNat_ofNat] at e2
    simp at e2
    omega
  · intro h
    refine ⟨n - 1 - ago.toNat, List.mem_range'_1.2 ⟨by omega, by omega⟩, UInt32.toNat.inj ?_⟩
    rw [UInt32.toNat_sub, UInt32.toNat_add, UInt32.toNat_add, UInt32.toNat_ofNat, UInt32.toNat_ofNat]
    simp
    omega
structure SerOk (n : Nat) (st : UInt32 × List (List Vrp × UInt32)) : Prop where
  few : n ≤ 12
  sn : st.1 = 9 + UInt32.ofNat n
  l : st.2.map Prod.snd = serL n
theorem SerOk.start : SerOk 0 (9, []) := ⟨by omega, by decide, by decide⟩
theorem updS_snd (l : List (List Vrp × UInt32)) : (updS l).map Prod.snd = updM (l.map Prod.snd) := by
  unfold updS updM
  rw [List.length_map]
  split
  · rw [List.map_drop]
  · rfl
theorem updS_last (l : List (List Vrp × UInt32)) (x : List Vrp × UInt32) : (updS (l ++ [x])).getLast? = some x := by
  unfold updS
  split
  · rename_i h
    rw [List.getLast?_drop, if_neg (by omega)]
    simp
  · simp
theorem SerOk.last {n : Nat} {st : UInt32 × List (List Vrp × UInt32)} (h : SerOk n st) (hn : 0 < n) : ∃ l s, st.2 = l ++ [s] ∧ s.2 = 9 + UInt32.ofNat n ∧ ∀ x ∈ l, x.2 ≠ 9 + UInt32.ofNat n := by
  obtain ⟨m, rfl⟩ : ∃ m, n = m + 1 := ⟨n - 1, by omega⟩
  obtain ⟨e1, e2⟩ := ser_last m (by have := h.few; omega)
  have hl := h.l
  rcases List.eq_nil_or_concat st.2 with e | ⟨l, s, e⟩
  · rw [e, e1] at hl
    simp at hl
  · rw [List.concat_eq_append] at e
    rw [e, e1, List.map_append] at hl
    obtain ⟨h1, h2⟩ := List.append_inj' hl rfl
    refine ⟨l, s, e, by simpa using h2, fun x hx hs => e2 ?_⟩
    rw [← h1, ← hs]
    exact List.mem_map.2 ⟨x, hx, rfl⟩
theorem SerOk.none_ {n : Nat} {st : UInt32 × List (List Vrp × UInt32)} (h : SerOk n st) (hn : n = 0) : st.2 = [] := by
  subst hn
  have := h.l
  exact List.map_eq_nil_iff.1 this
theorem SerOk.step {n : Nat} {st : UInt32 × List (List Vrp × UInt32)} (h : SerOk n st) (hn : n < 12) (xs : List Vrp) :
    SerOk (if decide (st.2.getLast?.map Prod.fst ≠ some (rowOf xs)) = true then n + 1 else n) (mkStep st xs) ∧ (mkStep st xs).2.getLast?.map Prod.fst = some (rowOf xs) ∧
    (decide (st.2.getLast?.map Prod.fst ≠ some (rowOf xs)) = true ∨ 0 < n) := by
  unfold mkStep
  by_cases he : st.2.getLast?.map Prod.fst = some (rowOf xs)
  · rw [if_pos he]
    simp only [he]
    refine ⟨by simpa using h, trivial, .inr ?_⟩
    rcases Nat.eq_zero_or_pos n with h0 | h0
    · rw [h.none_ h0] at he
      simp at he
    · exact h0
  · rw [if_neg he]
    refine ⟨?_, ?_, .inl (by simpa using he)⟩
    · rw [if_pos (by simpa using he)]
      refine ⟨by omega, ?_, ?_⟩
      · rw [h.sn]; exact ser_num n hn
      · show (updS _).map Prod.snd = _
        rw [updS_snd, List.map_append, h.l, h.sn]
        exact ser_step n hn
    · show (updS _).getLast?.map Prod.fst = _
      rw [updS_last]
      rfl
theorem mkStep_same (st : UInt32 × List (List Vrp × UInt32)) (xs : List Vrp) (h : st.2.getLast?.map Prod.fst = some (rowOf xs)) : mkStep st xs = st := by
  unfold mkStep; rw [if_pos h]
theorem lessF_self (l : List Vrp) : lessF l l = [] := by
  unfold lessF
  rw [List.filter_eq_nil_iff]
  intro a ha
  simp [ha]
theorem tellAll_flat (vs : List Vrp) (add : Bool) : ∃ ps : List Pdu, tellAll vs add = ps.flatMap wrB ∧ (∀ p ∈ ps, pduOk p = true) ∧ (vs = [] → ps = []) := by
  refine ⟨(vs.map fun v => pdOf v add).filter pduOk, ?_, fun p hp => (List.mem_filter.1 hp).2, fun h => by rw [h]; rfl⟩
  unfold tellAll
  induction vs with
  | nil => rfl
  | cons v vs ih =>
    rw [List.flatMap_cons, ih, List.map_cons, List.filter_cons]
    unfold wrD
    cases hp : pduOk (pdOf v add)
    · simp
    · simp
theorem okBegin : pduOk (pdS 3 7 0 0) = true := by kernel_rfl
theorem okNoData : pduOk (pdS 10 0 0 2) = true := by kernel_rfl
theorem okLost : pduOk (pdS 8 0 0 0) = true := by kernel_rfl
theorem okAsk (s : UInt32) : pduOk (pdS 1 7 s 0) = true := by
  unfold pduOk
  simp [pdS, isKind, namedOf, imin, imax]
  exact ⟨⟨rfl, rfl, rfl, rfl, rfl⟩, rfl⟩
theorem okEnd (s : UInt32) : pduOk (pdS 7 7 s 0) = true := by
  unfold pduOk
  simp [pdS, isKind, namedOf, imin, imax]
  exact ⟨⟨rfl, rfl, rfl, rfl, rfl⟩, rfl⟩
/-- What is told to who asks by a serial. -/
def SerP (n : Nat) (ago : UInt32) (ps : List Pdu) : Prop :=
  (n = 0 ∧ ps = [pdS 10 0 0 2]) ∨ (0 < n ∧ ago.toNat < min n 5 ∧ ∃ qs, ps = pdS 3 7 0 0 :: (qs ++ [pdS 7 7 (9 + UInt32.ofNat n) 0]) ∧ (ago.toNat = 0 → qs = [])) ∨ (0 < n ∧ ¬ ago.toNat < min n 5 ∧ ps = [pdS 8 0 0 0])
theorem ser_since {n : Nat} (s r : List Vrp × UInt32) (hs : s.2 = 9 + UInt32.ofNat n) : ∃ qs : List Pdu, sinceG 7 s r.1 = (pdS 3 7 0 0 :: (qs ++ [pdS 7 7 (9 + UInt32.ofNat n) 0])).flatMap wrB ∧ (∀ p ∈ qs, pduOk p = true) ∧ (r.1 = s.1 → qs = []) := by
  obtain ⟨p1, e1, o1, z1⟩ := tellAll_flat (moreOf s.1 r.1) false
  obtain ⟨p2, e2, o2, z2⟩ := tellAll_flat (moreOf r.1 s.1) true
  refine ⟨p1 ++ p2, ?_, fun p hp => (List.mem_append.1 hp).elim (o1 p) (o2 p), fun h => ?_⟩
  · unfold sinceG sinceB
    simp only
    rw [e1, e2, hs]
    unfold wrD
    rw [okBegin, okEnd]
    simp
  · rw [z1 (by rw [h]; exact lessF_self _), z2 (by rw [h]; exact lessF_self _)]
    rfl
theorem ser_take {n : Nat} {st : UInt32 × List (List Vrp × UInt32)} (h : SerOk n st) (ago : UInt32) :
    ∃ ps : List Pdu, takeG 7 st.2 (pdS 1 7 (9 + UInt32.ofNat n - ago) 0) = (ps.flatMap wrB, true) ∧ (∀ p ∈ ps, pduOk p = true) ∧ SerP n ago ps := by
  unfold takeG
  rw [if_neg (show ¬ (pdS 1 7 (9 + UInt32.ofNat n - ago) 0).kind = 10 from (show ¬ (1 : Int) = 10 by decide)), if_pos (.inr rfl)]
  rcases Nat.eq_zero_or_pos n with h0 | h0
  · rw [h.none_ h0]
    refine ⟨[pdS 10 0 0 2], ?_, fun p hp => by rw [List.mem_singleton] at hp; subst hp; exact okNoData, .inl ⟨h0, rfl⟩⟩
    unfold wrD
    simp [okNoData]
  · obtain ⟨l, s, e, hs, hl⟩ := h.last h0
    have hg : st.2.getLast? = some s := by rw [e]; simp
    rw [hg]
    simp only
    rw [if_neg (show ¬ (pdS 1 7 (9 + UInt32.ofNat n - ago) 0).kind = 2 from (show ¬ (1 : Int) = 2 by decide)), if_pos (show (pdS 1 7 (9 + UInt32.ofNat n - ago) 0).session = 7 from rfl)]
    have hm := ser_mem n h.few ago
    rw [← h.l] at hm
    by_cases hin : ago.toNat < min n 5
    · obtain ⟨x, hx, hxs⟩ := List.mem_map.1 (hm.2 hin)
      cases hf : st.2.find? (fun s => s.2 == (pdS 1 7 (9 + UInt32.ofNat n - ago) 0).serial) with
      | none =>
        have := List.find?_eq_none.1 hf x hx
        exact absurd (by simpa [pdS] using hxs) this
      | some r =>
        obtain ⟨qs, q1, q2, q3⟩ := ser_since s r hs
        refine ⟨_, by simp only; rw [q1], fun p hp => ?_, .inr (.inl ⟨h0, hin, qs, rfl, fun ha => q3 ?_⟩)⟩
        · rcases List.mem_cons.1 hp with rfl | hp
          · exact okBegin
          · rcases List.mem_append.1 hp with hp | hp
            · exact q2 p hp
            · rw [List.mem_singleton] at hp; subst hp; exact okEnd _
        · have ha0 : ago = 0 := UInt32.toNat.inj ha
          have hr2 := List.find?_some hf
          have hrm := List.mem_of_find?_eq_some hf
          have hr3 : r.2 = 9 + UInt32.ofNat n := by
            have : r.2 = 9 + UInt32.ofNat n - ago := by simpa [pdS] using hr2
            rw [this, ha0]
            simp
          rw [e] at hrm
          rcases List.mem_append.1 hrm with hr | hr
          · exact absurd hr3 (hl r hr)
          · rw [List.mem_singleton] at hr; rw [hr]
    · cases hf : st.2.find? (fun s => s.2 == (pdS 1 7 (9 + UInt32.ofNat n - ago) 0).serial) with
      | some r =>
        have hr2 := List.find?_some hf
        exact absurd (hm.1 (List.mem_map.2 ⟨r, List.mem_of_find?_eq_some hf, by simpa [pdS] using hr2⟩)) hin
      | none =>
        refine ⟨[pdS 8 0 0 0], ?_, fun p hp => by rw [List.mem_singleton] at hp; subst hp; exact okLost, .inr (.inr ⟨h0, hin, rfl⟩)⟩
        simp only
        unfold wrD
        simp [okLost]
theorem ser_feed {n : Nat} {st : UInt32 × List (List Vrp × UInt32)} (h : SerOk n st) (ago : UInt32) (ss : List SetV) (ha : absS ss = st.2) :
    ∃ ps : List Pdu, feedF 7 ss [] (wrB (pdS 1 7 (9 + UInt32.ofNat n - ago) 0)) = (ps.flatMap wrB, some []) ∧ allOf (ps.flatMap wrB) = (ps, [], 0, 0) ∧ SerP n ago ps := by
  obtain ⟨ps, h1, h2, h3⟩ := ser_take h ago
  refine ⟨ps, ?_, all_flat ps h2, h3⟩
  have h4 := all_flat [pdS 1 7 (9 + UInt32.ofNat n - ago) 0] (fun p hp => by rw [List.mem_singleton] at hp; subst hp; exact okAsk _)
  rw [List.flatMap_cons, List.flatMap_nil, List.append_nil] at h4
  unfold feedF
  rw [List.nil_append, h4]
  simp only [goF, takeG_eq, ha, h1, if_true, List.append_nil]
end Go.Proofs.Ytmoldmnhijcckaa
/- Feeding in parts, as plain law; session.Feed at a router that is not open. -/
set_option linter.unusedVariables false
set_option linter.unusedSectionVars false
set_option linter.unusedSimpArgs false
namespace Go.Proofs.Ytmoldmnhijcckaa
open Go.RowKit
theorem at8_app {X : List UInt8} {i : Nat} (h : i < X.length) (Y : List UInt8) : at8 (X ++ Y) i = at8 X i := by
  unfold at8
  simp [List.getD_eq_getElem?_getD, List.getElem?_append_left h]
theorem readOf_app {X : List UInt8} (h : (readOf X).2.2.2 ≠ 3) (Y : List UInt8) : readOf (X ++ Y) = readOf X := by
  have h8 : ¬ X.length < 8 := fun h8 => h (by unfold readOf; rw [if_pos h8])
  have hl8 : ¬ (X ++ Y).length < 8 := by rw [List.length_append]; omega
  have hlo := longOk_take (bs := X ++ Y) (k := X.length) (by omega)
  rw [List.take_left] at hlo
  have hk : kd (X ++ Y) = kd X := by unfold kd; rw [at8_app (by omega)]
  have h0 : at8 (X ++ Y) 0 = at8 X 0 := at8_app (by omega) Y
  unfold readOf at h ⊢
  rw [if_neg h8] at h ⊢
  rw [if_neg hl8, h0, hk, ← hlo.1, ← hlo.2]
  by_cases a1 : at8 X 0 ≠ 1
  · rw [if_pos a1, if_pos a1]
  rw [if_neg a1] at h ⊢
  rw [if_neg a1]
  by_cases a2 : isKind (kd X) = false
  · rw [if_pos a2, if_pos a2]
  rw [if_neg a2] at h ⊢
  rw [if_neg a2]
  by_cases a3 : longOk X = false
  · rw [if_pos a3, if_pos a3]
  rw [if_neg a3] at h ⊢
  rw [if_neg a3]
  by_cases a4 : X.length < longOf X
  · rw [if_pos a4] at h
    exact absurd rfl h
  rw [if_neg a4] at h ⊢
  have a5 : ¬ (X ++ Y).length < longOf X := by rw [List.length_append]; omega
  rw [if_neg a5, List.take_append_of_le_length (by omega)]
theorem allOf_app (X : List UInt8) : ∀ Y : List UInt8, ((allOf X).2.2.2 = 0 → allOf (X ++ Y) = ((allOf X).1 ++ (allOf ((allOf X).2.1 ++ Y)).1, (allOf ((allOf X).2.1 ++ Y)).2)) ∧
    ((allOf X).2.2.2 ≠ 0 → allOf (X ++ Y) = ((allOf X).1, (allOf X).2.1 ++ Y, (allOf X).2.2.1, (allOf X).2.2.2)) ∧ (allOf X).2.1.length ≤ X.length := by
  induction hn : X.length using Nat.strongRecOn generalizing X with
  | _ n ih =>
    subst hn
    intro Y
    rcases hr : readOf X with ⟨q, m, k, x⟩
    by_cases h0 : x = 0
    · subst h0
      obtain ⟨l, e1, e2, e3⟩ := readOf_zero (bs := X) (by rw [hr])
      rw [hr] at e1
      simp only at e1
      subst e1
      have hXY := readOf_app (X := X) (by rw [hr]; show (0 : Int) ≠ 3; decide) Y
      rw [hr] at hXY
      have i := ih (X.drop l).length (by rw [List.length_drop]; omega) (X.drop l) rfl Y
      have hd : (X ++ Y).drop l = X.drop l ++ Y := List.drop_append_of_le_length e3
      rw [all_ok hr, all_ok hXY, Int.toNat_natCast, hd]
      refine ⟨fun h => ?_, fun h => ?_, ?_⟩
      · rw [i.1 h]; rfl
      · rw [i.2.1 h]
      · have := i.2.2; rw [List.length_drop] at this; simp only; omega
    · by_cases h3 : x = 3
      · subst h3
        rw [all_short hr]
        refine ⟨fun _ => ?_, fun h => absurd rfl h, Nat.le_refl _⟩
        simp
      · have hXY := readOf_app (X := X) (by rw [hr]; exact h3) Y
        rw [hr] at hXY
        rw [all_bad hr h0 h3, all_bad hXY h0 h3]
        exact ⟨fun h => absurd h h0, fun _ => rfl, Nat.le_refl _⟩
theorem goF_append (sess : Int) (ss : List SetV) (qs : List Pdu) : ∀ ps : List Pdu, goF sess ss (ps ++ qs) = if (goF sess ss ps).2 then ((goF sess ss ps).1 ++ (goF sess ss qs).1, (goF sess ss qs).2) else goF sess ss ps
  | [] => by simp [goF]
  | p :: ps => by
    rw [List.cons_append, goF, goF, goF_append sess ss qs ps]
    cases h1 : (takeF sess ss p).2
    · simp
    · cases h2 : (goF sess ss ps).2
      · simp [h2]
      · simp [h2]
/-- Bytes in two parts are answered alike. -/
theorem feed_parts (sess : Int) (ss : List SetV) (L X Y : List UInt8) :
    (∀ r, (feedF sess ss L X).2 = some r → r.length ≤ L.length + X.length ∧ feedF sess ss L (X ++ Y) = ((feedF sess ss L X).1 ++ (feedF sess ss r Y).1, (feedF sess ss r Y).2)) ∧
    ((feedF sess ss L X).2 = none → feedF sess ss L (X ++ Y) = ((feedF sess ss L X).1, none)) := by
  have ha := allOf_app (L ++ X) Y
  rw [List.append_assoc] at ha
  unfold feedF
  rcases hX : allOf (L ++ X) with ⟨ps, rest, k, x⟩
  rw [hX] at ha
  simp only at ha ⊢
  obtain ⟨a1, a2, a3⟩ := ha
  rw [List.length_append] at a3
  cases hg : (goF sess ss ps).2
  · by_cases h0 : x = 0
    · rw [a1 h0, goF_append, hg]
      simp [hg]
    · rw [a2 h0, hg]
      simp
  · by_cases h0 : x = 0
    · rw [a1 h0, goF_append, hg]
      simp only [if_true, if_pos h0]
      refine ⟨fun r hr => ?_, fun hr => by cases hr⟩
      obtain rfl := Option.some.inj hr
      refine ⟨a3, ?_⟩
      cases hg2 : (goF sess ss (allOf (rest ++ Y)).1).2
      · simp
      · by_cases h2 : (allOf (rest ++ Y)).2.2.2 = 0
        · simp [h2]
        · simp [h2]
    · rw [a2 h0, hg]
      simp only [if_true, if_neg h0]
      exact ⟨fun r hr => (by cases hr), fun _ => by first | trivial | rfl⟩
set_option maxRecDepth 100000 in
set_option maxHeartbeats 1000000 in
theorem feed_none (id : Int) (nb : Nat) (A : Option Addr) (c : Nat) (w : World) (lo g b : Nat) (sess : Int) (serial : UInt32) (v : Value) (ss : List SetV) (f : Int → Option Lf) (many : Int) (h : CA w lo g b sess serial v ss f many) (hf : f id = none) :
    Calls Try.prog 34 #[.pointer (some ⟨g, 0, none⟩), .int .i64 id, .slice A nb c] w fun e w' => e = .returned (.tuple #[.slice none 0 0, .int .i64 10]) ∧ w = w' := by
  have cm := h.blk.cell 3
  simp only [List.getElem?_cons_zero, List.getElem?_cons_succ] at cm
  have hlook := h.mp.look_none Try.underlying108 Try.underlying3 (P := Try.prog) (k := id) (Try.zeroValue30 w) (by simp [hf])
  clear hf
  go_enter Try.func34, Try.ntmps34
  go_wp2_with fail
  exact bodyPost_ret (v := .tuple #[.slice none 0 0, .int .i64 10]) (by simp [results, Try.results34, go_sem]) rfl ⟨rfl, rfl⟩
end Go.Proofs.Ytmoldmnhijcckaa
/- The walk of lanyardlaw26.SessionParts: it returns true. -/
set_option linter.unusedVariables false
set_option linter.unusedSectionVars false
set_option linter.unusedSimpArgs false
namespace Go.Proofs.Ytmoldmnhijcckaa
open Go.RowKit
/-- The rest of a row of bytes. -/
theorem cut_tail (A : Option Addr) (c n k : Nat) (h1 : k ≤ n) (hc : n ≤ c) : ∃ A2 : Option Addr, (∀ W, (Instr.sliceAt 30 (.slice A n c) (some (.int .i64 (k : Int))) none none).run Try.prog W = .ok (.slice A2 (n - k) (c - k)) W) ∧
    ∀ (W : World) (B : Nat) (bs : List UInt8), Reads W B 1 A n (bs.map bv) → Reads W B 1 A2 (n - k) ((bs.drop k).map bv) := by
  have ht : Try.prog.underlying 30 = some (.slice (Try.prog.elem 30)) := by kernel_rfl
  have he : Try.prog.elem 30 = 5 := by kernel_rfl
  refine ⟨(if c = k then A else A.map (·.add (k * 1))), fun W => ?_, fun W B bs h => ?_⟩
  · rw [run_sliceAt_slice _ _ _ _ _ _ ht, run_slice_l _ _ _ _ _ ht _ _ (by omega) (by omega), he, Try.sizeOf5]
    simp [Result.andThen, sliced]
  · have := cutR h h1 hc
    rw [Nat.mul_one]
    exact this
/-- One cache behind what was there. -/
structure C1 (w : World) (lc gc bc : Nat) (sn : UInt32) (vc : Value) (sc : List SetV) (fc : Int → Option Lf) (mc : Int) (W : World) : Prop where
  c : CA W lc gc bc 7 sn vc sc fc mc
  lo : Below w.heap.size w W
  l1 : w.heap.size ≤ lc
section
variable {w W W' : World} {lc gc bc : Nat} {sn : UInt32} {vc : Value} {sc : List SetV} {fc f' : Int → Option Lf} {mc m' : Int}
theorem C1.step (h : C1 w lc gc bc sn vc sc fc mc W) (hC : CA W' lc gc bc 7 sn vc sc f' m') (hF : Fr2 W W' gc bc) : C1 w lc gc bc sn vc sc f' m' W' :=
  ⟨hC, fr2_lo h.lo h.l1 h.c.l1 h.c.l2 hF, h.l1⟩
theorem C1.next (h : C1 w lc gc bc sn vc sc fc mc W) (hb : Below W.heap.size W W') : C1 w lc gc bc sn vc sc fc mc W' :=
  ⟨h.c.next hb, below_then h.lo (Nat.le_refl _) hb, h.l1⟩
end
set_option maxRecDepth 100000 in
set_option maxHeartbeats 2000000 in
theorem parts26_far (w : World) (xs : List SL) (A : Option Addr) (c B : Nat) (hc : xs.length ≤ c) (hm : c ≤ maxLen) (hr : Reads w B 1 A xs.length (xs.map SL.val)) (hrx : ∀ x ∈ xs, x.l.length ≤ x.c ∧ x.c ≤ maxLen ∧ Reads w B 20 x.A x.l.length (x.l.flatMap Vrp.cells))
    (as1 : List UInt8) (A1 : Option Addr) (c1 : Nat) (n : Int) (hB : B ≤ w.heap.size) (hbig : ¬ (as1.length ≤ 600 ∧ 0 ≤ n)) :
    Calls Try.prog 10 #[.slice A xs.length c, .slice A1 as1.length c1, .int .i64 n] w fun e w' => e = .returned (.bool true) ∧ Below w.heap.size w w' := by
  by_cases h1 : as1.length ≤ 600
  · have d1 : decide ((600 : Int) < (as1.length : Int)) = false := decide_eq_false (by omega)
    have d2 : decide (n < 0) = true := decide_eq_true (by omega)
    clear h1 hbig
    go_enter Try.func10, Try.ntmps10
    go_wp2_with fail
    refine (awake26_any w).mono ?_
    rintro e w1 ⟨rfl, hb1⟩
    go_wp2_with fail
    refine (few_any xs _ rfl A c _ (by simp only [maxLen] at hm; omega) w1 (by have := hb1.size; omega) (hr.below hb1 hB) (fun x hx => by have := hrx x hx; simp only [maxLen] at this; omega)).mono ?_
    rintro e w2 ⟨r, rfl, hfew, hb2⟩
    have hlo := below_then hb1 (Nat.le_refl _) hb2
    clear hb1 hb2
    cases r <;> (go_wp2_with fail; go_ret; exact ⟨rfl, hlo⟩)
  · have d1 : decide ((600 : Int) < (as1.length : Int)) = true := decide_eq_true (by omega)
    clear h1 hbig
    go_enter Try.func10, Try.ntmps10
    go_wp2_with fail
    refine (awake26_any w).mono ?_
    rintro e w1 ⟨rfl, hb1⟩
    go_wp2_with fail
    refine (few_any xs _ rfl A c _ (by simp only [maxLen] at hm; omega) w1 (by have := hb1.size; omega) (hr.below hb1 hB) (fun x hx => by have := hrx x hx; simp only [maxLen] at this; omega)).mono ?_
    rintro e w2 ⟨r, rfl, hfew, hb2⟩
    have hlo := below_then hb1 (Nat.le_refl _) hb2
    clear hb1 hb2
    cases r <;> (go_wp2_with fail; go_ret; exact ⟨rfl, hlo⟩)
theorem C1.closed {w W : World} {lc gc bc : Nat} {sn : UInt32} {vc : Value} {sc : List SetV} {fc : Int → Option Lf} {mc : Int} (h : C1 w lc gc bc sn vc sc fc mc W) : ∃ f, f = fc ∧ C1 w lc gc bc sn vc sc f mc W := ⟨fc, rfl, h⟩
theorem isSome_map {x : Option Lf} {r : Option (List UInt8)} (h : x.map Lf.bs = r) : x.isSome = r.isSome := by rw [← h]; cases x <;> rfl
theorem str_app (a b : List UInt8) : (ByteArray.mk a.toArray) ++ (ByteArray.mk b.toArray) = ByteArray.mk (a ++ b).toArray := by
  apply ByteArray.ext
  simp
theorem run_str_add (a b : List UInt8) (h : a.length + b.length ≤ 1000000000) (W : World) : (Go.binOp .add 9 (.string (ByteArray.mk a.toArray)) (.string (ByteArray.mk b.toArray))).run Try.prog W = .ok (.string (ByteArray.mk (a ++ b).toArray)) W := by
  have hne : ¬ (((ByteArray.mk a.toArray).size + (ByteArray.mk b.toArray).size : Nat) : Int) > IntKind.i64.max := by
    have h1 : (ByteArray.mk a.toArray).size = a.length := by simp [ByteArray.size]
    have h2 : (ByteArray.mk b.toArray).size = b.length := by simp [ByteArray.size]
    rw [h1, h2]
    have : IntKind.i64.max = 9223372036854775807 := by decide
    omega
  rw [← str_app]
  simp only [Go.binOp, Op.stringOp, if_neg hne]
  first | rfl | simp [run_underlying Try.underlying9] | (simp [run_underlying Try.underlying9, Op.stringOp, hne])
set_option maxRecDepth 100000 in
set_option maxHeartbeats 3000000 in
theorem parts26_near (w : World) (xs : List SL) (A : Option Addr) (c B : Nat) (hc : xs.length ≤ c) (hm : c ≤ maxLen) (hr : Reads w B 1 A xs.length (xs.map SL.val)) (hrx : ∀ x ∈ xs, x.l.length ≤ x.c ∧ x.c ≤ maxLen ∧ Reads w B 20 x.A x.l.length (x.l.flatMap Vrp.cells))
    (as1 : List UInt8) (N : Nat) (hN : as1.length = N) (A1 : Option Addr) (c1 : Nat) (hc1 : N ≤ c1) (hr1 : Reads w B 1 A1 N (as1.map bv)) (n : Nat) (hB : B ≤ w.heap.size) (h1 : N ≤ 600) :
    Calls Try.prog 10 #[.slice A xs.length c, .slice A1 N c1, .int .i64 n] w fun e w' => e = .returned (.bool true) ∧ Below w.heap.size w w' := by
  have d1 : decide ((600 : Int) < (N : Int)) = false := decide_eq_false (by omega)
  have d2 : decide ((n : Int) < 0) = false := decide_eq_false (by omega)
  have HN := Lib.hid hN
  clear hN
  go_enter Try.func10, Try.ntmps10
  go_wp2_with fail
  refine (awake26_any w).mono ?_
  rintro e w1 ⟨rfl, hb1⟩
  go_wp2_with fail
  refine (few_any xs _ rfl A c _ (by simp only [maxLen] at hm; omega) w1 (by have := hb1.size; omega) (hr.below hb1 hB) (fun x hx => by have := hrx x hx; simp only [maxLen] at this; omega)).mono ?_
  rintro e w2 ⟨r, rfl, hfew, hb2⟩
  have hlo := below_then hb1 (Nat.le_refl _) hb2
  clear hb1 hb2
  cases r
  · go_wp2_with fail
    go_ret
    exact ⟨rfl, hlo⟩
  obtain ⟨h12, h60⟩ := hfew rfl
  have H60 := Lib.hid h60
  clear hfew h12 h60
  go_wp2_with fail
  clear d1 d2
  refine (made_any xs _ rfl A c _ (by simp only [maxLen] at hm; omega) w2 (by have := hlo.size; omega) (hr.below hlo hB) H60.out (fun x hx => (hrx x hx).2.2.below hlo hB)).mono ?_
  rintro e w3 ⟨gc, bc, vc, sc, rfl, hC, hac, h5c, h6c, hb3⟩
  have hC1 : C1 w w2.heap.size gc bc (mkF (xs.map SL.l)).1 vc sc noLf 0 w3 := ⟨hC, below_then hlo (Nat.le_refl _) hb3, hlo.size⟩
  have H5 := Lib.hid (show sc.length ≤ 5 ∧ ∀ s ∈ sc, s.l.length ≤ 60 from ⟨h5c, h6c⟩)
  generalize (mkF (xs.map SL.l)).1 = sn at hC1
  generalize w2.heap.size = lc at hC1
  clear hC hb3 hlo hac h5c h6c H60 hr hrx hc hm
  go_wp2_with fail
  refine (open_any w3 _ _ _ _ _ _ _ _ _ hC1.c (by omega) (by omega)).mono ?_
  rintro e w5 ⟨rfl, hO, hF⟩
  replace hC1 := hC1.step hO hF
  clear hO hF
  go_wp2_with fail
  refine (open_any w5 _ _ _ _ _ _ _ _ _ hC1.c (by omega) (by omega)).mono ?_
  rintro e w6 ⟨rfl, hO, hF⟩
  replace hC1 := hC1.step hO hF
  clear hO hF
  have hmN : n % (N + 1) ≤ N := by have := Nat.mod_lt n (show 0 < N + 1 by omega); omega
  have e1 : (n : Int) % ((N : Int) + 1) = ((n % (N + 1) : Nat) : Int) := by rw [Int.natCast_emod, Int.natCast_add]; rfl
  have e2 : Int.tmod (n : Int) ((N : Int) + 1) = ((n % (N + 1) : Nat) : Int) := rfl
  have hN0 : ((N : Int) + 1 == 0) = false := beq_eq_false_iff_ne.2 (by omega)
  generalize n % (N + 1) = m at hmN e1 e2
  go_wp2_with fail
  refine (feed_any 0 as1 _ HN.out A1 c1 _ (by omega) w6 _ _ _ _ _ _ _ _ _ hC1.c (by have := H5.out.1; omega) (fun s hs => by have := H5.out.2 s hs; omega) ⟨none, 0, []⟩ rfl (by simp) (by have := hC1.lo.size; omega) (hr1.below hC1.lo hB) (feedF_len 7 sc [] as1 H5.out.2 (by rw [HN.out]; simp; omega))).mono ?_
  rintro e w7 ⟨Aa, ca, xa, rfl, hov, hxa, hO, hF⟩
  replace hC1 := hC1.step hO (Fr2.of' hF)
  clear hO hF e1 e2 hN0
  have hmi : (m : Int) ≤ (c1 : Int) := by omega
  have hmi' : m ≤ c1 := by omega
  have hmN' : (m : Int) ≤ (N : Int) := by omega
  have hm0 : (0 : Int) ≤ (m : Int) := by omega
  have HP := Lib.hid (feed_parts 7 sc [] (as1.take m) (as1.drop m))
  rw [List.take_append_drop] at HP
  have HXA := Lib.hid hxa
  clear hxa
  go_wp2_with fail
  refine (feed_any 1 (as1.take m) m (by rw [List.length_take, HN.out]; omega) A1 c1 _ (by omega) w7 _ _ _ _ _ _ _ _ _ hC1.c (by have := H5.out.1; omega) (fun s hs => by have := H5.out.2 s hs; omega) ⟨none, 0, []⟩ rfl (by simp) (by have := hC1.lo.size; omega) ((hr1.below hC1.lo hB).take1 hmN) (feedF_len 7 sc [] (as1.take m) H5.out.2 (by rw [List.length_take, HN.out]; simp; omega))).mono ?_
  rintro e w8 ⟨Ab, cb, xb, rfl, hov1, hxb, hO, hF⟩
  replace hov := own_maps (f' := fun _ => none) hC1.c.mp hF hov
  replace hC1 := hC1.step hO (Fr2.of' hF)
  clear hO hF
  have HXB := Lib.hid hxb
  clear hxb
  cases hrr : (feedF 7 sc [] (as1.take m)).2 with
  | none =>
    have hal := HP.out.2 hrr
    have hb0 := HXB.out
    rw [hrr] at hb0
    have ha0 := HXA.out
    rw [hal] at ha0
    have ho3 : (feedF 7 sc [] as1).1 = (feedF 7 sc [] (as1.take m)).1 ++ [] := by rw [hal, List.append_nil]
    generalize (feedF 7 sc [] as1).1 = o3 at hov ho3 ⊢
    have HO3 := Lib.hid ho3
    clear ho3
    have hbn : xb = none := by simpa using hb0
    have han : xa = none := by simpa using ha0
    subst hbn
    subst han
    clear hrr hal hb0 ha0 HP HXA HXB
    have hlo1 := Lib.hid (feedF_len 7 sc [] (as1.take m) H5.out.2 (by rw [List.length_take, HN.out]; simp; omega))
    generalize (feedF 7 sc [] (as1.take m)).1 = o1 at hov1 hlo1 HO3 ⊢
    obtain ⟨A5, hcut, hrc⟩ := cut_tail A1 c1 N m hmN hc1
    go_wp2_with fail
    refine (feed_none 1 (N - m) _ (c1 - m) w8 _ _ _ _ _ _ _ _ _ hC1.c rfl).mono ?_
    rintro e w9 ⟨rfl, rfl⟩
    obtain ⟨q, hq⟩ : ∃ q, q = false := ⟨_, rfl⟩
    obtain ⟨fc, hfc, hC2⟩ := hC1.closed
    clear hC1
    have hC1 := hC2
    clear hC2
    have HQ1 := Lib.hid (show (fc 1).isSome = q by rw [hfc]; exact hq.symm)
    have HQ0 := Lib.hid (show (fc 0).isSome = q by rw [hfc]; exact hq.symm)
    obtain ⟨i, hi⟩ : ∃ i, i = (if q = true then (0 : Int) else 10) := ⟨_, rfl⟩
    have HI := Lib.hid hi
    clear hi hfc hq
    go_wp2_with fail
    refine (close_any 0 _ _ _ _ _ _ _ _ _ _ hC1.c).mono ?_
    rintro e wa ⟨he, hO, hF⟩
    have he' : e = .returned (.int .i64 i) := he.trans (by rw [HI.out, HQ0.out])
    subst he'
    have hs0 := hC1.c.mp
    replace hov := own_maps (f' := fun _ => none) hs0 hF hov
    replace hov1 := own_maps (f' := fun _ => none) hs0 hF hov1
    skip
    replace hC1 := hC1.step hO (Fr2.of' hF)
    clear hO hF hs0 he
    go_wp2_with fail
    refine (close_any 1 _ _ _ _ _ _ _ _ _ _ hC1.c).mono ?_
    rintro e wb ⟨he, hO, hF⟩
    have he' : e = .returned (.int .i64 i) := he.trans (by rw [HI.out, ← HQ1.out]; rfl)
    subst he'
    have hs0 := hC1.c.mp
    replace hov := own_maps (f' := fun _ => none) hs0 hF hov
    replace hov1 := own_maps (f' := fun _ => none) hs0 hF hov1
    skip
    have hfin := (hC1.step hO (Fr2.of' hF)).lo
    clear hO hF hs0 he hC1
    have hsx := (Reads.of_own hov).str ca
    have hsy := (Reads.of_own hov1).str cb
    obtain ⟨o2, ho2⟩ : ∃ o2 : List UInt8, o2 = [] := ⟨_, rfl⟩
    have hsz2 : (convert 30 9 (.slice none 0 0)).run Try.prog wb = .ok (.string (ByteArray.mk o2.toArray)) wb := by rw [ho2]; exact Reads.str (B := 0) (A := none) (w := wb) (bs := []) Reads.nil 0
    have hno : ¬ 9223372036854775807 < o1.length + o2.length := by have := hlo1.out; rw [ho2, List.length_nil]; omega
    have hO3 : (ByteArray.mk o1.toArray ++ ByteArray.mk o2.toArray).toList = o3 := by rw [str_app, ho2, ← HO3.out]; simp
    clear ho2
    clear hov hov1 
    go_wp2_with fail
    go_ret
    exact ⟨rfl, hfin⟩
  | some r =>
    obtain ⟨hrl, hal⟩ := HP.out.1 r hrr
    have hb0 := HXB.out
    rw [hrr] at hb0
    have ha0 := HXA.out
    rw [hal] at ha0
    have ho3 : (feedF 7 sc [] as1).1 = (feedF 7 sc [] (as1.take m)).1 ++ (feedF 7 sc r (as1.drop m)).1 := by rw [hal]
    generalize (feedF 7 sc [] as1).1 = o3 at hov ho3 ⊢
    have HO3 := Lib.hid ho3
    clear ho3
    obtain ⟨x2, rfl, rfl⟩ : ∃ x2, xb = some x2 ∧ x2.bs = r := by
      cases xb with
      | none => cases hb0
      | some x2 => exact ⟨x2, rfl, Option.some.inj hb0⟩
    have hrl2 : x2.bs.length ≤ 600 := by rw [List.length_take, HN.out] at hrl; simp at hrl; omega
    have HA0 := Lib.hid ha0
    clear hrr hal hb0 ha0 HP HXA HXB hrl
    have hlo1 := Lib.hid (feedF_len 7 sc [] (as1.take m) H5.out.2 (by rw [List.length_take, HN.out]; simp; omega))
    generalize (feedF 7 sc [] (as1.take m)).1 = o1 at hov1 hlo1 HO3 ⊢
    obtain ⟨A5, hcut, hrc⟩ := cut_tail A1 c1 N m hmN hc1
    go_wp2_with fail
    refine (feed_any 1 (as1.drop m) (N - m) (by rw [List.length_drop, HN.out]) _ (c1 - m) _ (by omega) w8 _ _ _ _ _ _ _ _ _ hC1.c (by have := H5.out.1; omega) (fun s hs => by have := H5.out.2 s hs; omega) x2 rfl (by omega) (by have := hC1.lo.size; omega) (hrc _ _ _ (hr1.below hC1.lo hB)) (feedF_len 7 sc x2.bs (as1.drop m) H5.out.2 (by rw [List.length_drop, HN.out]; omega))).mono ?_
    rintro e w9 ⟨Ac, cc, xc, rfl, hov2, hxc, hO, hF⟩
    replace hov := own_maps (f' := fun _ => none) hC1.c.mp hF hov
    replace hov1 := own_maps (f' := fun _ => none) hC1.c.mp hF hov1
    replace hC1 := hC1.step hO (Fr2.of' hF)
    clear hO hF
    obtain ⟨q, hq⟩ : ∃ q, q = xc.isSome := ⟨_, rfl⟩
    have hqa : xa.isSome = q := ((isSome_map HA0.out).trans (isSome_map hxc).symm).trans hq.symm
    clear hxc HA0
    have hlo2 := Lib.hid (feedF_len 7 sc x2.bs (as1.drop m) H5.out.2 (by rw [List.length_drop, HN.out]; omega))
    generalize (feedF 7 sc x2.bs (as1.drop m)).1 = o2 at hov2 hlo2 HO3 ⊢
    obtain ⟨fc, hfc, hC2⟩ := hC1.closed
    clear hC1
    have hC1 := hC2
    clear hC2
    have HQ1 := Lib.hid (show (fc 1).isSome = q by rw [hfc]; exact hq.symm)
    have HQ0 := Lib.hid (show (fc 0).isSome = q by rw [hfc]; exact hqa)
    obtain ⟨i, hi⟩ : ∃ i, i = (if q = true then (0 : Int) else 10) := ⟨_, rfl⟩
    have HI := Lib.hid hi
    clear hi hfc hq hqa
    go_wp2_with fail
    refine (close_any 0 _ _ _ _ _ _ _ _ _ _ hC1.c).mono ?_
    rintro e wa ⟨he, hO, hF⟩
    have he' : e = .returned (.int .i64 i) := he.trans (by rw [HI.out, HQ0.out])
    subst he'
    have hs0 := hC1.c.mp
    replace hov := own_maps (f' := fun _ => none) hs0 hF hov
    replace hov1 := own_maps (f' := fun _ => none) hs0 hF hov1
    replace hov2 := own_maps (f' := fun _ => none) hs0 hF hov2
    replace hC1 := hC1.step hO (Fr2.of' hF)
    clear hO hF hs0 he
    go_wp2_with fail
    refine (close_any 1 _ _ _ _ _ _ _ _ _ _ hC1.c).mono ?_
    rintro e wb ⟨he, hO, hF⟩
    have he' : e = .returned (.int .i64 i) := he.trans (by rw [HI.out, ← HQ1.out]; rfl)
    subst he'
    have hs0 := hC1.c.mp
    replace hov := own_maps (f' := fun _ => none) hs0 hF hov
    replace hov1 := own_maps (f' := fun _ => none) hs0 hF hov1
    replace hov2 := own_maps (f' := fun _ => none) hs0 hF hov2
    have hfin := (hC1.step hO (Fr2.of' hF)).lo
    clear hO hF hs0 he hC1
    have hsx := (Reads.of_own hov).str ca
    have hsy := (Reads.of_own hov1).str cb
    have hsz2 := (Reads.of_own hov2).str cc
    have hno : ¬ 9223372036854775807 < o1.length + o2.length := by have := hlo1.out; have := hlo2.out; omega
    have hO3 : (ByteArray.mk o1.toArray ++ ByteArray.mk o2.toArray).toList = o3 := by rw [str_app, ← HO3.out]; simp
    clear hov2
    clear hov hov1 
    go_wp2_with fail
    go_ret
    exact ⟨rfl, hfin⟩
theorem parts26_any (w : World) (xs : List SL) (A : Option Addr) (c B : Nat) (hc : xs.length ≤ c) (hm : c ≤ maxLen) (hr : Reads w B 1 A xs.length (xs.map SL.val)) (hrx : ∀ x ∈ xs, x.l.length ≤ x.c ∧ x.c ≤ maxLen ∧ Reads w B 20 x.A x.l.length (x.l.flatMap Vrp.cells))
    (as1 : List UInt8) (A1 : Option Addr) (c1 B1 : Nat) (hc1 : as1.length ≤ c1) (hr1 : Reads w B1 1 A1 as1.length (as1.map bv)) (n : Int) (hl : -9223372036854775808 ≤ n) (hu : n ≤ 9223372036854775807) (hB : B ≤ w.heap.size) (hB1 : B1 ≤ w.heap.size) :
    Calls Try.prog 10 #[.slice A xs.length c, .slice A1 as1.length c1, .int .i64 n] w fun e w' => e = .returned (.bool true) ∧ Below w.heap.size w w' := by
  have hrx' : ∀ x ∈ xs, x.l.length ≤ x.c ∧ x.c ≤ maxLen ∧ Reads w w.heap.size 20 x.A x.l.length (x.l.flatMap Vrp.cells) := fun x hx => ⟨(hrx x hx).1, (hrx x hx).2.1, (hrx x hx).2.2.more hB⟩
  by_cases h : as1.length ≤ 600 ∧ 0 ≤ n
  · obtain ⟨k, rfl⟩ : ∃ k : Nat, n = k := ⟨n.toNat, by omega⟩
    exact parts26_near w xs A c w.heap.size hc hm (hr.more hB) hrx' as1 as1.length rfl A1 c1 hc1 (hr1.more hB1) k (Nat.le_refl _) h.1
  · exact parts26_far w xs A c w.heap.size hc hm (hr.more hB) hrx' as1 A1 c1 n (Nat.le_refl _) h
end Go.Proofs.Ytmoldmnhijcckaa
/- The walk of lanyardlaw26.SessionSerials: it returns true. -/
set_option linter.unusedVariables false
set_option linter.unusedSectionVars false
set_option linter.unusedSimpArgs false
namespace Go.Proofs.Ytmoldmnhijcckaa
open Go.RowKit
theorem ofNat_small : ∀ m, m < 13 → (UInt32.ofNat m).toNat = m ∧ (9 + UInt32.ofNat m).toNat = 9 + m := by decide
theorem wrap_ago (m : Nat) (hm : m ≤ 12) (ago : UInt32) : (9 + (m : Int) - (ago.toNat : Int)) % 4294967296 = ((9 + UInt32.ofNat m - ago).toNat : Int) := by
  have ha := ago.toNat_lt
  rw [UInt32.toNat_sub, (ofNat_small m (by omega)).2]
  omega
theorem pd_cell {W : World} {base g c n : Nat} {ps : List Pdu} (h : W.ownsRow base 29 26 (.slice (some ⟨g, 0, none⟩) n c) n (ps.flatMap Pdu.cells)) (k : Nat) (hk : k < ps.length) (hn : ps.length = n) (j : Nat) (v : Value) (hv : ps[k].cells[j]? = some v) : W.cell? ⟨g, k * 26 + j, none⟩ = some v := by
  have hat := (Reads.of_own h).elem Pdu.cells_length hk hn
  have := hat j v hv
  rw [add_plain', add_plain'] at this
  simpa [Nat.zero_add] using this
theorem own_some {W : World} {base n c : Nat} {A : Option Addr} {xs : List Value} (h : W.ownsRow base 29 26 (.slice A n c) n xs) (h0 : 0 < n) : ∃ g, A = some ⟨g, 0, none⟩ := by
  rcases h.2 with ⟨_, hz⟩ | ⟨g', cap, _, e, _⟩
  · omega
  · injection e with e _ _
    exact ⟨g', e⟩
theorem succ_ne (L : Nat) : (((L : Int) + 1) == 0) = false := beq_eq_false_iff_ne.2 (by omega)
theorem wrapL (L : Nat) (h : L ≤ 100000000) : wrap64 (L : Int) = (L : Int) := IntWalk.wrap64_in _ (by omega)
theorem ago_in {m : Nat} {ago : UInt32} (h : ago.toNat < min m 5) : ((m : Int) == 0) = false ∧ decide ((ago.toNat : Int) ≤ 4) = true ∧ decide (ago.toNat ≤ 4) = true ∧ decide ((ago.toNat : Int) < (m : Int)) = true ∧ decide (ago.toNat < m) = true :=
  ⟨beq_eq_false_iff_ne.2 (by omega), decide_eq_true (by omega), decide_eq_true (by omega), decide_eq_true (by omega), decide_eq_true (by omega)⟩
theorem ago_zero {ago : UInt32} (h : ago.toNat = 0) : decide ((0 : Int) < (ago.toNat : Int)) = false ∧ decide (0 < ago.toNat) = false := ⟨decide_eq_false (by omega), decide_eq_false (by omega)⟩
theorem ago_pos {ago : UInt32} (h : ¬ ago.toNat = 0) : decide ((0 : Int) < (ago.toNat : Int)) = true ∧ decide (0 < ago.toNat) = true := ⟨decide_eq_true (by omega), decide_eq_true (by omega)⟩
set_option maxRecDepth 100000 in
set_option maxHeartbeats 4000000 in
theorem serials_any (w : World) (xs : List SL) (A : Option Addr) (c B : Nat) (hc : xs.length ≤ c) (hm : c ≤ maxLen) (hr : Reads w B 1 A xs.length (xs.map SL.val)) (hrx : ∀ x ∈ xs, x.l.length ≤ x.c ∧ x.c ≤ maxLen ∧ Reads w B 20 x.A x.l.length (x.l.flatMap Vrp.cells))
    (ago : UInt32) (hB : B ≤ w.heap.size) :
    Calls Try.prog 9 #[.slice A xs.length c, .int .u32 ago.toNat] w fun e w' => e = .returned (.bool true) ∧ Below w.heap.size w w' := by
  go_enter Try.func9, Try.ntmps9
  go_wp2_with fail
  refine (awake26_any w).mono ?_
  rintro e w1 ⟨rfl, hb1⟩
  go_wp2_with fail
  refine (few_any xs _ rfl A c _ (by simp only [maxLen] at hm; omega) w1 (by have := hb1.size; omega) (hr.below hb1 hB) (fun x hx => by have := hrx x hx; simp only [maxLen] at this; omega)).mono ?_
  rintro e w2 ⟨r, rfl, hfew, hb2⟩
  have hlo := below_then hb1 (Nat.le_refl _) hb2
  clear hb1 hb2
  go_wp2_with fail
  refine (made_any [] 0 rfl none 0 0 (by omega) w2 (Nat.zero_le _) Reads.none_ (fun x hx => absurd hx (by simp)) (fun x hx => absurd hx (by simp))).mono ?_
  rintro e w3 ⟨gc, bc, vc, sc, rfl, hC, hac, h5c, h6c, hb3⟩
  have hlo3 := below_then hlo (Nat.le_refl _) hb3
  cases r
  · go_wp2_with fail
    go_ret
    exact ⟨rfl, hlo3⟩
  obtain ⟨h12, h60⟩ := hfew rfl
  have H60 := Lib.hid h60
  have hC1 : C1 w w2.heap.size gc bc 9 vc sc noLf 0 w3 := ⟨hC, hlo3, hlo.size⟩
  have hac' : absS sc = [] := hac
  have HAC := Lib.hid hac'
  clear hac hac' hfew h60
  generalize w2.heap.size = lc at hC1
  clear hC hb3 hlo hlo3
  go_wp2_with fail
  go_loopw [8, 9] (fun nv i W => ∃ (k m : Nat) (v : Value) (ss : List SetV) (st : UInt32 × List (List Vrp × UInt32)), k ≤ xs.length ∧ m ≤ k ∧ nv = .int .u32 m ∧ i = .int .i64 k ∧ C1 w lc gc bc st.1 v ss noLf 0 W ∧ Hid (absS ss = st.2) ∧ Hid (SerOk m st) ∧ Hid (st.2.length ≤ 5 ∧ ∀ x ∈ st.2, x.1.length ≤ 60)) (fun _ i _ => xs.length - (intOf i).toNat)
  case atStart => exact ⟨0, 0, _, sc, (9, []), by omega, by omega, rfl, rfl, hC1, HAC, Lib.hid SerOk.start, Lib.hid ⟨by simp, fun x hx => absurd hx (by simp)⟩⟩
  case round =>
    clear hC1
    obtain ⟨k, m, v, ss, st, hk, hmk, rfl, rfl, hC1, HA, HS, HO⟩ := hrel
    by_cases hlt : k < xs.length
    · obtain ⟨ad, rfl, _, _⟩ := hr.2 (by omega)
      have hk0 : (0 : Int) ≤ (k : Int) := by omega
      have hk1 : (k : Int) < (xs.length : Int) := by omega
      have hatf : ∀ W, Below w.heap.size w W → W.cell? (ad.add k) = some (.slice xs[k].A xs[k].l.length xs[k].c) := fun W hW => sl_at hr hB rfl (hW.mono hB) hlt
      have hmem : xs[k] ∈ xs := List.getElem_mem hlt
      have hx60 := H60.out _ hmem
      have hrx0 := (hrx _ hmem).2.2
      generalize xs[k] = x at hatf hx60 hrx0
      clear hmem
      have hat := hatf _ hC1.lo
      obtain ⟨h5, hs6⟩ := absS_ok HA.out HO.out.1 HO.out.2
      obtain ⟨g1, g2, g3⟩ := HS.out.step (by omega) x.l
      have HOK := Lib.hid (mkStep_ok st x.l 60 HO.out.1 HO.out.2 hx60)
      have HST := Lib.hid (show (st.1, absS ss) = st by rw [HA.out])
      have G2 := Lib.hid g2
      have HSM := Lib.hid (mkStep_same (mkStep st x.l) x.l g2)
      have G1 := Lib.hid g1
      clear g1 g2 g3
      go_wp2_with fail
      refine (update_any x.l _ rfl x.A x.c B (by omega) wr lc gc bc 7 st.1 v ss 0 hC1.c h5 (fun s hs => by have := hs6 s hs; omega) (by have := hC1.lo.size; omega) (hrx0.below hC1.lo hB)).mono ?_
      rintro e w4 hU
      obtain ⟨r, v4, ss4, rfl, hC4, ha4, hr4, hb4⟩ := upd_step hU
      rw [HST.out] at hC4 ha4
      rw [HA.out] at hr4
      have HR4 := Lib.hid hr4
      have HA4 := Lib.hid ha4
      have hC14 : C1 w lc gc bc (mkStep st x.l).1 v4 ss4 noLf 0 w4 := ⟨hC4, hC1.lo.trans (hb4.mono hC1.l1), hC1.l1⟩
      have HST4 := Lib.hid (show ((mkStep st x.l).1, absS ss4) = mkStep st x.l by rw [HA4.out])
      clear hU hC4 ha4 hr4 hb4 hC1 hat
      obtain ⟨h54, hs64⟩ := absS_ok HA4.out HOK.out.1 HOK.out.2
      have hat := hatf _ hC14.lo
      go_wp2_with fail
      refine (update_any x.l _ rfl x.A x.c B (by omega) w4 lc gc bc 7 (mkStep st x.l).1 v4 ss4 0 hC14.c h54 (fun s hs => by have := hs64 s hs; omega) (by have := hC14.lo.size; omega) (hrx0.below hC14.lo hB)).mono ?_
      rintro e w5 hU
      obtain ⟨r5, v5, ss5, rfl, hC5, ha5, hr5, hb5⟩ := upd_step hU
      rw [HST4.out, HSM.out] at hC5 ha5
      obtain rfl : r5 = false := hr5.trans (by rw [HA4.out]; exact decide_eq_false (fun h => h G2.out))
      have HA5 := Lib.hid ha5
      have hC15 : C1 w lc gc bc (mkStep st x.l).1 v5 ss5 noLf 0 w5 := ⟨hC5, hC14.lo.trans (hb5.mono hC14.l1), hC14.l1⟩
      clear hU hC5 ha5 hr5 hb5 hC14 hat hrx0 h54 hs64 h5 hs6
      obtain ⟨h55, hs65⟩ := absS_ok HA5.out HOK.out.1 HOK.out.2
      obtain ⟨m', hm'⟩ : ∃ m', m' = (if r = true then m + 1 else m) := ⟨_, rfl⟩
      have HM := Lib.hid hm'
      have HS5 := Lib.hid (show SerOk m' (mkStep st x.l) by rw [hm', HR4.out]; exact G1.out)
      have hmk' : m' ≤ k + 1 := by rw [hm']; split <;> omega
      have hpos : 0 < m' := by
        rcases (HS.out.step (by omega) x.l).2.2 with h | h
        · rw [← HR4.out] at h
          rw [hm', if_pos h]
          omega
        · rw [hm']
          split <;> omega
      have hnow : nowG (absS ss5) = (((9 + m' : Nat) : Int), true) := by
        obtain ⟨l0, s0, e0, e1, _⟩ := HS5.out.last hpos
        unfold nowG
        rw [HA5.out, e0]
        simp only [List.getLast?_concat, List.getLast?_append, List.getLast?_singleton, Option.some_or, e1]
        rw [(ofNat_small m' (by omega)).2]
      have HNOW := Lib.hid hnow
      clear hm' hnow
      have hw1 : ((m : Int) + 1) % 4294967296 = ((m + 1 : Nat) : Int) := by omega
      have hw9 : (9 + (m' : Int)) % 4294967296 = ((9 + m' : Nat) : Int) := by omega
      have hw10 : (9 + ((m + 1 : Nat) : Int)) % 4294967296 = ((9 + (m + 1) : Nat) : Int) := by omega
      have hw11 : (9 + (m : Int)) % 4294967296 = ((9 + m : Nat) : Int) := by omega
      cases r
      · have hmm : m' = m := HM.out.trans (if_neg (by decide))
        subst hmm
        go_wp2_with fail
        refine (now_any w5 _ _ _ _ _ _ _ _ _ hC15.c (by omega) (fun s hs => by have := hs65 s hs; omega)).mono ?_
        rintro e w6 ⟨hN, hb6⟩
        obtain ⟨v6, rfl⟩ := now_g hN
        rw [HNOW.out]
        have hC16 := hC15.next hb6
        clear hN hb6 hC15
        go_wp2_with fail
        go_roundw
        case rel => exact ⟨k + 1, m', v5, ss5, mkStep st x.l, by omega, by omega, rfl, by go_num, hC16, HA5, HS5, HOK⟩
        case measure => simp [intOf]; omega
      · have hmm : m' = m + 1 := HM.out.trans (if_pos rfl)
        subst hmm
        go_wp2_with fail
        refine (now_any w5 _ _ _ _ _ _ _ _ _ hC15.c (by omega) (fun s hs => by have := hs65 s hs; omega)).mono ?_
        rintro e w6 ⟨hN, hb6⟩
        obtain ⟨v6, rfl⟩ := now_g hN
        rw [HNOW.out]
        have hC16 := hC15.next hb6
        clear hN hb6 hC15
        go_wp2_with fail
        go_roundw
        case rel => exact ⟨k + 1, m + 1, v5, ss5, mkStep st x.l, by omega, by omega, rfl, by go_num, hC16, HA5, HS5, HOK⟩
        case measure => simp [intOf]; omega
    · obtain ⟨h5, hs6⟩ := absS_ok HA.out HO.out.1 HO.out.2
      have hm12 : m ≤ 12 := HS.out.few
      obtain ⟨ps, hfd, hal, hP⟩ := ser_feed HS.out ago ss HA.out
      have hws := wrap_ago m hm12 ago
      generalize 9 + UInt32.ofNat m - ago = sn at hfd hws
      have hw9 : (9 + (m : Int)) % 4294967296 = 9 + (m : Int) := by omega
      obtain ⟨bs1, hb1⟩ : ∃ bs1, bs1 = wrB (pdS 1 7 sn 0) := ⟨_, rfl⟩
      have hbl : bs1.length ≤ 232 := by rw [hb1]; exact (wr_bd (okAsk sn)).2
      rw [← hb1] at hfd
      have hlen := feedF_len 7 ss [] bs1 hs6 (by simp; omega)
      rw [hfd] at hlen
      obtain ⟨out, hout⟩ : ∃ out, out = ps.flatMap wrB := ⟨_, rfl⟩
      rw [← hout] at hfd hlen hal
      have HFD := Lib.hid hfd
      have HAL := Lib.hid hal
      have HP := Lib.hid hP
      have HL : Hid (out.length ≤ 100000000) := Lib.hid hlen
      have HB1 := Lib.hid hb1
      have HS6 := Lib.hid hs6
      clear hfd hal hP hlen hb1 hout hr hrx H60 HS HO hs6
      go_wp2_with fail
      refine (open_any wr _ _ _ _ _ _ _ _ _ hC1.c (by omega) (by omega)).mono ?_
      rintro e w5 ⟨rfl, hO, hF⟩
      replace hC1 := hC1.step hO hF
      clear hO hF
      go_wp2_with fail
      refine (write_ok (pdS 1 7 sn 0) (okAsk sn) bs1 HB1.out w5).mono ?_
      rintro e w6 ⟨A6, c6, rfl, ho6, hb6⟩
      replace hC1 := hC1.next hb6
      clear hb6 hws
      have hfeed := feed_any 0 bs1 _ rfl A6 c6 _ (by omega) w6 _ _ _ _ _ _ _ _ _ hC1.c (by omega) (fun s hs => by have := HS6.out s hs; omega) ⟨none, 0, []⟩ rfl (by simp) (Nat.le_refl _) (Reads.of_own ho6) (by rw [HFD.out]; exact HL.out)
      rw [HFD.out] at hfeed
      simp only at hfeed
      go_wp2_with fail
      refine hfeed.mono ?_
      clear hfeed
      rintro e w7 ⟨A7, c7, x7, rfl, ho7, _, hO, hF⟩
      replace hC1 := hC1.step hO (Fr2.of' hF)
      clear hO hF ho6
      go_wp2_with fail
      refine (all_n out _ rfl A7 c7 _ (own_capV ho7) (by have := HL.out; omega) w7 (Nat.le_refl _) (Reads.of_own ho7)).mono ?_
      rintro e w8 ⟨vp, A8, n8, c8, rfl, _, _, _, hop, hb8⟩
      rw [HAL.out] at hop ⊢
      simp only at hop ⊢
      have hlo8 := below_then hC1.lo (Nat.le_refl _) hb8
      obtain ⟨Ap, cp, rfl⟩ := own_slice' hop
      have hpl8 : ps.length ≤ 100000000 := by have h1 := allOf_len out; rw [HAL.out] at h1; have := HL.out; simp only at h1; omega
      clear hC1 ho7 hb8 HFD HAL HL HB1 HS6 HA h5
      rcases HP.out with ⟨h0, hps⟩ | ⟨h0, hin, qs, hps, hz⟩ | ⟨h0, hin, hps⟩
      · subst h0
        subst hps
        obtain ⟨g8, rfl⟩ := own_some hop (by simp)
        have e0 := pd_cell hop 0 (by simp) rfl 0 _ (Pdu.c0 _)
        have e24 := pd_cell hop 0 (by simp) rfl 24 _ (Pdu.c24 _)
        clear hop HP
        simp only [List.getElem_cons_zero, pdS, Nat.zero_mul, Nat.zero_add] at e0 e24
        go_wp2_with fail
        go_ret
        exact ⟨rfl, hlo8⟩
      · obtain ⟨Lm, hLm⟩ : ∃ Lm, Lm = qs.length + 1 := ⟨_, rfl⟩
        have hpl : ps.length = Lm + 1 := by rw [hps, hLm]; simp
        have hp0 : ps[0]'(by omega) = pdS 3 7 0 0 := by subst hps; rfl
        have hpL : ps[Lm]'(by omega) = pdS 7 7 (9 + UInt32.ofNat m) 0 := by subst hps; subst hLm; simp
        have hop' := hop
        rw [hpl] at hop'
        obtain ⟨g8, rfl⟩ := own_some hop' (by omega)
        have e0 := pd_cell hop' 0 (by omega) hpl 0 _ (Pdu.c0 _)
        have eL0 := pd_cell hop' Lm (by omega) hpl 0 _ (Pdu.c0 _)
        have eL2 := pd_cell hop' Lm (by omega) hpl 2 _ (Pdu.c2 _)
        rw [hp0] at e0
        rw [hpL] at eL0 eL2
        simp only [pdS, Nat.zero_mul, Nat.zero_add, Nat.add_zero] at e0 eL0 eL2
        rw [(ofNat_small m (by omega)).2] at eL2
        have hLs := own_capV hop'
        have hwL := wrapL Lm (by rw [hpl] at hpl8; exact Nat.le_of_succ_le hpl8)
        have bL := succ_ne Lm
        have hz2 : ago.toNat = 0 → Lm = 1 := fun h => by rw [hLm, hz h]; rfl
        rw [hpl]
        obtain ⟨b0, d1, d1', d2, d2'⟩ := ago_in hin
        have hc9 : ((9 + m : Nat) : Int) = 9 + (m : Int) := by push_cast; rfl
        by_cases ha0 : ago.toNat = 0
        · have hL1 := hz2 ha0
          subst hL1
          obtain ⟨d3, d3'⟩ := ago_zero ha0
          clear hin h0 hop hop' hps hpl hp0 hpL hLm hz hz2 ha0 HP
          go_wp2_with fail
          all_goals
            go_ret
            exact ⟨rfl, hlo8⟩
        · obtain ⟨d3, d3'⟩ := ago_pos ha0
          clear hin h0 hop hop' hps hpl hp0 hpL hLm hz hz2 ha0 HP
          go_wp2_with fail
          all_goals
            go_ret
            exact ⟨rfl, hlo8⟩
      · subst hps
        obtain ⟨g8, rfl⟩ := own_some hop (by simp)
        have e0 := pd_cell hop 0 (by simp) rfl 0 _ (Pdu.c0 _)
        clear hop HP
        simp only [List.getElem_cons_zero, pdS, Nat.zero_mul, Nat.zero_add] at e0
        have b0 : ((m : Int) == 0) = false := beq_eq_false_iff_ne.2 (by omega)
        by_cases h4 : ago.toNat ≤ 4
        · have d1 : decide ((ago.toNat : Int) ≤ 4) = true := decide_eq_true (by omega)
          have d2 : decide ((ago.toNat : Int) < (m : Int)) = false := decide_eq_false (by omega)
          have d2' : decide (ago.toNat < m) = false := decide_eq_false (by omega)
          have d1' : decide (ago.toNat ≤ 4) = true := decide_eq_true (by omega)
          clear hin h0 h4
          go_wp2_with fail
          all_goals
            go_ret
            exact ⟨rfl, hlo8⟩
        · have d1 : decide ((ago.toNat : Int) ≤ 4) = false := decide_eq_false (by omega)
          clear hin h0
          go_wp2_with fail
          all_goals
            go_ret
            exact ⟨rfl, hlo8⟩
end Go.Proofs.Ytmoldmnhijcckaa
