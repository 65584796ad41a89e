/- What feeding tells depends on the sets' rows and serials alone; how long it is; one cache is kept while another one changes. -/
import Derived.Test.YtmoldmnhijcckaaGreatMa37
set_option linter.unusedVariables false
set_option linter.unusedSectionVars false
set_option linter.unusedSimpArgs false
namespace Go.Proofs.YtmoldmnhijcckaaGreat
open Go.RowKit
def sinceG (sess : Int) (s : List Vrp × UInt32) (xs : List Vrp) : List UInt8 := sinceB sess ⟨none, 0, s.1, s.2⟩ xs
theorem sinceG_eq (sess : Int) (s : SetV) (xs : List Vrp) : sinceB sess s xs = sinceG sess (s.l, s.sn) xs := rfl
def takeG (sess : Int) (l : List (List Vrp × UInt32)) (p : Pdu) : List UInt8 × Bool :=
  if p.kind = 10 then ([], false)
  else if p.kind = 2 ∨ p.kind = 1 then
    match l.getLast? with
    | none => (wrD (pdS 10 0 0 2), true)
    | some s => if p.kind = 2 then (sinceG sess s [], true) else
      match (if p.session = sess then l.find? (fun s => s.2 == p.serial) else none) with
      | some r => (sinceG sess s r.1, true)
      | none => (wrD (pdS 8 0 0 0), true)
  else (wrD (pdS 10 0 0 3), false)
theorem remG_eq (sess' sess : Int) (sn' : UInt32) (ss : List SetV) : (if sess' = sess then (absS ss).find? (fun s => s.2 == sn') else none) = (remF sess' sn' sess ss).map fun s => (s.l, s.sn) := by
  unfold remF absS
  split
  · rw [List.find?_map]
    rfl
  · rfl
theorem takeG_eq (sess : Int) (ss : List SetV) (p : Pdu) : takeF sess ss p = takeG sess (absS ss) p := by
  unfold takeF takeG
  rw [remG_eq]
  have hg : (absS ss).getLast? = ss.getLast?.map fun s => (s.l, s.sn) := by unfold absS; rw [List.getLast?_map]
  rw [hg]
  cases ss.getLast? with
  | none => rfl
  | some s =>
    cases remF p.session p.serial sess ss with
    | none => rfl
    | some r => rfl
theorem goF_abs (sess : Int) {ss ss' : List SetV} (h : absS ss = absS ss') : ∀ ps : List Pdu, goF sess ss ps = goF sess ss' ps
  | [] => rfl
  | p :: ps => by
    unfold goF
    rw [takeG_eq sess ss p, takeG_eq sess ss' p, h, goF_abs sess h ps]
theorem feedF_abs (sess : Int) {ss ss' : List SetV} (h : absS ss = absS ss') (L bb : List UInt8) : feedF sess ss L bb = feedF sess ss' L bb := by
  unfold feedF
  rw [goF_abs sess h]
theorem wrD_len (p : Pdu) : (wrD p).length ≤ 232 := by
  unfold wrD
  split
  · rename_i h; exact (wr_bd h).2
  · simp
theorem tellAll_len (vs : List Vrp) (add : Bool) : (tellAll vs add).length ≤ 232 * vs.length := by
  unfold tellAll
  induction vs with
  | nil => simp
  | cons v vs ih =>
    rw [List.flatMap_cons, List.length_append, List.length_cons]
    have := wrD_len (pdOf v add)
    omega
theorem moreOf_len (xs ys : List Vrp) : (moreOf xs ys).length ≤ ys.length := Nat.le_trans (lessF_len _ _) (rowOf_len ys)
theorem sinceB_len (sess : Int) (s : SetV) (xs : List Vrp) (M : Nat) (h1 : s.l.length ≤ M) (h2 : xs.length ≤ M) : (sinceB sess s xs).length ≤ 232 * (2 * M + 2) := by
  unfold sinceB
  simp only [List.length_append]
  have a := wrD_len (pdS 3 sess 0 0)
  have b := wrD_len (pdS 7 sess s.sn 0)
  have c := tellAll_len (moreOf s.l xs) false
  have d := tellAll_len (moreOf xs s.l) true
  have e := moreOf_len s.l xs
  have f := moreOf_len xs s.l
  omega
theorem takeF_len (sess : Int) (ss : List SetV) (p : Pdu) (M : Nat) (h : ∀ s ∈ ss, s.l.length ≤ M) : (takeF sess ss p).1.length ≤ 232 * (2 * M + 2) := by
  unfold takeF
  split
  · simp
  split
  · split
    · have := wrD_len (pdS 10 0 0 2); simp only; omega
    · rename_i s hs
      have hm : s ∈ ss := List.mem_of_getLast? hs
      split
      · exact sinceB_len sess s [] M (h s hm) (Nat.zero_le _)
      · split
        · rename_i r hr
          exact sinceB_len sess s r.l M (h s hm) (h r (remF_mem hr))
        · have := wrD_len (pdS 8 0 0 0); simp only; omega
  · have := wrD_len (pdS 10 0 0 3); simp only; omega
theorem goF_len (sess : Int) (ss : List SetV) (M : Nat) (h : ∀ s ∈ ss, s.l.length ≤ M) : ∀ ps : List Pdu, (goF sess ss ps).1.length ≤ 232 * (2 * M + 2) * ps.length
  | [] => by simp [goF]
  | p :: ps => by
    have h1 := takeF_len sess ss p M h
    have h2 := goF_len sess ss M h ps
    unfold goF
    rw [List.length_cons, Nat.mul_succ]
    generalize 232 * (2 * M + 2) * ps.length = K at h2 ⊢
    generalize 232 * (2 * M + 2) = K2 at h1 ⊢
    split
    · simp only [List.length_append]; omega
    · simp only; omega
theorem allOf_len (bs : List UInt8) : (allOf bs).1.length ≤ bs.length := by
  induction hn : bs.length using Nat.strongRecOn generalizing bs with
  | _ n ih =>
    subst hn
    rw [allOf]
    split
    · rename_i h
      obtain ⟨l, h1, h2, h3⟩ := readOf_zero h
      have := ih (bs.drop l).length (by rw [List.length_drop]; omega) (bs.drop l) rfl
      rw [h1, Int.toNat_natCast]
      simp only [List.length_cons]
      rw [List.length_drop] at this
      omega
    · split <;> simp
theorem feedF_len (sess : Int) (ss : List SetV) (L bb : List UInt8) (h : ∀ s ∈ ss, s.l.length ≤ 60) (hb : L.length + bb.length ≤ 2400) : (feedF sess ss L bb).1.length ≤ 100000000 := by
  have h1 := allOf_len (L ++ bb)
  have h2 := goF_len sess ss 60 h (allOf (L ++ bb)).1
  have h3 := wrD_len (pdS 10 0 0 (allOf (L ++ bb)).2.2.1)
  rw [List.length_append] at h1
  unfold feedF
  split
  · split
    · simp only; omega
    · simp only [List.length_append]; omega
  · simp only; omega
/-- A cache is kept while another one changes. -/
theorem CA.other {W W' : World} {lo g b lo' g' b' : Nat} {sess sess' : Int} {serial serial' : UInt32} {v v' : Value} {ss ss' : List SetV} {f f' : Int → Option Lf} {many many' : Int} (h : CA W lo g b sess serial v ss f many) (h' : CA W lo' g' b' sess' serial' v' ss' f' many')
    (hg : g ≠ g') (hb : b ≠ b') (hF : Fr2 W W' g' b') : CA W' lo g b sess serial v ss f many := by
  have hgb : g ≠ b' := fun e => by
    obtain ⟨es, m, hh, _⟩ := h'.mp
    have hB := h.blk
    unfold Blk at hB
    rw [← e, hB] at hh
    cases hh
  have hbg : b ≠ g' := fun e => by
    obtain ⟨es, m, hh, _⟩ := h.mp
    have hB := h'.blk
    unfold Blk at hB
    rw [e, hB] at hh
    cases hh
  obtain ⟨Av', cv', rfl⟩ := own_slice' h'.row
  refine ⟨(hF.block g h.blk.lt hg hgb).trans h.blk, own_kept h.row fun k hk => hF.block k (own_base_le h.row k hk).2 (fun e => by subst e; exact own_blk_ne h.row h'.blk (by decide) hk) (fun e => by subst e; exact own_map_ne h'.mp h.row hk),
    fun s hs => own_kept (h.sets s hs) fun k hk => hF.block k (own_base_le (h.sets s hs) k hk).2 (fun e => by subst e; exact own_blk_ne (h.sets s hs) h'.blk (by decide) hk) (fun e => by subst e; exact own_map_ne h'.mp (h.sets s hs) hk),
    h.mp.kept (hF.block b h.mp.lt hbg hb), fun k x hx => ⟨?_, (h.left k x hx).2⟩, h.l1, h.l2⟩
  have hr := (h.left k x hx).1
  refine ⟨hr.1, fun hn => ?_⟩
  obtain ⟨ad, e, hbl, hc⟩ := hr.2 hn
  refine ⟨ad, e, Nat.lt_of_lt_of_le hbl hF.size, fun j u hu => ?_⟩
  have h1 := hc j u hu
  have hj : j < x.bs.length := by have := (List.getElem?_eq_some_iff.1 hu).1; simpa using this
  have hbv : u = bv x.bs[j] := by
    rw [List.getElem?_map, List.getElem?_eq_getElem hj] at hu
    exact (Option.some.inj hu).symm
  have hne1 : (ad.add j).block ≠ b' := fun e2 => by
    rw [cell_map h'.mp _ e2] at h1
    cases h1
  have hne2 : (ad.add j).block ≠ g' := fun e2 => by
    have h2 := h1
    rw [hbv] at h2
    unfold World.cell? at h2
    have hB := h'.blk
    unfold Blk at hB
    rw [e2, hB] at h2
    simp only at h2
    split at h2
    · cases h2
    · rename_i hp
      rcases ho : (ad.add j).off with _ | _ | _ | _ | _ | n <;> rw [ho] at h2 <;> simp [bv] at h2
  exact (World.cell?_of_block (hF.block _ (by rw [add_blk]; exact hbl) hne2 hne1)).trans h1
end Go.Proofs.YtmoldmnhijcckaaGreat
/- Feeding in parts, as plain law; session.Feed at a router that is not open. -/
set_option linter.unusedVariables false
set_option linter.unusedSectionVars false
set_option linter.unusedSimpArgs false
namespace Go.Proofs.YtmoldmnhijcckaaGreat
open Go.RowKit
theorem at8_app {X : List UInt8} {i : Nat} (h : i < X.length) (Y : List UInt8) : at8 (X ++ Y) i = at8 X i := by
  unfold at8
  simp [List.getD_eq_getElem?_getD, List.getElem?_append_left h]
theorem readOf_app {X : List UInt8} (h : (readOf X).2.2.2 ≠ 3) (Y : List UInt8) : readOf (X ++ Y) = readOf X := by
  have h8 : ¬ X.length < 8 := fun h8 => h (by unfold readOf; rw [if_pos h8])
  have hl8 : ¬ (X ++ Y).length < 8 := by rw [List.length_append]; omega
  have hlo := longOk_take (bs := X ++ Y) (k := X.length) (by omega)
  rw [List.take_left] at hlo
  have hk : kd (X ++ Y) = kd X := by unfold kd; rw [at8_app (by omega)]
  have h0 : at8 (X ++ Y) 0 = at8 X 0 := at8_app (by omega) Y
  unfold readOf at h ⊢
  rw [if_neg h8] at h ⊢
  rw [if_neg hl8, h0, hk, ← hlo.1, ← hlo.2]
  by_cases a1 : at8 X 0 ≠ 1
  · rw [if_pos a1, if_pos a1]
  rw [if_neg a1] at h ⊢
  rw [if_neg a1]
  by_cases a2 : isKind (kd X) = false
  · rw [if_pos a2, if_pos a2]
  rw [if_neg a2] at h ⊢
  rw [if_neg a2]
  by_cases a3 : longOk X = false
  · rw [if_pos a3, if_pos a3]
  rw [if_neg a3] at h ⊢
  rw [if_neg a3]
  by_cases a4 : X.length < longOf X
  · rw [if_pos a4] at h
    exact absurd rfl h
  rw [if_neg a4] at h ⊢
  have a5 : ¬ (X ++ Y).length < longOf X := by rw [List.length_append]; omega
  rw [if_neg a5, List.take_append_of_le_length (by omega)]
theorem allOf_app (X : List UInt8) : ∀ Y : List UInt8, ((allOf X).2.2.2 = 0 → allOf (X ++ Y) = ((allOf X).1 ++ (allOf ((allOf X).2.1 ++ Y)).1, (allOf ((allOf X).2.1 ++ Y)).2)) ∧
    ((allOf X).2.2.2 ≠ 0 → allOf (X ++ Y) = ((allOf X).1, (allOf X).2.1 ++ Y, (allOf X).2.2.1, (allOf X).2.2.2)) ∧ (allOf X).2.1.length ≤ X.length := by
  induction hn : X.length using Nat.strongRecOn generalizing X with
  | _ n ih =>
    subst hn
    intro Y
    rcases hr : readOf X with ⟨q, m, k, x⟩
    by_cases h0 : x = 0
    · subst h0
      obtain ⟨l, e1, e2, e3⟩ := readOf_zero (bs := X) (by rw [hr])
      rw [hr] at e1
      simp only at e1
      subst e1
      have hXY := readOf_app (X := X) (by rw [hr]; show (0 : Int) ≠ 3; decide) Y
      rw [hr] at hXY
      have i := ih (X.drop l).length (by rw [List.length_drop]; omega) (X.drop l) rfl Y
      have hd : (X ++ Y).drop l = X.drop l ++ Y := List.drop_append_of_le_length e3
      rw [all_ok hr, all_ok hXY, Int.toNat_natCast, hd]
      refine ⟨fun h => ?_, fun h => ?_, ?_⟩
      · rw [i.1 h]; rfl
      · rw [i.2.1 h]
      · have := i.2.2; rw [List.length_drop] at this; simp only; omega
    · by_cases h3 : x = 3
      · subst h3
        rw [all_short hr]
        refine ⟨fun _ => ?_, fun h => absurd rfl h, Nat.le_refl _⟩
        simp
      · have hXY := readOf_app (X := X) (by rw [hr]; exact h3) Y
        rw [hr] at hXY
        rw [all_bad hr h0 h3, all_bad hXY h0 h3]
        exact ⟨fun h => absurd h h0, fun _ => rfl, Nat.le_refl _⟩
theorem goF_append (sess : Int) (ss : List SetV) (qs : List Pdu) : ∀ ps : List Pdu, goF sess ss (ps ++ qs) = if (goF sess ss ps).2 then ((goF sess ss ps).1 ++ (goF sess ss qs).1, (goF sess ss qs).2) else goF sess ss ps
  | [] => by simp [goF]
  | p :: ps => by
    rw [List.cons_append, goF, goF, goF_append sess ss qs ps]
    cases h1 : (takeF sess ss p).2
    · simp
    · cases h2 : (goF sess ss ps).2
      · simp [h2]
      · simp [h2]
/-- Bytes in two parts are answered alike. -/
theorem feed_parts (sess : Int) (ss : List SetV) (L X Y : List UInt8) :
    (∀ r, (feedF sess ss L X).2 = some r → r.length ≤ L.length + X.length ∧ feedF sess ss L (X ++ Y) = ((feedF sess ss L X).1 ++ (feedF sess ss r Y).1, (feedF sess ss r Y).2)) ∧
    ((feedF sess ss L X).2 = none → feedF sess ss L (X ++ Y) = ((feedF sess ss L X).1, none)) := by
  have ha := allOf_app (L ++ X) Y
  rw [List.append_assoc] at ha
  unfold feedF
  rcases hX : allOf (L ++ X) with ⟨ps, rest, k, x⟩
  rw [hX] at ha
  simp only at ha ⊢
  obtain ⟨a1, a2, a3⟩ := ha
  rw [List.length_append] at a3
  cases hg : (goF sess ss ps).2
  · by_cases h0 : x = 0
    · rw [a1 h0, goF_append, hg]
      simp [hg]
    · rw [a2 h0, hg]
      simp
  · by_cases h0 : x = 0
    · rw [a1 h0, goF_append, hg]
      simp only [if_true, if_pos h0]
      refine ⟨fun r hr => ?_, fun hr => by cases hr⟩
      obtain rfl := Option.some.inj hr
      refine ⟨a3, ?_⟩
      cases hg2 : (goF sess ss (allOf (rest ++ Y)).1).2
      · simp
      · by_cases h2 : (allOf (rest ++ Y)).2.2.2 = 0
        · simp [h2]
        · simp [h2]
    · rw [a2 h0, hg]
      simp only [if_true, if_neg h0]
      exact ⟨fun r hr => (by cases hr), fun _ => by first | trivial | rfl⟩
set_option maxRecDepth 100000 in
set_option maxHeartbeats 1000000 in
theorem feed_none (id : Int) (nb : Nat) (A : Option Addr) (c : Nat) (w : World) (lo g b : Nat) (sess : Int) (serial : UInt32) (v : Value) (ss : List SetV) (f : Int → Option Lf) (many : Int) (h : CA w lo g b sess serial v ss f many) (hf : f id = none) :
    Calls Tryz.prog 25 #[.pointer (some ⟨g, 0, none⟩), .int .i64 id, .slice A nb c] w fun e w' => e = .returned (.tuple #[.slice none 0 0, .int .i64 10]) ∧ w = w' := by
  have cm := h.blk.cell 3
  simp only [List.getElem?_cons_zero, List.getElem?_cons_succ] at cm
  have hlook := h.mp.look_none Tryz.underlying89 Tryz.underlying3 (P := Tryz.prog) (k := id) (Tryz.zeroValue29 w) (by simp [hf])
  clear hf
  go_enter Tryz.func25, Tryz.ntmps25
  go_wp2_with fail
  exact bodyPost_ret (v := .tuple #[.slice none 0 0, .int .i64 10]) (by simp [results, Tryz.results25, go_sem]) rfl ⟨rfl, rfl⟩
end Go.Proofs.YtmoldmnhijcckaaGreat
/- What a router does with messages and bytes, as plain law: taken in parts, and message by message. -/
set_option linter.unusedVariables false
set_option linter.unusedSectionVars false
set_option linter.unusedSimpArgs false
namespace Go.Proofs.YtmoldmnhijcckaaGreat
open Go.RowKit
/-- A router: what it has (a session, and the prefixes), its serial, the answer that is begun, whether it asked, and by what. -/
structure RoS where
  h : Option (Int × List Vrp)
  sn : UInt32
  nx : Option (Int × List Vrp)
  asked : Bool
  kind : Int
/-- One that asked by a serial has something. -/
def RoS.ok (s : RoS) : Prop := s.asked = true → s.kind = 1 → s.h ≠ none
def RoS.waits (s : RoS) : Bool := s.asked && s.nx.isNone
def beginR (s : RoS) (p : Pdu) : RoS × Int :=
  if s.waits = false then (s, 13)
  else if s.kind = 1 then
    match s.h with
    | none => (s, 12)
    | some t => if p.session ≠ t.1 then (s, 12) else ({ s with nx := some (p.session, t.2) }, 0)
  else ({ s with nx := some (p.session, []) }, 0)
def changeR (s : RoS) (p : Pdu) : RoS × Int :=
  match s.nx with
  | none => (s, 13)
  | some t =>
    if p.add = true then (if p.v ∈ t.2 then (s, 9) else ({ s with nx := some (t.1, t.2 ++ [p.v]) }, 0))
    else (if p.v ∈ t.2 then ({ s with nx := some (t.1, t.2.filter fun x => !decide (x = p.v)) }, 0) else (s, 10))
def endR (s : RoS) (p : Pdu) : RoS × Int :=
  match s.nx with
  | none => (s, 13)
  | some t => if t.1 ≠ p.session then (s, 12) else ({ s with h := some t, sn := p.serial, nx := none, asked := false }, 0)
def takeR (s : RoS) (p : Pdu) : RoS × Int :=
  if p.kind = 0 then (s, 0)
  else if p.kind = 3 then beginR s p
  else if p.kind = 4 ∨ p.kind = 6 then changeR s p
  else if p.kind = 7 then endR s p
  else if p.kind = 8 then (if s.waits = false then (s, 13) else ({ s with h := none, asked := false }, 0))
  else if p.kind = 10 then (if p.code = 2 ∧ s.waits = true then ({ s with asked := false }, 0) else (s, 2))
  else (s, 2)
def goR : RoS → List Pdu → RoS × Int
  | s, [] => (s, 0)
  | s, p :: ps => if (takeR s p).2 = 0 then goR (takeR s p).1 ps else takeR s p
/-- What bytes do behind those that are left: the router behind them, what is left, and the error. -/
def thruR (s : RoS) (L bb : List UInt8) : RoS × List UInt8 × Int :=
  ((goR s (allOf (L ++ bb)).1).1, (allOf (L ++ bb)).2.1, if (goR s (allOf (L ++ bb)).1).2 = 0 then (allOf (L ++ bb)).2.2.2 else (goR s (allOf (L ++ bb)).1).2)
/-- A router with what is left of what came; is it broken? -/
structure RoQ where
  s : RoS
  l : List UInt8
  b : Bool
def askQ (q : RoQ) : RoQ × List UInt8 :=
  if q.b = true then (q, [])
  else match q.s.h with
    | none => (⟨{ q.s with asked := true, kind := 2, nx := none }, [], false⟩, wrD (pdS 2 0 0 0))
    | some t => (⟨{ q.s with asked := true, kind := 1, nx := none }, [], false⟩, wrD (pdS 1 t.1 q.s.sn 0))
def takeQ (q : RoQ) (bb : List UInt8) : RoQ × Int :=
  if q.b = true then (q, 2) else (⟨(thruR q.s q.l bb).1, (thruR q.s q.l bb).2.1, !decide ((thruR q.s q.l bb).2.2 = 0)⟩, (thruR q.s q.l bb).2.2)
theorem ok_begin {s : RoS} (h : s.ok) (p : Pdu) : (beginR s p).1.ok := by
  unfold beginR
  split
  · exact h
  · split
    · split
      · exact h
      · split
        · exact h
        · exact h
    · exact h
theorem ok_change {s : RoS} (h : s.ok) (p : Pdu) : (changeR s p).1.ok := by
  unfold changeR
  split
  · exact h
  · split <;> split <;> exact h
theorem ok_end {s : RoS} (h : s.ok) (p : Pdu) : (endR s p).1.ok := by
  unfold endR
  split
  · exact h
  · split
    · exact h
    · exact fun h1 => by cases h1
theorem ok_take {s : RoS} (h : s.ok) (p : Pdu) : (takeR s p).1.ok := by
  unfold takeR
  split
  · exact h
  split
  · exact ok_begin h p
  split
  · exact ok_change h p
  split
  · exact ok_end h p
  split
  · split
    · exact h
    · exact fun h1 => by cases h1
  split
  · split
    · exact fun h1 => by cases h1
    · exact h
  · exact h
theorem ok_go : ∀ (ps : List Pdu) {s : RoS} (_ : s.ok), (goR s ps).1.ok
  | [], _, h => h
  | p :: ps, s, h => by
    unfold goR
    split
    · exact ok_go ps (ok_take h p)
    · exact ok_take h p
theorem ok_ask {q : RoQ} (h : q.s.ok) : (askQ q).1.s.ok := by
  unfold askQ
  split
  · exact h
  · split
    · exact fun _ h2 => by cases h2
    · rename_i t ht
      exact fun _ _ => by simp [ht]
theorem ok_takeQ {q : RoQ} (h : q.s.ok) (bb : List UInt8) : (takeQ q bb).1.s.ok := by
  unfold takeQ
  split
  · exact h
  · exact ok_go _ h
theorem goR_append (qs : List Pdu) : ∀ (ps : List Pdu) (s : RoS), goR s (ps ++ qs) = if (goR s ps).2 = 0 then goR (goR s ps).1 qs else goR s ps
  | [], s => by simp [goR]
  | p :: ps, s => by
    rw [List.cons_append, goR, goR]
    by_cases h : (takeR s p).2 = 0
    · rw [if_pos h, if_pos h, goR_append qs ps]
    · rw [if_neg h, if_neg h, if_neg h]
/-- Bytes in two parts. -/
theorem takeQ_parts (q : RoQ) (X Y : List UInt8) :
    ((takeQ q X).2 = 0 → takeQ q (X ++ Y) = takeQ (takeQ q X).1 Y) ∧ ((takeQ q X).2 ≠ 0 → (takeQ q (X ++ Y)).2 = (takeQ q X).2 ∧ (takeQ q (X ++ Y)).1.s = (takeQ q X).1.s) := by
  unfold takeQ
  cases hb : q.b
  · simp only [Bool.false_eq_true, if_false]
    have ha := allOf_app (q.l ++ X) Y
    rw [List.append_assoc] at ha
    obtain ⟨a1, a2, _⟩ := ha
    unfold thruR
    by_cases hg : (goR q.s (allOf (q.l ++ X)).1).2 = 0
    · by_cases h0 : (allOf (q.l ++ X)).2.2.2 = 0
      · rw [a1 h0]
        simp only [hg, h0, if_true, goR_append]
        simp
      · rw [a2 h0]
        simp [hg, h0]
    · by_cases h0 : (allOf (q.l ++ X)).2.2.2 = 0
      · rw [a1 h0]
        simp [hg, goR_append]
      · rw [a2 h0]
        simp [hg]
  · simp
/-- A message that may be, taken alone. -/
theorem takeQ_one {q : RoQ} (hl : q.l = []) (hb : q.b = false) {p : Pdu} (hp : pduOk p = true) : takeQ q (wrB p) = (⟨(takeR q.s p).1, [], !decide ((takeR q.s p).2 = 0)⟩, (takeR q.s p).2) := by
  have ha := all_flat [p] (fun x hx => by rw [List.mem_singleton] at hx; subst hx; exact hp)
  rw [List.flatMap_cons, List.flatMap_nil, List.append_nil] at ha
  unfold takeQ
  rw [hb]
  simp only [Bool.false_eq_true, if_false]
  unfold thruR
  rw [hl, List.nil_append, ha]
  simp only [goR]
  by_cases h : (takeR q.s p).2 = 0
  · simp [h]
  · simp [h]
/-- Only an end, or that all is lost, lets it have others. -/
theorem takeR_has (s : RoS) (p : Pdu) (h7 : p.kind ≠ 7) (h8 : p.kind ≠ 8) : (takeR s p).1.h = s.h := by
  have hb : (beginR s p).1.h = s.h := by
    unfold beginR
    split
    · rfl
    split
    · split
      · rfl
      · split <;> rfl
    · rfl
  have hc : (changeR s p).1.h = s.h := by
    unfold changeR
    split
    · rfl
    · split <;> split <;> rfl
  unfold takeR
  rw [if_neg h7, if_neg h8]
  split
  · rfl
  split
  · exact hb
  split
  · exact hc
  split
  · split <;> rfl
  · rfl
theorem takeR_end (s : RoS) (p : Pdu) (h7 : p.kind = 7) (h0 : (takeR s p).2 = 0) : (takeR s p).1.sn = p.serial := by
  unfold takeR at h0 ⊢
  rw [if_neg (by omega), if_neg (by omega), if_neg (by omega), if_pos h7] at h0 ⊢
  unfold endR at h0 ⊢
  split at h0
  · cases h0
  · split at h0
    · cases h0
    · rename_i t h1 h2
      simp only [h1, if_neg h2]
end Go.Proofs.YtmoldmnhijcckaaGreat
