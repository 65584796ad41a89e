/- Feeding in parts, as plain law; session.Feed at a router that is not open. -/
import Derived.Test.YtmoldmnhijcckaaMa51
import Derived.Test.YtmoldmnhijcckaaMa27
import Derived.Test.YtmoldmnhijcckaaMa03
import Derived.Maps.RangeRun
import Derived.Maps.Range
import Derived.Shelf.SlMaps.Clone
import Derived.Ground.SlmcProg
import Derived.Test.YtmoldmnhijcckaaProg
import Derived.Test.YtmoldmnhijcckaaMa39
import Derived.Test.YtmoldmnhijcckaaMa40
import Derived.Test.YtmoldmnhijcckaaMa08
import Derived.Test.YtmoldmnhijcckaaMa13
import Derived.Test.YtmoldmnhijcckaaMa17
import Derived.RangeFuncNested
import Derived.RangeFuncBound
import Derived.RangeFuncCalls
import Derived.RangeFuncLeaves
import Derived.RangeFuncFrom
import Derived.RangeFuncBox
import Derived.Maps.AppendAt
import Derived.Shelf.Abstract
import Derived.Shelf.AbstractIn
import Derived.Shelf.RegionOpen
import Derived.Sort.MapsRangeIn
import Derived.WalkKit
import Derived.OwnWalkIn
import Derived.TacticsInMore
import Derived.RegionIn
import Derived.LoopNIn
import Derived.LoopIn
import Derived.Test.YtmoldmnhijcckaaMa44
set_option linter.unusedVariables false
set_option linter.unusedSectionVars false
set_option linter.unusedSimpArgs false
namespace Go.Proofs.Ytmoldmnhijcckaa
open Go.RowKit
theorem at8_app {X : List UInt8} {i : Nat} (h : i < X.length) (Y : List UInt8) : at8 (X ++ Y) i = at8 X i := by
  unfold at8
  simp [List.getD_eq_getElem?_getD, List.getElem?_append_left h]
theorem readOf_app {X : List UInt8} (h : (readOf X).2.2.2 ≠ 3) (Y : List UInt8) : readOf (X ++ Y) = readOf X := by
  have h8 : ¬ X.length < 8 := fun h8 => h (by unfold readOf; rw [if_pos h8])
  have hl8 : ¬ (X ++ Y).length < 8 := by rw [List.length_append]; omega
  have hlo := longOk_take (bs := X ++ Y) (k := X.length) (by omega)
  rw [List.take_left] at hlo
  have hk : kd (X ++ Y) = kd X := by unfold kd; rw [at8_app (by omega)]
  have h0 : at8 (X ++ Y) 0 = at8 X 0 := at8_app (by omega) Y
  unfold readOf at h ⊢
  rw [if_neg h8] at h ⊢
  rw [if_neg hl8, h0, hk, ← hlo.1, ← hlo.2]
  by_cases a1 : at8 X 0 ≠ 1
  · rw [if_pos a1, if_pos a1]
  rw [if_neg a1] at h ⊢
  rw [if_neg a1]
  by_cases a2 : isKind (kd X) = false
  · rw [if_pos a2, if_pos a2]
  rw [if_neg a2] at h ⊢
  rw [if_neg a2]
  by_cases a3 : longOk X = false
  · rw [if_pos a3, if_pos a3]
  rw [if_neg a3] at h ⊢
  rw [if_neg a3]
  by_cases a4 : X.length < longOf X
  · rw [if_pos a4] at h
    exact absurd rfl h
  rw [if_neg a4] at h ⊢
  have a5 : ¬ (X ++ Y).length < longOf X := by rw [List.length_append]; omega
  rw [if_neg a5, List.take_append_of_le_length (by omega)]
theorem allOf_app (X : List UInt8) : ∀ Y : List UInt8, ((allOf X).2.2.2 = 0 → allOf (X ++ Y) = ((allOf X).1 ++ (allOf ((allOf X).2.1 ++ Y)).1, (allOf ((allOf X).2.1 ++ Y)).2)) ∧
    ((allOf X).2.2.2 ≠ 0 → allOf (X ++ Y) = ((allOf X).1, (allOf X).2.1 ++ Y, (allOf X).2.2.1, (allOf X).2.2.2)) ∧ (allOf X).2.1.length ≤ X.length := by
  induction hn : X.length using Nat.strongRecOn generalizing X with
  | _ n ih =>
    subst hn
    intro Y
    rcases hr : readOf X with ⟨q, m, k, x⟩
    by_cases h0 : x = 0
    · subst h0
      obtain ⟨l, e1, e2, e3⟩ := readOf_zero (bs := X) (by rw [hr])
      rw [hr] at e1
      simp only at e1
      subst e1
      have hXY := readOf_app (X := X) (by rw [hr]; show (0 : Int) ≠ 3; decide) Y
      rw [hr] at hXY
      have i := ih (X.drop l).length (by rw [List.length_drop]; omega) (X.drop l) rfl Y
      have hd : (X ++ Y).drop l = X.drop l ++ Y := List.drop_append_of_le_length e3
      rw [all_ok hr, all_ok hXY, Int.toNat_natCast, hd]
      refine ⟨fun h => ?_, fun h => ?_, ?_⟩
      · rw [i.1 h]; rfl
      · rw [i.2.1 h]
      · have := i.2.2; rw [List.length_drop] at this; simp only; omega
    · by_cases h3 : x = 3
      · subst h3
        rw [all_short hr]
        refine ⟨fun _ => ?_, fun h => absurd rfl h, Nat.le_refl _⟩
        simp
      · have hXY := readOf_app (X := X) (by rw [hr]; exact h3) Y
        rw [hr] at hXY
        rw [all_bad hr h0 h3, all_bad hXY h0 h3]
        exact ⟨fun h => absurd h h0, fun _ => rfl, Nat.le_refl _⟩
theorem goF_append (sess : Int) (ss : List SetV) (qs : List Pdu) : ∀ ps : List Pdu, goF sess ss (ps ++ qs) = if (goF sess ss ps).2 then ((goF sess ss ps).1 ++ (goF sess ss qs).1, (goF sess ss qs).2) else goF sess ss ps
  | [] => by simp [goF]
  | p :: ps => by
    rw [List.cons_append, goF, goF, goF_append sess ss qs ps]
    cases h1 : (takeF sess ss p).2
    · simp
    · cases h2 : (goF sess ss ps).2
      · simp [h2]
      · simp [h2]
/-- Bytes in two parts are answered alike. -/
theorem feed_parts (sess : Int) (ss : List SetV) (L X Y : List UInt8) :
    (∀ r, (feedF sess ss L X).2 = some r → r.length ≤ L.length + X.length ∧ feedF sess ss L (X ++ Y) = ((feedF sess ss L X).1 ++ (feedF sess ss r Y).1, (feedF sess ss r Y).2)) ∧
    ((feedF sess ss L X).2 = none → feedF sess ss L (X ++ Y) = ((feedF sess ss L X).1, none)) := by
  have ha := allOf_app (L ++ X) Y
  rw [List.append_assoc] at ha
  unfold feedF
  rcases hX : allOf (L ++ X) with ⟨ps, rest, k, x⟩
  rw [hX] at ha
  simp only at ha ⊢
  obtain ⟨a1, a2, a3⟩ := ha
  rw [List.length_append] at a3
  cases hg : (goF sess ss ps).2
  · by_cases h0 : x = 0
    · rw [a1 h0, goF_append, hg]
      simp [hg]
    · rw [a2 h0, hg]
      simp
  · by_cases h0 : x = 0
    · rw [a1 h0, goF_append, hg]
      simp only [if_true, if_pos h0]
      refine ⟨fun r hr => ?_, fun hr => by cases hr⟩
      obtain rfl := Option.some.inj hr
      refine ⟨a3, ?_⟩
      cases hg2 : (goF sess ss (allOf (rest ++ Y)).1).2
      · simp
      · by_cases h2 : (allOf (rest ++ Y)).2.2.2 = 0
        · simp [h2]
        · simp [h2]
    · rw [a2 h0, hg]
      simp only [if_true, if_neg h0]
      exact ⟨fun r hr => (by cases hr), fun _ => by first | trivial | rfl⟩
set_option maxRecDepth 100000 in
set_option maxHeartbeats 1000000 in
theorem feed_none (id : Int) (nb : Nat) (A : Option Addr) (c : Nat) (w : World) (lo g b : Nat) (sess : Int) (serial : UInt32) (v : Value) (ss : List SetV) (f : Int → Option Lf) (many : Int) (h : CA w lo g b sess serial v ss f many) (hf : f id = none) :
    Calls Try.prog 34 #[.pointer (some ⟨g, 0, none⟩), .int .i64 id, .slice A nb c] w fun e w' => e = .returned (.tuple #[.slice none 0 0, .int .i64 10]) ∧ w = w' := by
  have cm := h.blk.cell 3
  simp only [List.getElem?_cons_zero, List.getElem?_cons_succ] at cm
  have hlook := h.mp.look_none Try.underlying108 Try.underlying3 (P := Try.prog) (k := id) (Try.zeroValue30 w) (by simp [hf])
  clear hf
  go_enter Try.func34, Try.ntmps34
  go_wp2_with fail
  exact bodyPost_ret (v := .tuple #[.slice none 0 0, .int .i64 10]) (by simp [results, Try.results34, go_sem]) rfl ⟨rfl, rfl⟩
end Go.Proofs.Ytmoldmnhijcckaa
/- What a router does with messages and bytes, as plain law: taken in parts, and message by message. -/
set_option linter.unusedVariables false
set_option linter.unusedSectionVars false
set_option linter.unusedSimpArgs false
namespace Go.Proofs.Ytmoldmnhijcckaa
open Go.RowKit
/-- A router: what it has (a session, and the prefixes), its serial, the answer that is begun, whether it asked, and by what. -/
structure RoS where
  h : Option (Int × List Vrp)
  sn : UInt32
  nx : Option (Int × List Vrp)
  asked : Bool
  kind : Int
/-- One that asked by a serial has something. -/
def RoS.ok (s : RoS) : Prop := s.asked = true → s.kind = 1 → s.h ≠ none
def RoS.waits (s : RoS) : Bool := s.asked && s.nx.isNone
def beginR (s : RoS) (p : Pdu) : RoS × Int :=
  if s.waits = false then (s, 13)
  else if s.kind = 1 then
    match s.h with
    | none => (s, 12)
    | some t => if p.session ≠ t.1 then (s, 12) else ({ s with nx := some (p.session, t.2) }, 0)
  else ({ s with nx := some (p.session, []) }, 0)
def changeR (s : RoS) (p : Pdu) : RoS × Int :=
  match s.nx with
  | none => (s, 13)
  | some t =>
    if p.add = true then (if p.v ∈ t.2 then (s, 9) else ({ s with nx := some (t.1, t.2 ++ [p.v]) }, 0))
    else (if p.v ∈ t.2 then ({ s with nx := some (t.1, t.2.filter fun x => !decide (x = p.v)) }, 0) else (s, 10))
def endR (s : RoS) (p : Pdu) : RoS × Int :=
  match s.nx with
  | none => (s, 13)
  | some t => if t.1 ≠ p.session then (s, 12) else ({ s with h := some t, sn := p.serial, nx := none, asked := false }, 0)
def takeR (s : RoS) (p : Pdu) : RoS × Int :=
  if p.kind = 0 then (s, 0)
  else if p.kind = 3 then beginR s p
  else if p.kind = 4 ∨ p.kind = 6 then changeR s p
  else if p.kind = 7 then endR s p
  else if p.kind = 8 then (if s.waits = false then (s, 13) else ({ s with h := none, asked := false }, 0))
  else if p.kind = 10 then (if p.code = 2 ∧ s.waits = true then ({ s with asked := false }, 0) else (s, 2))
  else (s, 2)
def goR : RoS → List Pdu → RoS × Int
  | s, [] => (s, 0)
  | s, p :: ps => if (takeR s p).2 = 0 then goR (takeR s p).1 ps else takeR s p
/-- What bytes do behind those that are left: the router behind them, what is left, and the error. -/
def thruR (s : RoS) (L bb : List UInt8) : RoS × List UInt8 × Int :=
  ((goR s (allOf (L ++ bb)).1).1, (allOf (L ++ bb)).2.1, if (goR s (allOf (L ++ bb)).1).2 = 0 then (allOf (L ++ bb)).2.2.2 else (goR s (allOf (L ++ bb)).1).2)
/-- A router with what is left of what came; is it broken? -/
structure RoQ where
  s : RoS
  l : List UInt8
  b : Bool
def askQ (q : RoQ) : RoQ × List UInt8 :=
  if q.b = true then (q, [])
  else match q.s.h with
    | none => (⟨{ q.s with asked := true, kind := 2, nx := none }, [], false⟩, wrD (pdS 2 0 0 0))
    | some t => (⟨{ q.s with asked := true, kind := 1, nx := none }, [], false⟩, wrD (pdS 1 t.1 q.s.sn 0))
def takeQ (q : RoQ) (bb : List UInt8) : RoQ × Int :=
  if q.b = true then (q, 2) else (⟨(thruR q.s q.l bb).1, (thruR q.s q.l bb).2.1, !decide ((thruR q.s q.l bb).2.2 = 0)⟩, (thruR q.s q.l bb).2.2)
theorem ok_begin {s : RoS} (h : s.ok) (p : Pdu) : (beginR s p).1.ok := by
  unfold beginR
  split
  · exact h
  · split
    · split
      · exact h
      · split
        · exact h
        · exact h
    · exact h
theorem ok_change {s : RoS} (h : s.ok) (p : Pdu) : (changeR s p).1.ok := by
  unfold changeR
  split
  · exact h
  · split <;> split <;> exact h
theorem ok_end {s : RoS} (h : s.ok) (p : Pdu) : (endR s p).1.ok := by
  unfold endR
  split
  · exact h
  · split
    · exact h
    · exact fun h1 => by cases h1
theorem ok_take {s : RoS} (h : s.ok) (p : Pdu) : (takeR s p).1.ok := by
  unfold takeR
  split
  · exact h
  split
  · exact ok_begin h p
  split
  · exact ok_change h p
  split
  · exact ok_end h p
  split
  · split
    · exact h
    · exact fun h1 => by cases h1
  split
  · split
    · exact fun h1 => by cases h1
    · exact h
  · exact h
theorem ok_go : ∀ (ps : List Pdu) {s : RoS} (_ : s.ok), (goR s ps).1.ok
  | [], _, h => h
  | p :: ps, s, h => by
    unfold goR
    split
    · exact ok_go ps (ok_take h p)
    · exact ok_take h p
theorem ok_ask {q : RoQ} (h : q.s.ok) : (askQ q).1.s.ok := by
  unfold askQ
  split
  · exact h
  · split
    · exact fun _ h2 => by cases h2
    · rename_i t ht
      exact fun _ _ => by simp [ht]
theorem ok_takeQ {q : RoQ} (h : q.s.ok) (bb : List UInt8) : (takeQ q bb).1.s.ok := by
  unfold takeQ
  split
  · exact h
  · exact ok_go _ h
theorem goR_append (qs : List Pdu) : ∀ (ps : List Pdu) (s : RoS), goR s (ps ++ qs) = if (goR s ps).2 = 0 then goR (goR s ps).1 qs else goR s ps
  | [], s => by simp [goR]
  | p :: ps, s => by
    rw [List.cons_append, goR, goR]
    by_cases h : (takeR s p).2 = 0
    · rw [if_pos h, if_pos h, goR_append qs ps]
    · rw [if_neg h, if_neg h, if_neg h]
/-- Bytes in two parts. -/
theorem takeQ_parts (q : RoQ) (X Y : List UInt8) :
    ((takeQ q X).2 = 0 → takeQ q (X ++ Y) = takeQ (takeQ q X).1 Y) ∧ ((takeQ q X).2 ≠ 0 → (takeQ q (X ++ Y)).2 = (takeQ q X).2 ∧ (takeQ q (X ++ Y)).1.s = (takeQ q X).1.s) := by
  unfold takeQ
  cases hb : q.b
  · simp only [Bool.false_eq_true, if_false]
    have ha := allOf_app (q.l ++ X) Y
    rw [List.append_assoc] at ha
    obtain ⟨a1, a2, _⟩ := ha
    unfold thruR
    by_cases hg : (goR q.s (allOf (q.l ++ X)).1).2 = 0
    · by_cases h0 : (allOf (q.l ++ X)).2.2.2 = 0
      · rw [a1 h0]
        simp only [hg, h0, if_true, goR_append]
        simp
      · rw [a2 h0]
        simp [hg, h0]
    · by_cases h0 : (allOf (q.l ++ X)).2.2.2 = 0
      · rw [a1 h0]
        simp [hg, goR_append]
      · rw [a2 h0]
        simp [hg]
  · simp
/-- A message that may be, taken alone. -/
theorem takeQ_one {q : RoQ} (hl : q.l = []) (hb : q.b = false) {p : Pdu} (hp : pduOk p = true) : takeQ q (wrB p) = (⟨(takeR q.s p).1, [], !decide ((takeR q.s p).2 = 0)⟩, (takeR q.s p).2) := by
  have ha := all_flat [p] (fun x hx => by rw [List.mem_singleton] at hx; subst hx; exact hp)
  rw [List.flatMap_cons, List.flatMap_nil, List.append_nil] at ha
  unfold takeQ
  rw [hb]
  simp only [Bool.false_eq_true, if_false]
  unfold thruR
  rw [hl, List.nil_append, ha]
  simp only [goR]
  by_cases h : (takeR q.s p).2 = 0
  · simp [h]
  · simp [h]
/-- Only an end, or that all is lost, lets it have others. -/
theorem takeR_has (s : RoS) (p : Pdu) (h7 : p.kind ≠ 7) (h8 : p.kind ≠ 8) : (takeR s p).1.h = s.h := by
  have hb : (beginR s p).1.h = s.h := by
    unfold beginR
    split
    · rfl
    split
    · split
      · rfl
      · split <;> rfl
    · rfl
  have hc : (changeR s p).1.h = s.h := by
    unfold changeR
    split
    · rfl
    · split <;> split <;> rfl
  unfold takeR
  rw [if_neg h7, if_neg h8]
  split
  · rfl
  split
  · exact hb
  split
  · exact hc
  split
  · split <;> rfl
  · rfl
theorem takeR_end (s : RoS) (p : Pdu) (h7 : p.kind = 7) (h0 : (takeR s p).2 = 0) : (takeR s p).1.sn = p.serial := by
  unfold takeR at h0 ⊢
  rw [if_neg (by omega), if_neg (by omega), if_neg (by omega), if_pos h7] at h0 ⊢
  unfold endR at h0 ⊢
  split at h0
  · cases h0
  · split at h0
    · cases h0
    · rename_i t h1 h2
      simp only [h1, if_neg h2]
end Go.Proofs.Ytmoldmnhijcckaa
/- Maps keyed by api.Vrp whose every value is true, as the row of their keys: look, put, delete, the iterator's steps. -/
set_option linter.unusedVariables false
set_option linter.unusedSectionVars false
set_option linter.unusedSimpArgs false
namespace Go.Proofs.Ytmoldmnhijcckaa
open Go.RowKit
open Go.ChangeMaps (setBlock)
def entV (e : Vrp × Nat) : MapEntry := ⟨.agg e.1.cells.toArray, .bool true, e.2⟩
structure EntsV (l : List (Vrp × Nat)) (n : Nat) (ks : List Vrp) : Prop where
  eq : l.map (·.1) = ks
  nd : ks.Nodup
  lt : ∀ e ∈ l, e.2 < n
  nb : (l.map (·.2)).Nodup
/-- A map of rows: its keys, in the order in which they came. -/
def MapV (w : World) (b : Nat) (ks : List Vrp) : Prop := ∃ (l : List (Vrp × Nat)) (n : Nat), w.heap[b]? = some (.map (l.map entV).toArray n) ∧ EntsV l n ks
theorem MapV.lt {w : World} {b : Nat} {ks : List Vrp} (h : MapV w b ks) : b < w.heap.size := by
  obtain ⟨l, n, hh, _⟩ := h
  exact (Array.getElem?_eq_some_iff.1 hh).1
theorem MapV.kept {w w' : World} {b : Nat} {ks : List Vrp} (h : MapV w b ks) (hk : w'.heap[b]? = w.heap[b]?) : MapV w' b ks := by
  obtain ⟨l, n, hh, h2⟩ := h
  exact ⟨l, n, hk.trans hh, h2⟩
theorem MapV.below {w w' : World} {b : Nat} {ks : List Vrp} (h : MapV w b ks) (hb : Below w.heap.size w w') : MapV w' b ks := h.kept (hb.block b h.lt)
/-! A key of this type is one. -/
theorem checkKey_u8 (em : Bool) (d : Nat) (v : Value) (w : World) : (Instr.checkKey em (d + 1) 5 v).run Try.prog w = .ok () w := by
  simp [Instr.checkKey, run_underlying Try.underlying5]
theorem checkKey_int (em : Bool) (d : Nat) (v : Value) (w : World) : (Instr.checkKey em (d + 1) 3 v).run Try.prog w = .ok () w := by
  simp [Instr.checkKey, run_underlying Try.underlying3]
theorem checkKey_u32 (em : Bool) (d : Nat) (v : Value) (w : World) : (Instr.checkKey em (d + 1) 22 v).run Try.prog w = .ok () w := by
  simp [Instr.checkKey, run_underlying Try.underlying22]
theorem checkKey_bool (em : Bool) (d : Nat) (v : Value) (w : World) : (Instr.checkKey em (d + 1) 4 v).run Try.prog w = .ok () w := by
  simp [Instr.checkKey, run_underlying Try.underlying4]
theorem checkKey_a16 (em : Bool) (d : Nat) (a : A16) (w : World) : (Instr.checkKey em (d + 2) 23 (.agg a.cells.toArray)).run Try.prog w = .ok () w := by
  obtain ⟨i, hi⟩ := Option.isSome_iff_exists.1 info5
  have hc : Try.prog.cellsOf 5 = 1 := by kernel_rfl
  have hk : Try.prog.plainKey 5 = true := by kernel_rfl
  rw [Instr.checkKey]
  simp only [Sem.run_bind, run_underlying Try.underlying23, Result.andThen_ok]
  simp only [Std.Legacy.Range.forIn_eq_forIn_range', Std.Legacy.Range.size, Nat.sub_zero, Nat.add_one_sub_one, Nat.div_one]
  have hall : ∀ j ∈ List.range' 0 16, j < 16 := fun j hj => by have := List.mem_range'_1.1 hj; omega
  generalize List.range' 0 16 = is at hall
  induction is with
  | nil => simp
  | cons j is ih =>
    have hj : j < a.l.length := by rw [a.h]; exact hall j (by simp)
    have p1 : (part 5 a.cells.toArray (j * Try.prog.cellsOf 5)).run Try.prog w = .ok (bv (a.l[j])) w := by
      rw [hc, Nat.mul_one]; exact part_one hk (by unfold A16.cells; simp [hj])
    simp only [List.forIn_cons, Sem.run_bind, run_sizeOf w hi, Result.andThen_ok, p1, checkKey_u8, Sem.run_pure]
    exact ih (fun y hy => hall y (by simp [hy]))
set_option maxRecDepth 100000 in
theorem checkKey_pfx (em : Bool) (d : Nat) (p : Pfx) (w : World) : (Instr.checkKey em (d + 3) 25 (.agg p.cells.toArray)).run Try.prog w = .ok () w := by
  have p0 := part_one (P := Try.prog) (w := w) pk4 (Pfx.c0 p)
  have p1 : (part 23 p.cells.toArray 1).run Try.prog w = .ok (.agg p.a.cells.toArray) w := part_mid (P := Try.prog) (w := w) Try.underlying23 (.inl ⟨_, _, rfl⟩) cells23 info23 [.bool p.v6] p.a.cells [.int .i64 p.len] 1 rfl rfl p.a.cells_length
  have p2 := part_one (P := Try.prog) (w := w) pk3 (Pfx.c17 p)
  rw [Instr.checkKey]
  simp only [Sem.run_bind, run_underlying Try.underlying25, Result.andThen_ok]
  rw [← Array.forIn_toList]
  simp only [List.forIn_cons, List.forIn_nil, Sem.run_bind, Result.andThen_ok, Sem.run_pure]
  simp [p0, p1, p2, checkKey_bool, checkKey_a16, checkKey_int, Result.andThen]
set_option maxRecDepth 100000 in
theorem checkKey_vrp (em : Bool) (d : Nat) (p : Vrp) (w : World) : (Instr.checkKey em (d + 4) 27 (.agg p.cells.toArray)).run Try.prog w = .ok () w := by
  have p0 := part_one (P := Try.prog) (w := w) pk22 (Vrp.c0 p)
  have p1 : (part 25 p.cells.toArray 1).run Try.prog w = .ok (.agg p.p.cells.toArray) w := part_mid (P := Try.prog) (w := w) Try.underlying25 (.inr ⟨_, rfl⟩) cells25 info25 [.int .u32 p.asn.toNat] p.p.cells [.int .i64 p.mx] 1 rfl rfl p.p.cells_length
  have p2 := part_one (P := Try.prog) (w := w) pk3 (Vrp.c19 p)
  rw [Instr.checkKey]
  simp only [Sem.run_bind, run_underlying Try.underlying27, Result.andThen_ok]
  rw [← Array.forIn_toList]
  simp only [List.forIn_cons, List.forIn_nil, Sem.run_bind, Result.andThen_ok, Sem.run_pure]
  simp [p0, p1, p2, checkKey_u32, checkKey_pfx, checkKey_int, Result.andThen]
/-! A key is found. -/
theorem ask_none (k : Vrp) (w : World) : ∀ (l : List (Vrp × Nat)) (i : Nat), (∀ e ∈ l, e.1 ≠ k) → (Instr.findAsking 27 (.agg k.cells.toArray) (l.map entV) i).run Try.prog w = .ok none w
  | [], _, _ => rfl
  | e :: l, i, h => by
    have h1 : decide (k = e.1) = false := decide_eq_false (fun e2 => h e (by simp) e2.symm)
    have h2 : (Op.equal 27 (.agg k.cells.toArray) (.agg e.1.cells.toArray)).run Try.prog w = .ok false w := by
      show (Op.equalIn (9996 + 4) _ _ _).run _ _ = _
      rw [eqIn_vrp, h1]
    simp only [List.map_cons, Instr.findAsking, entV, Sem.run_bind, h2, Result.andThen_ok]
    exact ask_none k w l (i + 1) (fun e he => h e (by simp [he]))
theorem ask_some (k : Vrp) (w : World) (bn : Nat) (post : List (Vrp × Nat)) : ∀ (pre : List (Vrp × Nat)) (i : Nat), (∀ e ∈ pre, e.1 ≠ k) → (Instr.findAsking 27 (.agg k.cells.toArray) ((pre ++ (k, bn) :: post).map entV) i).run Try.prog w = .ok (some (i + pre.length, .bool true)) w
  | [], i, _ => by
    have h2 : (Op.equal 27 (.agg k.cells.toArray) (.agg k.cells.toArray)).run Try.prog w = .ok true w := by
      show (Op.equalIn (9996 + 4) _ _ _).run _ _ = _
      rw [eqIn_vrp]; simp
    simp [Instr.findAsking, entV, h2, Result.andThen]
  | e :: pre, i, h => by
    have h1 : decide (k = e.1) = false := decide_eq_false (fun e2 => h e (by simp) e2.symm)
    have h2 : (Op.equal 27 (.agg k.cells.toArray) (.agg e.1.cells.toArray)).run Try.prog w = .ok false w := by
      show (Op.equalIn (9996 + 4) _ _ _).run _ _ = _
      rw [eqIn_vrp, h1]
    simp only [List.cons_append, List.map_cons, Instr.findAsking, entV, Sem.run_bind, h2, Result.andThen_ok]
    have := ask_some k w bn post pre (i + 1) (fun e he => h e (by simp [he]))
    rw [if_neg (by decide), List.length_cons, show i + (pre.length + 1) = i + 1 + pre.length by omega]
    exact this
theorem findKey_none (k : Vrp) (w : World) (l : List (Vrp × Nat)) (h : ∀ e ∈ l, e.1 ≠ k) : (Instr.findKey 27 (.agg k.cells.toArray) (l.map entV)).run Try.prog w = .ok none w := by
  unfold Instr.findKey
  simp only [Sem.run_bind, run_underlying Try.underlying27, Result.andThen_ok]
  cases l with
  | nil => rfl
  | cons e l => exact ask_none k w (e :: l) 0 h
theorem findKey_some (k : Vrp) (w : World) (bn : Nat) (pre post : List (Vrp × Nat)) (h : ∀ e ∈ pre, e.1 ≠ k) : (Instr.findKey 27 (.agg k.cells.toArray) ((pre ++ (k, bn) :: post).map entV)).run Try.prog w = .ok (some (pre.length, .bool true)) w := by
  unfold Instr.findKey
  simp only [Sem.run_bind, run_underlying Try.underlying27, Result.andThen_ok]
  have := ask_some k w bn post pre 0 h
  rw [Nat.zero_add] at this
  cases pre with
  | nil => exact this
  | cons e l => exact this
theorem EntsV.split {l : List (Vrp × Nat)} {n : Nat} {ks : List Vrp} (h : EntsV l n ks) {k : Vrp} (hk : k ∈ ks) : ∃ pre bn post, l = pre ++ (k, bn) :: post ∧ (∀ e ∈ pre, e.1 ≠ k) ∧ (∀ e ∈ post, e.1 ≠ k) := by
  rw [← h.eq] at hk
  obtain ⟨⟨k', bn⟩, he, rfl⟩ := List.mem_map.1 hk
  obtain ⟨pre, post, rfl⟩ := List.append_of_mem he
  have hnd := h.nd
  rw [← h.eq, List.map_append, List.map_cons, List.nodup_append] at hnd
  refine ⟨pre, bn, post, rfl, fun e he' e2 => hnd.2.2 e.1 (List.mem_map.2 ⟨e, he', rfl⟩) k' (by simp) e2, fun e he' e2 => (List.nodup_cons.1 hnd.2.1).1 (List.mem_map.2 ⟨e, he', e2⟩)⟩
theorem EntsV.fresh {l : List (Vrp × Nat)} {n : Nat} {ks : List Vrp} (h : EntsV l n ks) {k : Vrp} (hk : k ∉ ks) : ∀ e ∈ l, e.1 ≠ k := fun e he e2 => hk (by rw [← h.eq, ← e2]; exact List.mem_map.2 ⟨e, he, rfl⟩)
theorem MapV.look {w : World} {b : Nat} {ks : List Vrp} (h : MapV w b ks) (k : Vrp) : (Instr.lookup 93 (.map (some b)) (.agg k.cells.toArray) false).run Try.prog w = .ok (.bool (decide (k ∈ ks))) w := by
  obtain ⟨l, n, hh, hE⟩ := h
  have hck : ∀ b, (Instr.checkKey b 10000 27 (.agg k.cells.toArray)).run Try.prog w = .ok () w := fun b => checkKey_vrp b 9996 k w
  by_cases hk : k ∈ ks
  · obtain ⟨pre, bn, post, rfl, h1, _⟩ := hE.split hk
    have hf := findKey_some k w bn pre post h1
    rw [decide_eq_true hk]
    unfold Instr.lookup
    simp only [Sem.run_bind, run_underlying Try.underlying93, Result.andThen_ok, MapKept.run_getObj_map hh, hck, hf, Sem.run_pure]
    rfl
  · have hf := findKey_none k w l (hE.fresh hk)
    have hz := Try.zeroValue4 w
    rw [decide_eq_false hk]
    unfold Instr.lookup
    simp only [Sem.run_bind, run_underlying Try.underlying93, Result.andThen_ok, MapKept.run_getObj_map hh, hck, hf, hz, Sem.run_pure]
    rfl
theorem MapV.put {w : World} {b : Nat} {ks : List Vrp} (h : MapV w b ks) (k : Vrp) (hk : k ∉ ks) :
    ∃ W, (Instr.mapUpdate 93 (.map (some b)) (.agg k.cells.toArray) (.bool true)).run Try.prog w = .ok () W ∧ MapV W b (ks ++ [k]) ∧ w.grownBy W (some b) := by
  obtain ⟨l, n, hh, hE⟩ := h
  have hck : ∀ b, (Instr.checkKey b 10000 27 (.agg k.cells.toArray)).run Try.prog w = .ok () w := fun b => checkKey_vrp b 9996 k w
  have hf := findKey_none k w l (hE.fresh hk)
  refine ⟨setBlock w b (.map ((l ++ [(k, n)]).map entV).toArray (n + 1)), ?_, ⟨l ++ [(k, n)], n + 1, heap_setBlock_same hh, ⟨by rw [List.map_append, hE.eq]; rfl, ?_, ?_, ?_⟩⟩, grown_setBlock _ _ _⟩
  · unfold Instr.mapUpdate
    simp only [Sem.run_bind, run_underlying Try.underlying93, Result.andThen_ok, MapKept.run_getObj_map hh, hck, hf, Sem.run_pure]
    simp [MapKept.run_setObj_map _ hh, setBlock, entV]
  · rw [List.nodup_append]
    exact ⟨hE.nd, by simp, fun a ha c hc e => hk (by rw [List.mem_singleton] at hc; rw [← hc, ← e]; exact ha)⟩
  · intro e he
    rcases List.mem_append.1 he with he | he
    · have := hE.lt e he; omega
    · rw [List.mem_singleton] at he; subst he; simp
  · rw [List.map_append, List.nodup_append]
    refine ⟨hE.nb, by simp, fun a ha c hc e => ?_⟩
    obtain ⟨x, hx, rfl⟩ := List.mem_map.1 ha
    have := hE.lt x hx
    simp at hc
    omega
theorem MapV.del {w : World} {b : Nat} {ks : List Vrp} (h : MapV w b ks) (k : Vrp) (hk : k ∈ ks) :
    ∃ W, (∀ ty kt2, (Builtin.delete_ #[93, kt2] ty #[.map (some b), .agg k.cells.toArray]).run Try.prog w = .ok (.tuple #[]) W) ∧ MapV W b (ks.filter fun x => !decide (x = k)) ∧ w.grownBy W (some b) := by
  obtain ⟨l, n, hh, hE⟩ := h
  have hck : ∀ b, (Instr.checkKey b 10000 27 (.agg k.cells.toArray)).run Try.prog w = .ok () w := fun b => checkKey_vrp b 9996 k w
  obtain ⟨pre, bn, post, rfl, h1, h2⟩ := hE.split hk
  have hf := findKey_some k w bn pre post h1
  refine ⟨setBlock w b (.map ((pre ++ post).map entV).toArray n), fun ty kt2 => ?_, ⟨pre ++ post, n, heap_setBlock_same hh, ⟨?_, ?_, ?_, ?_⟩⟩, grown_setBlock _ _ _⟩
  · have her : (((pre ++ (k, bn) :: post).map entV).toArray.eraseIdxIfInBounds pre.length) = ((pre ++ post).map entV).toArray := by
      unfold Array.eraseIdxIfInBounds
      rw [dif_pos (by simp)]
      apply Array.toList_inj.1
      simp [List.eraseIdx_append_of_length_le]
    unfold Builtin.delete_
    simp only [Sem.run_bind, run_underlying Try.underlying93, Result.andThen_ok, MapKept.run_getObj_map hh, hck, hf, Sem.run_pure, List.getElem?_toArray, List.getElem?_cons_zero, List.getElem?_cons_succ]
    simp only [her, MapKept.run_setObj_map _ hh, Result.andThen_ok]
    rfl
  · rw [← hE.eq, List.map_append, List.map_append, List.map_cons, List.filter_append, List.filter_cons]
    have e1 : (pre.map (·.1)).filter (fun x => !decide (x = k)) = pre.map (·.1) := List.filter_eq_self.2 fun x hx => by obtain ⟨e, he, rfl⟩ := List.mem_map.1 hx; simp [h1 e he]
    have e2 : (post.map (·.1)).filter (fun x => !decide (x = k)) = post.map (·.1) := List.filter_eq_self.2 fun x hx => by obtain ⟨e, he, rfl⟩ := List.mem_map.1 hx; simp [h2 e he]
    rw [e1, e2]
    simp
  · exact hE.nd.sublist List.filter_sublist
  · exact fun e he => hE.lt e (by rcases List.mem_append.1 he with h | h <;> simp [h])
  · have := hE.nb
    rw [List.map_append, List.map_cons] at this
    rw [List.map_append]
    exact this.sublist (by simp)
/-- A new map. -/
theorem MapV.new (w : World) (b : Nat) (hb : w.heap.size = b) : MapV (w.alloc (.map #[] 0)) b [] := by
  subst hb
  exact ⟨[], 0, heap_alloc_new w _, ⟨rfl, List.nodup_nil, fun e he => absurd he (by simp), List.nodup_nil⟩⟩
/-- A copy of a map. -/
theorem MapV.copy {w : World} {b : Nat} {ks : List Vrp} (h : MapV w b ks) : ∃ o, w.heap[b]? = some o ∧ MapV (w.alloc o) w.heap.size ks ∧ MapV (w.alloc o) b ks := by
  have hlt := h.lt
  obtain ⟨l, n, hh, hE⟩ := h
  exact ⟨_, hh, ⟨l, n, heap_alloc_new w _, hE⟩, ⟨l, n, (Below.heap_alloc _ _ b hlt).trans hh, hE⟩⟩
/-! The iterator. -/
structure RanV (w : World) (b r : Nat) (ks done : List Vrp) : Prop where
  at_ : ∃ (l : List (Vrp × Nat)) (n since c0 : Nat) (seen : Array Nat) (dl : List (Vrp × Nat)), w.heap[b]? = some (.map (l.map entV).toArray n) ∧ EntsV l n ks ∧ w.heap[r]? = some (.mapIter (some b) since seen c0) ∧ (∀ e ∈ l, e.2 < since) ∧ since ≤ c0 ∧ since ≤ n ∧
    dl.map (·.1) = done ∧ dl.map (·.2) = seen.toList ∧ (∀ e ∈ dl, e ∈ l) ∧ seen.toList.Nodup
theorem leftOf_ents (l : List (Vrp × Nat)) (seen : Array Nat) : leftOf (l.map entV).toArray seen = ((l.filter fun e => !seen.contains e.2).map entV).toArray := by
  unfold leftOf
  apply Array.toList_inj.1
  rw [Array.toList_filter]
  simp only [List.filter_map]
  rfl
theorem nodup_of_map {α β : Type} (f : α → β) {l : List α} (h : (l.map f).Nodup) : l.Nodup := by
  rw [List.Nodup, List.pairwise_map] at h
  exact h.imp fun hab e => hab (by rw [e])
theorem map_inj_of_nodup {α β : Type} (f : α → β) : ∀ {l : List α} (_ : (l.map f).Nodup) {a b : α}, a ∈ l → b ∈ l → f a = f b → a = b
  | [], _, _, _, ha, _, _ => absurd ha (by simp)
  | x :: l, h, a, b, ha, hb, e => by
    rw [List.map_cons, List.nodup_cons] at h
    rcases List.mem_cons.1 ha with ea | ha'
    · rcases List.mem_cons.1 hb with eb | hb'
      · rw [ea, eb]
      · exact absurd (List.mem_map.2 ⟨b, hb', by rw [← e, ea]⟩) h.1
    · rcases List.mem_cons.1 hb with eb | hb'
      · exact absurd (List.mem_map.2 ⟨a, ha', by rw [e, eb]⟩) h.1
      · exact map_inj_of_nodup f h.2 ha' hb' e
theorem nodup_le {α : Type} [DecidableEq α] : ∀ {l m : List α}, l.Nodup → (∀ x ∈ l, x ∈ m) → l.length ≤ m.length
  | [], _, _, _ => by simp
  | x :: l, m, h, hs => by
    rw [List.nodup_cons] at h
    have hx : x ∈ m := hs x (by simp)
    have ih := nodup_le (l := l) (m := m.erase x) h.2 (fun y hy => (List.mem_erase_of_ne (fun e => h.1 (by rw [← e]; exact hy))).2 (hs y (by simp [hy])))
    rw [List.length_erase_of_mem hx] at ih
    have := List.length_pos_of_mem hx
    rw [List.length_cons]
    omega
theorem RanV.few {w : World} {b r : Nat} {ks done : List Vrp} (h : RanV w b r ks done) : done.Nodup ∧ (∀ x ∈ done, x ∈ ks) ∧ done.length ≤ ks.length := by
  obtain ⟨l, n, since, c0, seen, dl, hh, hE, hr, hs, h1, h2, hd, hb, hin, hnd⟩ := h.at_
  have hdl : dl.Nodup := nodup_of_map (·.2) (by rw [hb]; exact hnd)
  have hdn : done.Nodup := by
    rw [← hd, List.Nodup, List.pairwise_map]
    refine List.Pairwise.imp_of_mem (fun {a c} ha hc hne e => hne ?_) hdl
    exact map_inj_of_nodup (·.1) (by rw [hE.eq]; exact hE.nd) (hin a ha) (hin c hc) e
  have hsub : ∀ x ∈ done, x ∈ ks := fun x hx => by
    rw [← hd] at hx
    obtain ⟨e, he, rfl⟩ := List.mem_map.1 hx
    rw [← hE.eq]
    exact List.mem_map.2 ⟨e, hin e he, rfl⟩
  exact ⟨hdn, hsub, nodup_le hdn hsub⟩
theorem RanV.left {w : World} {b r : Nat} {ks done : List Vrp} (h : RanV w b r ks done) : ∃ (l : List (Vrp × Nat)) (seen : Array Nat), w.rangeLeft b r = (leftOf (l.map entV).toArray seen).size := by
  obtain ⟨l, n, since, c0, seen, dl, hh, hE, hr, _⟩ := h.at_
  exact ⟨l, seen, by unfold World.rangeLeft; rw [hh, hr]⟩
theorem heap_set_ne (w : World) {r b : Nat} (o : Obj) (h : r ≠ b) : (setBlock w r o).heap[b]? = w.heap[b]? := by
  unfold setBlock
  exact Array.getElem?_setIfInBounds_ne h
theorem filter_lt {α : Type} (p q : α → Bool) : ∀ (l : List α), (∀ x ∈ l, q x = true → p x = true) → (∃ x ∈ l, p x = true ∧ q x = false) → (l.filter q).length < (l.filter p).length
  | [], _, h => by obtain ⟨x, hx, _⟩ := h; cases hx
  | y :: l, hall, h => by
    have hle : ∀ l : List α, (∀ x ∈ l, q x = true → p x = true) → (l.filter q).length ≤ (l.filter p).length := fun l => by
      induction l with
      | nil => intro _; simp
      | cons z l ih =>
        intro hz
        have := ih (fun x hx => hz x (by simp [hx]))
        have hz1 := hz z (by simp)
        rw [List.filter_cons, List.filter_cons]
        cases hq : q z
        · cases hp : p z <;> simp <;> omega
        · rw [hz1 hq]; simp; omega
    have h2 := hle l (fun x hx => hall x (by simp [hx]))
    have hy := hall y (by simp)
    rw [List.filter_cons, List.filter_cons]
    obtain ⟨x, hx, hp, hq⟩ := h
    rcases List.mem_cons.1 hx with rfl | hx
    · rw [hp, hq]; simp; omega
    · have ih := filter_lt p q l (fun x hx => hall x (by simp [hx])) ⟨x, hx, hp, hq⟩
      cases hq : q y
      · cases hp : p y <;> simp <;> omega
      · rw [hy hq]; simp; omega
theorem RanV.next {w : World} {b r : Nat} {ks done : List Vrp} (h : RanV w b r ks done) (ty : TypeId) :
    ((∀ x ∈ ks, x ∈ done) ∧ (Instr.next (.pointer (some ⟨r, 0, none⟩)) false ty).run Try.prog w = .ok (.tuple #[.bool false]) w) ∨
    ∃ x w', x ∈ ks ∧ x ∉ done ∧ (Instr.next (.pointer (some ⟨r, 0, none⟩)) false ty).run Try.prog w = .ok (.tuple #[.bool true, .agg x.cells.toArray, .bool true]) w' ∧ RanV w' b r ks (done ++ [x]) ∧ w.grownBy w' (some r) ∧ w'.heap.size = w.heap.size ∧
      (Instr.entry (.pointer (some ⟨r, 0, none⟩))).run Try.prog w' = .ok (.tuple #[.agg x.cells.toArray, .bool true]) w' ∧ w'.rangeLeft b r < w.rangeLeft b r := by
  obtain ⟨l, n, since, c0, seen, dl, hh, hE, hr, hs, h1, h2, hd, hb, hin, hnd⟩ := h.at_
  have hrl : w.rangeLeft b r = (leftOf (l.map entV).toArray seen).size := by unfold World.rangeLeft; rw [hh, hr]
  have hseen : ∀ e ∈ l, seen.contains e.2 = true ↔ e ∈ dl := fun e he => by
    have hm : seen.contains e.2 = true ↔ e.2 ∈ dl.map (·.2) := by rw [hb]; simp
    rw [hm]
    refine ⟨fun hx => ?_, fun hx => List.mem_map.2 ⟨e, hx, rfl⟩⟩
    obtain ⟨d, hd', e2⟩ := List.mem_map.1 hx
    have := map_inj_of_nodup (·.2) hE.nb (hin d hd') he e2
    rw [← this]; exact hd'
  rcases run_next_at (P := Try.prog) w ty r b since c0 seen _ n hr hh (fun x hx => by
      simp only [List.mem_map] at hx
      obtain ⟨e, he, rfl⟩ := hx
      exact hs e he) h1 with ⟨h0, hrun⟩ | ⟨en, hen, w1, hw1, hrun⟩
  · refine .inl ⟨fun x hx => ?_, hrun⟩
    rw [leftOf_ents] at h0
    have h0' : l.filter (fun e => !seen.contains e.2) = [] := by simpa using h0
    rw [← hE.eq] at hx
    obtain ⟨e, he, rfl⟩ := List.mem_map.1 hx
    rw [← hd]
    refine List.mem_map.2 ⟨e, (hseen e he).1 ?_, rfl⟩
    have := List.filter_eq_nil_iff.1 h0' e he
    simpa using this
  · rw [leftOf_ents] at hen
    simp only [List.mem_map, List.mem_filter] at hen
    obtain ⟨e, ⟨he, hns⟩, rfl⟩ := hen
    have hnd2 : e ∉ dl := fun hx => by rw [(hseen e he).2 hx] at hns; cases hns
    have hns' : e.2 ∉ seen.toList := by
      intro hx
      have : seen.contains e.2 = true := by simpa using hx
      rw [this] at hns; cases hns
    have hrb : r ≠ b := fun e2 => by rw [e2, hh] at hr; cases hr
    have hw1' : w1.heap = w.heap ∧ w.grownBy w1 none := by
      rcases hw1 with rfl | rfl
      · exact ⟨rfl, ⟨rfl, rfl, rfl, Nat.le_refl _, fun _ _ _ => rfl⟩⟩
      · exact ⟨rfl, ⟨rfl, rfl, rfl, Nat.le_refl _, fun _ _ _ => rfl⟩⟩
    have hh2 : (setBlock w1 r (.mapIter (some b) since (seen.push e.2) n)).heap[b]? = some (.map (l.map entV).toArray n) := by rw [heap_set_ne _ _ hrb, hw1'.1]; exact hh
    have hr2 : (setBlock w1 r (.mapIter (some b) since (seen.push e.2) n)).heap[r]? = some (.mapIter (some b) since (seen.push e.2) n) := heap_setBlock_same (o := .mapIter (some b) since seen c0) (by rw [hw1'.1]; exact hr)
    refine .inr ⟨e.1, _, ?_, ?_, hrun, ⟨l, n, since, n, seen.push e.2, dl ++ [e], hh2, hE, hr2, hs, h2, h2, ?_, ?_, ?_, ?_⟩, ?_, ?_, ?_, ?_⟩
    · rw [← hE.eq]; exact List.mem_map.2 ⟨e, he, rfl⟩
    · intro hx
      rw [← hd] at hx
      obtain ⟨d, hd', e2⟩ := List.mem_map.1 hx
      have := map_inj_of_nodup (·.1) (by rw [hE.eq]; exact hE.nd) (hin d hd') he e2
      exact hnd2 (by rw [← this]; exact hd')
    · rw [List.map_append, hd]; rfl
    · rw [List.map_append, hb]; simp
    · intro d hd'
      rcases List.mem_append.1 hd' with hd' | hd'
      · exact hin d hd'
      · rw [List.mem_singleton] at hd'; rw [hd']; exact he
    · rw [Array.toList_push, List.nodup_append]
      exact ⟨hnd, by simp, fun a ha c hc e2 => hns' (by rw [List.mem_singleton] at hc; rw [← hc, ← e2]; exact ha)⟩
    · have hg := grown_setBlock w1 r (.mapIter (some b) since (seen.push e.2) n)
      exact ⟨hg.os.trans hw1'.2.os, hg.tape.trans hw1'.2.tape, hg.output.trans hw1'.2.output, Nat.le_trans hw1'.2.size hg.size, fun k hk hne => (hg.block k (by rw [hw1'.1]; exact hk) hne).trans (by rw [hw1'.1])⟩
    · unfold setBlock; simp [hw1'.1]
    · exact run_entry_at _ r b since seen _ n (entV e) hr2 hh2 (by simp only [List.mem_map]; exact ⟨e, he, rfl⟩) (by rw [List.map_map]; exact hE.nb)
    · have hrl2 : World.rangeLeft (setBlock w1 r (.mapIter (some b) since (seen.push e.2) n)) b r = (leftOf (l.map entV).toArray (seen.push e.2)).size := by unfold World.rangeLeft; rw [hh2, hr2]
      show World.rangeLeft (setBlock w1 r (.mapIter (some b) since (seen.push e.2) n)) b r < _
      rw [hrl, hrl2, leftOf_ents, leftOf_ents]
      simp only [List.size_toArray, List.length_map]
      refine filter_lt _ _ l (fun x hx hq => ?_) ⟨e, he, hns, by simp⟩
      simp at hq ⊢
      exact hq.1
theorem MapV.range {w : World} {b : Nat} {ks : List Vrp} (h : MapV w b ks) : ∃ w', (Instr.range 93 (.map (some b))).run Try.prog w = .ok (.pointer (some ⟨w.heap.size, 0, none⟩)) w' ∧ RanV w' b w.heap.size ks [] ∧ w.grownBy w' none ∧ w'.heap.size = w.heap.size + 1 := by
  have hlt := h.lt
  obtain ⟨l, n, hh, hE⟩ := h
  refine ⟨w.alloc (.mapIter (some b) n #[] n), ?_, ⟨l, n, n, n, #[], [], (Below.heap_alloc _ _ b hlt).trans hh, hE, heap_alloc_new w _, hE.lt, Nat.le_refl _, Nat.le_refl _, rfl, rfl, fun e he => absurd he (by simp), by simp⟩, World.grownBy_alloc w _ none, by simp⟩
  unfold Instr.range
  simp only [Sem.run_bind, run_underlying Try.underlying93, Result.andThen_ok, MapKept.run_getObj_map hh, Sem.run_pure]
  simp [go_sem]
end Go.Proofs.Ytmoldmnhijcckaa
/- A router in memory; router.New, waits, Ask. -/
set_option linter.unusedVariables false
set_option linter.unusedSectionVars false
set_option linter.unusedSimpArgs false
namespace Go.Proofs.Ytmoldmnhijcckaa
open Go.RowKit
/-- A table that a router holds: where its state lies and where its map, its session, its prefixes. -/
structure TbV where
  s : Nat
  m : Nat
  sess : Int
  ks : List Vrp
def TbV.abs (t : TbV) : Int × List Vrp := (t.sess, t.ks)
def tbP : Option TbV → Value
  | none => .pointer none
  | some t => .pointer (some ⟨t.s, 0, none⟩)
structure TbAt (W : World) (t : TbV) : Prop where
  b : Blk W t.s 95 [.int .i64 t.sess, .map (some t.m)]
  m : MapV W t.m t.ks
structure RoT where
  h : Option TbV
  sn : UInt32
  nx : Option TbV
  asked : Bool
  kind : Int
  lf : Lf
  broken : Bool
def RoT.abs (r : RoT) : RoS := ⟨r.h.map TbV.abs, r.sn, r.nx.map TbV.abs, r.asked, r.kind⟩
def RoT.q (r : RoT) : RoQ := ⟨r.abs, r.lf.bs, r.broken⟩
def RoT.cells (r : RoT) : List Value := [tbP r.h, .int .u32 r.sn.toNat, tbP r.nx, .bool r.asked, .int .i64 r.kind, r.lf.val, .bool r.broken]
def RoT.zero : RoT := ⟨none, 0, none, false, 0, ⟨none, 0, []⟩, false⟩
structure RtA0 (W : World) (g : Nat) (r : RoT) : Prop where
  blk : Blk W g 91 r.cells
  has : ∀ t, r.h = some t → TbAt W t
  nxt : ∀ t, r.nx = some t → TbAt W t
  left : Reads W W.heap.size 1 r.lf.A r.lf.bs.length (r.lf.bs.map bv) ∧ r.lf.bs.length ≤ r.lf.c
structure RtA (W : World) (g : Nat) (r : RoT) : Prop extends RtA0 W g r where
  ne : ∀ t t', r.h = some t → r.nx = some t' → t.m ≠ t'.m
theorem TbAt.next {W W' : World} {t : TbV} (h : TbAt W t) (hb : Below W.heap.size W W') : TbAt W' t := ⟨h.b.below hb h.b.lt, h.m.below hb⟩
theorem TbAt.kept {W W' : World} {t : TbV} (h : TbAt W t) (h1 : W'.heap[t.s]? = W.heap[t.s]?) (h2 : W'.heap[t.m]? = W.heap[t.m]?) : TbAt W' t := ⟨h1.trans h.b, h.m.kept h2⟩
theorem RtA.next {W W' : World} {g : Nat} {r : RoT} (h : RtA W g r) (hb : Below W.heap.size W W') : RtA W' g r :=
  ⟨⟨h.blk.below hb h.blk.lt, fun t ht => (h.has t ht).next hb, fun t ht => (h.nxt t ht).next hb, ((h.left.1.below hb (Nat.le_refl _)).more hb.size), h.left.2⟩, h.ne⟩
theorem RtA.drew {W : World} {g : Nat} {r : RoT} (h : RtA W g r) : RtA W.drew g r := h.next (Below.refl _ _).drew
theorem blk_map_ne {W : World} {g m : Nat} {t : TypeId} {cs : List Value} {ks : List Vrp} (h : Blk W g t cs) (h' : MapV W m ks) : m ≠ g := by
  rintro rfl
  obtain ⟨l, n, hh, _⟩ := h'
  unfold Blk at h
  rw [hh] at h
  cases h
theorem blk_typ_ne {W : World} {g g' : Nat} {t t' : TypeId} {cs cs' : List Value} (h : Blk W g t cs) (h' : Blk W g' t' cs') (hne : t ≠ t') : g ≠ g' := by
  rintro rfl
  unfold Blk at h h'
  rw [h] at h'
  injection h' with h'
  injection h' with _ h' _
  exact hne h'
theorem blkAdd (a : Addr) (i : Nat) : (a.add i).block = a.block := by unfold Addr.add; split <;> rfl
/-- Bytes are kept while a block of no bytes turns. -/
theorem Reads.offBlk {W W' : World} {B n : Nat} {A : Option Addr} {bs : List UInt8} (h : Reads W B 1 A n (bs.map bv)) {g : Nat} {t : TypeId} {cs : List Value} (hB : Blk W g t cs) (hcs : ∀ v ∈ cs, ∀ x : UInt8, v ≠ bv x)
    (hk : ∀ k, k < B → k ≠ g → W'.heap[k]? = W.heap[k]?) : Reads W' B 1 A n (bs.map bv) := by
  refine ⟨h.1, fun hn => ?_⟩
  obtain ⟨ad, e, hb, hc⟩ := h.2 hn
  have hne : ad.block ≠ g := fun e2 => by
    have hl : 0 < bs.length := by have := h.1; rw [List.length_map] at this; omega
    have h0 := hc 0 (bv bs[0]) (by simp [hl])
    have h2 : ∀ u, W.cell? (ad.add 0) = some u → u ∈ cs := fun u hu => by
      unfold World.cell? at hu
      have e3 : (ad.add 0).block = g := e2
      rw [e3] at hu
      unfold Blk at hB
      rw [hB] at hu
      simp at hu
      first | exact List.mem_of_getElem? hu | exact List.mem_of_getElem? hu.2
    exact hcs _ (h2 _ h0) _ rfl
  exact ⟨ad, e, hb, fun j u hu => (World.cell?_of_block (a := ad.add j) (hk (ad.add j).block (by rw [blkAdd]; exact hb) (by rw [blkAdd]; exact hne))).trans (hc j u hu)⟩
theorem Reads.offMap {W W' : World} {B n : Nat} {A : Option Addr} {bs : List UInt8} (h : Reads W B 1 A n (bs.map bv)) {m : Nat} {ks : List Vrp} (hM : MapV W m ks)
    (hk : ∀ k, k < B → k ≠ m → W'.heap[k]? = W.heap[k]?) : Reads W' B 1 A n (bs.map bv) := by
  refine ⟨h.1, fun hn => ?_⟩
  obtain ⟨ad, e, hb, hc⟩ := h.2 hn
  have hne : ad.block ≠ m := fun e2 => by
    have hl : 0 < bs.length := by have := h.1; rw [List.length_map] at this; omega
    have h0 := hc 0 (bv bs[0]) (by simp [hl])
    obtain ⟨l, nn, hh, _⟩ := hM
    have h2 : W.cell? (ad.add 0) = none := by
      unfold World.cell?
      have e3 : (ad.add 0).block = m := e2
      rw [e3, hh]
    rw [h0] at h2
    cases h2
  exact ⟨ad, e, hb, fun j u hu => (World.cell?_of_block (a := ad.add j) (hk (ad.add j).block (by rw [blkAdd]; exact hb) (by rw [blkAdd]; exact hne))).trans (hc j u hu)⟩
theorem tbP_bv (o : Option TbV) (x : UInt8) : tbP o ≠ bv x := by cases o <;> exact fun e => by cases e
theorem RoT.cells_bv (r : RoT) : ∀ v ∈ r.cells, ∀ x : UInt8, v ≠ bv x := by
  intro v hv x e
  simp only [RoT.cells, List.mem_cons, List.not_mem_nil, or_false] at hv
  rcases hv with rfl | rfl | rfl | rfl | rfl | rfl | rfl
  · exact tbP_bv _ _ e
  · cases e
  · exact tbP_bv _ _ e
  · cases e
  · cases e
  · cases e
  · cases e
/-- A cell of the router's own turns. -/
theorem RtA0.setG {W : World} {g : Nat} {r r' : RoT} (h : RtA0 W g r) (i : Nat) (u : Value) (hc : r.cells.set i u = r'.cells) (h1 : ∀ t, r'.h = some t → TbAt W t) (h2 : ∀ t, r'.nx = some t → TbAt W t)
    (h4 : Reads W W.heap.size 1 r'.lf.A r'.lf.bs.length (r'.lf.bs.map bv) ∧ r'.lf.bs.length ≤ r'.lf.c) : RtA0 (W.setCell ⟨g, i, none⟩ u) g r' := by
  have hset : ∀ k, k ≠ g → (W.setCell ⟨g, i, none⟩ u).heap[k]? = W.heap[k]? := fun k hk => Below.heap_setCell W ⟨g, i, none⟩ _ k hk
  have hT : ∀ t, TbAt W t → TbAt (W.setCell ⟨g, i, none⟩ u) t := fun t ht => ht.kept (hset _ (blk_typ_ne ht.b h.blk (by decide))) (hset _ (blk_map_ne h.blk ht.m))
  refine ⟨by have := h.blk.set_ i u; rw [hc] at this; exact this, fun t ht => hT t (h1 t ht), fun t ht => hT t (h2 t ht), ?_, h4.2⟩
  rw [World.size_setCell]
  exact h4.1.offBlk h.blk r.cells_bv fun k _ hk => hset k hk
theorem RtA.setG {W : World} {g : Nat} {r r' : RoT} (h : RtA W g r) (i : Nat) (u : Value) (hc : r.cells.set i u = r'.cells) (h1 : ∀ t, r'.h = some t → TbAt W t) (h2 : ∀ t, r'.nx = some t → TbAt W t) (h3 : ∀ t t', r'.h = some t → r'.nx = some t' → t.m ≠ t'.m)
    (h4 : Reads W W.heap.size 1 r'.lf.A r'.lf.bs.length (r'.lf.bs.map bv) ∧ r'.lf.bs.length ≤ r'.lf.c) : RtA (W.setCell ⟨g, i, none⟩ u) g r' := ⟨h.toRtA0.setG i u hc h1 h2 h4, h3⟩
/-- What else a router's step leaves alone, and where its maps lie behind it. -/
structure RFr (W W' : World) (g : Nat) (r r' : RoT) : Prop where
  os : W'.os = W.os
  tape : W'.tape = W.tape
  output : W'.output = W.output
  size : W.heap.size ≤ W'.heap.size
  keep : ∀ k, k < W.heap.size → k ≠ g → (∀ t, r.nx = some t → k ≠ t.m) → W'.heap[k]? = W.heap[k]?
  tabs : ∀ t', (r'.h = some t' ∨ r'.nx = some t') → (∃ t, (r.h = some t ∨ r.nx = some t) ∧ t.m = t'.m) ∨ W.heap.size ≤ t'.m
  nx : ∀ t', r'.nx = some t' → (∃ t, r.nx = some t ∧ t.m = t'.m) ∨ W.heap.size ≤ t'.m
theorem RFr.refl (W : World) (g : Nat) (r : RoT) : RFr W W g r r := ⟨rfl, rfl, rfl, Nat.le_refl _, fun _ _ _ _ => rfl, fun t ht => .inl ⟨t, ht, rfl⟩, fun t ht => .inl ⟨t, ht, rfl⟩⟩
theorem RFr.trans {A B C : World} {g : Nat} {r r1 r2 : RoT} (h : RFr A B g r r1) (k : RFr B C g r1 r2) : RFr A C g r r2 := by
  refine ⟨k.os.trans h.os, k.tape.trans h.tape, k.output.trans h.output, Nat.le_trans h.size k.size, fun i hi h1 h2 => ?_, fun t' ht' => ?_, fun t' ht' => ?_⟩
  · refine (k.keep i (Nat.lt_of_lt_of_le hi h.size) h1 fun t ht e => ?_).trans (h.keep i hi h1 h2)
    rcases h.nx t ht with ⟨t0, h0, e0⟩ | hle
    · exact h2 t0 h0 (e.trans e0.symm)
    · omega
  · rcases k.tabs t' ht' with ⟨t, ht, e⟩ | hle
    · rcases h.tabs t ht with ⟨t0, h0, e0⟩ | hle
      · exact .inl ⟨t0, h0, e0.trans e⟩
      · exact .inr (by omega)
    · exact .inr (Nat.le_trans h.size hle)
  · rcases k.nx t' ht' with ⟨t, ht, e⟩ | hle
    · rcases h.nx t ht with ⟨t0, h0, e0⟩ | hle
      · exact .inl ⟨t0, h0, e0.trans e⟩
      · exact .inr (by omega)
    · exact .inr (Nat.le_trans h.size hle)
theorem RFr.below {W W' : World} {g : Nat} {r : RoT} (h : Below W.heap.size W W') : RFr W W' g r r := ⟨h.os, h.tape, h.output, h.size, fun k hk _ _ => h.block k hk, fun t ht => .inl ⟨t, ht, rfl⟩, fun t ht => .inl ⟨t, ht, rfl⟩⟩
theorem RFr.then {A B C : World} {g : Nat} {r r1 : RoT} (h : RFr A B g r r1) (k : Below B.heap.size B C) : RFr A C g r r1 := h.trans (.below k)
theorem RFr.cell {W : World} {g i : Nat} {u : Value} {r r' : RoT} (h1 : ∀ t', (r'.h = some t' ∨ r'.nx = some t') → (r.h = some t' ∨ r.nx = some t')) (h2 : ∀ t', r'.nx = some t' → r.nx = some t') : RFr W (W.setCell ⟨g, i, none⟩ u) g r r' :=
  have hg := grown_setCell (grown_refl W (some g)) i u
  ⟨hg.os, hg.tape, hg.output, hg.size, fun k hk hne _ => hg.block k hk (fun e => hne (Option.some.inj e)), fun t ht => .inl ⟨t, h1 t ht, rfl⟩, fun t ht => .inl ⟨t, h2 t ht, rfl⟩⟩
/-- What lay below is kept, where neither the router nor the map of its answer lies there. -/
theorem RFr.lo {A B C : World} {g lo : Nat} {r r' : RoT} (h : Below lo A B) (k : RFr B C g r r') (hg : lo ≤ g) (hn : ∀ t, r.nx = some t → lo ≤ t.m) (hs : lo ≤ B.heap.size) : Below lo A C :=
  h.trans ⟨k.os, k.tape, k.output, k.size, fun i hi => k.keep i (by omega) (by omega) (fun t ht => by have := hn t ht; omega)⟩
set_option maxRecDepth 100000 in
set_option maxHeartbeats 1000000 in
theorem rnew_any (w : World) : Calls Try.prog 23 #[] w fun e w' => e = .returned (.pointer (some ⟨w.heap.size, 0, none⟩)) ∧ RtA w' w.heap.size RoT.zero ∧ Below w.heap.size w w' := by
  have hR : RtA (w.alloc (.cells #[.pointer none, .int .u32 0, .pointer none, .bool false, .int .i64 0, .slice none 0 0, .bool false] 91)) w.heap.size RoT.zero :=
    ⟨⟨blk_new' _ _ [_, _, _, _, _, _, _] _ (by simp), fun t ht => (by cases ht), fun t ht => (by cases ht), Reads.nil, Nat.le_refl _⟩, fun t t' ht => (by cases ht)⟩
  have hlo : Below w.heap.size w (w.alloc (.cells #[.pointer none, .int .u32 0, .pointer none, .bool false, .int .i64 0, .slice none 0 0, .bool false] 91)) := (Below.refl _ _).alloc (Nat.le_refl _) _
  go_enter Try.func23, Try.ntmps23
  go_wp2_with fail
  go_ret
  exact ⟨rfl, hR, hlo⟩
set_option maxRecDepth 100000 in
set_option maxHeartbeats 1000000 in
theorem rwaits_any (w : World) (g : Nat) (r : RoT) (h : RtA w g r) : Calls Try.prog 92 #[.pointer (some ⟨g, 0, none⟩)] w fun e w' => e = .returned (.bool r.abs.waits) ∧ w = w' := by
  have c2 := h.blk.cell 2
  have c3 := h.blk.cell 3
  simp only [RoT.cells, List.getElem?_cons_zero, List.getElem?_cons_succ] at c2 c3
  have HW := Lib.hid (show r.abs.waits = (r.asked && r.nx.isNone) by unfold RoS.waits RoT.abs; cases r.nx <;> rfl)
  clear h
  rw [HW.out]
  cases ha : r.asked
  · rw [ha] at c3
    clear HW ha
    go_enter Try.func92, Try.ntmps92
    go_wp2_with fail
    go_ret
    exact ⟨rfl, rfl⟩
  · rw [ha] at c3
    cases hn : r.nx with
    | none =>
      rw [hn] at c2
      simp only [tbP] at c2
      clear HW ha hn
      go_enter Try.func92, Try.ntmps92
      go_wp2_with fail
      go_ret
      exact ⟨rfl, rfl⟩
    | some t =>
      rw [hn] at c2
      simp only [tbP] at c2
      clear HW ha hn
      go_enter Try.func92, Try.ntmps92
      go_wp2_with fail
      go_ret
      exact ⟨rfl, rfl⟩
end Go.Proofs.Ytmoldmnhijcckaa
/-
  DERIVED: THE SHELF's CONTRACTS AT THIS DUMP, IN PLAIN WORDS (tools/lay-plain.mjs out of 'YtmoldmnhijcckaaMcl.lean', which tools/lay-shelf.mjs wrote): THE SAME DECLARATIONS UNDER THE SAME NAMES: 'import', 'namespace', 'open', 'def', 'theorem' AND NOTHING ELSE: no command of the shelf's: FOR A HAND-IN. Each laying: the table of numbers ('.._ren') and one theorem, a field a fact of the dump's own or the kernel's comparison; each contract: ONE APPLICATION.
-/
namespace Go.Proofs
open Go.Shelf
def Try.cloneM_ren : Go.Shelf.Ren := ⟨fun | 5 => 106 | 7 => 113 | n => n, fun | 23 => 93 | 25 => 27 | 3 => 4 | 4 => 4 | 20 => 20 | n => n, fun | n => n⟩
theorem Try.cloneM : Go.Proofs.SlLaysW.n5 Try.prog Try.cloneM_ren := {
  mixed := by kernel_rfl
  f5 := ⟨Try.f106.name, by decide, Try.func106.trans (congrArg some (by kernel_rfl))⟩
  f7 := Try.func113.trans (congrArg some (by kernel_rfl))
  t4 := Try.underlying4
  a4 := Try.isAgg4
  z4 := Try.sizeOf4
  v4 := Try.zeroValue4
  t20 := Try.underlying20
  a20 := Try.isAgg20
  z20 := Try.sizeOf20
  v20 := Try.zeroValue20
  t23 := Try.underlying93
  a23 := Try.isAgg93
  z23 := Try.sizeOf93
  v23 := Try.zeroValue93 }
end Go.Proofs
/- maps.Clone at a map of rows. -/
set_option linter.unusedVariables false
set_option linter.unusedSectionVars false
set_option linter.unusedSimpArgs false
namespace Go.Proofs.Ytmoldmnhijcckaa
open Go.RowKit
theorem mclone_any (w : World) (b : Nat) (ks : List Vrp) (h : MapV w b ks) : Calls Try.prog 106 #[.map (some b)] w fun e w' => e = .returned (.map (some w.heap.size)) ∧ MapV w' w.heap.size ks ∧ Below w.heap.size w w' := by
  have hlt := h.lt
  obtain ⟨l, n, hh, hE⟩ := h
  have hc := AnyW.maps_Clone Try.cloneM b _ n w hh
  change Calls Try.prog 106 _ _ _ at hc
  refine hc.mono ?_
  rintro e w' ⟨rfl, rfl⟩
  exact ⟨rfl, ⟨l, n, heap_alloc_new w _, hE⟩, (Below.refl _ _).alloc (Nat.le_refl _) _⟩
end Go.Proofs.Ytmoldmnhijcckaa
/- router's Ask, begin, change, end. -/
set_option linter.unusedVariables false
set_option linter.unusedSectionVars false
set_option linter.unusedSimpArgs false
namespace Go.Proofs.Ytmoldmnhijcckaa
open Go.RowKit
section
variable {W : World} {g : Nat} {r : RoT}
theorem RtA.setAsked (h : RtA W g r) (b : Bool) : RtA (W.setCell ⟨g, 3, none⟩ (.bool b)) g { r with asked := b } := h.setG 3 _ rfl h.has h.nxt h.ne h.left
theorem RtA.setKind (h : RtA W g r) (k : Int) : RtA (W.setCell ⟨g, 4, none⟩ (.int .i64 k)) g { r with kind := k } := h.setG 4 _ rfl h.has h.nxt h.ne h.left
theorem RtA.noNext (h : RtA W g r) : RtA (W.setCell ⟨g, 2, none⟩ (.pointer none)) g { r with nx := none } := h.setG 2 _ rfl h.has (fun t ht => by cases ht) (fun t t' _ ht => by cases ht) h.left
theorem RtA.noHas (h : RtA W g r) : RtA (W.setCell ⟨g, 0, none⟩ (.pointer none)) g { r with h := none } := h.setG 0 _ rfl (fun t ht => by cases ht) h.nxt (fun t t' ht _ => by cases ht) h.left
theorem RtA.setSn (h : RtA W g r) (s : UInt32) : RtA (W.setCell ⟨g, 1, none⟩ (.int .u32 s.toNat)) g { r with sn := s } := h.setG 1 _ rfl h.has h.nxt h.ne h.left
theorem RtA.setBroken (h : RtA W g r) (b : Bool) : RtA (W.setCell ⟨g, 6, none⟩ (.bool b)) g { r with broken := b } := h.setG 6 _ rfl h.has h.nxt h.ne h.left
theorem RtA.setLeft (h : RtA W g r) (lf : Lf) (hl : Reads W W.heap.size 1 lf.A lf.bs.length (lf.bs.map bv) ∧ lf.bs.length ≤ lf.c) : RtA (W.setCell ⟨g, 5, none⟩ lf.val) g { r with lf := lf } := h.setG 5 _ rfl h.has h.nxt h.ne hl
theorem RtA.setNext (h : RtA W g r) (t : TbV) (ht : TbAt W t) (hne : ∀ t', r.h = some t' → t'.m ≠ t.m) : RtA (W.setCell ⟨g, 2, none⟩ (.pointer (some ⟨t.s, 0, none⟩))) g { r with nx := some t } :=
  h.setG 2 _ rfl h.has (fun t' ht' => by cases ht'; exact ht) (fun t1 t2 h1 h2 => by cases h2; exact hne t1 h1) h.left
theorem RFr.same {i : Nat} {u : Value} {r' : RoT} (h1 : r'.h = r.h) (h2 : r'.nx = r.nx) : RFr W (W.setCell ⟨g, i, none⟩ u) g r r' := RFr.cell (fun t ht => by rw [h1, h2] at ht; exact ht) (fun t ht => by rw [h2] at ht; exact ht)
end
/-- A router, and a message in a box. -/
structure RtP (w : World) (g : Nat) (r : RoT) (bx : Nat) (p : Pdu) (W : World) : Prop where
  a : RtA W g r
  b : Blk W bx 29 p.cells
  f : Below w.heap.size w W
theorem RtP.next {w W W' : World} {g : Nat} {r : RoT} {bx : Nat} {p : Pdu} (h : RtP w g r bx p W) (hb : Below W.heap.size W W') : RtP w g r bx p W' := ⟨h.a.next hb, h.b.below hb h.b.lt, below_then h.f (Nat.le_refl _) hb⟩
theorem RtP.drew {w W : World} {g : Nat} {r : RoT} {bx : Nat} {p : Pdu} (h : RtP w g r bx p W) : RtP w g r bx p W.drew := h.next (Below.refl _ _).drew
def TakePost (w : World) (g : Nat) (r : RoT) (s : RoS × Int) (e : Ending) (w' : World) : Prop := ∃ r', e = .returned (.int .i64 s.2) ∧ RtA w' g r' ∧ r'.abs = s.1 ∧ r'.lf = r.lf ∧ r'.broken = r.broken ∧ RFr w w' g r r'
set_option maxRecDepth 100000 in
set_option maxHeartbeats 2000000 in
theorem rend_any (p : Pdu) (w : World) (g : Nat) (r : RoT) (h : RtA w g r) : Calls Try.prog 91 #[.pointer (some ⟨g, 0, none⟩), p.val] w (TakePost w g r (endR r.abs p)) := by
  cases hn : r.nx with
  | none =>
    have HE := Lib.hid (show endR r.abs p = (r.abs, 13) by unfold endR RoT.abs; rw [hn]; rfl)
    simp only [Pdu.val]
    have hT : RtP w g r w.heap.size p (w.alloc (.cells p.cells.toArray 29)) := ⟨h.next ((Below.refl _ _).alloc (Nat.le_refl _) _), Blk.new _ _ _, (Below.refl _ _).alloc (Nat.le_refl _) _⟩
    clear h
    go_enter Try.func91, Try.ntmps91
    go_upto_region 1 with fail
    refine wp_gen (RtP w g r w.heap.size p) hT ?_
    clear hT
    generalize w.heap.size = bx
    intro W hT
    have c0 := hT.a.blk.cell 0
    have c1 := hT.a.blk.cell 1
    have c2 := hT.a.blk.cell 2
    have c3 := hT.a.blk.cell 3
    have c4 := hT.a.blk.cell 4
    have c5 := hT.a.blk.cell 5
    have c6 := hT.a.blk.cell 6
    have f0 := hT.a.blk.frozen 0
    have f1 := hT.a.blk.frozen 1
    have f2 := hT.a.blk.frozen 2
    have f3 := hT.a.blk.frozen 3
    have f4 := hT.a.blk.frozen 4
    have f5 := hT.a.blk.frozen 5
    have f6 := hT.a.blk.frozen 6
    simp only [RoT.cells, tbP, List.getElem?_cons_zero, List.getElem?_cons_succ] at c0 c1 c2 c3 c4 c5 c6
    rw [hn] at c2
    simp only at c2
    clear hn
    go_wp2_with fail
    go_ret
    rw [HE.out]
    exact ⟨r, rfl, hT.a, rfl, rfl, rfl, .below hT.f⟩
  | some t =>
    by_cases hs : t.sess = p.session
    · have HE := Lib.hid (show endR r.abs p = (({ r with h := some t, sn := p.serial, nx := none, asked := false } : RoT).abs, 0) by simp [endR, RoT.abs, TbV.abs, hn, hs])
      have be : (t.sess != p.session) = false := by simp [hs]
      simp only [Pdu.val]
      have hT : RtP w g r w.heap.size p (w.alloc (.cells p.cells.toArray 29)) := ⟨h.next ((Below.refl _ _).alloc (Nat.le_refl _) _), Blk.new _ _ _, (Below.refl _ _).alloc (Nat.le_refl _) _⟩
      clear h
      go_enter Try.func91, Try.ntmps91
      go_upto_region 1 with fail
      refine wp_gen (RtP w g r w.heap.size p) hT ?_
      clear hT
      generalize w.heap.size = bx
      intro W hT
      have c0 := hT.a.blk.cell 0
      have c1 := hT.a.blk.cell 1
      have c2 := hT.a.blk.cell 2
      have c3 := hT.a.blk.cell 3
      have c4 := hT.a.blk.cell 4
      have c5 := hT.a.blk.cell 5
      have c6 := hT.a.blk.cell 6
      have f0 := hT.a.blk.frozen 0
      have f1 := hT.a.blk.frozen 1
      have f2 := hT.a.blk.frozen 2
      have f3 := hT.a.blk.frozen 3
      have f4 := hT.a.blk.frozen 4
      have f5 := hT.a.blk.frozen 5
      have f6 := hT.a.blk.frozen 6
      simp only [RoT.cells, tbP, List.getElem?_cons_zero, List.getElem?_cons_succ] at c0 c1 c2 c3 c4 c5 c6
      have k0 := (hT.a.nxt t hn).b.cell 0
      have p1 := (hT.b.cell 1).trans (Pdu.c1 _)
      simp only [List.getElem?_cons_zero] at k0
      rw [hn] at c2
      simp only at c2
      have HN := Lib.hid hn
      have HS := Lib.hid hs
      clear hn hs
      go_upto_region 3 with fail
      clear c0 c1 c2 c3 c4 c5 c6 f0 f1 f2 f3 f4 f5 f6 k0 p1
      refine reg_sch2 11 [(true, 0), (true, 1), (true, 2), (true, 3), (true, 4), (true, 5), (true, 6), (true, 7), (true, 8), (true, 9), (true, 10)] (by kernel_rfl) (by kernel_rfl) (RtP w g r bx p) (RtP w g r bx p) ?_ ?_ ?_
      · first | exact hT.drew | exact hT
      · exact fun _ h => h
      intro W hSW
      simp only [List.map_cons, List.map_nil, List.getD_cons_zero, List.getD_cons_succ, List.drop_succ_cons, List.drop_zero]
      refine hd_pure (v := ?_) (by rfl) (fun W' hS' => ?_) ?_ -- 0
      rotate_left
      · have hB := hS'.a.blk; unfold RoT.cells at hB; rw [HN.out] at hB; have e2 := hB.cell 2; have k0 := (hS'.a.nxt t HN.out).b.cell 0; have p1 := (hS'.b.cell 1).trans (Pdu.c1 _); simp only [tbP, List.getElem?_cons_zero, List.getElem?_cons_succ] at e2 k0; clear hB; (go_simp; first | with_reducible rfl | rfl)
      try simp only [Act.put, List.setIfInBounds_toArray, List.set_cons_zero, List.set_cons_succ]
      refine hd_pure (v := ?_) (by rfl) (fun W' hS' => ?_) ?_ -- 1
      rotate_left
      · have hB := hS'.a.blk; unfold RoT.cells at hB; rw [HN.out] at hB; have e2 := hB.cell 2; have k0 := (hS'.a.nxt t HN.out).b.cell 0; have p1 := (hS'.b.cell 1).trans (Pdu.c1 _); simp only [tbP, List.getElem?_cons_zero, List.getElem?_cons_succ] at e2 k0; clear hB; (go_simp; first | with_reducible rfl | rfl)
      try simp only [Act.put, List.setIfInBounds_toArray, List.set_cons_zero, List.set_cons_succ]
      refine hd_pure (v := ?_) (by rfl) (fun W' hS' => ?_) ?_ -- 2
      rotate_left
      · have hB := hS'.a.blk; unfold RoT.cells at hB; rw [HN.out] at hB; have e2 := hB.cell 2; have k0 := (hS'.a.nxt t HN.out).b.cell 0; have p1 := (hS'.b.cell 1).trans (Pdu.c1 _); simp only [tbP, List.getElem?_cons_zero, List.getElem?_cons_succ] at e2 k0; clear hB; (go_simp; first | with_reducible rfl | rfl)
      try simp only [Act.put, List.setIfInBounds_toArray, List.set_cons_zero, List.set_cons_succ]
      refine hd_pure (v := ?_) (by rfl) (fun W' hS' => ?_) ?_ -- 3
      rotate_left
      · have hB := hS'.a.blk; unfold RoT.cells at hB; rw [HN.out] at hB; have e2 := hB.cell 2; have k0 := (hS'.a.nxt t HN.out).b.cell 0; have p1 := (hS'.b.cell 1).trans (Pdu.c1 _); simp only [tbP, List.getElem?_cons_zero, List.getElem?_cons_succ] at e2 k0; clear hB; (go_simp; first | with_reducible rfl | rfl)
      try simp only [Act.put, List.setIfInBounds_toArray, List.set_cons_zero, List.set_cons_succ]
      refine hd_pure (v := ?_) (by rfl) (fun W' hS' => ?_) ?_ -- 4
      rotate_left
      · have hB := hS'.a.blk; unfold RoT.cells at hB; rw [HN.out] at hB; have e2 := hB.cell 2; have k0 := (hS'.a.nxt t HN.out).b.cell 0; have p1 := (hS'.b.cell 1).trans (Pdu.c1 _); simp only [tbP, List.getElem?_cons_zero, List.getElem?_cons_succ] at e2 k0; clear hB; (go_simp; first | with_reducible rfl | rfl)
      try simp only [Act.put, List.setIfInBounds_toArray, List.set_cons_zero, List.set_cons_succ]
      refine hd_pure (v := ?_) (by rfl) (fun W' hS' => ?_) ?_ -- 5
      rotate_left
      · have hB := hS'.a.blk; unfold RoT.cells at hB; rw [HN.out] at hB; have e2 := hB.cell 2; have k0 := (hS'.a.nxt t HN.out).b.cell 0; have p1 := (hS'.b.cell 1).trans (Pdu.c1 _); simp only [tbP, List.getElem?_cons_zero, List.getElem?_cons_succ] at e2 k0; clear hB; (go_simp; first | with_reducible rfl | rfl)
      try simp only [Act.put, List.setIfInBounds_toArray, List.set_cons_zero, List.set_cons_succ]
      refine hd_pure (v := ?_) (by rfl) (fun W' hS' => ?_) ?_ -- 6
      rotate_left
      · have hB := hS'.a.blk; unfold RoT.cells at hB; rw [HN.out] at hB; have e2 := hB.cell 2; have k0 := (hS'.a.nxt t HN.out).b.cell 0; have p1 := (hS'.b.cell 1).trans (Pdu.c1 _); simp only [tbP, List.getElem?_cons_zero, List.getElem?_cons_succ] at e2 k0; clear hB; (go_simp; first | with_reducible rfl | rfl)
      try simp only [Act.put, List.setIfInBounds_toArray, List.set_cons_zero, List.set_cons_succ]
      refine hd_pure (v := ?_) (by rfl) (fun W' hS' => ?_) ?_ -- 7
      rotate_left
      · have hB := hS'.a.blk; unfold RoT.cells at hB; rw [HN.out] at hB; have e2 := hB.cell 2; have k0 := (hS'.a.nxt t HN.out).b.cell 0; have p1 := (hS'.b.cell 1).trans (Pdu.c1 _); simp only [tbP, List.getElem?_cons_zero, List.getElem?_cons_succ] at e2 k0; clear hB; (go_simp; first | with_reducible rfl | rfl)
      try simp only [Act.put, List.setIfInBounds_toArray, List.set_cons_zero, List.set_cons_succ]
      refine hd_pure (v := ?_) (by rfl) (fun W' hS' => ?_) ?_ -- 8
      rotate_left
      · have hB := hS'.a.blk; unfold RoT.cells at hB; rw [HN.out] at hB; have e2 := hB.cell 2; have k0 := (hS'.a.nxt t HN.out).b.cell 0; have p1 := (hS'.b.cell 1).trans (Pdu.c1 _); simp only [tbP, List.getElem?_cons_zero, List.getElem?_cons_succ] at e2 k0; clear hB; (go_simp; first | with_reducible rfl | rfl)
      try simp only [Act.put, List.setIfInBounds_toArray, List.set_cons_zero, List.set_cons_succ]
      refine hd_pure (v := ?_) (by rfl) (fun W' hS' => ?_) ?_ -- 9
      rotate_left
      · have hB := hS'.a.blk; unfold RoT.cells at hB; rw [HN.out] at hB; have e2 := hB.cell 2; have k0 := (hS'.a.nxt t HN.out).b.cell 0; have p1 := (hS'.b.cell 1).trans (Pdu.c1 _); simp only [tbP, List.getElem?_cons_zero, List.getElem?_cons_succ] at e2 k0; clear hB; (go_simp; first | with_reducible rfl | rfl)
      try simp only [Act.put, List.setIfInBounds_toArray, List.set_cons_zero, List.set_cons_succ]
      refine hd_pure (v := ?_) (by rfl) (fun W' hS' => ?_) ?_ -- 10
      rotate_left
      · have hB := hS'.a.blk; unfold RoT.cells at hB; rw [HN.out] at hB; have e2 := hB.cell 2; have k0 := (hS'.a.nxt t HN.out).b.cell 0; have p1 := (hS'.b.cell 1).trans (Pdu.c1 _); simp only [tbP, List.getElem?_cons_zero, List.getElem?_cons_succ] at e2 k0; clear hB; (go_simp; first | with_reducible rfl | rfl)
      try simp only [Act.put, List.setIfInBounds_toArray, List.set_cons_zero, List.set_cons_succ]
      refine hd_nil ?_
      replace hT := hSW; clear hSW
      refine wpList_nil (NoPanic.normal ?_)
      go_upto_region 5 with fail
      clear be
      refine reg_sch2 13 [(true, 0), (true, 1), (true, 2), (true, 3), (true, 4), (true, 5), (true, 6), (true, 7), (true, 8), (true, 9), (false, 10), (true, 11), (true, 12)] (by kernel_rfl) (by kernel_rfl) (fun W => (∃ v0, Blk W g 91 [v0, .int .u32 r.sn.toNat, .pointer (some ⟨t.s, 0, none⟩), .bool r.asked, .int .i64 r.kind, r.lf.val, .bool r.broken]) ∧ Blk W bx 29 p.cells) (RtP w g r bx p) ?_ ?_ ?_
      · first | exact hT.drew | exact hT.drew.drew
      · exact fun W h => ⟨⟨_, by have := h.a.blk; unfold RoT.cells at this; rw [HN.out] at this; exact this⟩, h.b⟩
      intro W hSW
      simp only [List.map_cons, List.map_nil, List.getD_cons_zero, List.getD_cons_succ, List.drop_succ_cons, List.drop_zero]
      refine hd_pure (v := ?_) (by rfl) (fun W' hS' => ?_) ?_ -- 0
      rotate_left
      · obtain ⟨⟨v0, hB⟩, hP⟩ := hS'; have e2 := hB.cell 2; have p2 := (hP.cell 2).trans (Pdu.c2 _); simp only [List.getElem?_cons_zero, List.getElem?_cons_succ] at e2; clear hB hP; (go_simp; first | with_reducible rfl | rfl)
      try simp only [Act.put, List.setIfInBounds_toArray, List.set_cons_zero, List.set_cons_succ]
      refine hd_pure (v := ?_) (by rfl) (fun W' hS' => ?_) ?_ -- 1
      rotate_left
      · obtain ⟨⟨v0, hB⟩, hP⟩ := hS'; have e2 := hB.cell 2; have p2 := (hP.cell 2).trans (Pdu.c2 _); simp only [List.getElem?_cons_zero, List.getElem?_cons_succ] at e2; clear hB hP; (go_simp; first | with_reducible rfl | rfl)
      try simp only [Act.put, List.setIfInBounds_toArray, List.set_cons_zero, List.set_cons_succ]
      refine hd_pure (v := ?_) (by rfl) (fun W' hS' => ?_) ?_ -- 2
      rotate_left
      · obtain ⟨⟨v0, hB⟩, hP⟩ := hS'; have e2 := hB.cell 2; have p2 := (hP.cell 2).trans (Pdu.c2 _); simp only [List.getElem?_cons_zero, List.getElem?_cons_succ] at e2; clear hB hP; (go_simp; first | with_reducible rfl | rfl)
      try simp only [Act.put, List.setIfInBounds_toArray, List.set_cons_zero, List.set_cons_succ]
      refine hd_pure (v := ?_) (by rfl) (fun W' hS' => ?_) ?_ -- 3
      rotate_left
      · obtain ⟨⟨v0, hB⟩, hP⟩ := hS'; have e2 := hB.cell 2; have p2 := (hP.cell 2).trans (Pdu.c2 _); simp only [List.getElem?_cons_zero, List.getElem?_cons_succ] at e2; clear hB hP; (go_simp; first | with_reducible rfl | rfl)
      try simp only [Act.put, List.setIfInBounds_toArray, List.set_cons_zero, List.set_cons_succ]
      refine hd_pure (v := ?_) (by rfl) (fun W' hS' => ?_) ?_ -- 4
      rotate_left
      · obtain ⟨⟨v0, hB⟩, hP⟩ := hS'; have e2 := hB.cell 2; have p2 := (hP.cell 2).trans (Pdu.c2 _); simp only [List.getElem?_cons_zero, List.getElem?_cons_succ] at e2; clear hB hP; (go_simp; first | with_reducible rfl | rfl)
      try simp only [Act.put, List.setIfInBounds_toArray, List.set_cons_zero, List.set_cons_succ]
      refine hd_pure (v := ?_) (by rfl) (fun W' hS' => ?_) ?_ -- 5
      rotate_left
      · obtain ⟨⟨v0, hB⟩, hP⟩ := hS'; have e2 := hB.cell 2; have p2 := (hP.cell 2).trans (Pdu.c2 _); simp only [List.getElem?_cons_zero, List.getElem?_cons_succ] at e2; clear hB hP; (go_simp; first | with_reducible rfl | rfl)
      try simp only [Act.put, List.setIfInBounds_toArray, List.set_cons_zero, List.set_cons_succ]
      refine hd_pure (v := ?_) (by rfl) (fun W' hS' => ?_) ?_ -- 6
      rotate_left
      · obtain ⟨⟨v0, hB⟩, hP⟩ := hS'; have e2 := hB.cell 2; have p2 := (hP.cell 2).trans (Pdu.c2 _); simp only [List.getElem?_cons_zero, List.getElem?_cons_succ] at e2; clear hB hP; (go_simp; first | with_reducible rfl | rfl)
      try simp only [Act.put, List.setIfInBounds_toArray, List.set_cons_zero, List.set_cons_succ]
      refine hd_pure (v := ?_) (by rfl) (fun W' hS' => ?_) ?_ -- 7
      rotate_left
      · obtain ⟨⟨v0, hB⟩, hP⟩ := hS'; have e2 := hB.cell 2; have p2 := (hP.cell 2).trans (Pdu.c2 _); simp only [List.getElem?_cons_zero, List.getElem?_cons_succ] at e2; clear hB hP; (go_simp; first | with_reducible rfl | rfl)
      try simp only [Act.put, List.setIfInBounds_toArray, List.set_cons_zero, List.set_cons_succ]
      refine hd_pure (v := ?_) (by rfl) (fun W' hS' => ?_) ?_ -- 8
      rotate_left
      · obtain ⟨⟨v0, hB⟩, hP⟩ := hS'; have e2 := hB.cell 2; have p2 := (hP.cell 2).trans (Pdu.c2 _); simp only [List.getElem?_cons_zero, List.getElem?_cons_succ] at e2; clear hB hP; (go_simp; first | with_reducible rfl | rfl)
      try simp only [Act.put, List.setIfInBounds_toArray, List.set_cons_zero, List.set_cons_succ]
      refine hd_pure (v := ?_) (by rfl) (fun W' hS' => ?_) ?_ -- 9
      rotate_left
      · obtain ⟨⟨v0, hB⟩, hP⟩ := hS'; have e2 := hB.cell 2; have p2 := (hP.cell 2).trans (Pdu.c2 _); simp only [List.getElem?_cons_zero, List.getElem?_cons_succ] at e2; clear hB hP; (go_simp; first | with_reducible rfl | rfl)
      try simp only [Act.put, List.setIfInBounds_toArray, List.set_cons_zero, List.set_cons_succ]
      refine hd_sole (by rfl) (fun K hK => ?_) -- 10
      have e0 := hSW.a.blk.cell 0; have f0 := hSW.a.blk.frozen 0; simp only [RoT.cells, List.getElem?_cons_zero] at e0
      go_simp
      clear e0 f0
      have hn1 := hSW.a.blk.set_ 0 (.pointer (some ⟨t.s, 0, none⟩)); unfold RoT.cells at hn1; rw [HN.out] at hn1; simp only [List.set_cons_zero, tbP] at hn1; have hn2 := hSW.b.far (p := ⟨g, 0, none⟩) (blk_typ_ne hSW.b hSW.a.blk (by decide)) (.pointer (some ⟨t.s, 0, none⟩))
      refine hK _ _ (⟨⟨_, hn1⟩, hn2⟩) ?_
      clear hK K
      intro hSW10
      try simp only [Act.put, List.setIfInBounds_toArray, List.set_cons_zero, List.set_cons_succ]
      refine hd_pure (v := ?_) (by rfl) (fun W' hS' => ?_) ?_ -- 11
      rotate_left
      · obtain ⟨⟨v0, hB⟩, hP⟩ := hS'; have e2 := hB.cell 2; have p2 := (hP.cell 2).trans (Pdu.c2 _); simp only [List.getElem?_cons_zero, List.getElem?_cons_succ] at e2; clear hB hP; (go_simp; first | with_reducible rfl | rfl)
      try simp only [Act.put, List.setIfInBounds_toArray, List.set_cons_zero, List.set_cons_succ]
      refine hd_pure (v := ?_) (by rfl) (fun W' hS' => ?_) ?_ -- 12
      rotate_left
      · obtain ⟨⟨v0, hB⟩, hP⟩ := hS'; have e2 := hB.cell 2; have p2 := (hP.cell 2).trans (Pdu.c2 _); simp only [List.getElem?_cons_zero, List.getElem?_cons_succ] at e2; clear hB hP; (go_simp; first | with_reducible rfl | rfl)
      try simp only [Act.put, List.setIfInBounds_toArray, List.set_cons_zero, List.set_cons_succ]
      refine hd_nil ?_
      have hB := hSW.a.blk; unfold RoT.cells at hB; rw [HN.out] at hB; have hB1 := hB.set_ 0 (.pointer (some ⟨t.s, 0, none⟩)); have e1 := hB1.cell 1; have q1 := hB1.frozen 1; simp only [List.set_cons_zero, List.getElem?_cons_zero, List.getElem?_cons_succ] at e1
      go_wp2_with fail
      refine NoPanic.normal ?_
      go_upto_region 6 with fail
      have hZ1 := hSW.a.toRtA0.setG (r' := { r with h := some t }) 0 (.pointer (some ⟨t.s, 0, none⟩)) rfl (fun t' ht' => by cases ht'; exact hSW.a.nxt t HN.out) hSW.a.nxt hSW.a.left
      have hZ2 := hZ1.setG (r' := { r with h := some t, sn := p.serial }) 1 (.int .u32 p.serial.toNat) rfl hZ1.has hZ1.nxt hZ1.left
      have hF2 : RFr W (W.setCell ⟨g, 0, none⟩ (.pointer (some ⟨t.s, 0, none⟩))) g r { r with h := some t } := RFr.cell (fun t' ht' => by rcases ht' with h | h; exact .inr (by rw [HN.out]; exact h); exact .inr h) (fun t' ht' => ht')
      have hF3 := ((RFr.below (r := r) (g := g) hSW.f).trans hF2).trans (RFr.same (r' := { r with h := some t, sn := p.serial }) (W := W.setCell ⟨g, 0, none⟩ (.pointer (some ⟨t.s, 0, none⟩))) (g := g) (r := { r with h := some t }) (i := 1) (u := .int .u32 p.serial.toNat) rfl rfl)
      refine wp_gen (fun W2 => RtA0 W2 g { r with h := some t, sn := p.serial } ∧ RFr w W2 g r { r with h := some t, sn := p.serial }) ⟨hZ2, hF3⟩ ?_
      clear hSW hSW10 hB hB1 e1 q1 hZ1 hZ2 hF2 hF3
      rintro W2 ⟨hZ, hF⟩
      have c0 := hZ.blk.cell 0
      have c1 := hZ.blk.cell 1
      have c2 := hZ.blk.cell 2
      have c3 := hZ.blk.cell 3
      have c4 := hZ.blk.cell 4
      have c5 := hZ.blk.cell 5
      have c6 := hZ.blk.cell 6
      have f0 := hZ.blk.frozen 0
      have f1 := hZ.blk.frozen 1
      have f2 := hZ.blk.frozen 2
      have f3 := hZ.blk.frozen 3
      have f4 := hZ.blk.frozen 4
      have f5 := hZ.blk.frozen 5
      have f6 := hZ.blk.frozen 6
      simp only [RoT.cells, tbP, List.getElem?_cons_zero, List.getElem?_cons_succ] at c0 c1 c2 c3 c4 c5 c6
      go_wp2_with fail
      go_ret
      have hZ3 := hZ.setG (r' := { r with h := some t, sn := p.serial, nx := none }) 2 (.pointer none) rfl hZ.has (fun t' ht' => by cases ht') hZ.left
      have hZ4 := hZ3.setG (r' := { r with h := some t, sn := p.serial, nx := none, asked := false }) 3 (.bool false) rfl hZ3.has hZ3.nxt hZ3.left
      rw [HE.out]
      refine ⟨{ r with h := some t, sn := p.serial, nx := none, asked := false }, rfl, ⟨hZ4, fun t t' _ ht => by cases ht⟩, rfl, rfl, rfl, (hF.trans (RFr.cell (fun t' ht' => ?_) (fun t' ht' => by cases ht'))).trans (RFr.same rfl rfl)⟩
      rcases ht' with h | h
      · exact .inl h
      · cases h
    · have HE := Lib.hid (show endR r.abs p = (r.abs, 12) by simp [endR, RoT.abs, TbV.abs, hn, hs])
      have be : (t.sess != p.session) = true := by simp [hs]
      simp only [Pdu.val]
      have hT : RtP w g r w.heap.size p (w.alloc (.cells p.cells.toArray 29)) := ⟨h.next ((Below.refl _ _).alloc (Nat.le_refl _) _), Blk.new _ _ _, (Below.refl _ _).alloc (Nat.le_refl _) _⟩
      clear h
      go_enter Try.func91, Try.ntmps91
      go_upto_region 1 with fail
      refine wp_gen (RtP w g r w.heap.size p) hT ?_
      clear hT
      generalize w.heap.size = bx
      intro W hT
      have c0 := hT.a.blk.cell 0
      have c1 := hT.a.blk.cell 1
      have c2 := hT.a.blk.cell 2
      have c3 := hT.a.blk.cell 3
      have c4 := hT.a.blk.cell 4
      have c5 := hT.a.blk.cell 5
      have c6 := hT.a.blk.cell 6
      have f0 := hT.a.blk.frozen 0
      have f1 := hT.a.blk.frozen 1
      have f2 := hT.a.blk.frozen 2
      have f3 := hT.a.blk.frozen 3
      have f4 := hT.a.blk.frozen 4
      have f5 := hT.a.blk.frozen 5
      have f6 := hT.a.blk.frozen 6
      simp only [RoT.cells, tbP, List.getElem?_cons_zero, List.getElem?_cons_succ] at c0 c1 c2 c3 c4 c5 c6
      rw [hn] at c2
      simp only at c2
      have HN := Lib.hid hn
      clear hn hs
      go_upto_region 3 with fail
      clear c0 c1 c2 c3 c4 c5 c6 f0 f1 f2 f3 f4 f5 f6
      refine reg_sch2 11 [(true, 0), (true, 1), (true, 2), (true, 3), (true, 4), (true, 5), (true, 6), (true, 7), (true, 8), (true, 9), (true, 10)] (by kernel_rfl) (by kernel_rfl) (RtP w g r bx p) (RtP w g r bx p) ?_ ?_ ?_
      · first | exact hT.drew | exact hT
      · exact fun _ h => h
      intro W hSW
      simp only [List.map_cons, List.map_nil, List.getD_cons_zero, List.getD_cons_succ, List.drop_succ_cons, List.drop_zero]
      refine hd_pure (v := ?_) (by rfl) (fun W' hS' => ?_) ?_ -- 0
      rotate_left
      · have hB := hS'.a.blk; unfold RoT.cells at hB; rw [HN.out] at hB; have e2 := hB.cell 2; have k0 := (hS'.a.nxt t HN.out).b.cell 0; have p1 := (hS'.b.cell 1).trans (Pdu.c1 _); simp only [tbP, List.getElem?_cons_zero, List.getElem?_cons_succ] at e2 k0; clear hB; (go_simp; first | with_reducible rfl | rfl)
      try simp only [Act.put, List.setIfInBounds_toArray, List.set_cons_zero, List.set_cons_succ]
      refine hd_pure (v := ?_) (by rfl) (fun W' hS' => ?_) ?_ -- 1
      rotate_left
      · have hB := hS'.a.blk; unfold RoT.cells at hB; rw [HN.out] at hB; have e2 := hB.cell 2; have k0 := (hS'.a.nxt t HN.out).b.cell 0; have p1 := (hS'.b.cell 1).trans (Pdu.c1 _); simp only [tbP, List.getElem?_cons_zero, List.getElem?_cons_succ] at e2 k0; clear hB; (go_simp; first | with_reducible rfl | rfl)
      try simp only [Act.put, List.setIfInBounds_toArray, List.set_cons_zero, List.set_cons_succ]
      refine hd_pure (v := ?_) (by rfl) (fun W' hS' => ?_) ?_ -- 2
      rotate_left
      · have hB := hS'.a.blk; unfold RoT.cells at hB; rw [HN.out] at hB; have e2 := hB.cell 2; have k0 := (hS'.a.nxt t HN.out).b.cell 0; have p1 := (hS'.b.cell 1).trans (Pdu.c1 _); simp only [tbP, List.getElem?_cons_zero, List.getElem?_cons_succ] at e2 k0; clear hB; (go_simp; first | with_reducible rfl | rfl)
      try simp only [Act.put, List.setIfInBounds_toArray, List.set_cons_zero, List.set_cons_succ]
      refine hd_pure (v := ?_) (by rfl) (fun W' hS' => ?_) ?_ -- 3
      rotate_left
      · have hB := hS'.a.blk; unfold RoT.cells at hB; rw [HN.out] at hB; have e2 := hB.cell 2; have k0 := (hS'.a.nxt t HN.out).b.cell 0; have p1 := (hS'.b.cell 1).trans (Pdu.c1 _); simp only [tbP, List.getElem?_cons_zero, List.getElem?_cons_succ] at e2 k0; clear hB; (go_simp; first | with_reducible rfl | rfl)
      try simp only [Act.put, List.setIfInBounds_toArray, List.set_cons_zero, List.set_cons_succ]
      refine hd_pure (v := ?_) (by rfl) (fun W' hS' => ?_) ?_ -- 4
      rotate_left
      · have hB := hS'.a.blk; unfold RoT.cells at hB; rw [HN.out] at hB; have e2 := hB.cell 2; have k0 := (hS'.a.nxt t HN.out).b.cell 0; have p1 := (hS'.b.cell 1).trans (Pdu.c1 _); simp only [tbP, List.getElem?_cons_zero, List.getElem?_cons_succ] at e2 k0; clear hB; (go_simp; first | with_reducible rfl | rfl)
      try simp only [Act.put, List.setIfInBounds_toArray, List.set_cons_zero, List.set_cons_succ]
      refine hd_pure (v := ?_) (by rfl) (fun W' hS' => ?_) ?_ -- 5
      rotate_left
      · have hB := hS'.a.blk; unfold RoT.cells at hB; rw [HN.out] at hB; have e2 := hB.cell 2; have k0 := (hS'.a.nxt t HN.out).b.cell 0; have p1 := (hS'.b.cell 1).trans (Pdu.c1 _); simp only [tbP, List.getElem?_cons_zero, List.getElem?_cons_succ] at e2 k0; clear hB; (go_simp; first | with_reducible rfl | rfl)
      try simp only [Act.put, List.setIfInBounds_toArray, List.set_cons_zero, List.set_cons_succ]
      refine hd_pure (v := ?_) (by rfl) (fun W' hS' => ?_) ?_ -- 6
      rotate_left
      · have hB := hS'.a.blk; unfold RoT.cells at hB; rw [HN.out] at hB; have e2 := hB.cell 2; have k0 := (hS'.a.nxt t HN.out).b.cell 0; have p1 := (hS'.b.cell 1).trans (Pdu.c1 _); simp only [tbP, List.getElem?_cons_zero, List.getElem?_cons_succ] at e2 k0; clear hB; (go_simp; first | with_reducible rfl | rfl)
      try simp only [Act.put, List.setIfInBounds_toArray, List.set_cons_zero, List.set_cons_succ]
      refine hd_pure (v := ?_) (by rfl) (fun W' hS' => ?_) ?_ -- 7
      rotate_left
      · have hB := hS'.a.blk; unfold RoT.cells at hB; rw [HN.out] at hB; have e2 := hB.cell 2; have k0 := (hS'.a.nxt t HN.out).b.cell 0; have p1 := (hS'.b.cell 1).trans (Pdu.c1 _); simp only [tbP, List.getElem?_cons_zero, List.getElem?_cons_succ] at e2 k0; clear hB; (go_simp; first | with_reducible rfl | rfl)
      try simp only [Act.put, List.setIfInBounds_toArray, List.set_cons_zero, List.set_cons_succ]
      refine hd_pure (v := ?_) (by rfl) (fun W' hS' => ?_) ?_ -- 8
      rotate_left
      · have hB := hS'.a.blk; unfold RoT.cells at hB; rw [HN.out] at hB; have e2 := hB.cell 2; have k0 := (hS'.a.nxt t HN.out).b.cell 0; have p1 := (hS'.b.cell 1).trans (Pdu.c1 _); simp only [tbP, List.getElem?_cons_zero, List.getElem?_cons_succ] at e2 k0; clear hB; (go_simp; first | with_reducible rfl | rfl)
      try simp only [Act.put, List.setIfInBounds_toArray, List.set_cons_zero, List.set_cons_succ]
      refine hd_pure (v := ?_) (by rfl) (fun W' hS' => ?_) ?_ -- 9
      rotate_left
      · have hB := hS'.a.blk; unfold RoT.cells at hB; rw [HN.out] at hB; have e2 := hB.cell 2; have k0 := (hS'.a.nxt t HN.out).b.cell 0; have p1 := (hS'.b.cell 1).trans (Pdu.c1 _); simp only [tbP, List.getElem?_cons_zero, List.getElem?_cons_succ] at e2 k0; clear hB; (go_simp; first | with_reducible rfl | rfl)
      try simp only [Act.put, List.setIfInBounds_toArray, List.set_cons_zero, List.set_cons_succ]
      refine hd_pure (v := ?_) (by rfl) (fun W' hS' => ?_) ?_ -- 10
      rotate_left
      · have hB := hS'.a.blk; unfold RoT.cells at hB; rw [HN.out] at hB; have e2 := hB.cell 2; have k0 := (hS'.a.nxt t HN.out).b.cell 0; have p1 := (hS'.b.cell 1).trans (Pdu.c1 _); simp only [tbP, List.getElem?_cons_zero, List.getElem?_cons_succ] at e2 k0; clear hB; (go_simp; first | with_reducible rfl | rfl)
      try simp only [Act.put, List.setIfInBounds_toArray, List.set_cons_zero, List.set_cons_succ]
      refine hd_nil ?_
      replace hT := hSW; clear hSW
      refine wpList_nil (NoPanic.normal ?_)
      go_wp2_with fail
      go_ret
      rw [HE.out]
      exact ⟨r, rfl, hT.a, rfl, rfl, rfl, .below hT.f⟩
/-- The answer's map turns. -/
theorem RtA.putMap {W W3 : World} {g : Nat} {r : RoT} {t : TbV} (h : RtA W g r) (hn : r.nx = some t) {ks' : List Vrp} (hM : MapV W3 t.m ks') (hG : W.grownBy W3 (some t.m)) : RtA W3 g { r with nx := some { t with ks := ks' } } := by
  have ht := h.nxt t hn
  have hk : ∀ k, k < W.heap.size → k ≠ t.m → W3.heap[k]? = W.heap[k]? := fun k hk hne => hG.block k hk (fun e => hne (Option.some.inj e))
  refine ⟨⟨?_, fun t' ht' => ?_, fun t' ht' => ?_, ?_, h.left.2⟩, fun t1 t2 h1 h2 => ?_⟩
  · have hb : Blk W3 g 91 r.cells := (hk g h.blk.lt (fun e => blk_map_ne h.blk ht.m e.symm)).trans h.blk
    have e : RoT.cells { r with nx := some { t with ks := ks' } } = r.cells := by simp [RoT.cells, hn, tbP]
    rw [e]
    exact hb
  · have hb := h.has t' ht'
    exact hb.kept (hk _ hb.b.lt (fun e => blk_map_ne hb.b ht.m e.symm)) (hk _ hb.m.lt (h.ne t' t ht' hn))
  · cases ht'
    exact ⟨(hk _ ht.b.lt (fun e => blk_map_ne ht.b ht.m e.symm)).trans ht.b, hM⟩
  · exact (h.left.1.offMap ht.m fun k hk1 hne => hk k hk1 hne).more hG.size
  · cases h2
    exact h.ne t1 t h1 hn
theorem RFr.map {W W3 : World} {g : Nat} {r : RoT} {t : TbV} (hn : r.nx = some t) {ks' : List Vrp} (hG : W.grownBy W3 (some t.m)) : RFr W W3 g r { r with nx := some { t with ks := ks' } } :=
  ⟨hG.os, hG.tape, hG.output, hG.size, fun k hk _ h2 => hG.block k hk (fun e => h2 t hn (Option.some.inj e)), fun t' ht' => .inl (by
    rcases ht' with h | h
    · exact ⟨t', .inl h, rfl⟩
    · cases h
      exact ⟨t, .inr hn, rfl⟩), fun t' ht' => .inl (by cases ht'; exact ⟨t, hn, rfl⟩)⟩
theorem RFr.fresh {w W : World} {g : Nat} {r : RoT} {t : TbV} {u : Value} (hb : Below w.heap.size w W) (hm : w.heap.size ≤ t.m) : RFr w (W.setCell ⟨g, 2, none⟩ u) g r { r with nx := some t } :=
  have hg := grown_setCell (grown_refl W (some g)) 2 u
  ⟨hg.os.trans hb.os, hg.tape.trans hb.tape, hg.output.trans hb.output, Nat.le_trans hb.size hg.size, fun k hk hne _ => (hg.block k (Nat.lt_of_lt_of_le hk hb.size) (fun e => hne (Option.some.inj e))).trans (hb.block k hk), fun t' ht' => by
    rcases ht' with h | h
    · exact .inl ⟨t', .inl h, rfl⟩
    · cases h
      exact .inr hm, fun t' ht' => by cases ht'; exact .inr hm⟩
set_option maxRecDepth 100000 in
set_option maxHeartbeats 4000000 in
theorem rchange_any (p : Pdu) (w : World) (g : Nat) (r : RoT) (h : RtA w g r) : Calls Try.prog 90 #[.pointer (some ⟨g, 0, none⟩), p.val] w (TakePost w g r (changeR r.abs p)) := by
  cases hn : r.nx with
  | none =>
    have HE := Lib.hid (show changeR r.abs p = (r.abs, 13) by unfold changeR RoT.abs; rw [hn]; rfl)
    simp only [Pdu.val]
    have hT : RtP w g r w.heap.size p (w.alloc (.cells p.cells.toArray 29)) := ⟨h.next ((Below.refl _ _).alloc (Nat.le_refl _) _), Blk.new _ _ _, (Below.refl _ _).alloc (Nat.le_refl _) _⟩
    clear h
    go_enter Try.func90, Try.ntmps90
    go_upto_region 2 with fail
    refine wp_gen (RtP w g r w.heap.size p) hT ?_
    clear hT
    generalize w.heap.size = bx
    intro W hT
    have c0 := hT.a.blk.cell 0
    have c1 := hT.a.blk.cell 1
    have c2 := hT.a.blk.cell 2
    have c3 := hT.a.blk.cell 3
    have c4 := hT.a.blk.cell 4
    have c5 := hT.a.blk.cell 5
    have c6 := hT.a.blk.cell 6
    have f0 := hT.a.blk.frozen 0
    have f1 := hT.a.blk.frozen 1
    have f2 := hT.a.blk.frozen 2
    have f3 := hT.a.blk.frozen 3
    have f4 := hT.a.blk.frozen 4
    have f5 := hT.a.blk.frozen 5
    have f6 := hT.a.blk.frozen 6
    simp only [RoT.cells, tbP, List.getElem?_cons_zero, List.getElem?_cons_succ] at c0 c1 c2 c3 c4 c5 c6
    rw [hn] at c2
    simp only at c2
    clear hn
    go_wp2_with fail
    go_ret
    rw [HE.out]
    exact ⟨r, rfl, hT.a, rfl, rfl, rfl, .below hT.f⟩
  | some t =>
    have hnx : r.abs.nx = some (t.sess, t.ks) := by unfold RoT.abs; rw [hn]; rfl
    cases ha : p.add
    · by_cases hd : p.v ∈ t.ks
      · have HE := Lib.hid (show changeR r.abs p = (({ r with nx := some { t with ks := t.ks.filter fun x => !decide (x = p.v) } } : RoT).abs, 0) by unfold changeR; rw [hnx]; simp [ha, hd, RoT.abs, TbV.abs])
        have HD := Lib.hid (decide_eq_true hd)
        have HA := Lib.hid ha
        have HND := Lib.hid hd
        clear hnx hd
        simp only [Pdu.val]
        have hT : RtP w g r w.heap.size p (w.alloc (.cells p.cells.toArray 29)) := ⟨h.next ((Below.refl _ _).alloc (Nat.le_refl _) _), Blk.new _ _ _, (Below.refl _ _).alloc (Nat.le_refl _) _⟩
        clear h
        go_enter Try.func90, Try.ntmps90
        go_upto_region 2 with fail
        refine wp_gen (RtP w g r w.heap.size p) hT ?_
        clear hT
        generalize w.heap.size = bx
        intro W hT
        have c0 := hT.a.blk.cell 0
        have c1 := hT.a.blk.cell 1
        have c2 := hT.a.blk.cell 2
        have c3 := hT.a.blk.cell 3
        have c4 := hT.a.blk.cell 4
        have c5 := hT.a.blk.cell 5
        have c6 := hT.a.blk.cell 6
        have f0 := hT.a.blk.frozen 0
        have f1 := hT.a.blk.frozen 1
        have f2 := hT.a.blk.frozen 2
        have f3 := hT.a.blk.frozen 3
        have f4 := hT.a.blk.frozen 4
        have f5 := hT.a.blk.frozen 5
        have f6 := hT.a.blk.frozen 6
        simp only [RoT.cells, tbP, List.getElem?_cons_zero, List.getElem?_cons_succ] at c0 c1 c2 c3 c4 c5 c6
        have p3 := (hT.b.cell 3).trans (Pdu.c3 _)
        rw [hn] at c2
        simp only at c2
        have HN := Lib.hid hn
        rw [ha] at p3
        go_upto_region 4 with fail
        clear c0 c1 c2 c3 c4 c5 c6 f0 f1 f2 f3 f4 f5 f6 p3
        refine reg_sch2 15 [(true, 0), (true, 1), (true, 2), (true, 3), (true, 4), (true, 5), (true, 6), (true, 7), (true, 8), (true, 9), (true, 10), (true, 11), (true, 12), (true, 13), (true, 14)] (by kernel_rfl) (by kernel_rfl) (RtP w g r bx p) (RtP w g r bx p) ?_ ?_ ?_
        · first | exact hT.drew | exact hT
        · exact fun _ h => h
        intro W hSW
        simp only [List.map_cons, List.map_nil, List.getD_cons_zero, List.getD_cons_succ, List.drop_succ_cons, List.drop_zero]
        refine hd_pure (v := ?_) (by rfl) (fun W' hS' => ?_) ?_ -- 0
        rotate_left
        · have hB := hS'.a.blk; unfold RoT.cells at hB; rw [HN.out] at hB; have e2 := hB.cell 2; have k1 := (hS'.a.nxt t HN.out).b.cell 1; have p3 := (hS'.b.cell 3).trans (Pdu.c3 _); have hlk := (hS'.a.nxt t HN.out).m.look p.v; rw [HD.out] at hlk; rw [HA.out] at p3; simp only [tbP, List.getElem?_cons_zero, List.getElem?_cons_succ] at e2 k1; clear hB; (go_simp; first | with_reducible rfl | rfl)
        try simp only [Act.put, List.setIfInBounds_toArray, List.set_cons_zero, List.set_cons_succ]
        refine hd_pure (v := ?_) (by rfl) (fun W' hS' => ?_) ?_ -- 1
        rotate_left
        · have hB := hS'.a.blk; unfold RoT.cells at hB; rw [HN.out] at hB; have e2 := hB.cell 2; have k1 := (hS'.a.nxt t HN.out).b.cell 1; have p3 := (hS'.b.cell 3).trans (Pdu.c3 _); have hlk := (hS'.a.nxt t HN.out).m.look p.v; rw [HD.out] at hlk; rw [HA.out] at p3; simp only [tbP, List.getElem?_cons_zero, List.getElem?_cons_succ] at e2 k1; clear hB; (go_simp; first | with_reducible rfl | rfl)
        try simp only [Act.put, List.setIfInBounds_toArray, List.set_cons_zero, List.set_cons_succ]
        refine hd_pure (v := ?_) (by rfl) (fun W' hS' => ?_) ?_ -- 2
        rotate_left
        · have hB := hS'.a.blk; unfold RoT.cells at hB; rw [HN.out] at hB; have e2 := hB.cell 2; have k1 := (hS'.a.nxt t HN.out).b.cell 1; have p3 := (hS'.b.cell 3).trans (Pdu.c3 _); have hlk := (hS'.a.nxt t HN.out).m.look p.v; rw [HD.out] at hlk; rw [HA.out] at p3; simp only [tbP, List.getElem?_cons_zero, List.getElem?_cons_succ] at e2 k1; clear hB; (go_simp; first | with_reducible rfl | rfl)
        try simp only [Act.put, List.setIfInBounds_toArray, List.set_cons_zero, List.set_cons_succ]
        refine hd_skip (by rfl) ?_
        try simp only [Act.put, List.setIfInBounds_toArray, List.set_cons_zero, List.set_cons_succ]
        refine hd_skip (by rfl) ?_
        try simp only [Act.put, List.setIfInBounds_toArray, List.set_cons_zero, List.set_cons_succ]
        refine hd_skip (by rfl) ?_
        try simp only [Act.put, List.setIfInBounds_toArray, List.set_cons_zero, List.set_cons_succ]
        refine hd_skip (by rfl) ?_
        try simp only [Act.put, List.setIfInBounds_toArray, List.set_cons_zero, List.set_cons_succ]
        refine hd_skip (by rfl) ?_
        try simp only [Act.put, List.setIfInBounds_toArray, List.set_cons_zero, List.set_cons_succ]
        refine hd_skip (by rfl) ?_
        try simp only [Act.put, List.setIfInBounds_toArray, List.set_cons_zero, List.set_cons_succ]
        refine hd_skip (by rfl) ?_
        try simp only [Act.put, List.setIfInBounds_toArray, List.set_cons_zero, List.set_cons_succ]
        refine hd_skip (by rfl) ?_
        try simp only [Act.put, List.setIfInBounds_toArray, List.set_cons_zero, List.set_cons_succ]
        refine hd_skip (by rfl) ?_
        try simp only [Act.put, List.setIfInBounds_toArray, List.set_cons_zero, List.set_cons_succ]
        refine hd_skip (by rfl) ?_
        try simp only [Act.put, List.setIfInBounds_toArray, List.set_cons_zero, List.set_cons_succ]
        refine hd_pure (v := ?_) (by rfl) (fun W' hS' => ?_) ?_ -- 13
        rotate_left
        · have hB := hS'.a.blk; unfold RoT.cells at hB; rw [HN.out] at hB; have e2 := hB.cell 2; have k1 := (hS'.a.nxt t HN.out).b.cell 1; have p3 := (hS'.b.cell 3).trans (Pdu.c3 _); have hlk := (hS'.a.nxt t HN.out).m.look p.v; rw [HD.out] at hlk; rw [HA.out] at p3; simp only [tbP, List.getElem?_cons_zero, List.getElem?_cons_succ] at e2 k1; clear hB; (go_simp; first | with_reducible rfl | rfl)
        try simp only [Act.put, List.setIfInBounds_toArray, List.set_cons_zero, List.set_cons_succ]
        refine hd_pure (v := ?_) (by rfl) (fun W' hS' => ?_) ?_ -- 14
        rotate_left
        · have hB := hS'.a.blk; unfold RoT.cells at hB; rw [HN.out] at hB; have e2 := hB.cell 2; have k1 := (hS'.a.nxt t HN.out).b.cell 1; have p3 := (hS'.b.cell 3).trans (Pdu.c3 _); have hlk := (hS'.a.nxt t HN.out).m.look p.v; rw [HD.out] at hlk; rw [HA.out] at p3; simp only [tbP, List.getElem?_cons_zero, List.getElem?_cons_succ] at e2 k1; clear hB; (go_simp; first | with_reducible rfl | rfl)
        try simp only [Act.put, List.setIfInBounds_toArray, List.set_cons_zero, List.set_cons_succ]
        refine hd_nil ?_
        replace hT := hSW; clear hSW
        refine wpList_nil (NoPanic.normal ?_)
        clear hn ha
        have p3 := (hT.b.cell 3).trans (Pdu.c3 _)
        rw [HA.out] at p3
        go_upto_region 8 with fail
        clear p3
        refine reg_sch2 12 [(true, 0), (true, 1), (true, 2), (true, 3), (true, 4), (true, 5), (true, 6), (true, 7), (true, 8), (true, 9), (true, 10), (true, 11)] (by kernel_rfl) (by kernel_rfl) (RtP w g r bx p) (RtP w g r bx p) ?_ ?_ ?_
        · first | exact hT.drew | exact hT
        · exact fun _ h => h
        intro W hSW
        simp only [List.map_cons, List.map_nil, List.getD_cons_zero, List.getD_cons_succ, List.drop_succ_cons, List.drop_zero]
        refine hd_pure (v := ?_) (by rfl) (fun W' hS' => ?_) ?_ -- 0
        rotate_left
        · have hB := hS'.a.blk; unfold RoT.cells at hB; rw [HN.out] at hB; have e2 := hB.cell 2; have k1 := (hS'.a.nxt t HN.out).b.cell 1; have p3 := (hS'.b.cell 3).trans (Pdu.c3 _); have hlk := (hS'.a.nxt t HN.out).m.look p.v; rw [HD.out] at hlk; rw [HA.out] at p3; simp only [tbP, List.getElem?_cons_zero, List.getElem?_cons_succ] at e2 k1; clear hB; (go_simp; first | with_reducible rfl | rfl)
        try simp only [Act.put, List.setIfInBounds_toArray, List.set_cons_zero, List.set_cons_succ]
        refine hd_pure (v := ?_) (by rfl) (fun W' hS' => ?_) ?_ -- 1
        rotate_left
        · have hB := hS'.a.blk; unfold RoT.cells at hB; rw [HN.out] at hB; have e2 := hB.cell 2; have k1 := (hS'.a.nxt t HN.out).b.cell 1; have p3 := (hS'.b.cell 3).trans (Pdu.c3 _); have hlk := (hS'.a.nxt t HN.out).m.look p.v; rw [HD.out] at hlk; rw [HA.out] at p3; simp only [tbP, List.getElem?_cons_zero, List.getElem?_cons_succ] at e2 k1; clear hB; (go_simp; first | with_reducible rfl | rfl)
        try simp only [Act.put, List.setIfInBounds_toArray, List.set_cons_zero, List.set_cons_succ]
        refine hd_pure (v := ?_) (by rfl) (fun W' hS' => ?_) ?_ -- 2
        rotate_left
        · have hB := hS'.a.blk; unfold RoT.cells at hB; rw [HN.out] at hB; have e2 := hB.cell 2; have k1 := (hS'.a.nxt t HN.out).b.cell 1; have p3 := (hS'.b.cell 3).trans (Pdu.c3 _); have hlk := (hS'.a.nxt t HN.out).m.look p.v; rw [HD.out] at hlk; rw [HA.out] at p3; simp only [tbP, List.getElem?_cons_zero, List.getElem?_cons_succ] at e2 k1; clear hB; (go_simp; first | with_reducible rfl | rfl)
        try simp only [Act.put, List.setIfInBounds_toArray, List.set_cons_zero, List.set_cons_succ]
        refine hd_pure (v := ?_) (by rfl) (fun W' hS' => ?_) ?_ -- 3
        rotate_left
        · have hB := hS'.a.blk; unfold RoT.cells at hB; rw [HN.out] at hB; have e2 := hB.cell 2; have k1 := (hS'.a.nxt t HN.out).b.cell 1; have p3 := (hS'.b.cell 3).trans (Pdu.c3 _); have hlk := (hS'.a.nxt t HN.out).m.look p.v; rw [HD.out] at hlk; rw [HA.out] at p3; simp only [tbP, List.getElem?_cons_zero, List.getElem?_cons_succ] at e2 k1; clear hB; (go_simp; first | with_reducible rfl | rfl)
        try simp only [Act.put, List.setIfInBounds_toArray, List.set_cons_zero, List.set_cons_succ]
        refine hd_pure (v := ?_) (by rfl) (fun W' hS' => ?_) ?_ -- 4
        rotate_left
        · have hB := hS'.a.blk; unfold RoT.cells at hB; rw [HN.out] at hB; have e2 := hB.cell 2; have k1 := (hS'.a.nxt t HN.out).b.cell 1; have p3 := (hS'.b.cell 3).trans (Pdu.c3 _); have hlk := (hS'.a.nxt t HN.out).m.look p.v; rw [HD.out] at hlk; rw [HA.out] at p3; simp only [tbP, List.getElem?_cons_zero, List.getElem?_cons_succ] at e2 k1; clear hB; (go_simp; first | with_reducible rfl | rfl)
        try simp only [Act.put, List.setIfInBounds_toArray, List.set_cons_zero, List.set_cons_succ]
        refine hd_pure (v := ?_) (by rfl) (fun W' hS' => ?_) ?_ -- 5
        rotate_left
        · have hB := hS'.a.blk; unfold RoT.cells at hB; rw [HN.out] at hB; have e2 := hB.cell 2; have k1 := (hS'.a.nxt t HN.out).b.cell 1; have p3 := (hS'.b.cell 3).trans (Pdu.c3 _); have hlk := (hS'.a.nxt t HN.out).m.look p.v; rw [HD.out] at hlk; rw [HA.out] at p3; simp only [tbP, List.getElem?_cons_zero, List.getElem?_cons_succ] at e2 k1; clear hB; (go_simp; first | with_reducible rfl | rfl)
        try simp only [Act.put, List.setIfInBounds_toArray, List.set_cons_zero, List.set_cons_succ]
        refine hd_pure (v := ?_) (by rfl) (fun W' hS' => ?_) ?_ -- 6
        rotate_left
        · have hB := hS'.a.blk; unfold RoT.cells at hB; rw [HN.out] at hB; have e2 := hB.cell 2; have k1 := (hS'.a.nxt t HN.out).b.cell 1; have p3 := (hS'.b.cell 3).trans (Pdu.c3 _); have hlk := (hS'.a.nxt t HN.out).m.look p.v; rw [HD.out] at hlk; rw [HA.out] at p3; simp only [tbP, List.getElem?_cons_zero, List.getElem?_cons_succ] at e2 k1; clear hB; (go_simp; first | with_reducible rfl | rfl)
        try simp only [Act.put, List.setIfInBounds_toArray, List.set_cons_zero, List.set_cons_succ]
        refine hd_pure (v := ?_) (by rfl) (fun W' hS' => ?_) ?_ -- 7
        rotate_left
        · have hB := hS'.a.blk; unfold RoT.cells at hB; rw [HN.out] at hB; have e2 := hB.cell 2; have k1 := (hS'.a.nxt t HN.out).b.cell 1; have p3 := (hS'.b.cell 3).trans (Pdu.c3 _); have hlk := (hS'.a.nxt t HN.out).m.look p.v; rw [HD.out] at hlk; rw [HA.out] at p3; simp only [tbP, List.getElem?_cons_zero, List.getElem?_cons_succ] at e2 k1; clear hB; (go_simp; first | with_reducible rfl | rfl)
        try simp only [Act.put, List.setIfInBounds_toArray, List.set_cons_zero, List.set_cons_succ]
        refine hd_pure (v := .agg p.v.cells.toArray) (by rfl) (fun W' hS' => exec_load_at 27 _ (by rfl) bx 4 20 (by rfl) _ _ hS'.b.pdu_vrp (Vrp.cells_length _) Try.underlying27 rfl info_vrp1) ?_ -- 8
        try simp only [Act.put, List.setIfInBounds_toArray, List.set_cons_zero, List.set_cons_succ]
        refine hd_pure (v := ?_) (by rfl) (fun W' hS' => ?_) ?_ -- 9
        rotate_left
        · have hB := hS'.a.blk; unfold RoT.cells at hB; rw [HN.out] at hB; have e2 := hB.cell 2; have k1 := (hS'.a.nxt t HN.out).b.cell 1; have p3 := (hS'.b.cell 3).trans (Pdu.c3 _); have hlk := (hS'.a.nxt t HN.out).m.look p.v; rw [HD.out] at hlk; rw [HA.out] at p3; simp only [tbP, List.getElem?_cons_zero, List.getElem?_cons_succ] at e2 k1; clear hB; (go_simp; first | with_reducible rfl | rfl)
        try simp only [Act.put, List.setIfInBounds_toArray, List.set_cons_zero, List.set_cons_succ]
        refine hd_pure (v := ?_) (by rfl) (fun W' hS' => ?_) ?_ -- 10
        rotate_left
        · have hB := hS'.a.blk; unfold RoT.cells at hB; rw [HN.out] at hB; have e2 := hB.cell 2; have k1 := (hS'.a.nxt t HN.out).b.cell 1; have p3 := (hS'.b.cell 3).trans (Pdu.c3 _); have hlk := (hS'.a.nxt t HN.out).m.look p.v; rw [HD.out] at hlk; rw [HA.out] at p3; simp only [tbP, List.getElem?_cons_zero, List.getElem?_cons_succ] at e2 k1; clear hB; (go_simp; first | with_reducible rfl | rfl)
        try simp only [Act.put, List.setIfInBounds_toArray, List.set_cons_zero, List.set_cons_succ]
        refine hd_pure (v := ?_) (by rfl) (fun W' hS' => ?_) ?_ -- 11
        rotate_left
        · have hB := hS'.a.blk; unfold RoT.cells at hB; rw [HN.out] at hB; have e2 := hB.cell 2; have k1 := (hS'.a.nxt t HN.out).b.cell 1; have p3 := (hS'.b.cell 3).trans (Pdu.c3 _); have hlk := (hS'.a.nxt t HN.out).m.look p.v; rw [HD.out] at hlk; rw [HA.out] at p3; simp only [tbP, List.getElem?_cons_zero, List.getElem?_cons_succ] at e2 k1; clear hB; (go_simp; first | with_reducible rfl | rfl)
        try simp only [Act.put, List.setIfInBounds_toArray, List.set_cons_zero, List.set_cons_succ]
        refine hd_nil ?_
        replace hT := hSW; clear hSW
        refine wpList_nil (NoPanic.normal ?_)
        have p3 := (hT.b.cell 3).trans (Pdu.c3 _)
        rw [HA.out] at p3
        go_upto_region 1 with fail
        clear p3
        refine reg_sch2 9 [(true, 0), (true, 1), (true, 2), (true, 3), (true, 4), (true, 5), (true, 6), (true, 7), (true, 8)] (by kernel_rfl) (by kernel_rfl) (RtP w g r bx p) (RtP w g r bx p) ?_ ?_ ?_
        · first | exact hT.drew | exact hT
        · exact fun _ h => h
        intro W hSW
        simp only [List.map_cons, List.map_nil, List.getD_cons_zero, List.getD_cons_succ, List.drop_succ_cons, List.drop_zero]
        refine hd_pure (v := ?_) (by rfl) (fun W' hS' => ?_) ?_ -- 0
        rotate_left
        · have hB := hS'.a.blk; unfold RoT.cells at hB; rw [HN.out] at hB; have e2 := hB.cell 2; have k1 := (hS'.a.nxt t HN.out).b.cell 1; have p3 := (hS'.b.cell 3).trans (Pdu.c3 _); have hlk := (hS'.a.nxt t HN.out).m.look p.v; rw [HD.out] at hlk; rw [HA.out] at p3; simp only [tbP, List.getElem?_cons_zero, List.getElem?_cons_succ] at e2 k1; clear hB; (go_simp; first | with_reducible rfl | rfl)
        try simp only [Act.put, List.setIfInBounds_toArray, List.set_cons_zero, List.set_cons_succ]
        refine hd_pure (v := ?_) (by rfl) (fun W' hS' => ?_) ?_ -- 1
        rotate_left
        · have hB := hS'.a.blk; unfold RoT.cells at hB; rw [HN.out] at hB; have e2 := hB.cell 2; have k1 := (hS'.a.nxt t HN.out).b.cell 1; have p3 := (hS'.b.cell 3).trans (Pdu.c3 _); have hlk := (hS'.a.nxt t HN.out).m.look p.v; rw [HD.out] at hlk; rw [HA.out] at p3; simp only [tbP, List.getElem?_cons_zero, List.getElem?_cons_succ] at e2 k1; clear hB; (go_simp; first | with_reducible rfl | rfl)
        try simp only [Act.put, List.setIfInBounds_toArray, List.set_cons_zero, List.set_cons_succ]
        refine hd_pure (v := ?_) (by rfl) (fun W' hS' => ?_) ?_ -- 2
        rotate_left
        · have hB := hS'.a.blk; unfold RoT.cells at hB; rw [HN.out] at hB; have e2 := hB.cell 2; have k1 := (hS'.a.nxt t HN.out).b.cell 1; have p3 := (hS'.b.cell 3).trans (Pdu.c3 _); have hlk := (hS'.a.nxt t HN.out).m.look p.v; rw [HD.out] at hlk; rw [HA.out] at p3; simp only [tbP, List.getElem?_cons_zero, List.getElem?_cons_succ] at e2 k1; clear hB; (go_simp; first | with_reducible rfl | rfl)
        try simp only [Act.put, List.setIfInBounds_toArray, List.set_cons_zero, List.set_cons_succ]
        refine hd_pure (v := ?_) (by rfl) (fun W' hS' => ?_) ?_ -- 3
        rotate_left
        · have hB := hS'.a.blk; unfold RoT.cells at hB; rw [HN.out] at hB; have e2 := hB.cell 2; have k1 := (hS'.a.nxt t HN.out).b.cell 1; have p3 := (hS'.b.cell 3).trans (Pdu.c3 _); have hlk := (hS'.a.nxt t HN.out).m.look p.v; rw [HD.out] at hlk; rw [HA.out] at p3; simp only [tbP, List.getElem?_cons_zero, List.getElem?_cons_succ] at e2 k1; clear hB; (go_simp; first | with_reducible rfl | rfl)
        try simp only [Act.put, List.setIfInBounds_toArray, List.set_cons_zero, List.set_cons_succ]
        refine hd_pure (v := ?_) (by rfl) (fun W' hS' => ?_) ?_ -- 4
        rotate_left
        · have hB := hS'.a.blk; unfold RoT.cells at hB; rw [HN.out] at hB; have e2 := hB.cell 2; have k1 := (hS'.a.nxt t HN.out).b.cell 1; have p3 := (hS'.b.cell 3).trans (Pdu.c3 _); have hlk := (hS'.a.nxt t HN.out).m.look p.v; rw [HD.out] at hlk; rw [HA.out] at p3; simp only [tbP, List.getElem?_cons_zero, List.getElem?_cons_succ] at e2 k1; clear hB; (go_simp; first | with_reducible rfl | rfl)
        try simp only [Act.put, List.setIfInBounds_toArray, List.set_cons_zero, List.set_cons_succ]
        refine hd_pure (v := ?_) (by rfl) (fun W' hS' => ?_) ?_ -- 5
        rotate_left
        · have hB := hS'.a.blk; unfold RoT.cells at hB; rw [HN.out] at hB; have e2 := hB.cell 2; have k1 := (hS'.a.nxt t HN.out).b.cell 1; have p3 := (hS'.b.cell 3).trans (Pdu.c3 _); have hlk := (hS'.a.nxt t HN.out).m.look p.v; rw [HD.out] at hlk; rw [HA.out] at p3; simp only [tbP, List.getElem?_cons_zero, List.getElem?_cons_succ] at e2 k1; clear hB; (go_simp; first | with_reducible rfl | rfl)
        try simp only [Act.put, List.setIfInBounds_toArray, List.set_cons_zero, List.set_cons_succ]
        refine hd_pure (v := ?_) (by rfl) (fun W' hS' => ?_) ?_ -- 6
        rotate_left
        · have hB := hS'.a.blk; unfold RoT.cells at hB; rw [HN.out] at hB; have e2 := hB.cell 2; have k1 := (hS'.a.nxt t HN.out).b.cell 1; have p3 := (hS'.b.cell 3).trans (Pdu.c3 _); have hlk := (hS'.a.nxt t HN.out).m.look p.v; rw [HD.out] at hlk; rw [HA.out] at p3; simp only [tbP, List.getElem?_cons_zero, List.getElem?_cons_succ] at e2 k1; clear hB; (go_simp; first | with_reducible rfl | rfl)
        try simp only [Act.put, List.setIfInBounds_toArray, List.set_cons_zero, List.set_cons_succ]
        refine hd_pure (v := ?_) (by rfl) (fun W' hS' => ?_) ?_ -- 7
        rotate_left
        · have hB := hS'.a.blk; unfold RoT.cells at hB; rw [HN.out] at hB; have e2 := hB.cell 2; have k1 := (hS'.a.nxt t HN.out).b.cell 1; have p3 := (hS'.b.cell 3).trans (Pdu.c3 _); have hlk := (hS'.a.nxt t HN.out).m.look p.v; rw [HD.out] at hlk; rw [HA.out] at p3; simp only [tbP, List.getElem?_cons_zero, List.getElem?_cons_succ] at e2 k1; clear hB; (go_simp; first | with_reducible rfl | rfl)
        try simp only [Act.put, List.setIfInBounds_toArray, List.set_cons_zero, List.set_cons_succ]
        refine hd_pure (v := .agg p.v.cells.toArray) (by rfl) (fun W' hS' => exec_load_at 27 _ (by rfl) bx 4 20 (by rfl) _ _ hS'.b.pdu_vrp (Vrp.cells_length _) Try.underlying27 rfl info_vrp1) ?_ -- 8
        try simp only [Act.put, List.setIfInBounds_toArray, List.set_cons_zero, List.set_cons_succ]
        refine hd_nil ?_
        replace hT := hSW; clear hSW; obtain ⟨W3, hdel, hM3, hG3⟩ := (hT.a.nxt t HN.out).m.del p.v HND.out
        go_wp2_with fail
        refine NoPanic.normal ?_
        go_wp2_with fail
        go_ret
        rw [HE.out]
        exact ⟨_, rfl, hT.a.putMap HN.out hM3 hG3, by simp [RoT.abs, TbV.abs], rfl, rfl, (RFr.below hT.f).trans (RFr.map HN.out hG3)⟩
      · have HE := Lib.hid (show changeR r.abs p = (r.abs, 10) by unfold changeR; rw [hnx]; simp [ha, hd])
        have HD := Lib.hid (decide_eq_false hd)
        have HA := Lib.hid ha
        clear hnx hd
        simp only [Pdu.val]
        have hT : RtP w g r w.heap.size p (w.alloc (.cells p.cells.toArray 29)) := ⟨h.next ((Below.refl _ _).alloc (Nat.le_refl _) _), Blk.new _ _ _, (Below.refl _ _).alloc (Nat.le_refl _) _⟩
        clear h
        go_enter Try.func90, Try.ntmps90
        go_upto_region 2 with fail
        refine wp_gen (RtP w g r w.heap.size p) hT ?_
        clear hT
        generalize w.heap.size = bx
        intro W hT
        have c0 := hT.a.blk.cell 0
        have c1 := hT.a.blk.cell 1
        have c2 := hT.a.blk.cell 2
        have c3 := hT.a.blk.cell 3
        have c4 := hT.a.blk.cell 4
        have c5 := hT.a.blk.cell 5
        have c6 := hT.a.blk.cell 6
        have f0 := hT.a.blk.frozen 0
        have f1 := hT.a.blk.frozen 1
        have f2 := hT.a.blk.frozen 2
        have f3 := hT.a.blk.frozen 3
        have f4 := hT.a.blk.frozen 4
        have f5 := hT.a.blk.frozen 5
        have f6 := hT.a.blk.frozen 6
        simp only [RoT.cells, tbP, List.getElem?_cons_zero, List.getElem?_cons_succ] at c0 c1 c2 c3 c4 c5 c6
        have p3 := (hT.b.cell 3).trans (Pdu.c3 _)
        rw [hn] at c2
        simp only at c2
        have HN := Lib.hid hn
        rw [ha] at p3
        go_upto_region 4 with fail
        clear c0 c1 c2 c3 c4 c5 c6 f0 f1 f2 f3 f4 f5 f6 p3
        refine reg_sch2 15 [(true, 0), (true, 1), (true, 2), (true, 3), (true, 4), (true, 5), (true, 6), (true, 7), (true, 8), (true, 9), (true, 10), (true, 11), (true, 12), (true, 13), (true, 14)] (by kernel_rfl) (by kernel_rfl) (RtP w g r bx p) (RtP w g r bx p) ?_ ?_ ?_
        · first | exact hT.drew | exact hT
        · exact fun _ h => h
        intro W hSW
        simp only [List.map_cons, List.map_nil, List.getD_cons_zero, List.getD_cons_succ, List.drop_succ_cons, List.drop_zero]
        refine hd_pure (v := ?_) (by rfl) (fun W' hS' => ?_) ?_ -- 0
        rotate_left
        · have hB := hS'.a.blk; unfold RoT.cells at hB; rw [HN.out] at hB; have e2 := hB.cell 2; have k1 := (hS'.a.nxt t HN.out).b.cell 1; have p3 := (hS'.b.cell 3).trans (Pdu.c3 _); have hlk := (hS'.a.nxt t HN.out).m.look p.v; rw [HD.out] at hlk; rw [HA.out] at p3; simp only [tbP, List.getElem?_cons_zero, List.getElem?_cons_succ] at e2 k1; clear hB; (go_simp; first | with_reducible rfl | rfl)
        try simp only [Act.put, List.setIfInBounds_toArray, List.set_cons_zero, List.set_cons_succ]
        refine hd_pure (v := ?_) (by rfl) (fun W' hS' => ?_) ?_ -- 1
        rotate_left
        · have hB := hS'.a.blk; unfold RoT.cells at hB; rw [HN.out] at hB; have e2 := hB.cell 2; have k1 := (hS'.a.nxt t HN.out).b.cell 1; have p3 := (hS'.b.cell 3).trans (Pdu.c3 _); have hlk := (hS'.a.nxt t HN.out).m.look p.v; rw [HD.out] at hlk; rw [HA.out] at p3; simp only [tbP, List.getElem?_cons_zero, List.getElem?_cons_succ] at e2 k1; clear hB; (go_simp; first | with_reducible rfl | rfl)
        try simp only [Act.put, List.setIfInBounds_toArray, List.set_cons_zero, List.set_cons_succ]
        refine hd_pure (v := ?_) (by rfl) (fun W' hS' => ?_) ?_ -- 2
        rotate_left
        · have hB := hS'.a.blk; unfold RoT.cells at hB; rw [HN.out] at hB; have e2 := hB.cell 2; have k1 := (hS'.a.nxt t HN.out).b.cell 1; have p3 := (hS'.b.cell 3).trans (Pdu.c3 _); have hlk := (hS'.a.nxt t HN.out).m.look p.v; rw [HD.out] at hlk; rw [HA.out] at p3; simp only [tbP, List.getElem?_cons_zero, List.getElem?_cons_succ] at e2 k1; clear hB; (go_simp; first | with_reducible rfl | rfl)
        try simp only [Act.put, List.setIfInBounds_toArray, List.set_cons_zero, List.set_cons_succ]
        refine hd_skip (by rfl) ?_
        try simp only [Act.put, List.setIfInBounds_toArray, List.set_cons_zero, List.set_cons_succ]
        refine hd_skip (by rfl) ?_
        try simp only [Act.put, List.setIfInBounds_toArray, List.set_cons_zero, List.set_cons_succ]
        refine hd_skip (by rfl) ?_
        try simp only [Act.put, List.setIfInBounds_toArray, List.set_cons_zero, List.set_cons_succ]
        refine hd_skip (by rfl) ?_
        try simp only [Act.put, List.setIfInBounds_toArray, List.set_cons_zero, List.set_cons_succ]
        refine hd_skip (by rfl) ?_
        try simp only [Act.put, List.setIfInBounds_toArray, List.set_cons_zero, List.set_cons_succ]
        refine hd_skip (by rfl) ?_
        try simp only [Act.put, List.setIfInBounds_toArray, List.set_cons_zero, List.set_cons_succ]
        refine hd_skip (by rfl) ?_
        try simp only [Act.put, List.setIfInBounds_toArray, List.set_cons_zero, List.set_cons_succ]
        refine hd_skip (by rfl) ?_
        try simp only [Act.put, List.setIfInBounds_toArray, List.set_cons_zero, List.set_cons_succ]
        refine hd_skip (by rfl) ?_
        try simp only [Act.put, List.setIfInBounds_toArray, List.set_cons_zero, List.set_cons_succ]
        refine hd_skip (by rfl) ?_
        try simp only [Act.put, List.setIfInBounds_toArray, List.set_cons_zero, List.set_cons_succ]
        refine hd_pure (v := ?_) (by rfl) (fun W' hS' => ?_) ?_ -- 13
        rotate_left
        · have hB := hS'.a.blk; unfold RoT.cells at hB; rw [HN.out] at hB; have e2 := hB.cell 2; have k1 := (hS'.a.nxt t HN.out).b.cell 1; have p3 := (hS'.b.cell 3).trans (Pdu.c3 _); have hlk := (hS'.a.nxt t HN.out).m.look p.v; rw [HD.out] at hlk; rw [HA.out] at p3; simp only [tbP, List.getElem?_cons_zero, List.getElem?_cons_succ] at e2 k1; clear hB; (go_simp; first | with_reducible rfl | rfl)
        try simp only [Act.put, List.setIfInBounds_toArray, List.set_cons_zero, List.set_cons_succ]
        refine hd_pure (v := ?_) (by rfl) (fun W' hS' => ?_) ?_ -- 14
        rotate_left
        · have hB := hS'.a.blk; unfold RoT.cells at hB; rw [HN.out] at hB; have e2 := hB.cell 2; have k1 := (hS'.a.nxt t HN.out).b.cell 1; have p3 := (hS'.b.cell 3).trans (Pdu.c3 _); have hlk := (hS'.a.nxt t HN.out).m.look p.v; rw [HD.out] at hlk; rw [HA.out] at p3; simp only [tbP, List.getElem?_cons_zero, List.getElem?_cons_succ] at e2 k1; clear hB; (go_simp; first | with_reducible rfl | rfl)
        try simp only [Act.put, List.setIfInBounds_toArray, List.set_cons_zero, List.set_cons_succ]
        refine hd_nil ?_
        replace hT := hSW; clear hSW
        refine wpList_nil (NoPanic.normal ?_)
        clear hn ha
        have p3 := (hT.b.cell 3).trans (Pdu.c3 _)
        rw [HA.out] at p3
        go_upto_region 8 with fail
        clear p3
        refine reg_sch2 12 [(true, 0), (true, 1), (true, 2), (true, 3), (true, 4), (true, 5), (true, 6), (true, 7), (true, 8), (true, 9), (true, 10), (true, 11)] (by kernel_rfl) (by kernel_rfl) (RtP w g r bx p) (RtP w g r bx p) ?_ ?_ ?_
        · first | exact hT.drew | exact hT
        · exact fun _ h => h
        intro W hSW
        simp only [List.map_cons, List.map_nil, List.getD_cons_zero, List.getD_cons_succ, List.drop_succ_cons, List.drop_zero]
        refine hd_pure (v := ?_) (by rfl) (fun W' hS' => ?_) ?_ -- 0
        rotate_left
        · have hB := hS'.a.blk; unfold RoT.cells at hB; rw [HN.out] at hB; have e2 := hB.cell 2; have k1 := (hS'.a.nxt t HN.out).b.cell 1; have p3 := (hS'.b.cell 3).trans (Pdu.c3 _); have hlk := (hS'.a.nxt t HN.out).m.look p.v; rw [HD.out] at hlk; rw [HA.out] at p3; simp only [tbP, List.getElem?_cons_zero, List.getElem?_cons_succ] at e2 k1; clear hB; (go_simp; first | with_reducible rfl | rfl)
        try simp only [Act.put, List.setIfInBounds_toArray, List.set_cons_zero, List.set_cons_succ]
        refine hd_pure (v := ?_) (by rfl) (fun W' hS' => ?_) ?_ -- 1
        rotate_left
        · have hB := hS'.a.blk; unfold RoT.cells at hB; rw [HN.out] at hB; have e2 := hB.cell 2; have k1 := (hS'.a.nxt t HN.out).b.cell 1; have p3 := (hS'.b.cell 3).trans (Pdu.c3 _); have hlk := (hS'.a.nxt t HN.out).m.look p.v; rw [HD.out] at hlk; rw [HA.out] at p3; simp only [tbP, List.getElem?_cons_zero, List.getElem?_cons_succ] at e2 k1; clear hB; (go_simp; first | with_reducible rfl | rfl)
        try simp only [Act.put, List.setIfInBounds_toArray, List.set_cons_zero, List.set_cons_succ]
        refine hd_pure (v := ?_) (by rfl) (fun W' hS' => ?_) ?_ -- 2
        rotate_left
        · have hB := hS'.a.blk; unfold RoT.cells at hB; rw [HN.out] at hB; have e2 := hB.cell 2; have k1 := (hS'.a.nxt t HN.out).b.cell 1; have p3 := (hS'.b.cell 3).trans (Pdu.c3 _); have hlk := (hS'.a.nxt t HN.out).m.look p.v; rw [HD.out] at hlk; rw [HA.out] at p3; simp only [tbP, List.getElem?_cons_zero, List.getElem?_cons_succ] at e2 k1; clear hB; (go_simp; first | with_reducible rfl | rfl)
        try simp only [Act.put, List.setIfInBounds_toArray, List.set_cons_zero, List.set_cons_succ]
        refine hd_pure (v := ?_) (by rfl) (fun W' hS' => ?_) ?_ -- 3
        rotate_left
        · have hB := hS'.a.blk; unfold RoT.cells at hB; rw [HN.out] at hB; have e2 := hB.cell 2; have k1 := (hS'.a.nxt t HN.out).b.cell 1; have p3 := (hS'.b.cell 3).trans (Pdu.c3 _); have hlk := (hS'.a.nxt t HN.out).m.look p.v; rw [HD.out] at hlk; rw [HA.out] at p3; simp only [tbP, List.getElem?_cons_zero, List.getElem?_cons_succ] at e2 k1; clear hB; (go_simp; first | with_reducible rfl | rfl)
        try simp only [Act.put, List.setIfInBounds_toArray, List.set_cons_zero, List.set_cons_succ]
        refine hd_pure (v := ?_) (by rfl) (fun W' hS' => ?_) ?_ -- 4
        rotate_left
        · have hB := hS'.a.blk; unfold RoT.cells at hB; rw [HN.out] at hB; have e2 := hB.cell 2; have k1 := (hS'.a.nxt t HN.out).b.cell 1; have p3 := (hS'.b.cell 3).trans (Pdu.c3 _); have hlk := (hS'.a.nxt t HN.out).m.look p.v; rw [HD.out] at hlk; rw [HA.out] at p3; simp only [tbP, List.getElem?_cons_zero, List.getElem?_cons_succ] at e2 k1; clear hB; (go_simp; first | with_reducible rfl | rfl)
        try simp only [Act.put, List.setIfInBounds_toArray, List.set_cons_zero, List.set_cons_succ]
        refine hd_pure (v := ?_) (by rfl) (fun W' hS' => ?_) ?_ -- 5
        rotate_left
        · have hB := hS'.a.blk; unfold RoT.cells at hB; rw [HN.out] at hB; have e2 := hB.cell 2; have k1 := (hS'.a.nxt t HN.out).b.cell 1; have p3 := (hS'.b.cell 3).trans (Pdu.c3 _); have hlk := (hS'.a.nxt t HN.out).m.look p.v; rw [HD.out] at hlk; rw [HA.out] at p3; simp only [tbP, List.getElem?_cons_zero, List.getElem?_cons_succ] at e2 k1; clear hB; (go_simp; first | with_reducible rfl | rfl)
        try simp only [Act.put, List.setIfInBounds_toArray, List.set_cons_zero, List.set_cons_succ]
        refine hd_pure (v := ?_) (by rfl) (fun W' hS' => ?_) ?_ -- 6
        rotate_left
        · have hB := hS'.a.blk; unfold RoT.cells at hB; rw [HN.out] at hB; have e2 := hB.cell 2; have k1 := (hS'.a.nxt t HN.out).b.cell 1; have p3 := (hS'.b.cell 3).trans (Pdu.c3 _); have hlk := (hS'.a.nxt t HN.out).m.look p.v; rw [HD.out] at hlk; rw [HA.out] at p3; simp only [tbP, List.getElem?_cons_zero, List.getElem?_cons_succ] at e2 k1; clear hB; (go_simp; first | with_reducible rfl | rfl)
        try simp only [Act.put, List.setIfInBounds_toArray, List.set_cons_zero, List.set_cons_succ]
        refine hd_pure (v := ?_) (by rfl) (fun W' hS' => ?_) ?_ -- 7
        rotate_left
        · have hB := hS'.a.blk; unfold RoT.cells at hB; rw [HN.out] at hB; have e2 := hB.cell 2; have k1 := (hS'.a.nxt t HN.out).b.cell 1; have p3 := (hS'.b.cell 3).trans (Pdu.c3 _); have hlk := (hS'.a.nxt t HN.out).m.look p.v; rw [HD.out] at hlk; rw [HA.out] at p3; simp only [tbP, List.getElem?_cons_zero, List.getElem?_cons_succ] at e2 k1; clear hB; (go_simp; first | with_reducible rfl | rfl)
        try simp only [Act.put, List.setIfInBounds_toArray, List.set_cons_zero, List.set_cons_succ]
        refine hd_pure (v := .agg p.v.cells.toArray) (by rfl) (fun W' hS' => exec_load_at 27 _ (by rfl) bx 4 20 (by rfl) _ _ hS'.b.pdu_vrp (Vrp.cells_length _) Try.underlying27 rfl info_vrp1) ?_ -- 8
        try simp only [Act.put, List.setIfInBounds_toArray, List.set_cons_zero, List.set_cons_succ]
        refine hd_pure (v := ?_) (by rfl) (fun W' hS' => ?_) ?_ -- 9
        rotate_left
        · have hB := hS'.a.blk; unfold RoT.cells at hB; rw [HN.out] at hB; have e2 := hB.cell 2; have k1 := (hS'.a.nxt t HN.out).b.cell 1; have p3 := (hS'.b.cell 3).trans (Pdu.c3 _); have hlk := (hS'.a.nxt t HN.out).m.look p.v; rw [HD.out] at hlk; rw [HA.out] at p3; simp only [tbP, List.getElem?_cons_zero, List.getElem?_cons_succ] at e2 k1; clear hB; (go_simp; first | with_reducible rfl | rfl)
        try simp only [Act.put, List.setIfInBounds_toArray, List.set_cons_zero, List.set_cons_succ]
        refine hd_pure (v := ?_) (by rfl) (fun W' hS' => ?_) ?_ -- 10
        rotate_left
        · have hB := hS'.a.blk; unfold RoT.cells at hB; rw [HN.out] at hB; have e2 := hB.cell 2; have k1 := (hS'.a.nxt t HN.out).b.cell 1; have p3 := (hS'.b.cell 3).trans (Pdu.c3 _); have hlk := (hS'.a.nxt t HN.out).m.look p.v; rw [HD.out] at hlk; rw [HA.out] at p3; simp only [tbP, List.getElem?_cons_zero, List.getElem?_cons_succ] at e2 k1; clear hB; (go_simp; first | with_reducible rfl | rfl)
        try simp only [Act.put, List.setIfInBounds_toArray, List.set_cons_zero, List.set_cons_succ]
        refine hd_pure (v := ?_) (by rfl) (fun W' hS' => ?_) ?_ -- 11
        rotate_left
        · have hB := hS'.a.blk; unfold RoT.cells at hB; rw [HN.out] at hB; have e2 := hB.cell 2; have k1 := (hS'.a.nxt t HN.out).b.cell 1; have p3 := (hS'.b.cell 3).trans (Pdu.c3 _); have hlk := (hS'.a.nxt t HN.out).m.look p.v; rw [HD.out] at hlk; rw [HA.out] at p3; simp only [tbP, List.getElem?_cons_zero, List.getElem?_cons_succ] at e2 k1; clear hB; (go_simp; first | with_reducible rfl | rfl)
        try simp only [Act.put, List.setIfInBounds_toArray, List.set_cons_zero, List.set_cons_succ]
        refine hd_nil ?_
        replace hT := hSW; clear hSW
        refine wpList_nil (NoPanic.normal ?_)
        go_wp2_with fail
        go_ret
        rw [HE.out]
        exact ⟨r, rfl, hT.a, rfl, rfl, rfl, .below hT.f⟩
    · by_cases hd : p.v ∈ t.ks
      · have HE := Lib.hid (show changeR r.abs p = (r.abs, 9) by unfold changeR; rw [hnx]; simp [ha, hd])
        have HD := Lib.hid (decide_eq_true hd)
        have HA := Lib.hid ha
        clear hnx hd
        simp only [Pdu.val]
        have hT : RtP w g r w.heap.size p (w.alloc (.cells p.cells.toArray 29)) := ⟨h.next ((Below.refl _ _).alloc (Nat.le_refl _) _), Blk.new _ _ _, (Below.refl _ _).alloc (Nat.le_refl _) _⟩
        clear h
        go_enter Try.func90, Try.ntmps90
        go_upto_region 2 with fail
        refine wp_gen (RtP w g r w.heap.size p) hT ?_
        clear hT
        generalize w.heap.size = bx
        intro W hT
        have c0 := hT.a.blk.cell 0
        have c1 := hT.a.blk.cell 1
        have c2 := hT.a.blk.cell 2
        have c3 := hT.a.blk.cell 3
        have c4 := hT.a.blk.cell 4
        have c5 := hT.a.blk.cell 5
        have c6 := hT.a.blk.cell 6
        have f0 := hT.a.blk.frozen 0
        have f1 := hT.a.blk.frozen 1
        have f2 := hT.a.blk.frozen 2
        have f3 := hT.a.blk.frozen 3
        have f4 := hT.a.blk.frozen 4
        have f5 := hT.a.blk.frozen 5
        have f6 := hT.a.blk.frozen 6
        simp only [RoT.cells, tbP, List.getElem?_cons_zero, List.getElem?_cons_succ] at c0 c1 c2 c3 c4 c5 c6
        have p3 := (hT.b.cell 3).trans (Pdu.c3 _)
        rw [hn] at c2
        simp only at c2
        have HN := Lib.hid hn
        rw [ha] at p3
        go_upto_region 4 with fail
        clear c0 c1 c2 c3 c4 c5 c6 f0 f1 f2 f3 f4 f5 f6 p3
        refine reg_sch2 15 [(true, 0), (true, 1), (true, 2), (true, 3), (true, 4), (true, 5), (true, 6), (true, 7), (true, 8), (true, 9), (true, 10), (true, 11), (true, 12), (true, 13), (true, 14)] (by kernel_rfl) (by kernel_rfl) (RtP w g r bx p) (RtP w g r bx p) ?_ ?_ ?_
        · first | exact hT.drew | exact hT
        · exact fun _ h => h
        intro W hSW
        simp only [List.map_cons, List.map_nil, List.getD_cons_zero, List.getD_cons_succ, List.drop_succ_cons, List.drop_zero]
        refine hd_pure (v := ?_) (by rfl) (fun W' hS' => ?_) ?_ -- 0
        rotate_left
        · have hB := hS'.a.blk; unfold RoT.cells at hB; rw [HN.out] at hB; have e2 := hB.cell 2; have k1 := (hS'.a.nxt t HN.out).b.cell 1; have p3 := (hS'.b.cell 3).trans (Pdu.c3 _); have hlk := (hS'.a.nxt t HN.out).m.look p.v; rw [HD.out] at hlk; rw [HA.out] at p3; simp only [tbP, List.getElem?_cons_zero, List.getElem?_cons_succ] at e2 k1; clear hB; (go_simp; first | with_reducible rfl | rfl)
        try simp only [Act.put, List.setIfInBounds_toArray, List.set_cons_zero, List.set_cons_succ]
        refine hd_pure (v := ?_) (by rfl) (fun W' hS' => ?_) ?_ -- 1
        rotate_left
        · have hB := hS'.a.blk; unfold RoT.cells at hB; rw [HN.out] at hB; have e2 := hB.cell 2; have k1 := (hS'.a.nxt t HN.out).b.cell 1; have p3 := (hS'.b.cell 3).trans (Pdu.c3 _); have hlk := (hS'.a.nxt t HN.out).m.look p.v; rw [HD.out] at hlk; rw [HA.out] at p3; simp only [tbP, List.getElem?_cons_zero, List.getElem?_cons_succ] at e2 k1; clear hB; (go_simp; first | with_reducible rfl | rfl)
        try simp only [Act.put, List.setIfInBounds_toArray, List.set_cons_zero, List.set_cons_succ]
        refine hd_pure (v := ?_) (by rfl) (fun W' hS' => ?_) ?_ -- 2
        rotate_left
        · have hB := hS'.a.blk; unfold RoT.cells at hB; rw [HN.out] at hB; have e2 := hB.cell 2; have k1 := (hS'.a.nxt t HN.out).b.cell 1; have p3 := (hS'.b.cell 3).trans (Pdu.c3 _); have hlk := (hS'.a.nxt t HN.out).m.look p.v; rw [HD.out] at hlk; rw [HA.out] at p3; simp only [tbP, List.getElem?_cons_zero, List.getElem?_cons_succ] at e2 k1; clear hB; (go_simp; first | with_reducible rfl | rfl)
        try simp only [Act.put, List.setIfInBounds_toArray, List.set_cons_zero, List.set_cons_succ]
        refine hd_pure (v := ?_) (by rfl) (fun W' hS' => ?_) ?_ -- 3
        rotate_left
        · have hB := hS'.a.blk; unfold RoT.cells at hB; rw [HN.out] at hB; have e2 := hB.cell 2; have k1 := (hS'.a.nxt t HN.out).b.cell 1; have p3 := (hS'.b.cell 3).trans (Pdu.c3 _); have hlk := (hS'.a.nxt t HN.out).m.look p.v; rw [HD.out] at hlk; rw [HA.out] at p3; simp only [tbP, List.getElem?_cons_zero, List.getElem?_cons_succ] at e2 k1; clear hB; (go_simp; first | with_reducible rfl | rfl)
        try simp only [Act.put, List.setIfInBounds_toArray, List.set_cons_zero, List.set_cons_succ]
        refine hd_pure (v := ?_) (by rfl) (fun W' hS' => ?_) ?_ -- 4
        rotate_left
        · have hB := hS'.a.blk; unfold RoT.cells at hB; rw [HN.out] at hB; have e2 := hB.cell 2; have k1 := (hS'.a.nxt t HN.out).b.cell 1; have p3 := (hS'.b.cell 3).trans (Pdu.c3 _); have hlk := (hS'.a.nxt t HN.out).m.look p.v; rw [HD.out] at hlk; rw [HA.out] at p3; simp only [tbP, List.getElem?_cons_zero, List.getElem?_cons_succ] at e2 k1; clear hB; (go_simp; first | with_reducible rfl | rfl)
        try simp only [Act.put, List.setIfInBounds_toArray, List.set_cons_zero, List.set_cons_succ]
        refine hd_pure (v := ?_) (by rfl) (fun W' hS' => ?_) ?_ -- 5
        rotate_left
        · have hB := hS'.a.blk; unfold RoT.cells at hB; rw [HN.out] at hB; have e2 := hB.cell 2; have k1 := (hS'.a.nxt t HN.out).b.cell 1; have p3 := (hS'.b.cell 3).trans (Pdu.c3 _); have hlk := (hS'.a.nxt t HN.out).m.look p.v; rw [HD.out] at hlk; rw [HA.out] at p3; simp only [tbP, List.getElem?_cons_zero, List.getElem?_cons_succ] at e2 k1; clear hB; (go_simp; first | with_reducible rfl | rfl)
        try simp only [Act.put, List.setIfInBounds_toArray, List.set_cons_zero, List.set_cons_succ]
        refine hd_pure (v := ?_) (by rfl) (fun W' hS' => ?_) ?_ -- 6
        rotate_left
        · have hB := hS'.a.blk; unfold RoT.cells at hB; rw [HN.out] at hB; have e2 := hB.cell 2; have k1 := (hS'.a.nxt t HN.out).b.cell 1; have p3 := (hS'.b.cell 3).trans (Pdu.c3 _); have hlk := (hS'.a.nxt t HN.out).m.look p.v; rw [HD.out] at hlk; rw [HA.out] at p3; simp only [tbP, List.getElem?_cons_zero, List.getElem?_cons_succ] at e2 k1; clear hB; (go_simp; first | with_reducible rfl | rfl)
        try simp only [Act.put, List.setIfInBounds_toArray, List.set_cons_zero, List.set_cons_succ]
        refine hd_pure (v := ?_) (by rfl) (fun W' hS' => ?_) ?_ -- 7
        rotate_left
        · have hB := hS'.a.blk; unfold RoT.cells at hB; rw [HN.out] at hB; have e2 := hB.cell 2; have k1 := (hS'.a.nxt t HN.out).b.cell 1; have p3 := (hS'.b.cell 3).trans (Pdu.c3 _); have hlk := (hS'.a.nxt t HN.out).m.look p.v; rw [HD.out] at hlk; rw [HA.out] at p3; simp only [tbP, List.getElem?_cons_zero, List.getElem?_cons_succ] at e2 k1; clear hB; (go_simp; first | with_reducible rfl | rfl)
        try simp only [Act.put, List.setIfInBounds_toArray, List.set_cons_zero, List.set_cons_succ]
        refine hd_pure (v := ?_) (by rfl) (fun W' hS' => ?_) ?_ -- 8
        rotate_left
        · have hB := hS'.a.blk; unfold RoT.cells at hB; rw [HN.out] at hB; have e2 := hB.cell 2; have k1 := (hS'.a.nxt t HN.out).b.cell 1; have p3 := (hS'.b.cell 3).trans (Pdu.c3 _); have hlk := (hS'.a.nxt t HN.out).m.look p.v; rw [HD.out] at hlk; rw [HA.out] at p3; simp only [tbP, List.getElem?_cons_zero, List.getElem?_cons_succ] at e2 k1; clear hB; (go_simp; first | with_reducible rfl | rfl)
        try simp only [Act.put, List.setIfInBounds_toArray, List.set_cons_zero, List.set_cons_succ]
        refine hd_pure (v := ?_) (by rfl) (fun W' hS' => ?_) ?_ -- 9
        rotate_left
        · have hB := hS'.a.blk; unfold RoT.cells at hB; rw [HN.out] at hB; have e2 := hB.cell 2; have k1 := (hS'.a.nxt t HN.out).b.cell 1; have p3 := (hS'.b.cell 3).trans (Pdu.c3 _); have hlk := (hS'.a.nxt t HN.out).m.look p.v; rw [HD.out] at hlk; rw [HA.out] at p3; simp only [tbP, List.getElem?_cons_zero, List.getElem?_cons_succ] at e2 k1; clear hB; (go_simp; first | with_reducible rfl | rfl)
        try simp only [Act.put, List.setIfInBounds_toArray, List.set_cons_zero, List.set_cons_succ]
        refine hd_pure (v := ?_) (by rfl) (fun W' hS' => ?_) ?_ -- 10
        rotate_left
        · have hB := hS'.a.blk; unfold RoT.cells at hB; rw [HN.out] at hB; have e2 := hB.cell 2; have k1 := (hS'.a.nxt t HN.out).b.cell 1; have p3 := (hS'.b.cell 3).trans (Pdu.c3 _); have hlk := (hS'.a.nxt t HN.out).m.look p.v; rw [HD.out] at hlk; rw [HA.out] at p3; simp only [tbP, List.getElem?_cons_zero, List.getElem?_cons_succ] at e2 k1; clear hB; (go_simp; first | with_reducible rfl | rfl)
        try simp only [Act.put, List.setIfInBounds_toArray, List.set_cons_zero, List.set_cons_succ]
        refine hd_pure (v := .agg p.v.cells.toArray) (by rfl) (fun W' hS' => exec_load_at 27 _ (by rfl) bx 4 20 (by rfl) _ _ hS'.b.pdu_vrp (Vrp.cells_length _) Try.underlying27 rfl info_vrp1) ?_ -- 11
        try simp only [Act.put, List.setIfInBounds_toArray, List.set_cons_zero, List.set_cons_succ]
        refine hd_pure (v := ?_) (by rfl) (fun W' hS' => ?_) ?_ -- 12
        rotate_left
        · have hB := hS'.a.blk; unfold RoT.cells at hB; rw [HN.out] at hB; have e2 := hB.cell 2; have k1 := (hS'.a.nxt t HN.out).b.cell 1; have p3 := (hS'.b.cell 3).trans (Pdu.c3 _); have hlk := (hS'.a.nxt t HN.out).m.look p.v; rw [HD.out] at hlk; rw [HA.out] at p3; simp only [tbP, List.getElem?_cons_zero, List.getElem?_cons_succ] at e2 k1; clear hB; (go_simp; first | with_reducible rfl | rfl)
        try simp only [Act.put, List.setIfInBounds_toArray, List.set_cons_zero, List.set_cons_succ]
        refine hd_pure (v := ?_) (by rfl) (fun W' hS' => ?_) ?_ -- 13
        rotate_left
        · have hB := hS'.a.blk; unfold RoT.cells at hB; rw [HN.out] at hB; have e2 := hB.cell 2; have k1 := (hS'.a.nxt t HN.out).b.cell 1; have p3 := (hS'.b.cell 3).trans (Pdu.c3 _); have hlk := (hS'.a.nxt t HN.out).m.look p.v; rw [HD.out] at hlk; rw [HA.out] at p3; simp only [tbP, List.getElem?_cons_zero, List.getElem?_cons_succ] at e2 k1; clear hB; (go_simp; first | with_reducible rfl | rfl)
        try simp only [Act.put, List.setIfInBounds_toArray, List.set_cons_zero, List.set_cons_succ]
        refine hd_pure (v := ?_) (by rfl) (fun W' hS' => ?_) ?_ -- 14
        rotate_left
        · have hB := hS'.a.blk; unfold RoT.cells at hB; rw [HN.out] at hB; have e2 := hB.cell 2; have k1 := (hS'.a.nxt t HN.out).b.cell 1; have p3 := (hS'.b.cell 3).trans (Pdu.c3 _); have hlk := (hS'.a.nxt t HN.out).m.look p.v; rw [HD.out] at hlk; rw [HA.out] at p3; simp only [tbP, List.getElem?_cons_zero, List.getElem?_cons_succ] at e2 k1; clear hB; (go_simp; first | with_reducible rfl | rfl)
        try simp only [Act.put, List.setIfInBounds_toArray, List.set_cons_zero, List.set_cons_succ]
        refine hd_nil ?_
        replace hT := hSW; clear hSW
        refine wpList_nil (NoPanic.normal ?_)
        clear hn ha
        go_wp2_with fail
        go_ret
        rw [HE.out]
        exact ⟨r, rfl, hT.a, rfl, rfl, rfl, .below hT.f⟩
      · have HE := Lib.hid (show changeR r.abs p = (({ r with nx := some { t with ks := t.ks ++ [p.v] } } : RoT).abs, 0) by unfold changeR; rw [hnx]; simp [ha, hd, RoT.abs, TbV.abs])
        have HD := Lib.hid (decide_eq_false hd)
        have HA := Lib.hid ha
        have HND := Lib.hid hd
        clear hnx hd
        simp only [Pdu.val]
        have hT : RtP w g r w.heap.size p (w.alloc (.cells p.cells.toArray 29)) := ⟨h.next ((Below.refl _ _).alloc (Nat.le_refl _) _), Blk.new _ _ _, (Below.refl _ _).alloc (Nat.le_refl _) _⟩
        clear h
        go_enter Try.func90, Try.ntmps90
        go_upto_region 2 with fail
        refine wp_gen (RtP w g r w.heap.size p) hT ?_
        clear hT
        generalize w.heap.size = bx
        intro W hT
        have c0 := hT.a.blk.cell 0
        have c1 := hT.a.blk.cell 1
        have c2 := hT.a.blk.cell 2
        have c3 := hT.a.blk.cell 3
        have c4 := hT.a.blk.cell 4
        have c5 := hT.a.blk.cell 5
        have c6 := hT.a.blk.cell 6
        have f0 := hT.a.blk.frozen 0
        have f1 := hT.a.blk.frozen 1
        have f2 := hT.a.blk.frozen 2
        have f3 := hT.a.blk.frozen 3
        have f4 := hT.a.blk.frozen 4
        have f5 := hT.a.blk.frozen 5
        have f6 := hT.a.blk.frozen 6
        simp only [RoT.cells, tbP, List.getElem?_cons_zero, List.getElem?_cons_succ] at c0 c1 c2 c3 c4 c5 c6
        have p3 := (hT.b.cell 3).trans (Pdu.c3 _)
        rw [hn] at c2
        simp only at c2
        have HN := Lib.hid hn
        rw [ha] at p3
        go_upto_region 4 with fail
        clear c0 c1 c2 c3 c4 c5 c6 f0 f1 f2 f3 f4 f5 f6 p3
        refine reg_sch2 15 [(true, 0), (true, 1), (true, 2), (true, 3), (true, 4), (true, 5), (true, 6), (true, 7), (true, 8), (true, 9), (true, 10), (true, 11), (true, 12), (true, 13), (true, 14)] (by kernel_rfl) (by kernel_rfl) (RtP w g r bx p) (RtP w g r bx p) ?_ ?_ ?_
        · first | exact hT.drew | exact hT
        · exact fun _ h => h
        intro W hSW
        simp only [List.map_cons, List.map_nil, List.getD_cons_zero, List.getD_cons_succ, List.drop_succ_cons, List.drop_zero]
        refine hd_pure (v := ?_) (by rfl) (fun W' hS' => ?_) ?_ -- 0
        rotate_left
        · have hB := hS'.a.blk; unfold RoT.cells at hB; rw [HN.out] at hB; have e2 := hB.cell 2; have k1 := (hS'.a.nxt t HN.out).b.cell 1; have p3 := (hS'.b.cell 3).trans (Pdu.c3 _); have hlk := (hS'.a.nxt t HN.out).m.look p.v; rw [HD.out] at hlk; rw [HA.out] at p3; simp only [tbP, List.getElem?_cons_zero, List.getElem?_cons_succ] at e2 k1; clear hB; (go_simp; first | with_reducible rfl | rfl)
        try simp only [Act.put, List.setIfInBounds_toArray, List.set_cons_zero, List.set_cons_succ]
        refine hd_pure (v := ?_) (by rfl) (fun W' hS' => ?_) ?_ -- 1
        rotate_left
        · have hB := hS'.a.blk; unfold RoT.cells at hB; rw [HN.out] at hB; have e2 := hB.cell 2; have k1 := (hS'.a.nxt t HN.out).b.cell 1; have p3 := (hS'.b.cell 3).trans (Pdu.c3 _); have hlk := (hS'.a.nxt t HN.out).m.look p.v; rw [HD.out] at hlk; rw [HA.out] at p3; simp only [tbP, List.getElem?_cons_zero, List.getElem?_cons_succ] at e2 k1; clear hB; (go_simp; first | with_reducible rfl | rfl)
        try simp only [Act.put, List.setIfInBounds_toArray, List.set_cons_zero, List.set_cons_succ]
        refine hd_pure (v := ?_) (by rfl) (fun W' hS' => ?_) ?_ -- 2
        rotate_left
        · have hB := hS'.a.blk; unfold RoT.cells at hB; rw [HN.out] at hB; have e2 := hB.cell 2; have k1 := (hS'.a.nxt t HN.out).b.cell 1; have p3 := (hS'.b.cell 3).trans (Pdu.c3 _); have hlk := (hS'.a.nxt t HN.out).m.look p.v; rw [HD.out] at hlk; rw [HA.out] at p3; simp only [tbP, List.getElem?_cons_zero, List.getElem?_cons_succ] at e2 k1; clear hB; (go_simp; first | with_reducible rfl | rfl)
        try simp only [Act.put, List.setIfInBounds_toArray, List.set_cons_zero, List.set_cons_succ]
        refine hd_pure (v := ?_) (by rfl) (fun W' hS' => ?_) ?_ -- 3
        rotate_left
        · have hB := hS'.a.blk; unfold RoT.cells at hB; rw [HN.out] at hB; have e2 := hB.cell 2; have k1 := (hS'.a.nxt t HN.out).b.cell 1; have p3 := (hS'.b.cell 3).trans (Pdu.c3 _); have hlk := (hS'.a.nxt t HN.out).m.look p.v; rw [HD.out] at hlk; rw [HA.out] at p3; simp only [tbP, List.getElem?_cons_zero, List.getElem?_cons_succ] at e2 k1; clear hB; (go_simp; first | with_reducible rfl | rfl)
        try simp only [Act.put, List.setIfInBounds_toArray, List.set_cons_zero, List.set_cons_succ]
        refine hd_pure (v := ?_) (by rfl) (fun W' hS' => ?_) ?_ -- 4
        rotate_left
        · have hB := hS'.a.blk; unfold RoT.cells at hB; rw [HN.out] at hB; have e2 := hB.cell 2; have k1 := (hS'.a.nxt t HN.out).b.cell 1; have p3 := (hS'.b.cell 3).trans (Pdu.c3 _); have hlk := (hS'.a.nxt t HN.out).m.look p.v; rw [HD.out] at hlk; rw [HA.out] at p3; simp only [tbP, List.getElem?_cons_zero, List.getElem?_cons_succ] at e2 k1; clear hB; (go_simp; first | with_reducible rfl | rfl)
        try simp only [Act.put, List.setIfInBounds_toArray, List.set_cons_zero, List.set_cons_succ]
        refine hd_pure (v := ?_) (by rfl) (fun W' hS' => ?_) ?_ -- 5
        rotate_left
        · have hB := hS'.a.blk; unfold RoT.cells at hB; rw [HN.out] at hB; have e2 := hB.cell 2; have k1 := (hS'.a.nxt t HN.out).b.cell 1; have p3 := (hS'.b.cell 3).trans (Pdu.c3 _); have hlk := (hS'.a.nxt t HN.out).m.look p.v; rw [HD.out] at hlk; rw [HA.out] at p3; simp only [tbP, List.getElem?_cons_zero, List.getElem?_cons_succ] at e2 k1; clear hB; (go_simp; first | with_reducible rfl | rfl)
        try simp only [Act.put, List.setIfInBounds_toArray, List.set_cons_zero, List.set_cons_succ]
        refine hd_pure (v := ?_) (by rfl) (fun W' hS' => ?_) ?_ -- 6
        rotate_left
        · have hB := hS'.a.blk; unfold RoT.cells at hB; rw [HN.out] at hB; have e2 := hB.cell 2; have k1 := (hS'.a.nxt t HN.out).b.cell 1; have p3 := (hS'.b.cell 3).trans (Pdu.c3 _); have hlk := (hS'.a.nxt t HN.out).m.look p.v; rw [HD.out] at hlk; rw [HA.out] at p3; simp only [tbP, List.getElem?_cons_zero, List.getElem?_cons_succ] at e2 k1; clear hB; (go_simp; first | with_reducible rfl | rfl)
        try simp only [Act.put, List.setIfInBounds_toArray, List.set_cons_zero, List.set_cons_succ]
        refine hd_pure (v := ?_) (by rfl) (fun W' hS' => ?_) ?_ -- 7
        rotate_left
        · have hB := hS'.a.blk; unfold RoT.cells at hB; rw [HN.out] at hB; have e2 := hB.cell 2; have k1 := (hS'.a.nxt t HN.out).b.cell 1; have p3 := (hS'.b.cell 3).trans (Pdu.c3 _); have hlk := (hS'.a.nxt t HN.out).m.look p.v; rw [HD.out] at hlk; rw [HA.out] at p3; simp only [tbP, List.getElem?_cons_zero, List.getElem?_cons_succ] at e2 k1; clear hB; (go_simp; first | with_reducible rfl | rfl)
        try simp only [Act.put, List.setIfInBounds_toArray, List.set_cons_zero, List.set_cons_succ]
        refine hd_pure (v := ?_) (by rfl) (fun W' hS' => ?_) ?_ -- 8
        rotate_left
        · have hB := hS'.a.blk; unfold RoT.cells at hB; rw [HN.out] at hB; have e2 := hB.cell 2; have k1 := (hS'.a.nxt t HN.out).b.cell 1; have p3 := (hS'.b.cell 3).trans (Pdu.c3 _); have hlk := (hS'.a.nxt t HN.out).m.look p.v; rw [HD.out] at hlk; rw [HA.out] at p3; simp only [tbP, List.getElem?_cons_zero, List.getElem?_cons_succ] at e2 k1; clear hB; (go_simp; first | with_reducible rfl | rfl)
        try simp only [Act.put, List.setIfInBounds_toArray, List.set_cons_zero, List.set_cons_succ]
        refine hd_pure (v := ?_) (by rfl) (fun W' hS' => ?_) ?_ -- 9
        rotate_left
        · have hB := hS'.a.blk; unfold RoT.cells at hB; rw [HN.out] at hB; have e2 := hB.cell 2; have k1 := (hS'.a.nxt t HN.out).b.cell 1; have p3 := (hS'.b.cell 3).trans (Pdu.c3 _); have hlk := (hS'.a.nxt t HN.out).m.look p.v; rw [HD.out] at hlk; rw [HA.out] at p3; simp only [tbP, List.getElem?_cons_zero, List.getElem?_cons_succ] at e2 k1; clear hB; (go_simp; first | with_reducible rfl | rfl)
        try simp only [Act.put, List.setIfInBounds_toArray, List.set_cons_zero, List.set_cons_succ]
        refine hd_pure (v := ?_) (by rfl) (fun W' hS' => ?_) ?_ -- 10
        rotate_left
        · have hB := hS'.a.blk; unfold RoT.cells at hB; rw [HN.out] at hB; have e2 := hB.cell 2; have k1 := (hS'.a.nxt t HN.out).b.cell 1; have p3 := (hS'.b.cell 3).trans (Pdu.c3 _); have hlk := (hS'.a.nxt t HN.out).m.look p.v; rw [HD.out] at hlk; rw [HA.out] at p3; simp only [tbP, List.getElem?_cons_zero, List.getElem?_cons_succ] at e2 k1; clear hB; (go_simp; first | with_reducible rfl | rfl)
        try simp only [Act.put, List.setIfInBounds_toArray, List.set_cons_zero, List.set_cons_succ]
        refine hd_pure (v := .agg p.v.cells.toArray) (by rfl) (fun W' hS' => exec_load_at 27 _ (by rfl) bx 4 20 (by rfl) _ _ hS'.b.pdu_vrp (Vrp.cells_length _) Try.underlying27 rfl info_vrp1) ?_ -- 11
        try simp only [Act.put, List.setIfInBounds_toArray, List.set_cons_zero, List.set_cons_succ]
        refine hd_pure (v := ?_) (by rfl) (fun W' hS' => ?_) ?_ -- 12
        rotate_left
        · have hB := hS'.a.blk; unfold RoT.cells at hB; rw [HN.out] at hB; have e2 := hB.cell 2; have k1 := (hS'.a.nxt t HN.out).b.cell 1; have p3 := (hS'.b.cell 3).trans (Pdu.c3 _); have hlk := (hS'.a.nxt t HN.out).m.look p.v; rw [HD.out] at hlk; rw [HA.out] at p3; simp only [tbP, List.getElem?_cons_zero, List.getElem?_cons_succ] at e2 k1; clear hB; (go_simp; first | with_reducible rfl | rfl)
        try simp only [Act.put, List.setIfInBounds_toArray, List.set_cons_zero, List.set_cons_succ]
        refine hd_pure (v := ?_) (by rfl) (fun W' hS' => ?_) ?_ -- 13
        rotate_left
        · have hB := hS'.a.blk; unfold RoT.cells at hB; rw [HN.out] at hB; have e2 := hB.cell 2; have k1 := (hS'.a.nxt t HN.out).b.cell 1; have p3 := (hS'.b.cell 3).trans (Pdu.c3 _); have hlk := (hS'.a.nxt t HN.out).m.look p.v; rw [HD.out] at hlk; rw [HA.out] at p3; simp only [tbP, List.getElem?_cons_zero, List.getElem?_cons_succ] at e2 k1; clear hB; (go_simp; first | with_reducible rfl | rfl)
        try simp only [Act.put, List.setIfInBounds_toArray, List.set_cons_zero, List.set_cons_succ]
        refine hd_pure (v := ?_) (by rfl) (fun W' hS' => ?_) ?_ -- 14
        rotate_left
        · have hB := hS'.a.blk; unfold RoT.cells at hB; rw [HN.out] at hB; have e2 := hB.cell 2; have k1 := (hS'.a.nxt t HN.out).b.cell 1; have p3 := (hS'.b.cell 3).trans (Pdu.c3 _); have hlk := (hS'.a.nxt t HN.out).m.look p.v; rw [HD.out] at hlk; rw [HA.out] at p3; simp only [tbP, List.getElem?_cons_zero, List.getElem?_cons_succ] at e2 k1; clear hB; (go_simp; first | with_reducible rfl | rfl)
        try simp only [Act.put, List.setIfInBounds_toArray, List.set_cons_zero, List.set_cons_succ]
        refine hd_nil ?_
        replace hT := hSW; clear hSW
        refine wpList_nil (NoPanic.normal ?_)
        clear hn ha
        have p3 := (hT.b.cell 3).trans (Pdu.c3 _)
        rw [HA.out] at p3
        go_upto_region 7 with fail
        clear p3
        refine reg_sch2 9 [(true, 0), (true, 1), (true, 2), (true, 3), (true, 4), (true, 5), (true, 6), (true, 7), (true, 8)] (by kernel_rfl) (by kernel_rfl) (RtP w g r bx p) (RtP w g r bx p) ?_ ?_ ?_
        · first | exact hT.drew | exact hT
        · exact fun _ h => h
        intro W hSW
        simp only [List.map_cons, List.map_nil, List.getD_cons_zero, List.getD_cons_succ, List.drop_succ_cons, List.drop_zero]
        refine hd_pure (v := ?_) (by rfl) (fun W' hS' => ?_) ?_ -- 0
        rotate_left
        · have hB := hS'.a.blk; unfold RoT.cells at hB; rw [HN.out] at hB; have e2 := hB.cell 2; have k1 := (hS'.a.nxt t HN.out).b.cell 1; have p3 := (hS'.b.cell 3).trans (Pdu.c3 _); have hlk := (hS'.a.nxt t HN.out).m.look p.v; rw [HD.out] at hlk; rw [HA.out] at p3; simp only [tbP, List.getElem?_cons_zero, List.getElem?_cons_succ] at e2 k1; clear hB; (go_simp; first | with_reducible rfl | rfl)
        try simp only [Act.put, List.setIfInBounds_toArray, List.set_cons_zero, List.set_cons_succ]
        refine hd_pure (v := ?_) (by rfl) (fun W' hS' => ?_) ?_ -- 1
        rotate_left
        · have hB := hS'.a.blk; unfold RoT.cells at hB; rw [HN.out] at hB; have e2 := hB.cell 2; have k1 := (hS'.a.nxt t HN.out).b.cell 1; have p3 := (hS'.b.cell 3).trans (Pdu.c3 _); have hlk := (hS'.a.nxt t HN.out).m.look p.v; rw [HD.out] at hlk; rw [HA.out] at p3; simp only [tbP, List.getElem?_cons_zero, List.getElem?_cons_succ] at e2 k1; clear hB; (go_simp; first | with_reducible rfl | rfl)
        try simp only [Act.put, List.setIfInBounds_toArray, List.set_cons_zero, List.set_cons_succ]
        refine hd_pure (v := ?_) (by rfl) (fun W' hS' => ?_) ?_ -- 2
        rotate_left
        · have hB := hS'.a.blk; unfold RoT.cells at hB; rw [HN.out] at hB; have e2 := hB.cell 2; have k1 := (hS'.a.nxt t HN.out).b.cell 1; have p3 := (hS'.b.cell 3).trans (Pdu.c3 _); have hlk := (hS'.a.nxt t HN.out).m.look p.v; rw [HD.out] at hlk; rw [HA.out] at p3; simp only [tbP, List.getElem?_cons_zero, List.getElem?_cons_succ] at e2 k1; clear hB; (go_simp; first | with_reducible rfl | rfl)
        try simp only [Act.put, List.setIfInBounds_toArray, List.set_cons_zero, List.set_cons_succ]
        refine hd_pure (v := ?_) (by rfl) (fun W' hS' => ?_) ?_ -- 3
        rotate_left
        · have hB := hS'.a.blk; unfold RoT.cells at hB; rw [HN.out] at hB; have e2 := hB.cell 2; have k1 := (hS'.a.nxt t HN.out).b.cell 1; have p3 := (hS'.b.cell 3).trans (Pdu.c3 _); have hlk := (hS'.a.nxt t HN.out).m.look p.v; rw [HD.out] at hlk; rw [HA.out] at p3; simp only [tbP, List.getElem?_cons_zero, List.getElem?_cons_succ] at e2 k1; clear hB; (go_simp; first | with_reducible rfl | rfl)
        try simp only [Act.put, List.setIfInBounds_toArray, List.set_cons_zero, List.set_cons_succ]
        refine hd_pure (v := ?_) (by rfl) (fun W' hS' => ?_) ?_ -- 4
        rotate_left
        · have hB := hS'.a.blk; unfold RoT.cells at hB; rw [HN.out] at hB; have e2 := hB.cell 2; have k1 := (hS'.a.nxt t HN.out).b.cell 1; have p3 := (hS'.b.cell 3).trans (Pdu.c3 _); have hlk := (hS'.a.nxt t HN.out).m.look p.v; rw [HD.out] at hlk; rw [HA.out] at p3; simp only [tbP, List.getElem?_cons_zero, List.getElem?_cons_succ] at e2 k1; clear hB; (go_simp; first | with_reducible rfl | rfl)
        try simp only [Act.put, List.setIfInBounds_toArray, List.set_cons_zero, List.set_cons_succ]
        refine hd_pure (v := ?_) (by rfl) (fun W' hS' => ?_) ?_ -- 5
        rotate_left
        · have hB := hS'.a.blk; unfold RoT.cells at hB; rw [HN.out] at hB; have e2 := hB.cell 2; have k1 := (hS'.a.nxt t HN.out).b.cell 1; have p3 := (hS'.b.cell 3).trans (Pdu.c3 _); have hlk := (hS'.a.nxt t HN.out).m.look p.v; rw [HD.out] at hlk; rw [HA.out] at p3; simp only [tbP, List.getElem?_cons_zero, List.getElem?_cons_succ] at e2 k1; clear hB; (go_simp; first | with_reducible rfl | rfl)
        try simp only [Act.put, List.setIfInBounds_toArray, List.set_cons_zero, List.set_cons_succ]
        refine hd_pure (v := ?_) (by rfl) (fun W' hS' => ?_) ?_ -- 6
        rotate_left
        · have hB := hS'.a.blk; unfold RoT.cells at hB; rw [HN.out] at hB; have e2 := hB.cell 2; have k1 := (hS'.a.nxt t HN.out).b.cell 1; have p3 := (hS'.b.cell 3).trans (Pdu.c3 _); have hlk := (hS'.a.nxt t HN.out).m.look p.v; rw [HD.out] at hlk; rw [HA.out] at p3; simp only [tbP, List.getElem?_cons_zero, List.getElem?_cons_succ] at e2 k1; clear hB; (go_simp; first | with_reducible rfl | rfl)
        try simp only [Act.put, List.setIfInBounds_toArray, List.set_cons_zero, List.set_cons_succ]
        refine hd_pure (v := ?_) (by rfl) (fun W' hS' => ?_) ?_ -- 7
        rotate_left
        · have hB := hS'.a.blk; unfold RoT.cells at hB; rw [HN.out] at hB; have e2 := hB.cell 2; have k1 := (hS'.a.nxt t HN.out).b.cell 1; have p3 := (hS'.b.cell 3).trans (Pdu.c3 _); have hlk := (hS'.a.nxt t HN.out).m.look p.v; rw [HD.out] at hlk; rw [HA.out] at p3; simp only [tbP, List.getElem?_cons_zero, List.getElem?_cons_succ] at e2 k1; clear hB; (go_simp; first | with_reducible rfl | rfl)
        try simp only [Act.put, List.setIfInBounds_toArray, List.set_cons_zero, List.set_cons_succ]
        refine hd_pure (v := .agg p.v.cells.toArray) (by rfl) (fun W' hS' => exec_load_at 27 _ (by rfl) bx 4 20 (by rfl) _ _ hS'.b.pdu_vrp (Vrp.cells_length _) Try.underlying27 rfl info_vrp1) ?_ -- 8
        try simp only [Act.put, List.setIfInBounds_toArray, List.set_cons_zero, List.set_cons_succ]
        refine hd_nil ?_
        replace hT := hSW; clear hSW; obtain ⟨W3, hput, hM3, hG3⟩ := (hT.a.nxt t HN.out).m.put p.v HND.out
        go_wp2_with fail
        refine NoPanic.normal ?_
        go_wp2_with fail
        go_ret
        rw [HE.out]
        exact ⟨_, rfl, hT.a.putMap HN.out hM3 hG3, by simp [RoT.abs, TbV.abs], rfl, rfl, (RFr.below hT.f).trans (RFr.map HN.out hG3)⟩
theorem RoT.asked_of {r : RoT} (h : r.abs.waits = true) : r.asked = true := by
  unfold RoS.waits RoT.abs at h
  cases ha : r.asked
  · simp [ha] at h
  · rfl
set_option maxRecDepth 100000 in
set_option maxHeartbeats 4000000 in
theorem rbegin_any (p : Pdu) (w : World) (g : Nat) (r : RoT) (h : RtA w g r) (hok : r.abs.ok) : Calls Try.prog 89 #[.pointer (some ⟨g, 0, none⟩), p.val] w (TakePost w g r (beginR r.abs p)) := by
  cases hw : r.abs.waits
  · have HE := Lib.hid (show beginR r.abs p = (r.abs, 13) by unfold beginR; rw [hw]; rfl)
    have HW := Lib.hid hw
    clear hw
    simp only [Pdu.val]
    have hT : RtP w g r w.heap.size p (w.alloc (.cells p.cells.toArray 29)) := ⟨h.next ((Below.refl _ _).alloc (Nat.le_refl _) _), Blk.new _ _ _, (Below.refl _ _).alloc (Nat.le_refl _) _⟩
    clear h
    go_enter Try.func89, Try.ntmps89
    go_upto_region 1 with fail
    refine wp_gen (RtP w g r w.heap.size p) hT ?_
    clear hT
    generalize w.heap.size = bx
    intro W hT
    go_wp2_with fail
    refine (rwaits_any W g r hT.a).mono ?_
    rintro e w2 ⟨rfl, rfl⟩
    rw [HW.out]
    go_wp2_with fail
    go_ret
    rw [HE.out]
    exact ⟨r, rfl, hT.a, rfl, rfl, rfl, .below hT.f⟩
  have HW := Lib.hid hw
  by_cases hk : r.kind = 1
  · obtain ⟨t, ht⟩ : ∃ t, r.h = some t := by
      have h1 := hok (RoT.asked_of hw) hk
      cases hh : r.h with
      | none => exact absurd (show r.abs.h = none by unfold RoT.abs; rw [hh]; rfl) h1
      | some t => exact ⟨t, rfl⟩
    have hah : r.abs.h = some (t.sess, t.ks) := by unfold RoT.abs; rw [ht]; rfl
    have hak : r.abs.kind = 1 := hk
    have bk : (r.kind == 1) = true := beq_iff_eq.2 hk
    by_cases hs : p.session = t.sess
    · have HE := fun s m : Nat => Lib.hid (show beginR r.abs p = (({ r with nx := some ⟨s, m, p.session, t.ks⟩ } : RoT).abs, 0) by unfold beginR; rw [hw, hak, hah]; simp [hs, RoT.abs, TbV.abs, ht, hk])
      have bs : (p.session != t.sess) = false := by simp [hs]
      have HT := Lib.hid ht
      clear hw hk hah hak hs ht
      simp only [Pdu.val]
      have hT : RtP w g r w.heap.size p (w.alloc (.cells p.cells.toArray 29)) := ⟨h.next ((Below.refl _ _).alloc (Nat.le_refl _) _), Blk.new _ _ _, (Below.refl _ _).alloc (Nat.le_refl _) _⟩
      clear h
      go_enter Try.func89, Try.ntmps89
      go_upto_region 1 with fail
      refine wp_gen (RtP w g r w.heap.size p) hT ?_
      clear hT
      generalize w.heap.size = bx
      intro W hT
      go_wp2_with fail
      refine (rwaits_any W g r hT.a).mono ?_
      rintro e w2 ⟨rfl, rfl⟩
      rw [HW.out]
      have hmm := @run_makeMap Try.prog
      have hT2 := hT.next ((Below.refl W.heap.size W).alloc (Nat.le_refl _) (.map #[] 0))
      go_upto_region 4 with fail
      refine wp_gen (RtP w g r bx p) hT2 ?_
      clear hT hT2 hmm
      intro W hT
      have c4 := hT.a.blk.cell 4
      simp only [RoT.cells, List.getElem?_cons_zero, List.getElem?_cons_succ] at c4
      go_upto_region 5 with fail
      clear c4
      refine reg_sch2 10 [(true, 0), (true, 1), (true, 2), (true, 3), (true, 4), (true, 5), (true, 6), (true, 7), (true, 8), (true, 9)] (by kernel_rfl) (by kernel_rfl) (RtP w g r bx p) (RtP w g r bx p) ?_ ?_ ?_
      · first | exact hT.drew | exact hT
      · exact fun _ h => h
      intro W hSW
      simp only [List.map_cons, List.map_nil, List.getD_cons_zero, List.getD_cons_succ, List.drop_succ_cons, List.drop_zero]
      refine hd_pure (v := ?_) (by rfl) (fun W' hS' => ?_) ?_ -- 0
      rotate_left
      · have hB := hS'.a.blk; unfold RoT.cells at hB; rw [HT.out] at hB; have e0 := hB.cell 0; have k0 := (hS'.a.has t HT.out).b.cell 0; have p1 := (hS'.b.cell 1).trans (Pdu.c1 _); simp only [tbP, List.getElem?_cons_zero, List.getElem?_cons_succ] at e0 k0; clear hB; (go_simp; first | with_reducible rfl | rfl)
      try simp only [Act.put, List.setIfInBounds_toArray, List.set_cons_zero, List.set_cons_succ]
      refine hd_pure (v := ?_) (by rfl) (fun W' hS' => ?_) ?_ -- 1
      rotate_left
      · have hB := hS'.a.blk; unfold RoT.cells at hB; rw [HT.out] at hB; have e0 := hB.cell 0; have k0 := (hS'.a.has t HT.out).b.cell 0; have p1 := (hS'.b.cell 1).trans (Pdu.c1 _); simp only [tbP, List.getElem?_cons_zero, List.getElem?_cons_succ] at e0 k0; clear hB; (go_simp; first | with_reducible rfl | rfl)
      try simp only [Act.put, List.setIfInBounds_toArray, List.set_cons_zero, List.set_cons_succ]
      refine hd_pure (v := ?_) (by rfl) (fun W' hS' => ?_) ?_ -- 2
      rotate_left
      · have hB := hS'.a.blk; unfold RoT.cells at hB; rw [HT.out] at hB; have e0 := hB.cell 0; have k0 := (hS'.a.has t HT.out).b.cell 0; have p1 := (hS'.b.cell 1).trans (Pdu.c1 _); simp only [tbP, List.getElem?_cons_zero, List.getElem?_cons_succ] at e0 k0; clear hB; (go_simp; first | with_reducible rfl | rfl)
      try simp only [Act.put, List.setIfInBounds_toArray, List.set_cons_zero, List.set_cons_succ]
      refine hd_pure (v := ?_) (by rfl) (fun W' hS' => ?_) ?_ -- 3
      rotate_left
      · have hB := hS'.a.blk; unfold RoT.cells at hB; rw [HT.out] at hB; have e0 := hB.cell 0; have k0 := (hS'.a.has t HT.out).b.cell 0; have p1 := (hS'.b.cell 1).trans (Pdu.c1 _); simp only [tbP, List.getElem?_cons_zero, List.getElem?_cons_succ] at e0 k0; clear hB; (go_simp; first | with_reducible rfl | rfl)
      try simp only [Act.put, List.setIfInBounds_toArray, List.set_cons_zero, List.set_cons_succ]
      refine hd_pure (v := ?_) (by rfl) (fun W' hS' => ?_) ?_ -- 4
      rotate_left
      · have hB := hS'.a.blk; unfold RoT.cells at hB; rw [HT.out] at hB; have e0 := hB.cell 0; have k0 := (hS'.a.has t HT.out).b.cell 0; have p1 := (hS'.b.cell 1).trans (Pdu.c1 _); simp only [tbP, List.getElem?_cons_zero, List.getElem?_cons_succ] at e0 k0; clear hB; (go_simp; first | with_reducible rfl | rfl)
      try simp only [Act.put, List.setIfInBounds_toArray, List.set_cons_zero, List.set_cons_succ]
      refine hd_pure (v := ?_) (by rfl) (fun W' hS' => ?_) ?_ -- 5
      rotate_left
      · have hB := hS'.a.blk; unfold RoT.cells at hB; rw [HT.out] at hB; have e0 := hB.cell 0; have k0 := (hS'.a.has t HT.out).b.cell 0; have p1 := (hS'.b.cell 1).trans (Pdu.c1 _); simp only [tbP, List.getElem?_cons_zero, List.getElem?_cons_succ] at e0 k0; clear hB; (go_simp; first | with_reducible rfl | rfl)
      try simp only [Act.put, List.setIfInBounds_toArray, List.set_cons_zero, List.set_cons_succ]
      refine hd_pure (v := ?_) (by rfl) (fun W' hS' => ?_) ?_ -- 6
      rotate_left
      · have hB := hS'.a.blk; unfold RoT.cells at hB; rw [HT.out] at hB; have e0 := hB.cell 0; have k0 := (hS'.a.has t HT.out).b.cell 0; have p1 := (hS'.b.cell 1).trans (Pdu.c1 _); simp only [tbP, List.getElem?_cons_zero, List.getElem?_cons_succ] at e0 k0; clear hB; (go_simp; first | with_reducible rfl | rfl)
      try simp only [Act.put, List.setIfInBounds_toArray, List.set_cons_zero, List.set_cons_succ]
      refine hd_pure (v := ?_) (by rfl) (fun W' hS' => ?_) ?_ -- 7
      rotate_left
      · have hB := hS'.a.blk; unfold RoT.cells at hB; rw [HT.out] at hB; have e0 := hB.cell 0; have k0 := (hS'.a.has t HT.out).b.cell 0; have p1 := (hS'.b.cell 1).trans (Pdu.c1 _); simp only [tbP, List.getElem?_cons_zero, List.getElem?_cons_succ] at e0 k0; clear hB; (go_simp; first | with_reducible rfl | rfl)
      try simp only [Act.put, List.setIfInBounds_toArray, List.set_cons_zero, List.set_cons_succ]
      refine hd_pure (v := ?_) (by rfl) (fun W' hS' => ?_) ?_ -- 8
      rotate_left
      · have hB := hS'.a.blk; unfold RoT.cells at hB; rw [HT.out] at hB; have e0 := hB.cell 0; have k0 := (hS'.a.has t HT.out).b.cell 0; have p1 := (hS'.b.cell 1).trans (Pdu.c1 _); simp only [tbP, List.getElem?_cons_zero, List.getElem?_cons_succ] at e0 k0; clear hB; (go_simp; first | with_reducible rfl | rfl)
      try simp only [Act.put, List.setIfInBounds_toArray, List.set_cons_zero, List.set_cons_succ]
      refine hd_pure (v := ?_) (by rfl) (fun W' hS' => ?_) ?_ -- 9
      rotate_left
      · have hB := hS'.a.blk; unfold RoT.cells at hB; rw [HT.out] at hB; have e0 := hB.cell 0; have k0 := (hS'.a.has t HT.out).b.cell 0; have p1 := (hS'.b.cell 1).trans (Pdu.c1 _); simp only [tbP, List.getElem?_cons_zero, List.getElem?_cons_succ] at e0 k0; clear hB; (go_simp; first | with_reducible rfl | rfl)
      try simp only [Act.put, List.setIfInBounds_toArray, List.set_cons_zero, List.set_cons_succ]
      refine hd_nil ?_
      replace hT := hSW; clear hSW
      refine wpList_nil (NoPanic.normal ?_)
      have hta := hT.a.has t HT.out
      have c0 := hT.a.blk.cell 0
      have k1 := hta.b.cell 1
      simp only [RoT.cells, HT.out, tbP, List.getElem?_cons_zero, List.getElem?_cons_succ] at c0 k1
      go_upto_region 7 with fail
      go_wp2_with fail
      refine (mclone_any W t.m t.ks hta.m).mono ?_
      rintro e w3 ⟨rfl, hM3, hb3⟩
      have hge := hT.f.size
      have hlt : ∀ t', r.h = some t' → t'.m ≠ W.heap.size := fun t' ht' e => by have := (hT.a.has t' ht').m.lt; omega
      have hT3 := hT.next hb3
      clear hT hta c0 k1 hb3
      generalize W.heap.size = m at hlt hge hM3
      have c0 := hT3.a.blk.cell 0
      have c1 := hT3.a.blk.cell 1
      have c2 := hT3.a.blk.cell 2
      have c3 := hT3.a.blk.cell 3
      have c4 := hT3.a.blk.cell 4
      have c5 := hT3.a.blk.cell 5
      have c6 := hT3.a.blk.cell 6
      have f0 := hT3.a.blk.frozen 0
      have f1 := hT3.a.blk.frozen 1
      have f2 := hT3.a.blk.frozen 2
      have f3 := hT3.a.blk.frozen 3
      have f4 := hT3.a.blk.frozen 4
      have f5 := hT3.a.blk.frozen 5
      have f6 := hT3.a.blk.frozen 6
      simp only [RoT.cells, tbP, List.getElem?_cons_zero, List.getElem?_cons_succ] at c0 c1 c2 c3 c4 c5 c6
      have p1 := (hT3.b.cell 1).trans (Pdu.c1 _)
      have hT4 := hT3.next ((Below.refl w3.heap.size w3).alloc (Nat.le_refl _) (.cells #[.int .i64 p.session, .map (some m)] 95))
      have hB4 := Blk.new w3 95 [.int .i64 p.session, .map (some m)]
      have d2 := hT4.a.blk.cell 2
      have g2 := hT4.a.blk.frozen 2
      simp only [RoT.cells, List.getElem?_cons_zero, List.getElem?_cons_succ] at d2
      have hM4 := hM3.below ((Below.refl w3.heap.size w3).alloc (Nat.le_refl _) (.cells #[.int .i64 p.session, .map (some m)] 95))
      go_wp2_with fail
      go_ret
      rw [(HE w3.heap.size m).out]
      exact ⟨_, rfl, hT4.a.setNext ⟨w3.heap.size, m, p.session, t.ks⟩ ⟨hB4, hM4⟩ hlt, rfl, rfl, rfl, RFr.fresh hT4.f hge⟩
    · have HE := Lib.hid (show beginR r.abs p = (r.abs, 12) by unfold beginR; rw [hw, hak, hah]; simp [hs])
      have bs : (p.session != t.sess) = true := by simp [hs]
      have HT := Lib.hid ht
      clear hw hk hah hak hs ht
      simp only [Pdu.val]
      have hT : RtP w g r w.heap.size p (w.alloc (.cells p.cells.toArray 29)) := ⟨h.next ((Below.refl _ _).alloc (Nat.le_refl _) _), Blk.new _ _ _, (Below.refl _ _).alloc (Nat.le_refl _) _⟩
      clear h
      go_enter Try.func89, Try.ntmps89
      go_upto_region 1 with fail
      refine wp_gen (RtP w g r w.heap.size p) hT ?_
      clear hT
      generalize w.heap.size = bx
      intro W hT
      go_wp2_with fail
      refine (rwaits_any W g r hT.a).mono ?_
      rintro e w2 ⟨rfl, rfl⟩
      rw [HW.out]
      have hmm := @run_makeMap Try.prog
      have hT2 := hT.next ((Below.refl W.heap.size W).alloc (Nat.le_refl _) (.map #[] 0))
      go_upto_region 4 with fail
      refine wp_gen (RtP w g r bx p) hT2 ?_
      clear hT hT2 hmm
      intro W hT
      have c4 := hT.a.blk.cell 4
      simp only [RoT.cells, List.getElem?_cons_zero, List.getElem?_cons_succ] at c4
      go_upto_region 5 with fail
      clear c4
      refine reg_sch2 10 [(true, 0), (true, 1), (true, 2), (true, 3), (true, 4), (true, 5), (true, 6), (true, 7), (true, 8), (true, 9)] (by kernel_rfl) (by kernel_rfl) (RtP w g r bx p) (RtP w g r bx p) ?_ ?_ ?_
      · first | exact hT.drew | exact hT
      · exact fun _ h => h
      intro W hSW
      simp only [List.map_cons, List.map_nil, List.getD_cons_zero, List.getD_cons_succ, List.drop_succ_cons, List.drop_zero]
      refine hd_pure (v := ?_) (by rfl) (fun W' hS' => ?_) ?_ -- 0
      rotate_left
      · have hB := hS'.a.blk; unfold RoT.cells at hB; rw [HT.out] at hB; have e0 := hB.cell 0; have k0 := (hS'.a.has t HT.out).b.cell 0; have p1 := (hS'.b.cell 1).trans (Pdu.c1 _); simp only [tbP, List.getElem?_cons_zero, List.getElem?_cons_succ] at e0 k0; clear hB; (go_simp; first | with_reducible rfl | rfl)
      try simp only [Act.put, List.setIfInBounds_toArray, List.set_cons_zero, List.set_cons_succ]
      refine hd_pure (v := ?_) (by rfl) (fun W' hS' => ?_) ?_ -- 1
      rotate_left
      · have hB := hS'.a.blk; unfold RoT.cells at hB; rw [HT.out] at hB; have e0 := hB.cell 0; have k0 := (hS'.a.has t HT.out).b.cell 0; have p1 := (hS'.b.cell 1).trans (Pdu.c1 _); simp only [tbP, List.getElem?_cons_zero, List.getElem?_cons_succ] at e0 k0; clear hB; (go_simp; first | with_reducible rfl | rfl)
      try simp only [Act.put, List.setIfInBounds_toArray, List.set_cons_zero, List.set_cons_succ]
      refine hd_pure (v := ?_) (by rfl) (fun W' hS' => ?_) ?_ -- 2
      rotate_left
      · have hB := hS'.a.blk; unfold RoT.cells at hB; rw [HT.out] at hB; have e0 := hB.cell 0; have k0 := (hS'.a.has t HT.out).b.cell 0; have p1 := (hS'.b.cell 1).trans (Pdu.c1 _); simp only [tbP, List.getElem?_cons_zero, List.getElem?_cons_succ] at e0 k0; clear hB; (go_simp; first | with_reducible rfl | rfl)
      try simp only [Act.put, List.setIfInBounds_toArray, List.set_cons_zero, List.set_cons_succ]
      refine hd_pure (v := ?_) (by rfl) (fun W' hS' => ?_) ?_ -- 3
      rotate_left
      · have hB := hS'.a.blk; unfold RoT.cells at hB; rw [HT.out] at hB; have e0 := hB.cell 0; have k0 := (hS'.a.has t HT.out).b.cell 0; have p1 := (hS'.b.cell 1).trans (Pdu.c1 _); simp only [tbP, List.getElem?_cons_zero, List.getElem?_cons_succ] at e0 k0; clear hB; (go_simp; first | with_reducible rfl | rfl)
      try simp only [Act.put, List.setIfInBounds_toArray, List.set_cons_zero, List.set_cons_succ]
      refine hd_pure (v := ?_) (by rfl) (fun W' hS' => ?_) ?_ -- 4
      rotate_left
      · have hB := hS'.a.blk; unfold RoT.cells at hB; rw [HT.out] at hB; have e0 := hB.cell 0; have k0 := (hS'.a.has t HT.out).b.cell 0; have p1 := (hS'.b.cell 1).trans (Pdu.c1 _); simp only [tbP, List.getElem?_cons_zero, List.getElem?_cons_succ] at e0 k0; clear hB; (go_simp; first | with_reducible rfl | rfl)
      try simp only [Act.put, List.setIfInBounds_toArray, List.set_cons_zero, List.set_cons_succ]
      refine hd_pure (v := ?_) (by rfl) (fun W' hS' => ?_) ?_ -- 5
      rotate_left
      · have hB := hS'.a.blk; unfold RoT.cells at hB; rw [HT.out] at hB; have e0 := hB.cell 0; have k0 := (hS'.a.has t HT.out).b.cell 0; have p1 := (hS'.b.cell 1).trans (Pdu.c1 _); simp only [tbP, List.getElem?_cons_zero, List.getElem?_cons_succ] at e0 k0; clear hB; (go_simp; first | with_reducible rfl | rfl)
      try simp only [Act.put, List.setIfInBounds_toArray, List.set_cons_zero, List.set_cons_succ]
      refine hd_pure (v := ?_) (by rfl) (fun W' hS' => ?_) ?_ -- 6
      rotate_left
      · have hB := hS'.a.blk; unfold RoT.cells at hB; rw [HT.out] at hB; have e0 := hB.cell 0; have k0 := (hS'.a.has t HT.out).b.cell 0; have p1 := (hS'.b.cell 1).trans (Pdu.c1 _); simp only [tbP, List.getElem?_cons_zero, List.getElem?_cons_succ] at e0 k0; clear hB; (go_simp; first | with_reducible rfl | rfl)
      try simp only [Act.put, List.setIfInBounds_toArray, List.set_cons_zero, List.set_cons_succ]
      refine hd_pure (v := ?_) (by rfl) (fun W' hS' => ?_) ?_ -- 7
      rotate_left
      · have hB := hS'.a.blk; unfold RoT.cells at hB; rw [HT.out] at hB; have e0 := hB.cell 0; have k0 := (hS'.a.has t HT.out).b.cell 0; have p1 := (hS'.b.cell 1).trans (Pdu.c1 _); simp only [tbP, List.getElem?_cons_zero, List.getElem?_cons_succ] at e0 k0; clear hB; (go_simp; first | with_reducible rfl | rfl)
      try simp only [Act.put, List.setIfInBounds_toArray, List.set_cons_zero, List.set_cons_succ]
      refine hd_pure (v := ?_) (by rfl) (fun W' hS' => ?_) ?_ -- 8
      rotate_left
      · have hB := hS'.a.blk; unfold RoT.cells at hB; rw [HT.out] at hB; have e0 := hB.cell 0; have k0 := (hS'.a.has t HT.out).b.cell 0; have p1 := (hS'.b.cell 1).trans (Pdu.c1 _); simp only [tbP, List.getElem?_cons_zero, List.getElem?_cons_succ] at e0 k0; clear hB; (go_simp; first | with_reducible rfl | rfl)
      try simp only [Act.put, List.setIfInBounds_toArray, List.set_cons_zero, List.set_cons_succ]
      refine hd_pure (v := ?_) (by rfl) (fun W' hS' => ?_) ?_ -- 9
      rotate_left
      · have hB := hS'.a.blk; unfold RoT.cells at hB; rw [HT.out] at hB; have e0 := hB.cell 0; have k0 := (hS'.a.has t HT.out).b.cell 0; have p1 := (hS'.b.cell 1).trans (Pdu.c1 _); simp only [tbP, List.getElem?_cons_zero, List.getElem?_cons_succ] at e0 k0; clear hB; (go_simp; first | with_reducible rfl | rfl)
      try simp only [Act.put, List.setIfInBounds_toArray, List.set_cons_zero, List.set_cons_succ]
      refine hd_nil ?_
      replace hT := hSW; clear hSW
      refine wpList_nil (NoPanic.normal ?_)
      go_wp2_with fail
      go_ret
      rw [HE.out]
      exact ⟨r, rfl, hT.a, rfl, rfl, rfl, .below hT.f⟩
  · have HE := fun s m : Nat => Lib.hid (show beginR r.abs p = (({ r with nx := some ⟨s, m, p.session, []⟩ } : RoT).abs, 0) by unfold beginR; rw [hw]; simp [hk, RoT.abs, TbV.abs])
    have bk : (r.kind == 1) = false := beq_eq_false_iff_ne.2 hk
    clear hw hk
    simp only [Pdu.val]
    have hT : RtP w g r w.heap.size p (w.alloc (.cells p.cells.toArray 29)) := ⟨h.next ((Below.refl _ _).alloc (Nat.le_refl _) _), Blk.new _ _ _, (Below.refl _ _).alloc (Nat.le_refl _) _⟩
    clear h
    go_enter Try.func89, Try.ntmps89
    go_upto_region 1 with fail
    refine wp_gen (RtP w g r w.heap.size p) hT ?_
    clear hT
    generalize w.heap.size = bx
    intro W hT
    go_wp2_with fail
    refine (rwaits_any W g r hT.a).mono ?_
    rintro e w2 ⟨rfl, rfl⟩
    rw [HW.out]
    have hmm := @run_makeMap Try.prog
    have hT2 := hT.next ((Below.refl W.heap.size W).alloc (Nat.le_refl _) (.map #[] 0))
    have hM := MapV.new W _ rfl
    have hlt : ∀ t', r.h = some t' → t'.m ≠ W.heap.size := fun t' ht' e => by have := (hT.a.has t' ht').m.lt; omega
    have hge := hT.f.size
    go_upto_region 4 with fail
    refine wp_gen (fun W2 => RtP w g r bx p W2 ∧ MapV W2 W.heap.size []) ⟨hT2, hM⟩ ?_
    clear hT hT2 hmm hM
    generalize W.heap.size = m at hlt hge
    rintro W2 ⟨hT, hM⟩
    have c0 := hT.a.blk.cell 0
    have c1 := hT.a.blk.cell 1
    have c2 := hT.a.blk.cell 2
    have c3 := hT.a.blk.cell 3
    have c4 := hT.a.blk.cell 4
    have c5 := hT.a.blk.cell 5
    have c6 := hT.a.blk.cell 6
    have f0 := hT.a.blk.frozen 0
    have f1 := hT.a.blk.frozen 1
    have f2 := hT.a.blk.frozen 2
    have f3 := hT.a.blk.frozen 3
    have f4 := hT.a.blk.frozen 4
    have f5 := hT.a.blk.frozen 5
    have f6 := hT.a.blk.frozen 6
    simp only [RoT.cells, tbP, List.getElem?_cons_zero, List.getElem?_cons_succ] at c0 c1 c2 c3 c4 c5 c6
    have p1 := (hT.b.cell 1).trans (Pdu.c1 _)
    have hT4 := hT.next ((Below.refl W2.heap.size W2).alloc (Nat.le_refl _) (.cells #[.int .i64 p.session, .map (some m)] 95))
    have hB4 := Blk.new W2 95 [.int .i64 p.session, .map (some m)]
    have d2 := hT4.a.blk.cell 2
    have g2 := hT4.a.blk.frozen 2
    simp only [RoT.cells, List.getElem?_cons_zero, List.getElem?_cons_succ] at d2
    have hM4 := hM.below ((Below.refl W2.heap.size W2).alloc (Nat.le_refl _) (.cells #[.int .i64 p.session, .map (some m)] 95))
    go_wp2_with fail
    go_ret
    rw [(HE W2.heap.size m).out]
    exact ⟨_, rfl, hT4.a.setNext ⟨W2.heap.size, m, p.session, []⟩ ⟨hB4, hM4⟩ hlt, rfl, rfl, rfl, RFr.fresh hT4.f hge⟩
end Go.Proofs.Ytmoldmnhijcckaa
/- router's take, Ask. -/
set_option linter.unusedVariables false
set_option linter.unusedSectionVars false
set_option linter.unusedSimpArgs false
namespace Go.Proofs.Ytmoldmnhijcckaa
open Go.RowKit
theorem TakePost.from {w W w' : World} {g : Nat} {r : RoT} {s : RoS × Int} {e : Ending} (hb : Below w.heap.size w W) (h : TakePost W g r s e w') : TakePost w g r s e w' := by
  obtain ⟨r', h1, h2, h3, h4, h5, h6⟩ := h
  exact ⟨r', h1, h2, h3, h4, h5, (RFr.below hb).trans h6⟩
set_option maxRecDepth 100000 in
set_option maxHeartbeats 8000000 in
theorem rtake_any (p : Pdu) (w : World) (g : Nat) (r : RoT) (h : RtA w g r) (hok : r.abs.ok) : Calls Try.prog 77 #[.pointer (some ⟨g, 0, none⟩), p.val] w (TakePost w g r (takeR r.abs p)) := by
  by_cases k0 : p.kind = 0
  · have HT := Lib.hid (show takeR r.abs p = (r.abs, 0) by unfold takeR; rw [if_pos k0])
    have b0 : (p.kind == 0) = true := beq_iff_eq.2 k0
    clear k0
    simp only [Pdu.val]
    have hT : RtP w g r w.heap.size p (w.alloc (.cells p.cells.toArray 29)) := ⟨h.next ((Below.refl _ _).alloc (Nat.le_refl _) _), Blk.new _ _ _, (Below.refl _ _).alloc (Nat.le_refl _) _⟩
    clear h
    go_enter Try.func77, Try.ntmps77
    go_upto_region 1 with fail
    refine wp_gen (RtP w g r w.heap.size p) hT ?_
    clear hT
    generalize w.heap.size = bx
    intro W hT
    have c0 := (hT.b.cell 0).trans (Pdu.c0 _)
    go_wp2_with fail
    go_ret
    rw [HT.out]
    exact ⟨r, rfl, hT.a, rfl, rfl, rfl, .below hT.f⟩
  have b0 : (p.kind == 0) = false := beq_eq_false_iff_ne.2 k0
  by_cases k3 : p.kind = 3
  · have HT := Lib.hid (show takeR r.abs p = beginR r.abs p by unfold takeR; rw [if_neg k0, if_pos k3])
    have b3 : (p.kind == 3) = true := beq_iff_eq.2 k3
    clear k0 k3
    simp only [Pdu.val]
    have hT : RtP w g r w.heap.size p (w.alloc (.cells p.cells.toArray 29)) := ⟨h.next ((Below.refl _ _).alloc (Nat.le_refl _) _), Blk.new _ _ _, (Below.refl _ _).alloc (Nat.le_refl _) _⟩
    clear h
    go_enter Try.func77, Try.ntmps77
    go_upto_region 1 with fail
    refine wp_gen (RtP w g r w.heap.size p) hT ?_
    clear hT
    generalize w.heap.size = bx
    intro W hT
    have c0 := (hT.b.cell 0).trans (Pdu.c0 _)
    have hxr := hT.b.range
    go_wp2_with (refine wpList_load_at rfl 29 _ rfl bx 0 26 rfl _ _ hxr (Pdu.cells_length _) Try.underlying29 rfl info_pdu ?_)
    refine (rbegin_any p W g r hT.a hok).mono ?_
    rintro e w2 hP
    replace hP := hP.from hT.f
    rw [← HT.out] at hP
    clear hT hxr c0
    obtain ⟨r', rfl, hP⟩ := hP
    go_wp2_with fail
    go_ret
    exact ⟨r', rfl, hP⟩
  have b3 : (p.kind == 3) = false := beq_eq_false_iff_ne.2 k3
  by_cases k4 : p.kind = 4
  · have HT := Lib.hid (show takeR r.abs p = changeR r.abs p by unfold takeR; rw [if_neg k0, if_neg k3, if_pos (.inl k4)])
    have b4 : (p.kind == 4) = true := beq_iff_eq.2 k4
    clear k0 k3 k4
    simp only [Pdu.val]
    have hT : RtP w g r w.heap.size p (w.alloc (.cells p.cells.toArray 29)) := ⟨h.next ((Below.refl _ _).alloc (Nat.le_refl _) _), Blk.new _ _ _, (Below.refl _ _).alloc (Nat.le_refl _) _⟩
    clear h
    go_enter Try.func77, Try.ntmps77
    go_upto_region 1 with fail
    refine wp_gen (RtP w g r w.heap.size p) hT ?_
    clear hT
    generalize w.heap.size = bx
    intro W hT
    have c0 := (hT.b.cell 0).trans (Pdu.c0 _)
    have hxr := hT.b.range
    go_wp2_with (refine wpList_load_at rfl 29 _ rfl bx 0 26 rfl _ _ hxr (Pdu.cells_length _) Try.underlying29 rfl info_pdu ?_)
    refine (rchange_any p W g r hT.a).mono ?_
    rintro e w2 hP
    replace hP := hP.from hT.f
    rw [← HT.out] at hP
    clear hT hxr c0
    obtain ⟨r', rfl, hP⟩ := hP
    go_wp2_with fail
    go_ret
    exact ⟨r', rfl, hP⟩
  have b4 : (p.kind == 4) = false := beq_eq_false_iff_ne.2 k4
  by_cases k6 : p.kind = 6
  · have HT := Lib.hid (show takeR r.abs p = changeR r.abs p by unfold takeR; rw [if_neg k0, if_neg k3, if_pos (.inr k6)])
    have b6 : (p.kind == 6) = true := beq_iff_eq.2 k6
    clear k0 k3 k4 k6
    simp only [Pdu.val]
    have hT : RtP w g r w.heap.size p (w.alloc (.cells p.cells.toArray 29)) := ⟨h.next ((Below.refl _ _).alloc (Nat.le_refl _) _), Blk.new _ _ _, (Below.refl _ _).alloc (Nat.le_refl _) _⟩
    clear h
    go_enter Try.func77, Try.ntmps77
    go_upto_region 1 with fail
    refine wp_gen (RtP w g r w.heap.size p) hT ?_
    clear hT
    generalize w.heap.size = bx
    intro W hT
    have c0 := (hT.b.cell 0).trans (Pdu.c0 _)
    have hxr := hT.b.range
    go_wp2_with (refine wpList_load_at rfl 29 _ rfl bx 0 26 rfl _ _ hxr (Pdu.cells_length _) Try.underlying29 rfl info_pdu ?_)
    refine (rchange_any p W g r hT.a).mono ?_
    rintro e w2 hP
    replace hP := hP.from hT.f
    rw [← HT.out] at hP
    clear hT hxr c0
    obtain ⟨r', rfl, hP⟩ := hP
    go_wp2_with fail
    go_ret
    exact ⟨r', rfl, hP⟩
  have b6 : (p.kind == 6) = false := beq_eq_false_iff_ne.2 k6
  have k46 : ¬ (p.kind = 4 ∨ p.kind = 6) := fun h => h.elim k4 k6
  by_cases k7 : p.kind = 7
  · have HT := Lib.hid (show takeR r.abs p = endR r.abs p by unfold takeR; rw [if_neg k0, if_neg k3, if_neg k46, if_pos k7])
    have b7 : (p.kind == 7) = true := beq_iff_eq.2 k7
    clear k0 k3 k4 k6 k7 k46
    simp only [Pdu.val]
    have hT : RtP w g r w.heap.size p (w.alloc (.cells p.cells.toArray 29)) := ⟨h.next ((Below.refl _ _).alloc (Nat.le_refl _) _), Blk.new _ _ _, (Below.refl _ _).alloc (Nat.le_refl _) _⟩
    clear h
    go_enter Try.func77, Try.ntmps77
    go_upto_region 1 with fail
    refine wp_gen (RtP w g r w.heap.size p) hT ?_
    clear hT
    generalize w.heap.size = bx
    intro W hT
    have c0 := (hT.b.cell 0).trans (Pdu.c0 _)
    have hxr := hT.b.range
    go_wp2_with (refine wpList_load_at rfl 29 _ rfl bx 0 26 rfl _ _ hxr (Pdu.cells_length _) Try.underlying29 rfl info_pdu ?_)
    refine (rend_any p W g r hT.a).mono ?_
    rintro e w2 hP
    replace hP := hP.from hT.f
    rw [← HT.out] at hP
    clear hT hxr c0
    obtain ⟨r', rfl, hP⟩ := hP
    go_wp2_with fail
    go_ret
    exact ⟨r', rfl, hP⟩
  have b7 : (p.kind == 7) = false := beq_eq_false_iff_ne.2 k7
  by_cases k8 : p.kind = 8
  · have b8 : (p.kind == 8) = true := beq_iff_eq.2 k8
    have HT0 := Lib.hid (show takeR r.abs p = (if r.abs.waits = false then (r.abs, 13) else ({ r.abs with h := none, asked := false }, 0)) by unfold takeR; rw [if_neg k0, if_neg k3, if_neg k46, if_neg k7, if_pos k8])
    clear k0 k3 k4 k6 k7 k46 k8
    cases hw : r.abs.waits
    · have HT := Lib.hid (show takeR r.abs p = (r.abs, 13) by rw [HT0.out, if_pos hw])
      have HW := Lib.hid hw
      clear hw HT0
      simp only [Pdu.val]
      have hT : RtP w g r w.heap.size p (w.alloc (.cells p.cells.toArray 29)) := ⟨h.next ((Below.refl _ _).alloc (Nat.le_refl _) _), Blk.new _ _ _, (Below.refl _ _).alloc (Nat.le_refl _) _⟩
      clear h
      go_enter Try.func77, Try.ntmps77
      go_upto_region 1 with fail
      refine wp_gen (RtP w g r w.heap.size p) hT ?_
      clear hT
      generalize w.heap.size = bx
      intro W hT
      have c0 := (hT.b.cell 0).trans (Pdu.c0 _)
      go_wp2_with fail
      refine (rwaits_any W g r hT.a).mono ?_
      rintro e w2 ⟨rfl, rfl⟩
      rw [HW.out]
      go_wp2_with fail
      go_ret
      rw [HT.out]
      exact ⟨r, rfl, hT.a, rfl, rfl, rfl, .below hT.f⟩
    · have HT := Lib.hid (show takeR r.abs p = (({ r with h := none, asked := false } : RoT).abs, 0) by rw [HT0.out, if_neg (by rw [hw]; decide)]; rfl)
      have HW := Lib.hid hw
      clear hw HT0
      simp only [Pdu.val]
      have hT : RtP w g r w.heap.size p (w.alloc (.cells p.cells.toArray 29)) := ⟨h.next ((Below.refl _ _).alloc (Nat.le_refl _) _), Blk.new _ _ _, (Below.refl _ _).alloc (Nat.le_refl _) _⟩
      clear h
      go_enter Try.func77, Try.ntmps77
      go_upto_region 1 with fail
      refine wp_gen (RtP w g r w.heap.size p) hT ?_
      clear hT
      generalize w.heap.size = bx
      intro W hT
      have c0 := (hT.b.cell 0).trans (Pdu.c0 _)
      go_wp2_with fail
      refine (rwaits_any W g r hT.a).mono ?_
      rintro e w2 ⟨rfl, rfl⟩
      rw [HW.out]
      have c1 := hT.a.blk.cell 0
      have f1 := hT.a.blk.frozen 0
      have hA1 := hT.a.noHas
      have c3 := hA1.blk.cell 3
      have f3 := hA1.blk.frozen 3
      simp only [RoT.cells, List.getElem?_cons_zero, List.getElem?_cons_succ] at c1 c3
      go_wp2_with fail
      go_ret
      rw [HT.out]
      have hF1 : RFr W (W.setCell ⟨g, 0, none⟩ (.pointer none)) g r { r with h := none } := RFr.cell (fun t ht => by rcases ht with ht | ht; cases ht; exact .inr ht) (fun t ht => ht)
      have hF2 : RFr (W.setCell ⟨g, 0, none⟩ (.pointer none)) ((W.setCell ⟨g, 0, none⟩ (.pointer none)).setCell ⟨g, 3, none⟩ (.bool false)) g { r with h := none } { r with h := none, asked := false } := RFr.same rfl rfl
      exact ⟨{ r with h := none, asked := false }, rfl, hA1.setAsked false, rfl, rfl, rfl, ((RFr.below hT.f).trans hF1).trans hF2⟩
  have b8 : (p.kind == 8) = false := beq_eq_false_iff_ne.2 k8
  by_cases k10 : p.kind = 10
  · have b10 : (p.kind == 10) = true := beq_iff_eq.2 k10
    have HT0 := Lib.hid (show takeR r.abs p = (if p.code = 2 ∧ r.abs.waits = true then ({ r.abs with asked := false }, 0) else (r.abs, 2)) by unfold takeR; rw [if_neg k0, if_neg k3, if_neg k46, if_neg k7, if_neg k8, if_pos k10])
    clear k0 k3 k4 k6 k7 k46 k8 k10
    by_cases hc : p.code = 2
    · have bc : (p.code == 2) = true := beq_iff_eq.2 hc
      cases hw : r.abs.waits
      · have HT := Lib.hid (show takeR r.abs p = (r.abs, 2) by rw [HT0.out, if_neg (by rw [hw]; simp)])
        have HW := Lib.hid hw
        clear hw HT0 hc
        simp only [Pdu.val]
        have hT : RtP w g r w.heap.size p (w.alloc (.cells p.cells.toArray 29)) := ⟨h.next ((Below.refl _ _).alloc (Nat.le_refl _) _), Blk.new _ _ _, (Below.refl _ _).alloc (Nat.le_refl _) _⟩
        clear h
        go_enter Try.func77, Try.ntmps77
        go_upto_region 1 with fail
        refine wp_gen (RtP w g r w.heap.size p) hT ?_
        clear hT
        generalize w.heap.size = bx
        intro W hT
        have c0 := (hT.b.cell 0).trans (Pdu.c0 _)
        have c24 := (hT.b.cell 24).trans (Pdu.c24 _)
        go_wp2_with fail
        refine (rwaits_any W g r hT.a).mono ?_
        rintro e w2 ⟨rfl, rfl⟩
        rw [HW.out]
        go_wp2_with fail
        go_ret
        rw [HT.out]
        exact ⟨r, rfl, hT.a, rfl, rfl, rfl, .below hT.f⟩
      · have HT := Lib.hid (show takeR r.abs p = (({ r with asked := false } : RoT).abs, 0) by rw [HT0.out, if_pos ⟨hc, hw⟩]; rfl)
        have HW := Lib.hid hw
        clear hw HT0 hc
        simp only [Pdu.val]
        have hT : RtP w g r w.heap.size p (w.alloc (.cells p.cells.toArray 29)) := ⟨h.next ((Below.refl _ _).alloc (Nat.le_refl _) _), Blk.new _ _ _, (Below.refl _ _).alloc (Nat.le_refl _) _⟩
        clear h
        go_enter Try.func77, Try.ntmps77
        go_upto_region 1 with fail
        refine wp_gen (RtP w g r w.heap.size p) hT ?_
        clear hT
        generalize w.heap.size = bx
        intro W hT
        have c0 := (hT.b.cell 0).trans (Pdu.c0 _)
        have c24 := (hT.b.cell 24).trans (Pdu.c24 _)
        go_wp2_with fail
        refine (rwaits_any W g r hT.a).mono ?_
        rintro e w2 ⟨rfl, rfl⟩
        rw [HW.out]
        have c3 := hT.a.blk.cell 3
        have f3 := hT.a.blk.frozen 3
        simp only [RoT.cells, List.getElem?_cons_zero, List.getElem?_cons_succ] at c3
        go_wp2_with fail
        go_ret
        rw [HT.out]
        exact ⟨_, rfl, hT.a.setAsked false, rfl, rfl, rfl, (RFr.below hT.f).trans (RFr.same rfl rfl)⟩
    · have bc : (p.code == 2) = false := beq_eq_false_iff_ne.2 hc
      have HT := Lib.hid (show takeR r.abs p = (r.abs, 2) by rw [HT0.out, if_neg (fun h => hc h.1)])
      clear HT0 hc
      simp only [Pdu.val]
      have hT : RtP w g r w.heap.size p (w.alloc (.cells p.cells.toArray 29)) := ⟨h.next ((Below.refl _ _).alloc (Nat.le_refl _) _), Blk.new _ _ _, (Below.refl _ _).alloc (Nat.le_refl _) _⟩
      clear h
      go_enter Try.func77, Try.ntmps77
      go_upto_region 1 with fail
      refine wp_gen (RtP w g r w.heap.size p) hT ?_
      clear hT
      generalize w.heap.size = bx
      intro W hT
      have c0 := (hT.b.cell 0).trans (Pdu.c0 _)
      have c24 := (hT.b.cell 24).trans (Pdu.c24 _)
      go_wp2_with fail
      go_ret
      rw [HT.out]
      exact ⟨r, rfl, hT.a, rfl, rfl, rfl, .below hT.f⟩
  have b10 : (p.kind == 10) = false := beq_eq_false_iff_ne.2 k10
  have HT := Lib.hid (show takeR r.abs p = (r.abs, 2) by unfold takeR; rw [if_neg k0, if_neg k3, if_neg k46, if_neg k7, if_neg k8, if_neg k10])
  clear k0 k3 k4 k6 k7 k46 k8 k10
  simp only [Pdu.val]
  have hT : RtP w g r w.heap.size p (w.alloc (.cells p.cells.toArray 29)) := ⟨h.next ((Below.refl _ _).alloc (Nat.le_refl _) _), Blk.new _ _ _, (Below.refl _ _).alloc (Nat.le_refl _) _⟩
  clear h
  go_enter Try.func77, Try.ntmps77
  go_upto_region 1 with fail
  refine wp_gen (RtP w g r w.heap.size p) hT ?_
  clear hT
  generalize w.heap.size = bx
  intro W hT
  have c0 := (hT.b.cell 0).trans (Pdu.c0 _)
  go_wp2_with fail
  go_ret
  rw [HT.out]
  exact ⟨r, rfl, hT.a, rfl, rfl, rfl, .below hT.f⟩
end Go.Proofs.Ytmoldmnhijcckaa
/- router's Ask, through, Take. -/
set_option linter.unusedVariables false
set_option linter.unusedSectionVars false
set_option linter.unusedSimpArgs false
namespace Go.Proofs.Ytmoldmnhijcckaa
open Go.RowKit
theorem own_mapV_ne {w : World} {b : Nat} {ks : List Vrp} (h : MapV w b ks) {base n size : Nat} {t : TypeId} {u : Value} {xs : List Value} (hu : w.ownsRow base t size u n xs) : u.ownBlock ≠ some b := by
  intro hk
  obtain ⟨l, m, hh, _⟩ := h
  rcases hu.2 with ⟨rfl, _⟩ | ⟨g', cap, cur, rfl, _, hh', _⟩
  · simp [Value.ownBlock] at hk
  · have : g' = b := by simpa [Value.ownBlock] using hk
    subst this
    rw [hh] at hh'
    cases hh'
/-- A row of another kind is kept by a router's step. -/
theorem RFr.row {B C : World} {g : Nat} {r r1 : RoT} (k : RFr B C g r r1) (hA : RtA B g r) {base n size : Nat} {t : TypeId} {u : Value} {xs : List Value} (hu : B.ownsRow base t size u n xs) (ht : t ≠ 91) : C.ownsRow base t size u n xs :=
  own_kept hu fun i hi => k.keep i (own_base_le hu i hi).2 (fun e => own_blk_ne hu hA.blk ht (by rw [← e]; exact hi)) (fun t' ht' e => own_mapV_ne (hA.nxt t' ht').m hu (by rw [← e]; exact hi))
structure AskP (w : World) (g : Nat) (r : RoT) (bx : Nat) (p : Pdu) (W : World) : Prop where
  a : RtA W g r
  b : Blk W bx 29 p.cells
set_option maxRecDepth 100000 in
set_option maxHeartbeats 4000000 in
theorem rask_any (w : World) (g : Nat) (r : RoT) (h : RtA w g r) : Calls Try.prog 24 #[.pointer (some ⟨g, 0, none⟩)] w fun e w' => ∃ A c r', e = .returned (.slice A (askQ r.q).2.length c) ∧ Reads w' w'.heap.size 1 A (askQ r.q).2.length ((askQ r.q).2.map bv) ∧ RtA w' g r' ∧ r'.q = (askQ r.q).1 ∧ RFr w w' g r r' := by
  have c6 := h.blk.cell 6
  have c0 := h.blk.cell 0
  simp only [RoT.cells, List.getElem?_cons_zero, List.getElem?_cons_succ] at c6 c0
  cases hb : r.broken
  · cases hh : r.h with
    | none =>
      have HQ := Lib.hid (show askQ r.q = (({ r with asked := true, kind := 2, nx := none, lf := ⟨none, 0, []⟩ } : RoT).q, wrD (pdS 2 0 0 0)) by simp [askQ, RoT.q, RoT.abs, hb, hh])
      have hh0 := hh
      rw [hb] at c6
      clear hh
      have hT : RtP w g r w.heap.size (pdS 2 0 0 0) ((w.alloc (.cells (bareL 0).toArray 29)).setCells w.heap.size 0 (pdS 2 0 0 0).cells) := ⟨h.next (Below.setCells (Nat.le_refl _) _ _ ((Below.refl _ _).alloc (Nat.le_refl _) _)), (Blk.new _ _ _).setCells_all (Pdu.cells_length _), Below.setCells (Nat.le_refl _) _ _ ((Below.refl _ _).alloc (Nat.le_refl _) _)⟩
      have hbx := Nat.le_refl w.heap.size
      have HH := Lib.hid hh0
      clear c0 hh0
      go_enter Try.func24, Try.ntmps24
      go_upto_region 4 with (refine wpList_store_at rfl 29 _ _ rfl w.heap.size 0 26 29 (pdS 2 0 0 0).cells (bareL 0) rfl rfl (Blk.new _ _ _) (Pdu.cells_length _) (by decide) info_pdu (Pdu.one _) ?_)
      refine wp_gen (RtP w g r w.heap.size (pdS 2 0 0 0)) hT ?_
      clear hT c6
      obtain ⟨bx, hbx'⟩ : ∃ bx, bx = w.heap.size := ⟨_, rfl⟩
      rw [← hbx']
      have HBX := Lib.hid (show w.heap.size ≤ bx by omega)
      clear hbx hbx'
      intro W hT
      have c0 := hT.a.blk.cell 0
      simp only [RoT.cells, HH.out, tbP, List.getElem?_cons_zero] at c0
      go_upto_region 6 with fail
      refine reg_sch2 17 [(true, 0), (true, 1), (true, 2), (true, 3), (true, 4), (true, 5), (true, 6), (true, 7), (false, 8), (true, 9), (true, 10), (false, 11), (true, 12), (true, 13), (false, 14), (true, 15), (true, 16)] (by kernel_rfl) (by kernel_rfl) (fun W => (∃ b k v, Blk W g 91 [tbP r.h, .int .u32 r.sn.toNat, v, .bool b, .int .i64 k, r.lf.val, .bool r.broken]) ∧ Blk W bx 29 (pdS 2 0 0 0).cells) (RtP w g r bx (pdS 2 0 0 0)) ?_ ?_ ?_
      · first | exact hT.drew | exact hT
      · exact fun W h => ⟨⟨_, _, _, h.a.blk⟩, h.b⟩
      intro W hSW
      simp only [List.map_cons, List.map_nil, List.getD_cons_zero, List.getD_cons_succ, List.drop_succ_cons, List.drop_zero]
      refine hd_pure (v := ?_) (by rfl) (fun W' hS' => ?_) ?_ -- 0
      rotate_left
      · have p0 := (hS'.2.cell 0).trans (Pdu.c0 _); simp only [pdS] at p0; clear hS'; (go_simp; first | with_reducible rfl | rfl)
      try simp only [Act.put, List.setIfInBounds_toArray, List.set_cons_zero, List.set_cons_succ]
      refine hd_pure (v := ?_) (by rfl) (fun W' hS' => ?_) ?_ -- 1
      rotate_left
      · have p0 := (hS'.2.cell 0).trans (Pdu.c0 _); simp only [pdS] at p0; clear hS'; (go_simp; first | with_reducible rfl | rfl)
      try simp only [Act.put, List.setIfInBounds_toArray, List.set_cons_zero, List.set_cons_succ]
      refine hd_pure (v := ?_) (by rfl) (fun W' hS' => ?_) ?_ -- 2
      rotate_left
      · have p0 := (hS'.2.cell 0).trans (Pdu.c0 _); simp only [pdS] at p0; clear hS'; (go_simp; first | with_reducible rfl | rfl)
      try simp only [Act.put, List.setIfInBounds_toArray, List.set_cons_zero, List.set_cons_succ]
      refine hd_pure (v := ?_) (by rfl) (fun W' hS' => ?_) ?_ -- 3
      rotate_left
      · have p0 := (hS'.2.cell 0).trans (Pdu.c0 _); simp only [pdS] at p0; clear hS'; (go_simp; first | with_reducible rfl | rfl)
      try simp only [Act.put, List.setIfInBounds_toArray, List.set_cons_zero, List.set_cons_succ]
      refine hd_pure (v := ?_) (by rfl) (fun W' hS' => ?_) ?_ -- 4
      rotate_left
      · have p0 := (hS'.2.cell 0).trans (Pdu.c0 _); simp only [pdS] at p0; clear hS'; (go_simp; first | with_reducible rfl | rfl)
      try simp only [Act.put, List.setIfInBounds_toArray, List.set_cons_zero, List.set_cons_succ]
      refine hd_pure (v := ?_) (by rfl) (fun W' hS' => ?_) ?_ -- 5
      rotate_left
      · have p0 := (hS'.2.cell 0).trans (Pdu.c0 _); simp only [pdS] at p0; clear hS'; (go_simp; first | with_reducible rfl | rfl)
      try simp only [Act.put, List.setIfInBounds_toArray, List.set_cons_zero, List.set_cons_succ]
      refine hd_pure (v := ?_) (by rfl) (fun W' hS' => ?_) ?_ -- 6
      rotate_left
      · have p0 := (hS'.2.cell 0).trans (Pdu.c0 _); simp only [pdS] at p0; clear hS'; (go_simp; first | with_reducible rfl | rfl)
      try simp only [Act.put, List.setIfInBounds_toArray, List.set_cons_zero, List.set_cons_succ]
      refine hd_pure (v := ?_) (by rfl) (fun W' hS' => ?_) ?_ -- 7
      rotate_left
      · have p0 := (hS'.2.cell 0).trans (Pdu.c0 _); simp only [pdS] at p0; clear hS'; (go_simp; first | with_reducible rfl | rfl)
      try simp only [Act.put, List.setIfInBounds_toArray, List.set_cons_zero, List.set_cons_succ]
      refine hd_sole (by rfl) (fun K hK => ?_) -- 8
      have e3 := hSW.a.blk.cell 3; have f3 := hSW.a.blk.frozen 3; simp only [RoT.cells, List.getElem?_cons_zero, List.getElem?_cons_succ] at e3
      go_simp
      clear e3 f3
      have hR1 := hSW.a.setAsked true; have hX1 := hSW.b.far (p := ⟨g, 3, none⟩) (blk_typ_ne hSW.b hSW.a.blk (by decide)) (.bool true)
      refine hK _ _ (⟨⟨_, _, _, hR1.blk⟩, hX1⟩) ?_
      clear hK K
      intro hSW8
      try simp only [Act.put, List.setIfInBounds_toArray, List.set_cons_zero, List.set_cons_succ]
      refine hd_pure (v := ?_) (by rfl) (fun W' hS' => ?_) ?_ -- 9
      rotate_left
      · have p0 := (hS'.2.cell 0).trans (Pdu.c0 _); simp only [pdS] at p0; clear hS'; (go_simp; first | with_reducible rfl | rfl)
      try simp only [Act.put, List.setIfInBounds_toArray, List.set_cons_zero, List.set_cons_succ]
      refine hd_pure (v := ?_) (by rfl) (fun W' hS' => ?_) ?_ -- 10
      rotate_left
      · have p0 := (hS'.2.cell 0).trans (Pdu.c0 _); simp only [pdS] at p0; clear hS'; (go_simp; first | with_reducible rfl | rfl)
      try simp only [Act.put, List.setIfInBounds_toArray, List.set_cons_zero, List.set_cons_succ]
      refine hd_sole (by rfl) (fun K hK => ?_) -- 11
      have e4 := hR1.blk.cell 4; have f4 := hR1.blk.frozen 4; simp only [RoT.cells, List.getElem?_cons_zero, List.getElem?_cons_succ] at e4
      go_simp
      clear e4 f4
      have hR2 := hR1.setKind (2); have hX2 := hX1.far (p := ⟨g, 4, none⟩) (blk_typ_ne hX1 hR1.blk (by decide)) (.int .i64 (2))
      refine hK _ _ (⟨⟨_, _, _, hR2.blk⟩, hX2⟩) ?_
      clear hK K
      intro hSW11
      try simp only [Act.put, List.setIfInBounds_toArray, List.set_cons_zero, List.set_cons_succ]
      refine hd_pure (v := ?_) (by rfl) (fun W' hS' => ?_) ?_ -- 12
      rotate_left
      · have p0 := (hS'.2.cell 0).trans (Pdu.c0 _); simp only [pdS] at p0; clear hS'; (go_simp; first | with_reducible rfl | rfl)
      try simp only [Act.put, List.setIfInBounds_toArray, List.set_cons_zero, List.set_cons_succ]
      refine hd_pure (v := ?_) (by rfl) (fun W' hS' => ?_) ?_ -- 13
      rotate_left
      · have p0 := (hS'.2.cell 0).trans (Pdu.c0 _); simp only [pdS] at p0; clear hS'; (go_simp; first | with_reducible rfl | rfl)
      try simp only [Act.put, List.setIfInBounds_toArray, List.set_cons_zero, List.set_cons_succ]
      refine hd_sole (by rfl) (fun K hK => ?_) -- 14
      have e2 := hR2.blk.cell 2; have f2 := hR2.blk.frozen 2; simp only [RoT.cells, List.getElem?_cons_zero, List.getElem?_cons_succ] at e2
      go_simp
      clear e2 f2
      have hR3 := hR2.noNext; have hX3 := hX2.far (p := ⟨g, 2, none⟩) (blk_typ_ne hX2 hR2.blk (by decide)) (.pointer none)
      refine hK _ _ (⟨⟨_, _, _, hR3.blk⟩, hX3⟩) ?_
      clear hK K
      intro hSW14
      try simp only [Act.put, List.setIfInBounds_toArray, List.set_cons_zero, List.set_cons_succ]
      refine hd_pure (v := ?_) (by rfl) (fun W' hS' => ?_) ?_ -- 15
      rotate_left
      · have p0 := (hS'.2.cell 0).trans (Pdu.c0 _); simp only [pdS] at p0; clear hS'; (go_simp; first | with_reducible rfl | rfl)
      try simp only [Act.put, List.setIfInBounds_toArray, List.set_cons_zero, List.set_cons_succ]
      refine hd_pure (v := ?_) (by rfl) (fun W' hS' => ?_) ?_ -- 16
      rotate_left
      · have p0 := (hS'.2.cell 0).trans (Pdu.c0 _); simp only [pdS] at p0; clear hS'; (go_simp; first | with_reducible rfl | rfl)
      try simp only [Act.put, List.setIfInBounds_toArray, List.set_cons_zero, List.set_cons_succ]
      refine hd_nil ?_
      have e5 := hR3.blk.cell 5; have f5 := hR3.blk.frozen 5; simp only [RoT.cells, List.getElem?_cons_zero, List.getElem?_cons_succ] at e5
      go_wp2_with fail
      refine NoPanic.normal ?_
      have hR4 := hR3.setLeft ⟨none, 0, []⟩ ⟨Reads.nil, Nat.le_refl _⟩
      have hX4 := hX3.far (p := ⟨g, 5, none⟩) (blk_typ_ne hX3 hR3.blk (by decide)) (Lf.val ⟨none, 0, []⟩)
      have hG1 : RFr W (W.setCell ⟨g, 3, none⟩ (.bool true)) g r { r with asked := true } := RFr.same rfl rfl
      have hG2 : RFr (W.setCell ⟨g, 3, none⟩ (.bool true)) ((W.setCell ⟨g, 3, none⟩ (.bool true)).setCell ⟨g, 4, none⟩ (.int .i64 (2))) g { r with asked := true } { r with asked := true, kind := 2 } := RFr.same rfl rfl
      have hG3 : RFr ((W.setCell ⟨g, 3, none⟩ (.bool true)).setCell ⟨g, 4, none⟩ (.int .i64 (2))) (((W.setCell ⟨g, 3, none⟩ (.bool true)).setCell ⟨g, 4, none⟩ (.int .i64 (2))).setCell ⟨g, 2, none⟩ (.pointer none)) g { r with asked := true, kind := 2 } { r with asked := true, kind := 2, nx := none } := RFr.cell (fun t ht => ht.elim .inl (fun h => by cases h)) (fun t ht => by cases ht)
      have hG4 : RFr (((W.setCell ⟨g, 3, none⟩ (.bool true)).setCell ⟨g, 4, none⟩ (.int .i64 (2))).setCell ⟨g, 2, none⟩ (.pointer none)) ((((W.setCell ⟨g, 3, none⟩ (.bool true)).setCell ⟨g, 4, none⟩ (.int .i64 (2))).setCell ⟨g, 2, none⟩ (.pointer none)).setCell ⟨g, 5, none⟩ (Lf.val ⟨none, 0, []⟩)) g { r with asked := true, kind := 2, nx := none } { r with asked := true, kind := 2, nx := none, lf := ⟨none, 0, []⟩ } := RFr.same rfl rfl
      have hF4 := ((((RFr.below (r := r) (g := g) hSW.f).trans hG1).trans hG2).trans hG3).trans hG4
      clear hG1 hG2 hG3 hG4
      go_upto_region 7 with fail
      refine wp_gen (fun W2 => (RtA W2 g { r with asked := true, kind := 2, nx := none, lf := ⟨none, 0, []⟩ } ∧ RFr w W2 g r { r with asked := true, kind := 2, nx := none, lf := ⟨none, 0, []⟩ }) ∧ Blk W2 bx 29 (pdS 2 0 0 0).cells) ⟨⟨hR4, hF4⟩, hX4⟩ ?_
      clear hSW hSW8 hSW11 hSW14 hR1 hR2 hR3 hR4 hX1 hX2 hX3 hX4 hF4 e5 f5
      rintro W2 ⟨⟨hR, hF⟩, hX⟩
      have hxr := hX.range
      go_wp2_with (refine wpList_load_at rfl 29 _ rfl bx 0 26 rfl _ _ hxr (Pdu.cells_length _) Try.underlying29 rfl info_pdu ?_)
      refine (write_d (pdS 2 0 0 0) W2).mono ?_
      rintro e w5 ⟨A5, c5, x5, rfl, hrd, hb5⟩
      have hR5 := hR.next hb5
      have hF5 := hF.then hb5
      clear hR hF hX hxr hb5
      go_wp2_with fail
      go_ret
      rw [HQ.out]
      exact ⟨A5, c5, _, rfl, hrd, hR5, rfl, hF5⟩
    | some t =>
      have HQ := Lib.hid (show askQ r.q = (({ r with asked := true, kind := 1, nx := none, lf := ⟨none, 0, []⟩ } : RoT).q, wrD (pdS 1 t.sess r.sn 0)) by simp [askQ, RoT.q, RoT.abs, TbV.abs, hb, hh])
      have hh0 := hh
      rw [hb] at c6
      clear hh
      have hT : RtP w g r w.heap.size (pdS 2 0 0 0) ((w.alloc (.cells (bareL 0).toArray 29)).setCells w.heap.size 0 (pdS 2 0 0 0).cells) := ⟨h.next (Below.setCells (Nat.le_refl _) _ _ ((Below.refl _ _).alloc (Nat.le_refl _) _)), (Blk.new _ _ _).setCells_all (Pdu.cells_length _), Below.setCells (Nat.le_refl _) _ _ ((Below.refl _ _).alloc (Nat.le_refl _) _)⟩
      have hbx := Nat.le_refl w.heap.size
      have HH := Lib.hid hh0
      clear c0 hh0
      go_enter Try.func24, Try.ntmps24
      go_upto_region 4 with (refine wpList_store_at rfl 29 _ _ rfl w.heap.size 0 26 29 (pdS 2 0 0 0).cells (bareL 0) rfl rfl (Blk.new _ _ _) (Pdu.cells_length _) (by decide) info_pdu (Pdu.one _) ?_)
      refine wp_gen (RtP w g r w.heap.size (pdS 2 0 0 0)) hT ?_
      clear hT c6
      obtain ⟨bx, hbx'⟩ : ∃ bx, bx = w.heap.size := ⟨_, rfl⟩
      rw [← hbx']
      have HBX := Lib.hid (show w.heap.size ≤ bx by omega)
      clear hbx hbx'
      intro W hT
      have c0 := hT.a.blk.cell 0
      simp only [RoT.cells, HH.out, tbP, List.getElem?_cons_zero] at c0
      go_upto_region 5 with fail
      clear c0
      refine reg_sch2 12 [(true, 0), (true, 1), (true, 2), (true, 3), (true, 4), (true, 5), (true, 6), (true, 7), (true, 8), (true, 9), (true, 10), (true, 11)] (by kernel_rfl) (by kernel_rfl) (RtP w g r bx (pdS 2 0 0 0)) (RtP w g r bx (pdS 2 0 0 0)) ?_ ?_ ?_
      · first | exact hT.drew | exact hT
      · exact fun _ h => h
      intro W hSW
      simp only [List.map_cons, List.map_nil, List.getD_cons_zero, List.getD_cons_succ, List.drop_succ_cons, List.drop_zero]
      refine hd_pure (v := ?_) (by rfl) (fun W' hS' => ?_) ?_ -- 0
      rotate_left
      · have hB := hS'.a.blk; unfold RoT.cells at hB; rw [HH.out] at hB; have e0 := hB.cell 0; have e1 := hB.cell 1; have k0 := (hS'.a.has t HH.out).b.cell 0; simp only [tbP, List.getElem?_cons_zero, List.getElem?_cons_succ] at e0 e1 k0; clear hB; (go_simp; first | with_reducible rfl | rfl)
      try simp only [Act.put, List.setIfInBounds_toArray, List.set_cons_zero, List.set_cons_succ]
      refine hd_pure (v := ?_) (by rfl) (fun W' hS' => ?_) ?_ -- 1
      rotate_left
      · have hB := hS'.a.blk; unfold RoT.cells at hB; rw [HH.out] at hB; have e0 := hB.cell 0; have e1 := hB.cell 1; have k0 := (hS'.a.has t HH.out).b.cell 0; simp only [tbP, List.getElem?_cons_zero, List.getElem?_cons_succ] at e0 e1 k0; clear hB; (go_simp; first | with_reducible rfl | rfl)
      try simp only [Act.put, List.setIfInBounds_toArray, List.set_cons_zero, List.set_cons_succ]
      refine hd_pure (v := ?_) (by rfl) (fun W' hS' => ?_) ?_ -- 2
      rotate_left
      · have hB := hS'.a.blk; unfold RoT.cells at hB; rw [HH.out] at hB; have e0 := hB.cell 0; have e1 := hB.cell 1; have k0 := (hS'.a.has t HH.out).b.cell 0; simp only [tbP, List.getElem?_cons_zero, List.getElem?_cons_succ] at e0 e1 k0; clear hB; (go_simp; first | with_reducible rfl | rfl)
      try simp only [Act.put, List.setIfInBounds_toArray, List.set_cons_zero, List.set_cons_succ]
      refine hd_pure (v := ?_) (by rfl) (fun W' hS' => ?_) ?_ -- 3
      rotate_left
      · have hB := hS'.a.blk; unfold RoT.cells at hB; rw [HH.out] at hB; have e0 := hB.cell 0; have e1 := hB.cell 1; have k0 := (hS'.a.has t HH.out).b.cell 0; simp only [tbP, List.getElem?_cons_zero, List.getElem?_cons_succ] at e0 e1 k0; clear hB; (go_simp; first | with_reducible rfl | rfl)
      try simp only [Act.put, List.setIfInBounds_toArray, List.set_cons_zero, List.set_cons_succ]
      refine hd_pure (v := ?_) (by rfl) (fun W' hS' => ?_) ?_ -- 4
      rotate_left
      · have hB := hS'.a.blk; unfold RoT.cells at hB; rw [HH.out] at hB; have e0 := hB.cell 0; have e1 := hB.cell 1; have k0 := (hS'.a.has t HH.out).b.cell 0; simp only [tbP, List.getElem?_cons_zero, List.getElem?_cons_succ] at e0 e1 k0; clear hB; (go_simp; first | with_reducible rfl | rfl)
      try simp only [Act.put, List.setIfInBounds_toArray, List.set_cons_zero, List.set_cons_succ]
      refine hd_pure (v := ?_) (by rfl) (fun W' hS' => ?_) ?_ -- 5
      rotate_left
      · have hB := hS'.a.blk; unfold RoT.cells at hB; rw [HH.out] at hB; have e0 := hB.cell 0; have e1 := hB.cell 1; have k0 := (hS'.a.has t HH.out).b.cell 0; simp only [tbP, List.getElem?_cons_zero, List.getElem?_cons_succ] at e0 e1 k0; clear hB; (go_simp; first | with_reducible rfl | rfl)
      try simp only [Act.put, List.setIfInBounds_toArray, List.set_cons_zero, List.set_cons_succ]
      refine hd_pure (v := ?_) (by rfl) (fun W' hS' => ?_) ?_ -- 6
      rotate_left
      · have hB := hS'.a.blk; unfold RoT.cells at hB; rw [HH.out] at hB; have e0 := hB.cell 0; have e1 := hB.cell 1; have k0 := (hS'.a.has t HH.out).b.cell 0; simp only [tbP, List.getElem?_cons_zero, List.getElem?_cons_succ] at e0 e1 k0; clear hB; (go_simp; first | with_reducible rfl | rfl)
      try simp only [Act.put, List.setIfInBounds_toArray, List.set_cons_zero, List.set_cons_succ]
      refine hd_pure (v := ?_) (by rfl) (fun W' hS' => ?_) ?_ -- 7
      rotate_left
      · have hB := hS'.a.blk; unfold RoT.cells at hB; rw [HH.out] at hB; have e0 := hB.cell 0; have e1 := hB.cell 1; have k0 := (hS'.a.has t HH.out).b.cell 0; simp only [tbP, List.getElem?_cons_zero, List.getElem?_cons_succ] at e0 e1 k0; clear hB; (go_simp; first | with_reducible rfl | rfl)
      try simp only [Act.put, List.setIfInBounds_toArray, List.set_cons_zero, List.set_cons_succ]
      refine hd_pure (v := ?_) (by rfl) (fun W' hS' => ?_) ?_ -- 8
      rotate_left
      · have hB := hS'.a.blk; unfold RoT.cells at hB; rw [HH.out] at hB; have e0 := hB.cell 0; have e1 := hB.cell 1; have k0 := (hS'.a.has t HH.out).b.cell 0; simp only [tbP, List.getElem?_cons_zero, List.getElem?_cons_succ] at e0 e1 k0; clear hB; (go_simp; first | with_reducible rfl | rfl)
      try simp only [Act.put, List.setIfInBounds_toArray, List.set_cons_zero, List.set_cons_succ]
      refine hd_pure (v := ?_) (by rfl) (fun W' hS' => ?_) ?_ -- 9
      rotate_left
      · have hB := hS'.a.blk; unfold RoT.cells at hB; rw [HH.out] at hB; have e0 := hB.cell 0; have e1 := hB.cell 1; have k0 := (hS'.a.has t HH.out).b.cell 0; simp only [tbP, List.getElem?_cons_zero, List.getElem?_cons_succ] at e0 e1 k0; clear hB; (go_simp; first | with_reducible rfl | rfl)
      try simp only [Act.put, List.setIfInBounds_toArray, List.set_cons_zero, List.set_cons_succ]
      refine hd_pure (v := ?_) (by rfl) (fun W' hS' => ?_) ?_ -- 10
      rotate_left
      · have hB := hS'.a.blk; unfold RoT.cells at hB; rw [HH.out] at hB; have e0 := hB.cell 0; have e1 := hB.cell 1; have k0 := (hS'.a.has t HH.out).b.cell 0; simp only [tbP, List.getElem?_cons_zero, List.getElem?_cons_succ] at e0 e1 k0; clear hB; (go_simp; first | with_reducible rfl | rfl)
      try simp only [Act.put, List.setIfInBounds_toArray, List.set_cons_zero, List.set_cons_succ]
      refine hd_pure (v := ?_) (by rfl) (fun W' hS' => ?_) ?_ -- 11
      rotate_left
      · have hB := hS'.a.blk; unfold RoT.cells at hB; rw [HH.out] at hB; have e0 := hB.cell 0; have e1 := hB.cell 1; have k0 := (hS'.a.has t HH.out).b.cell 0; simp only [tbP, List.getElem?_cons_zero, List.getElem?_cons_succ] at e0 e1 k0; clear hB; (go_simp; first | with_reducible rfl | rfl)
      try simp only [Act.put, List.setIfInBounds_toArray, List.set_cons_zero, List.set_cons_succ]
      refine hd_nil ?_
      replace hT := hSW; clear hSW; have hXb := hT.b
      go_wp2_with (refine wpList_store_at rfl 29 _ _ rfl bx 0 26 29 (pdS 1 t.sess r.sn 0).cells _ rfl rfl hXb (Pdu.cells_length _) (by rw [Pdu.cells_length]; decide) info_pdu (Pdu.one _) ?_)
      refine NoPanic.normal ?_
      have hf5 := Below.setCells HBX.out (pdS 1 t.sess r.sn 0).cells 0 hT.f
      have hT5 : RtP w g r bx (pdS 1 t.sess r.sn 0) (W.setCells bx 0 (pdS 1 t.sess r.sn 0).cells) := ⟨h.next hf5, hXb.setCells_all (by rw [Pdu.cells_length, Pdu.cells_length]), hf5⟩
      go_upto_region 6 with fail
      refine wp_gen (RtP w g r bx (pdS 1 t.sess r.sn 0)) hT5 ?_
      clear hT hT5 hf5 hXb
      intro W hT
      go_upto_region 6 with fail
      refine reg_sch2 17 [(true, 0), (true, 1), (true, 2), (true, 3), (true, 4), (true, 5), (true, 6), (true, 7), (false, 8), (true, 9), (true, 10), (false, 11), (true, 12), (true, 13), (false, 14), (true, 15), (true, 16)] (by kernel_rfl) (by kernel_rfl) (fun W => (∃ b k v, Blk W g 91 [tbP r.h, .int .u32 r.sn.toNat, v, .bool b, .int .i64 k, r.lf.val, .bool r.broken]) ∧ Blk W bx 29 (pdS 1 t.sess r.sn 0).cells) (RtP w g r bx (pdS 1 t.sess r.sn 0)) ?_ ?_ ?_
      · first | exact hT.drew | exact hT
      · exact fun W h => ⟨⟨_, _, _, h.a.blk⟩, h.b⟩
      intro W hSW
      simp only [List.map_cons, List.map_nil, List.getD_cons_zero, List.getD_cons_succ, List.drop_succ_cons, List.drop_zero]
      refine hd_pure (v := ?_) (by rfl) (fun W' hS' => ?_) ?_ -- 0
      rotate_left
      · have p0 := (hS'.2.cell 0).trans (Pdu.c0 _); simp only [pdS] at p0; clear hS'; (go_simp; first | with_reducible rfl | rfl)
      try simp only [Act.put, List.setIfInBounds_toArray, List.set_cons_zero, List.set_cons_succ]
      refine hd_pure (v := ?_) (by rfl) (fun W' hS' => ?_) ?_ -- 1
      rotate_left
      · have p0 := (hS'.2.cell 0).trans (Pdu.c0 _); simp only [pdS] at p0; clear hS'; (go_simp; first | with_reducible rfl | rfl)
      try simp only [Act.put, List.setIfInBounds_toArray, List.set_cons_zero, List.set_cons_succ]
      refine hd_pure (v := ?_) (by rfl) (fun W' hS' => ?_) ?_ -- 2
      rotate_left
      · have p0 := (hS'.2.cell 0).trans (Pdu.c0 _); simp only [pdS] at p0; clear hS'; (go_simp; first | with_reducible rfl | rfl)
      try simp only [Act.put, List.setIfInBounds_toArray, List.set_cons_zero, List.set_cons_succ]
      refine hd_pure (v := ?_) (by rfl) (fun W' hS' => ?_) ?_ -- 3
      rotate_left
      · have p0 := (hS'.2.cell 0).trans (Pdu.c0 _); simp only [pdS] at p0; clear hS'; (go_simp; first | with_reducible rfl | rfl)
      try simp only [Act.put, List.setIfInBounds_toArray, List.set_cons_zero, List.set_cons_succ]
      refine hd_pure (v := ?_) (by rfl) (fun W' hS' => ?_) ?_ -- 4
      rotate_left
      · have p0 := (hS'.2.cell 0).trans (Pdu.c0 _); simp only [pdS] at p0; clear hS'; (go_simp; first | with_reducible rfl | rfl)
      try simp only [Act.put, List.setIfInBounds_toArray, List.set_cons_zero, List.set_cons_succ]
      refine hd_pure (v := ?_) (by rfl) (fun W' hS' => ?_) ?_ -- 5
      rotate_left
      · have p0 := (hS'.2.cell 0).trans (Pdu.c0 _); simp only [pdS] at p0; clear hS'; (go_simp; first | with_reducible rfl | rfl)
      try simp only [Act.put, List.setIfInBounds_toArray, List.set_cons_zero, List.set_cons_succ]
      refine hd_pure (v := ?_) (by rfl) (fun W' hS' => ?_) ?_ -- 6
      rotate_left
      · have p0 := (hS'.2.cell 0).trans (Pdu.c0 _); simp only [pdS] at p0; clear hS'; (go_simp; first | with_reducible rfl | rfl)
      try simp only [Act.put, List.setIfInBounds_toArray, List.set_cons_zero, List.set_cons_succ]
      refine hd_pure (v := ?_) (by rfl) (fun W' hS' => ?_) ?_ -- 7
      rotate_left
      · have p0 := (hS'.2.cell 0).trans (Pdu.c0 _); simp only [pdS] at p0; clear hS'; (go_simp; first | with_reducible rfl | rfl)
      try simp only [Act.put, List.setIfInBounds_toArray, List.set_cons_zero, List.set_cons_succ]
      refine hd_sole (by rfl) (fun K hK => ?_) -- 8
      have e3 := hSW.a.blk.cell 3; have f3 := hSW.a.blk.frozen 3; simp only [RoT.cells, List.getElem?_cons_zero, List.getElem?_cons_succ] at e3
      go_simp
      clear e3 f3
      have hR1 := hSW.a.setAsked true; have hX1 := hSW.b.far (p := ⟨g, 3, none⟩) (blk_typ_ne hSW.b hSW.a.blk (by decide)) (.bool true)
      refine hK _ _ (⟨⟨_, _, _, hR1.blk⟩, hX1⟩) ?_
      clear hK K
      intro hSW8
      try simp only [Act.put, List.setIfInBounds_toArray, List.set_cons_zero, List.set_cons_succ]
      refine hd_pure (v := ?_) (by rfl) (fun W' hS' => ?_) ?_ -- 9
      rotate_left
      · have p0 := (hS'.2.cell 0).trans (Pdu.c0 _); simp only [pdS] at p0; clear hS'; (go_simp; first | with_reducible rfl | rfl)
      try simp only [Act.put, List.setIfInBounds_toArray, List.set_cons_zero, List.set_cons_succ]
      refine hd_pure (v := ?_) (by rfl) (fun W' hS' => ?_) ?_ -- 10
      rotate_left
      · have p0 := (hS'.2.cell 0).trans (Pdu.c0 _); simp only [pdS] at p0; clear hS'; (go_simp; first | with_reducible rfl | rfl)
      try simp only [Act.put, List.setIfInBounds_toArray, List.set_cons_zero, List.set_cons_succ]
      refine hd_sole (by rfl) (fun K hK => ?_) -- 11
      have e4 := hR1.blk.cell 4; have f4 := hR1.blk.frozen 4; simp only [RoT.cells, List.getElem?_cons_zero, List.getElem?_cons_succ] at e4
      go_simp
      clear e4 f4
      have hR2 := hR1.setKind (1); have hX2 := hX1.far (p := ⟨g, 4, none⟩) (blk_typ_ne hX1 hR1.blk (by decide)) (.int .i64 (1))
      refine hK _ _ (⟨⟨_, _, _, hR2.blk⟩, hX2⟩) ?_
      clear hK K
      intro hSW11
      try simp only [Act.put, List.setIfInBounds_toArray, List.set_cons_zero, List.set_cons_succ]
      refine hd_pure (v := ?_) (by rfl) (fun W' hS' => ?_) ?_ -- 12
      rotate_left
      · have p0 := (hS'.2.cell 0).trans (Pdu.c0 _); simp only [pdS] at p0; clear hS'; (go_simp; first | with_reducible rfl | rfl)
      try simp only [Act.put, List.setIfInBounds_toArray, List.set_cons_zero, List.set_cons_succ]
      refine hd_pure (v := ?_) (by rfl) (fun W' hS' => ?_) ?_ -- 13
      rotate_left
      · have p0 := (hS'.2.cell 0).trans (Pdu.c0 _); simp only [pdS] at p0; clear hS'; (go_simp; first | with_reducible rfl | rfl)
      try simp only [Act.put, List.setIfInBounds_toArray, List.set_cons_zero, List.set_cons_succ]
      refine hd_sole (by rfl) (fun K hK => ?_) -- 14
      have e2 := hR2.blk.cell 2; have f2 := hR2.blk.frozen 2; simp only [RoT.cells, List.getElem?_cons_zero, List.getElem?_cons_succ] at e2
      go_simp
      clear e2 f2
      have hR3 := hR2.noNext; have hX3 := hX2.far (p := ⟨g, 2, none⟩) (blk_typ_ne hX2 hR2.blk (by decide)) (.pointer none)
      refine hK _ _ (⟨⟨_, _, _, hR3.blk⟩, hX3⟩) ?_
      clear hK K
      intro hSW14
      try simp only [Act.put, List.setIfInBounds_toArray, List.set_cons_zero, List.set_cons_succ]
      refine hd_pure (v := ?_) (by rfl) (fun W' hS' => ?_) ?_ -- 15
      rotate_left
      · have p0 := (hS'.2.cell 0).trans (Pdu.c0 _); simp only [pdS] at p0; clear hS'; (go_simp; first | with_reducible rfl | rfl)
      try simp only [Act.put, List.setIfInBounds_toArray, List.set_cons_zero, List.set_cons_succ]
      refine hd_pure (v := ?_) (by rfl) (fun W' hS' => ?_) ?_ -- 16
      rotate_left
      · have p0 := (hS'.2.cell 0).trans (Pdu.c0 _); simp only [pdS] at p0; clear hS'; (go_simp; first | with_reducible rfl | rfl)
      try simp only [Act.put, List.setIfInBounds_toArray, List.set_cons_zero, List.set_cons_succ]
      refine hd_nil ?_
      have e5 := hR3.blk.cell 5; have f5 := hR3.blk.frozen 5; simp only [RoT.cells, List.getElem?_cons_zero, List.getElem?_cons_succ] at e5
      go_wp2_with fail
      refine NoPanic.normal ?_
      have hR4 := hR3.setLeft ⟨none, 0, []⟩ ⟨Reads.nil, Nat.le_refl _⟩
      have hX4 := hX3.far (p := ⟨g, 5, none⟩) (blk_typ_ne hX3 hR3.blk (by decide)) (Lf.val ⟨none, 0, []⟩)
      have hG1 : RFr W (W.setCell ⟨g, 3, none⟩ (.bool true)) g r { r with asked := true } := RFr.same rfl rfl
      have hG2 : RFr (W.setCell ⟨g, 3, none⟩ (.bool true)) ((W.setCell ⟨g, 3, none⟩ (.bool true)).setCell ⟨g, 4, none⟩ (.int .i64 (1))) g { r with asked := true } { r with asked := true, kind := 1 } := RFr.same rfl rfl
      have hG3 : RFr ((W.setCell ⟨g, 3, none⟩ (.bool true)).setCell ⟨g, 4, none⟩ (.int .i64 (1))) (((W.setCell ⟨g, 3, none⟩ (.bool true)).setCell ⟨g, 4, none⟩ (.int .i64 (1))).setCell ⟨g, 2, none⟩ (.pointer none)) g { r with asked := true, kind := 1 } { r with asked := true, kind := 1, nx := none } := RFr.cell (fun t ht => ht.elim .inl (fun h => by cases h)) (fun t ht => by cases ht)
      have hG4 : RFr (((W.setCell ⟨g, 3, none⟩ (.bool true)).setCell ⟨g, 4, none⟩ (.int .i64 (1))).setCell ⟨g, 2, none⟩ (.pointer none)) ((((W.setCell ⟨g, 3, none⟩ (.bool true)).setCell ⟨g, 4, none⟩ (.int .i64 (1))).setCell ⟨g, 2, none⟩ (.pointer none)).setCell ⟨g, 5, none⟩ (Lf.val ⟨none, 0, []⟩)) g { r with asked := true, kind := 1, nx := none } { r with asked := true, kind := 1, nx := none, lf := ⟨none, 0, []⟩ } := RFr.same rfl rfl
      have hF4 := ((((RFr.below (r := r) (g := g) hSW.f).trans hG1).trans hG2).trans hG3).trans hG4
      clear hG1 hG2 hG3 hG4
      go_upto_region 7 with fail
      refine wp_gen (fun W2 => (RtA W2 g { r with asked := true, kind := 1, nx := none, lf := ⟨none, 0, []⟩ } ∧ RFr w W2 g r { r with asked := true, kind := 1, nx := none, lf := ⟨none, 0, []⟩ }) ∧ Blk W2 bx 29 (pdS 1 t.sess r.sn 0).cells) ⟨⟨hR4, hF4⟩, hX4⟩ ?_
      clear hSW hSW8 hSW11 hSW14 hR1 hR2 hR3 hR4 hX1 hX2 hX3 hX4 hF4 e5 f5
      rintro W2 ⟨⟨hR, hF⟩, hX⟩
      have hxr := hX.range
      go_wp2_with (refine wpList_load_at rfl 29 _ rfl bx 0 26 rfl _ _ hxr (Pdu.cells_length _) Try.underlying29 rfl info_pdu ?_)
      refine (write_d (pdS 1 t.sess r.sn 0) W2).mono ?_
      rintro e w5 ⟨A5, c5, x5, rfl, hrd, hb5⟩
      have hR5 := hR.next hb5
      have hF5 := hF.then hb5
      clear hR hF hX hxr hb5
      go_wp2_with fail
      go_ret
      rw [HQ.out]
      exact ⟨A5, c5, _, rfl, hrd, hR5, rfl, hF5⟩
  · have HQ := Lib.hid (show askQ r.q = (r.q, []) by unfold askQ; rw [if_pos (show r.q.b = true from hb)])
    rw [hb] at c6
    go_enter Try.func24, Try.ntmps24
    go_wp2_with fail
    go_ret
    rw [HQ.out]
    exact ⟨none, 0, r, rfl, Reads.none_, h, rfl, .refl _ _ _⟩
end Go.Proofs.Ytmoldmnhijcckaa
/- router's through, Take. -/
set_option linter.unusedVariables false
set_option linter.unusedSectionVars false
set_option linter.unusedSimpArgs false
namespace Go.Proofs.Ytmoldmnhijcckaa
open Go.RowKit
theorem goR_step {s0 s : RoS} {ps : List Pdu} {k : Nat} (hk : k < ps.length) (h : goR s0 ps = goR s (ps.drop k)) :
    ((takeR s ps[k]).2 = 0 → goR s0 ps = goR (takeR s ps[k]).1 (ps.drop (k + 1))) ∧ ((takeR s ps[k]).2 ≠ 0 → goR s0 ps = takeR s ps[k]) := by
  rw [List.drop_eq_getElem_cons hk, goR] at h
  exact ⟨fun h0 => by rw [h, if_pos h0], fun h0 => by rw [h, if_neg h0]⟩
def ThruPost (w : World) (g : Nat) (r : RoT) (t : RoS × List UInt8 × Int) (e : Ending) (w' : World) : Prop := ∃ r', e = .returned (.int .i64 t.2.2) ∧ RtA w' g r' ∧ r'.abs = t.1 ∧ r'.lf.bs = t.2.1 ∧ r'.broken = r.broken ∧ RFr w w' g r r'
set_option maxRecDepth 100000 in
set_option maxHeartbeats 8000000 in
theorem rthru_any (bb : List UInt8) (nb : Nat) (hnb : bb.length = nb) (A : Option Addr) (c B : Nat) (hb6 : nb ≤ 100000000) (w : World) (g : Nat) (r : RoT) (h : RtA w g r) (hok : r.abs.ok) (hl6 : r.lf.bs.length ≤ 1000000) (hB : B ≤ w.heap.size) (hr : Reads w B 1 A nb (bb.map bv)) :
    Calls Try.prog 55 #[.pointer (some ⟨g, 0, none⟩), .slice A nb c] w (ThruPost w g r (thruR r.abs r.lf.bs bb)) := by
  have c5 := h.blk.cell 5
  simp only [RoT.cells, Lf.val, List.getElem?_cons_zero, List.getElem?_cons_succ] at c5
  obtain ⟨i0, hi0, hz0, hz1, hz2⟩ := info_parts info5b
  go_enter Try.func55, Try.ntmps55
  go_wp2_with fail
  refine (cloneU_any r.lf.bs _ rfl r.lf.A r.lf.c _ (by omega) w (Nat.le_refl _) h.left.1).mono ?_
  rintro e w1 ⟨A1, c1, rfl, ho1, hb1⟩
  have hw1 := hb1.size
  clear c5
  go_wp2_with (at_builtin; go_must (refine wpList_append_any _ rfl _ _ 30 rfl w.heap.size 5 i0 _ 1 1 Try.underlying30 hi0 hz0 hz1 hz2 rfl (by omega) _ r.lf.bs.length _ rfl ho1 B A nb c _ rfl (hr.below hb1 hB) (bv_one _) (by simp only [maxLen]; omega) (by omega) hw1 ?_; intro v2 w2 ho2 hg2 _; obtain ⟨A2, c2, rfl⟩ := own_slice' ho2; rw [← List.map_append] at ho2; have hb2 : Below w.heap.size w w2 := Below.grown hb1 hg2 hw1 (fun k hk => (own_base_le ho1 k hk).1); clear hg2))
  have hlen2 : (r.lf.bs ++ bb).length = r.lf.bs.length + nb := by rw [List.length_append, hnb]
  refine (all_n (r.lf.bs ++ bb) _ hlen2 A2 c2 _ (own_capV ho2) (by omega) w2 (Nat.le_refl _) (Reads.of_own ho2)).mono ?_
  rintro e w3 ⟨vp, Ar, nr, cr, rfl, hnr, hcr, hrr, hop, hb3⟩
  obtain ⟨⟨ps, rest, kc, ke⟩, hal⟩ : ∃ q, allOf (r.lf.bs ++ bb) = q := ⟨_, rfl⟩
  rw [hal] at hnr hrr hop ⊢
  simp only at hnr hrr hop ⊢
  have HF := Lib.hid (show thruR r.abs r.lf.bs bb = ((goR r.abs ps).1, rest, if (goR r.abs ps).2 = 0 then ke else (goR r.abs ps).2) by unfold thruR; rw [hal])
  subst hnr
  obtain ⟨Ap, cp, rfl⟩ := own_slice' hop
  have hb03 : Below w.heap.size w w3 := below_then hb2 (Nat.le_refl _) hb3
  have hC3 := h.next hb03
  have c5 := hC3.blk.cell 5
  have f5 := hC3.blk.frozen 5
  simp only [RoT.cells, List.getElem?_cons_zero, List.getElem?_cons_succ] at c5
  have hC4 := hC3.setLeft ⟨Ar, cr, rest⟩ ⟨hrr, hcr⟩
  have hF4 : RFr w (w3.setCell ⟨g, 5, none⟩ (Lf.val ⟨Ar, cr, rest⟩)) g r { r with lf := ⟨Ar, cr, rest⟩ } := (RFr.below (r := r) (g := g) hb03).trans (RFr.same (r' := { r with lf := ⟨Ar, cr, rest⟩ }) (W := w3) (g := g) (r := r) (i := 5) (u := Lf.val ⟨Ar, cr, rest⟩) rfl rfl)
  have hop4 : (w3.setCell ⟨g, 5, none⟩ (Lf.val ⟨Ar, cr, rest⟩)).ownsRow w2.heap.size 29 26 (.slice Ap ps.length cp) ps.length (ps.flatMap Pdu.cells) := (RFr.same (r' := { r with lf := ⟨Ar, cr, rest⟩ }) (W := w3) (g := g) (r := r) (i := 5) (u := Lf.val ⟨Ar, cr, rest⟩) rfl rfl).row hC3 hop (by decide)
  have hpl : ps.length ≤ 9223372036854775807 := by
    rcases hop.2 with ⟨_, hz⟩ | ⟨_, cap, _, _, _, _, q1, q2, _⟩
    · omega
    · simp only [maxLen] at q2; omega
  clear ho1 ho2 hb1 hb2 hb3 hrr hop hal hlen2 hr hC3 hb03
  have hv : Lf.val ⟨Ar, cr, rest⟩ = .slice Ar rest.length cr := rfl
  go_upto_region 3 with fail
  refine wp_gen (fun W => (RtA W g { r with lf := ⟨Ar, cr, rest⟩ } ∧ RFr w W g r { r with lf := ⟨Ar, cr, rest⟩ }) ∧ W.ownsRow w2.heap.size 29 26 (.slice Ap ps.length cp) ps.length (ps.flatMap Pdu.cells)) ⟨⟨hC4, hF4⟩, hop4⟩ ?_
  clear hC4 hF4 hop4 c5 f5 hv
  rintro W0 ⟨⟨hA0, hF0⟩, hop0⟩
  have HOK := Lib.hid hok
  go_wp2_with fail
  go_loopw [31] (fun i W => ∃ (k : Nat) (r1 : RoT), k ≤ ps.length ∧ i = .int .i64 k ∧ RtA W g r1 ∧ RFr w W g r r1 ∧ W.ownsRow w2.heap.size 29 26 (.slice Ap ps.length cp) ps.length (ps.flatMap Pdu.cells) ∧ Hid (goR r.abs ps = goR r1.abs (ps.drop k) ∧ r1.abs.ok ∧ r1.lf = ⟨Ar, cr, rest⟩ ∧ r1.broken = r.broken)) (fun i _ => ps.length - (intOf i).toNat)
  case atStart => exact ⟨0, { r with lf := ⟨Ar, cr, rest⟩ }, by omega, rfl, hA0, hF0, hop0, Lib.hid ⟨rfl, HOK.out, rfl, rfl⟩⟩
  case round =>
    clear hA0 hF0 hop0
    obtain ⟨k, r1, hk, rfl, hA, hF, hop, HG⟩ := hrel
    by_cases hlt : k < ps.length
    · have hk0 : (0 : Int) ≤ (k : Int) := by omega
      have hk1 : (k : Int) < (ps.length : Int) := by omega
      obtain ⟨ad, rfl, _, _⟩ := (Reads.of_own hop).2 (by omega)
      have hat : AtAdr wr (ad.add (k * 26)) ps[k].cells := (Reads.of_own hop).elem Pdu.cells_length hlt rfl
      obtain ⟨hs1, hs2⟩ := goR_step hlt HG.out.1
      have HS1 := Lib.hid hs1
      have HS2 := Lib.hid hs2
      have HG2 := Lib.hid HG.out.2
      clear hs1 hs2 HG
      generalize ps[k] = p at hat HS1 HS2
      have hbx := Below.setCells (Nat.le_refl wr.heap.size) p.cells 0 ((Below.refl wr.heap.size wr).alloc (Nat.le_refl _) (.cells (bareL 0).toArray 29))
      have hSb : ((RtA ((wr.alloc (.cells (bareL 0).toArray 29)).setCells wr.heap.size 0 p.cells) g r1 ∧ RFr w ((wr.alloc (.cells (bareL 0).toArray 29)).setCells wr.heap.size 0 p.cells) g r r1) ∧ ((wr.alloc (.cells (bareL 0).toArray 29)).setCells wr.heap.size 0 p.cells).ownsRow w2.heap.size 29 26 (.slice (some ad) ps.length cp) ps.length (ps.flatMap Pdu.cells)) ∧ Blk ((wr.alloc (.cells (bareL 0).toArray 29)).setCells wr.heap.size 0 p.cells) wr.heap.size 29 p.cells :=
        ⟨⟨⟨hA.next hbx, hF.then hbx⟩, own_below hop hbx⟩, (Blk.new _ _ _).setCells_all (Pdu.cells_length _)⟩
      go_upto_region 6 with (first | (refine wpList_load_adr (by rfl) 29 _ rfl (ad.add (k * 26)) 26 (by rfl) _ _ hat (Pdu.cells_length _) Try.underlying29 rfl info_pdu ?_) | (refine wpList_store_at rfl 29 _ _ rfl wr.heap.size 0 26 29 p.cells (bareL 0) rfl rfl (Blk.new _ _ _) (Pdu.cells_length _) (by decide) info_pdu (Pdu.one _) ?_))
      refine wp_gen (fun W => ((RtA W g r1 ∧ RFr w W g r r1) ∧ W.ownsRow w2.heap.size 29 26 (.slice (some ad) ps.length cp) ps.length (ps.flatMap Pdu.cells)) ∧ Blk W wr.heap.size 29 p.cells) hSb ?_
      clear hSb hbx hA hF hop hat
      generalize wr.heap.size = bx
      rintro W ⟨⟨⟨hA, hF⟩, hop⟩, hX⟩
      have hxr := hX.range
      go_wp2_with (refine wpList_load_at rfl 29 _ rfl bx 0 26 rfl _ _ hxr (Pdu.cells_length _) Try.underlying29 rfl info_pdu ?_)
      refine (rtake_any p W g r1 hA HG2.out.1).mono ?_
      rintro e w6 ⟨r2, rfl, hA6, ha6, hl6', hb6', hF6⟩
      have hF7 := hF.trans hF6
      have hop7 := hF6.row hA hop (by decide)
      have HA6 := Lib.hid (show r2.abs = (takeR r1.abs p).1 ∧ r2.lf = r1.lf ∧ r2.broken = r1.broken from ⟨ha6, hl6', hb6'⟩)
      clear hX hxr hA hF hop hF6 ha6 hl6' hb6'
      by_cases h0 : (takeR r1.abs p).2 = 0
      · have HN := Lib.hid (HS1.out h0)
        have b0 : ((takeR r1.abs p).2 != 0) = false := by simp [h0]
        have HOK2 := Lib.hid (ok_take HG2.out.1 p)
        clear h0 HS1 HS2
        go_wp2_with fail
        go_roundw
        case rel => exact ⟨k + 1, r2, by omega, by go_num, hA6, hF7, hop7, Lib.hid ⟨by rw [HA6.out.1]; exact HN.out, by rw [HA6.out.1]; exact HOK2.out, HA6.out.2.1.trans HG2.out.2.1, HA6.out.2.2.trans HG2.out.2.2⟩⟩
        case measure => simp [intOf]; omega
      · have HN := Lib.hid (HS2.out h0)
        have b0 : ((takeR r1.abs p).2 != 0) = true := bne_iff_ne.2 h0
        have HOUT := Lib.hid (show thruR r.abs r.lf.bs bb = ((takeR r1.abs p).1, rest, (takeR r1.abs p).2) by rw [HF.out, HN.out, if_neg h0])
        clear h0 HS1 HS2 HN
        go_wp2_with fail
        go_ret
        rw [HOUT.out]
        exact ⟨r2, rfl, hA6, HA6.out.1, by rw [HA6.out.2.1, HG2.out.2.1], HA6.out.2.2.trans HG2.out.2.2, hF7⟩
    · have hkk : k = ps.length := by omega
      subst hkk
      have HG2 := Lib.hid (show goR r.abs ps = (r1.abs, 0) by have := HG.out.1; rw [List.drop_length] at this; rw [this]; rfl)
      have HOUT := Lib.hid (show thruR r.abs r.lf.bs bb = (r1.abs, rest, ke) by rw [HF.out, HG2.out, if_pos rfl])
      clear hlt hk HG2
      go_wp2_with fail
      go_ret
      rw [HOUT.out]
      exact ⟨r1, rfl, hA, rfl, by rw [HG.out.2.2.1], HG.out.2.2.2, hF⟩
def TakeQPost (w : World) (g : Nat) (r : RoT) (t : RoQ × Int) (e : Ending) (w' : World) : Prop := ∃ r', e = .returned (.int .i64 t.2) ∧ RtA w' g r' ∧ r'.q = t.1 ∧ RFr w w' g r r'
set_option maxRecDepth 100000 in
set_option maxHeartbeats 2000000 in
theorem rTake_any (bb : List UInt8) (nb : Nat) (hnb : bb.length = nb) (A : Option Addr) (c B : Nat) (hb6 : nb ≤ 100000000) (w : World) (g : Nat) (r : RoT) (h : RtA w g r) (hok : r.abs.ok) (hl6 : r.lf.bs.length ≤ 1000000) (hB : B ≤ w.heap.size) (hr : Reads w B 1 A nb (bb.map bv)) :
    Calls Try.prog 25 #[.pointer (some ⟨g, 0, none⟩), .slice A nb c] w (TakeQPost w g r (takeQ r.q bb)) := by
  have c6 := h.blk.cell 6
  simp only [RoT.cells, List.getElem?_cons_zero, List.getElem?_cons_succ] at c6
  cases hb : r.broken
  · have HQ := Lib.hid (show takeQ r.q bb = (⟨(thruR r.abs r.lf.bs bb).1, (thruR r.abs r.lf.bs bb).2.1, !decide ((thruR r.abs r.lf.bs bb).2.2 = 0)⟩, (thruR r.abs r.lf.bs bb).2.2) by unfold takeQ; rw [if_neg (show ¬ r.q.b = true by show ¬ r.broken = true; rw [hb]; decide)]; rfl)
    rw [hb] at c6
    have HB := Lib.hid hb
    clear hb
    go_enter Try.func25, Try.ntmps25
    go_wp2_with fail
    refine (rthru_any bb nb hnb A c B hb6 w g r h hok hl6 hB hr).mono ?_
    rintro e w1 ⟨r1, rfl, hA1, ha1, hl1, hb1, hF1⟩
    have d6 := hA1.blk.cell 6
    have f6 := hA1.blk.frozen 6
    simp only [RoT.cells, List.getElem?_cons_zero, List.getElem?_cons_succ] at d6
    generalize thruR r.abs r.lf.bs bb = t at HQ ha1 hl1 ⊢
    have HA := Lib.hid (show r1.abs = t.1 ∧ r1.lf.bs = t.2.1 from ⟨ha1, hl1⟩)
    have hA2 := hA1.setBroken (t.2.2 != 0)
    have hF2 : RFr w (w1.setCell ⟨g, 6, none⟩ (.bool (t.2.2 != 0))) g r { r1 with broken := t.2.2 != 0 } := hF1.trans (RFr.same (r' := { r1 with broken := t.2.2 != 0 }) (W := w1) (g := g) (r := r1) (i := 6) (u := .bool (t.2.2 != 0)) rfl rfl)
    clear ha1 hl1 hb1 c6
    go_wp2_with fail
    go_ret
    rw [HQ.out]
    refine ⟨_, rfl, hA2, ?_, hF2⟩
    have he : (t.2.2 != 0) = !decide (t.2.2 = 0) := by by_cases h0 : t.2.2 = 0 <;> simp [h0]
    unfold RoT.q
    rw [he]
    show RoQ.mk r1.abs r1.lf.bs _ = _
    rw [HA.out.1, HA.out.2]
  · have HQ := Lib.hid (show takeQ r.q bb = (r.q, 2) by unfold takeQ; rw [if_pos (show r.q.b = true from hb)])
    rw [hb] at c6
    go_enter Try.func25, Try.ntmps25
    go_wp2_with fail
    go_ret
    rw [HQ.out]
    exact ⟨r, rfl, h, rfl, .refl _ _ _⟩
end Go.Proofs.Ytmoldmnhijcckaa
/- maps.Keys over a map of rows, slices.Collect behind it: the keys come, each once, in some order. -/
set_option linter.unusedVariables false
set_option linter.unusedSectionVars false
set_option linter.unusedSimpArgs false
namespace Go.Proofs.Ytmoldmnhijcckaa
open Go.RowKit Go.Shelf
section
variable {F : Fence} {n : Nat} {w : World} {ops : Array Oper} {rest : List Oper} {o : Oper} {a : Act} {Q : Exit → Act → World → Prop}
theorem wpListIn_range_V (hg : o.guard = none) (m : Operand) (hop : o.op = Op.range 93 m) (b : Nat) (ks : List Vrp) (hm : a.eval m = .map (some b)) (h : MapV w b ks)
    (hK : ∀ w', RanV w' b w.heap.size ks [] → w.grownBy w' none → w'.heap.size = w.heap.size + 1 → wpListIn F n Try.prog ops Q rest (a.put o.dst (.pointer (some ⟨w.heap.size, 0, none⟩))) w') : wpListIn F n Try.prog ops Q (o :: rest) a w := by
  refine wpListIn_plain hg fun K' hK' => ?_
  obtain ⟨w', hrun, r1, r2, r3⟩ := h.range
  unfold Oper.wpIn
  refine ⟨?_, ?_⟩
  · simp [Oper.about, hop]
  · rw [Oper.semAt_plain F _ _ (by rw [hop]; intro c hc'; cases hc')]
    simp [execOp, hop, hm, hrun, Result.andThen]
    exact hK' _ _ (hK w' r1 r2 r3)
theorem wpListIn_next_V (hg : o.guard = none) (it : Operand) (hop : o.op = Op.next it false) (b r : Nat) (ks done : List Vrp) (hit : a.eval it = .pointer (some ⟨r, 0, none⟩)) (h : RanV w b r ks done)
    (hDone : (∀ x ∈ ks, x ∈ done) → wpListIn F n Try.prog ops Q rest (a.put o.dst (.tuple #[.bool false])) w)
    (hMore : ∀ x w', x ∈ ks → x ∉ done → RanV w' b r ks (done ++ [x]) → w.grownBy w' (some r) → w'.heap.size = w.heap.size → (Instr.entry (.pointer (some ⟨r, 0, none⟩))).run Try.prog w' = .ok (.tuple #[.agg x.cells.toArray, .bool true]) w' → w'.rangeLeft b r < w.rangeLeft b r →
      wpListIn F n Try.prog ops Q rest (a.put o.dst (.tuple #[.bool true, .agg x.cells.toArray, .bool true])) w') : wpListIn F n Try.prog ops Q (o :: rest) a w := by
  refine wpListIn_plain hg fun K' hK' => ?_
  unfold Oper.wpIn
  refine ⟨by simp [Oper.about, hop], ?_⟩
  rw [Oper.semAt_plain F _ _ (by rw [hop]; intro c hc'; cases hc')]
  rcases h.next o.type with ⟨h0, hrun⟩ | ⟨x, w', hx, hnx, hrun, hrg, hgr, hsz, hen, hlt⟩
  · simp [execOp, hop, hit, hrun, Result.andThen]
    exact hK' _ _ (hDone h0)
  · simp [execOp, hop, hit, hrun, Result.andThen]
    exact hK' _ _ (hMore x w' hx hnx hrg hgr hsz hen hlt)
end
theorem wpListIn_load_at {F : Fence} {nF : Nat} {P : Program} {ops : Array Oper} {rest : List Oper} {op : Oper} {a : Act} {w : World} {Q : Exit → Act → World → Prop} (hgd : op.guard = none) (ty : TypeId) (x : Operand) (ho : op.op = .load ty x) (g o n : Nat) (hx : a.eval x = .pointer (some ⟨g, o, none⟩)) (vs : List Value) (d : TypeDesc)
    (hr : w.rangeAt g o vs) (hl : vs.length = n) (hu : P.underlying ty = some d) (hd : d.isRow = true) (hi : (P.info? ty).map (·.size) = some n)
    (h : wpListIn F nF P ops Q rest (a.put op.dst (.agg vs.toArray)) w) : wpListIn F nF P ops Q (op :: rest) a w := by
  refine wpListIn_plain hgd fun K hK => ?_
  have hrun := exec_load_at (P := P) (op := op) (a := a) (w := w) ty x ho g o n hx vs d hr hl hu hd hi
  unfold Oper.wpIn
  refine ⟨by simp [Oper.about, ho], ?_⟩
  rw [Oper.semAt_plain F _ _ (by rw [ho]; intro c hc'; cases hc')]
  simp only [hrun, Result.andThen_ok]
  exact hK _ _ h
theorem wpListIn_store_at {F : Fence} {nF : Nat} {P : Program} {ops : Array Oper} {rest : List Oper} {op : Oper} {a : Act} {w : World} {Q : Exit → Act → World → Prop} (hgd : op.guard = none) (ty : TypeId) (x y : Operand) (ho : op.op = .store ty x y) (g o n : Nat) (t : TypeId) (vs cs : List Value) (hx : a.eval x = .pointer (some ⟨g, o, none⟩)) (hy : a.eval y = .agg vs.toArray)
    (hB : Blk w g t cs) (hl : vs.length = n) (hn : o + n ≤ cs.length) (hi : (P.info? ty).map (·.size) = some n) (h1 : ∀ v ∈ vs, v.oneCell' = true)
    (h : wpListIn F nF P ops Q rest (a.put op.dst undef) (w.setCells g o vs)) : wpListIn F nF P ops Q (op :: rest) a w := by
  refine wpListIn_plain hgd fun K hK => ?_
  unfold Oper.wpIn
  refine ⟨by simp [Oper.about, ho], ?_⟩
  rw [Oper.semAt_plain F _ _ (by rw [ho]; intro c hc'; cases hc')]
  have hrun := run_storeVar_mid (P := P) w g o ty vs.toArray (hB.there (n := vs.toArray.size) (by rw [List.size_toArray]; omega) o (by rw [List.size_toArray]; omega)) (by simp only [List.size_toArray, hl]; exact hi) (all_oneCell_toArray h1)
  unfold execOp
  simp only [ho, hx, hy, Instr.storeAt, Instr.sureAddr, Sem.run_bind, Sem.run_pure, Result.andThen_ok, hrun]
  exact hK _ _ h
theorem keepsFrom_below {B : Nat} {W W' : World} (hb : Below W.heap.size W W') : KeepsFrom B W W' := ⟨hb.size, fun k o _ hk _ => (hb.block k (Array.getElem?_eq_some_iff.1 hk).1).trans hk⟩
theorem keepsWalks_below {W W' : World} (hb : Below W.heap.size W W') : KeepsWalks W W' := ⟨hb.size, fun k o hk _ => (hb.block k (Array.getElem?_eq_some_iff.1 hk).1).trans hk⟩
theorem keepsWalks_others {W W' : World} (h : KeepsOthers W W') : KeepsWalks W W' := ⟨h.size, fun k o hk hw => h.same k o hk (Obj.not_cells_of_walk hw)⟩
theorem RanV.of_walks {w w' : World} {b r : Nat} {ks done : List Vrp} (h : RanV w b r ks done) (hk : KeepsWalks w w') : RanV w' b r ks done := by
  obtain ⟨l, n, since, c0, seen, dl, hh, hE, hr, rest⟩ := h.at_
  exact ⟨l, n, since, c0, seen, dl, hk.same b _ hh rfl, hE, hk.same r _ hr rfl, rest⟩
theorem RanV.iter_walk {w : World} {b r : Nat} {ks done : List Vrp} (h : RanV w b r ks done) : ∃ o : Obj, w.heap[r]? = some o ∧ o.isWalk = true := by
  obtain ⟨l, n, since, c0, seen, dl, hh, hE, hr, rest⟩ := h.at_
  exact ⟨_, hr, rfl⟩
theorem RanV.left_walks {w w' : World} {b r : Nat} {ks done : List Vrp} (h : RanV w b r ks done) (hk : KeepsWalks w w') : w'.rangeLeft b r = w.rangeLeft b r := by
  obtain ⟨l, n, since, c0, seen, dl, hh, hE, hr, rest⟩ := h.at_
  unfold World.rangeLeft
  rw [hk.same b _ hh rfl, hk.same r _ hr rfl, hh, hr]
set_option maxRecDepth 100000 in
set_option maxHeartbeats 1000000 in
theorem keys1V_in (F : Fence) (n : Nat) (h10 : F.fn 82) (hro : F.round = none) (hn : 1 ≤ n) (l Bm b : Nat) (ks : List Vrp) (J Jx : List Vrp → World → Prop)
    (hY : ∀ pre x W, J pre W → pre.length < ks.length → YieldAt F (n - 1) Try.prog l #[.agg (Vrp.cells x).toArray] W fun e W' =>
      (e = .returned (.bool true) ∧ J (pre ++ [x]) W' ∧ KeepsWalks W W') ∨ (e = .returned (.bool false) ∧ Jx (pre ++ [x]) W'))
    (W : World) (hJ : AbidesFrom W.heap.size J) (hm : W.cell? ⟨Bm, 0, none⟩ = some (.map (some b))) (hM : MapV W b ks) (h0 : J [] W) :
    CallsIn F n Try.prog 82 #[.func (.yield l) #[] #[], .pointer (some ⟨Bm, 0, none⟩)] W fun e W' => (∃ v, e = .returned v) ∧
      ((∃ xs : List Vrp, (xs.Nodup ∧ ∀ x, x ∈ xs ↔ x ∈ ks) ∧ J xs W') ∨ (∃ pre : List Vrp, True ∧ Jx pre W')) := by
  refine callsIn_of_wp Try.func82 rfl h10 ?_ hro
  simp only [Try.ntmps82, List.size_toArray, List.length_cons, List.length_nil, Nat.reduceAdd, Nat.reduceSub, Array.replicate_succ, Array.replicate_zero, List.push_toArray, List.append_toArray, List.nil_append, List.cons_append]
  gi_wp2_with (first
    | (gi_at_range; refine wpListIn_range_V rfl _ rfl b ks rfl hM ?_; intro w0 hrg0 hg0 hs0)
    | gi_in)
  go_frame
  gi_loopw [3] (fun _ wr => ∃ (ss : List Vrp), RanV wr b W.heap.size ks ss ∧ J ss wr) (fun _ wr => wr.rangeLeft b W.heap.size)
  case atStart => exact ⟨[], hrg0, hJ [] W w0 none h0 hg0 (fun r e => by cases e)⟩
  case round =>
    obtain ⟨ss, hrg, hJs⟩ := hrel
    gi_wp2_with (first
      | (gi_at_next; refine wpListIn_next_V rfl _ rfl b W.heap.size ks ss rfl hrg ?_ ?_)
      | gi_in)
    · intro hall
      gi_wp2
      go_end0
      exact ⟨⟨_, rfl⟩, .inl ⟨ss, ⟨hrg.few.1, fun x => ⟨hrg.few.2.1 x, hall x⟩⟩, hJs⟩⟩
    · intro x w2 hx hnx hrg2 hg2 hs2 hen hlt
      have hJ2 : J ss w2 := hJ ss wr w2 (some W.heap.size) hJs hg2 (fun r e => by cases e; exact ⟨Nat.le_refl _, hrg.iter_walk⟩)
      have hlen : ss.length < ks.length := by have := hrg2.few.2.2; rw [List.length_append, List.length_singleton] at this; omega
      have hbX : Below w2.heap.size w2 ((w2.alloc (.cells #[.int .u32 0, .bool false, .int .u8 0, .int .u8 0, .int .u8 0, .int .u8 0, .int .u8 0, .int .u8 0, .int .u8 0, .int .u8 0, .int .u8 0, .int .u8 0, .int .u8 0, .int .u8 0, .int .u8 0, .int .u8 0, .int .u8 0, .int .u8 0, .int .i64 0, .int .i64 0] 27)).setCells w2.heap.size 0 x.cells) := Below.setCells (Nat.le_refl _) _ _ ((Below.refl _ _).alloc (Nat.le_refl _) _)
      have hX : Blk ((w2.alloc (.cells #[.int .u32 0, .bool false, .int .u8 0, .int .u8 0, .int .u8 0, .int .u8 0, .int .u8 0, .int .u8 0, .int .u8 0, .int .u8 0, .int .u8 0, .int .u8 0, .int .u8 0, .int .u8 0, .int .u8 0, .int .u8 0, .int .u8 0, .int .u8 0, .int .i64 0, .int .i64 0] 27)).setCells w2.heap.size 0 x.cells) w2.heap.size 27 x.cells := Blk.setCells_all (cs := (default : Vrp).cells) (Blk.new w2 27 (default : Vrp).cells) (Vrp.cells_length _)
      have hrX := hX.range
      have hJ3 := hJ ss w2 _ none hJ2 (grown_below hbX) (fun r e => by cases e)
      have hltX : World.rangeLeft ((w2.alloc (.cells #[.int .u32 0, .bool false, .int .u8 0, .int .u8 0, .int .u8 0, .int .u8 0, .int .u8 0, .int .u8 0, .int .u8 0, .int .u8 0, .int .u8 0, .int .u8 0, .int .u8 0, .int .u8 0, .int .u8 0, .int .u8 0, .int .u8 0, .int .u8 0, .int .i64 0, .int .i64 0] 27)).setCells w2.heap.size 0 x.cells) b W.heap.size < World.rangeLeft wr b W.heap.size := by have := hrg2.left_walks (keepsWalks_below hbX); rw [← this] at hlt; exact hlt
      replace hrg2 := hrg2.of_walks (keepsWalks_below hbX)
      obtain ⟨fn, tmps, assign, body, hy, hR⟩ := hY ss x _ hJ3 hlen
      clear hs2 hX
      gi_wp2_with (first
        | (refine wpListIn_store_at rfl 27 _ _ rfl w2.heap.size 0 20 27 x.cells (default : Vrp).cells rfl rfl (blk_new' _ _ _ _ rfl) (Vrp.cells_length _) (by decide) info_vrp (Vrp.one _) ?_)
        | (refine wpListIn_load_at rfl 27 _ rfl w2.heap.size 0 20 rfl _ _ hrX (Vrp.cells_length _) Try.underlying27 rfl info_vrp ?_))
      refine hR.mono ?_
      rintro e W3 (⟨rfl, hJ3, hk3⟩ | ⟨rfl, hJx3⟩)
      · gi_wp2
        have hrg3 := hrg2.of_walks hk3
        go_roundw
        case rel => exact ⟨ss ++ [x], hrg3, hJ3⟩
        case measure => rw [hrg2.left_walks hk3]; exact hltX
      · gi_wp2
        refine bodyPost_ret (results_none rfl _ _ _) rfl ?_
        exact ⟨⟨_, rfl⟩, .inr ⟨ss ++ [x], trivial, hJx3⟩⟩
theorem keysV_stops (F : Fence) (n : Nat) (h10 : F.fn 82) (hro : F.round = none) (hn : 1 ≤ n) (Bm b : Nat) (ks : List Vrp) (w : World) (hBm : Bm < w.heap.size) (hm : w.cell? ⟨Bm, 0, none⟩ = some (.map (some b))) (hM : MapV w b ks) :
    SeqStopsK F n Try.prog 82 #[.pointer (some ⟨Bm, 0, none⟩)] (fun x : Vrp => #[.agg x.cells.toArray]) KeepsWalks (fun xs => xs.Nodup ∧ ∀ x, x ∈ xs ↔ x ∈ ks) (fun _ => True) ks.length w := fun l J Jx W hW hJ _ hY h0 =>
  keys1V_in F n h10 hro hn l Bm b ks J Jx hY W hJ ((hW.cell (p := ⟨Bm, 0, none⟩) hBm).trans hm) (hM.below hW) h0
theorem wpListIn_build1 {F : Fence} {nF : Nat} {P : Program} {ops : Array Oper} {rest : List Oper} {o : Oper} {a : Act} {w : World} {Q : Exit → Act → World → Prop} (hg : o.guard = none) (t e : TypeId) (x : Operand) (ho : o.op = .buildSlice t 1 #[(0, x)]) (cs : List Value) (n : Nat) (hx : a.eval x = .agg cs.toArray) (hl : cs.length = n)
    (hu : P.underlying t = some (.slice e)) (hie : (P.info? e).map (·.size) = some n) (hz : ((P.info? e).bind (·.zero)).isSome = true) (hp : 0 < n) (hsm : n ≤ 1000)
    (h : wpListIn F nF P ops Q rest (a.put o.dst (.slice (some ⟨w.heap.size, 0, none⟩) 1 1)) (w.alloc (.cells cs.toArray e))) : wpListIn F nF P ops Q (o :: rest) a w := by
  cases hq : P.info? e with
  | none => simp [hq] at hie
  | some ie =>
    simp only [hq, Option.map_some, Option.some.injEq, Option.bind_some] at hie hz
    obtain ⟨z, hz⟩ := Option.isSome_iff_exists.1 hz
    refine wpListIn_plain hg fun K hK => ?_
    have hr := run_build1 (P := P) w t e ie z cs hu hq hz (by rw [hl]; exact hie) (by omega) (by omega)
    unfold Oper.wpIn
    refine ⟨by simp [Oper.about, ho], ?_⟩
    rw [Oper.semAt_plain F _ _ (by rw [ho]; intro c hc'; cases hc')]
    simp only [execOp, ho, List.map_toArray, List.map_cons, List.map_nil, hx, Sem.run_bind, hr, Result.andThen_ok]
    exact hK _ _ h
theorem blk_own (B : Nat) (g : Nat) (t : TypeId) (cs : List Value) (q : Prop) : OwnFrom B (fun (_ : Unit) W => Blk W g t cs ∧ q) := fun _ X Y row ⟨h, hq⟩ hg hr => ⟨(hg.block g h.lt fun e => by
  obtain ⟨_, o, ho, hc⟩ := hr g e.symm
  unfold Blk at h
  rw [h] at ho
  cases ho
  cases hc).trans h, hq⟩
/-- What AppendSeq holds in its slots while it goes through the keys. -/
def apTmps (Bm B0 Bx : Nat) (x : Vrp) : Array Value := #[.slice none 0 0, .func (.func 82) #[] #[.pointer (some ⟨Bm, 0, none⟩)], .pointer (some ⟨B0, 0, none⟩), undef, .slice none 0 0, .pointer (some ⟨Bx, 0, none⟩), .func (.func 82) #[] #[.pointer (some ⟨Bm, 0, none⟩)], .agg x.cells.toArray, undef, undef, undef, undef, undef]
set_option maxRecDepth 100000 in
set_option maxHeartbeats 4000000 in
theorem appendV_in (F : Fence) (n : Nat) (h11 : F.fn 81) (h10 : F.fn 82) (hro : F.round = none) (hn : 3 ≤ n) (Bm b : Nat) (ks : List Vrp) (hk6 : ks.length ≤ 1000000) (w : World) (hBm : Bm < w.heap.size) (hm : w.cell? ⟨Bm, 0, none⟩ = some (.map (some b))) (hM : MapV w b ks) :
    CallsIn F n Try.prog 81 #[.slice none 0 0, .func (.func 82) #[] #[.pointer (some ⟨Bm, 0, none⟩)]] w fun e w' => ∃ (v : Value) (xs : List Vrp), e = .returned v ∧ (xs.Nodup ∧ ∀ x, x ∈ xs ↔ x ∈ ks) ∧ w'.ownsRow w.heap.size 27 20 v xs.length (xs.flatMap Vrp.cells) ∧ Below w.heap.size w w' := by
  have h1 : 1 ≤ n := by omega
  obtain ⟨i0, hi0, hz0, hz1, hz2⟩ := info_parts info_vrpO
  refine callsIn_of_wp_marks Try.func81 rfl h11 ?_ hro
  simp only [Try.ntmps81, List.size_toArray, List.length_cons, List.length_nil, Nat.reduceAdd, Nat.reduceSub, Array.replicate_succ, Array.replicate_zero, List.push_toArray, List.append_toArray, List.nil_append, List.cons_append]
  gi_wp2
  have hb0 : Below w.heap.size w (w.alloc (.cells #[.slice none 0 0] 50)) := (Below.refl _ w).alloc (Nat.le_refl _) _
  refine wpIn_rangeFunc_ownH hro h1 (gf := 82) (lb := #[.pointer (some ⟨Bm, 0, none⟩)]) rfl h10 (enters_of Try.func82 (by kernel_rfl) rfl)
    (keysV_stops F (n - 1) h10 hro (by omega) Bm b ks _ (by simp; omega) ((hb0.cell (p := ⟨Bm, 0, none⟩) hBm).trans hm) (hM.kept (hb0.block b hM.lt))) walksK_t walksK_b (Below.refl _ _) (fun _ => rfl)
    (fun pre W => (∃ v, Boxed W w.heap.size 50 v ∧ W.ownsRow w.heap.size 27 20 v pre.length (pre.flatMap Vrp.cells) ∧ True) ∧ Below w.heap.size w W) (fun _ _ _ => False)
    (OwnFrom.and (Own.from (holdsRow_own w.heap.size w.heap.size 50 27 20 (fun pre : List Vrp => pre.length) (fun pre => pre.flatMap Vrp.cells) (fun _ _ => True)) _) (ownFrom_below (Nat.le_refl _) (by simp)))
    (fun _ _ _ _ _ hs _ _ => hs) ⟨⟨_, Boxed.new w _ _, World.ownsRow_nil _ _ _ _, trivial⟩, hb0⟩
    (fun x a' W => ∃ Bx, Blk W Bx 27 (Vrp.cells x) ∧ a' = { tmps := apTmps Bm w.heap.size Bx x, defers := [] })
    (fun x a' u X Y row ⟨Bx, hb, hq⟩ hg hr => ⟨Bx, blk_own _ Bx 27 (Vrp.cells x) _ () X Y row ⟨hb, hq⟩ hg hr⟩) ?assign ?body ?done ?stop
  case assign =>
    rintro l pre x W K ⟨⟨v, hv, hown, _⟩, hlo⟩ hK
    have hsem := @Oper.semAt_some
    have hbX : Below W.heap.size W ((W.alloc (.cells #[.int .u32 0, .bool false, .int .u8 0, .int .u8 0, .int .u8 0, .int .u8 0, .int .u8 0, .int .u8 0, .int .u8 0, .int .u8 0, .int .u8 0, .int .u8 0, .int .u8 0, .int .u8 0, .int .u8 0, .int .u8 0, .int .u8 0, .int .u8 0, .int .i64 0, .int .i64 0] 27)).setCells W.heap.size 0 x.cells) := Below.setCells (Nat.le_refl _) _ _ ((Below.refl _ _).alloc (Nat.le_refl _) _)
    have hX : Blk ((W.alloc (.cells #[.int .u32 0, .bool false, .int .u8 0, .int .u8 0, .int .u8 0, .int .u8 0, .int .u8 0, .int .u8 0, .int .u8 0, .int .u8 0, .int .u8 0, .int .u8 0, .int .u8 0, .int .u8 0, .int .u8 0, .int .u8 0, .int .u8 0, .int .u8 0, .int .i64 0, .int .i64 0] 27)).setCells W.heap.size 0 x.cells) W.heap.size 27 x.cells := Blk.setCells_all (cs := (default : Vrp).cells) (Blk.new W 27 (default : Vrp).cells) (Vrp.cells_length _)
    gi_wp2_with (refine wpListIn_store_at rfl 27 _ _ rfl W.heap.size 0 20 27 x.cells (default : Vrp).cells rfl rfl (blk_new' _ _ _ _ rfl) (Vrp.cells_length _) (by decide) info_vrp (Vrp.one _) ?_)
    exact hK _ _ (keepsFrom_below hbX) (keepsWalks_below hbX) ⟨⟨v, (hbX.block _ hv.lt).trans hv, own_below hown hbX, trivial⟩, below_then hlo (Nat.le_refl _) hbX⟩ ⟨W.heap.size, hX, rfl⟩
  case body =>
    rintro l pre x a' W hl6 hl7 ⟨⟨v, hv, hown, _⟩, hlo⟩ ⟨Bx, hX, rfl⟩ hlen
    have hsem := @Oper.semAt_some
    have hc := hv.cell
    have hf := hv.frozen
    have hrg := hX.range
    unfold apTmps
    gi_wp2_with (first
      | (refine wpListIn_load_at rfl 27 _ rfl Bx 0 20 rfl _ _ hrg (Vrp.cells_length _) Try.underlying27 rfl info_vrp ?_)
      | (refine wpListIn_build1 (by rfl) 50 27 _ (by rfl) x.cells 20 (by rfl) (Vrp.cells_length _) Try.underlying50 (by kernel_rfl) (by kernel_rfl) (by omega) (by omega) ?_)
      | (gi_at_builtin; refine wpListIn_append_own _ rfl _ _ 50 rfl w.heap.size 27 i0 _ 20 48 Try.underlying50 hi0 hz0 hz1 hz2 rfl (by omega) _ _ _ rfl (hown.alloc _) ⟨W.heap.size, 0, none⟩ 1 1 x.cells rfl (Vrp.cells_length _) (fun j u hu => by rw [add_plain', Nat.zero_add, (Blk.new W _ _).cell]; exact hu) (Vrp.one _) (by simp only [maxLen]; omega) (by omega) (by have := hlo.size; simp; omega) ?_; intro v3 w3 hown3 hg3 _; obtain ⟨A3, c3, rfl⟩ := own_slice' hown3; obtain ⟨hv3, hv4, hown4, hk4, hb4⟩ := hv.appended (by decide) hown hlo.size (Nat.le_refl _) hown3 hg3; have hc3 := hv3.cell; have hf3 := hv3.frozen))
    have hown5 : (w3.setCell ⟨w.heap.size, 0, none⟩ (Value.slice A3 (pre.length + 1) c3)).ownsRow w.heap.size 27 20 (Value.slice A3 (pre.length + 1) c3) (pre ++ [x]).length ((pre ++ [x]).flatMap Vrp.cells) := by
      rw [List.length_append, List.flatMap_append]
      simpa only [List.flatMap_cons, List.flatMap_nil, List.append_nil, List.length_singleton] using hown4
    refine ⟨hk4.from _, keepsWalks_others hk4, ⟨_, hv4, ?_⟩, hlo.trans hb4⟩
    first | exact hown5 | exact ⟨hown5, trivial⟩
  case done =>
    rintro D ys W hD hS ⟨⟨v, hv, hown, _⟩, hlo⟩ hK
    have hc := hv.cell
    gi_wp2
    refine ⟨by simp, .inl ⟨_, _, rfl, run_takeDeferred hK, ?_⟩⟩
    have hg := grownBy_putObj' W D (.deferred none)
    have hne : v.ownBlock ≠ some D := fun e => by
      rcases hown.2 with ⟨rfl, _⟩ | ⟨g', cap, cur, rfl, _, hgb, _⟩
      · simp [Value.ownBlock] at e
      · have e2 : g' = D := by simpa [Value.ownBlock] using e
        subst e2
        rw [hgb] at hK
        cases hK
    exact ⟨_, results_tmp rfl _ _ _, v, ys, rfl, hS, own_kept hown fun k hk => hg.block k (own_base_le hown k hk).2 (fun e => hne (by rw [hk, ← e])), hlo.grown hg hlo.size (fun k e => by cases e; simp at hD; omega)⟩
  case stop =>
    rintro D c pre W _ _ h _
    exact h.elim
end Go.Proofs.Ytmoldmnhijcckaa
/- The row of a list depends on what is in it alone. -/
set_option linter.unusedVariables false
set_option linter.unusedSectionVars false
set_option linter.unusedSimpArgs false
namespace Go.Proofs.Ytmoldmnhijcckaa
open Go.RowKit
theorem mem_addD {acc : List Vrp} {x y : Vrp} (h : x ∈ acc ∨ x = y) : x ∈ addD acc y := by
  unfold addD
  split
  · rename_i hl
    rcases h with h | rfl
    · exact h
    · exact List.mem_of_getLast? hl
  · rcases h with h | rfl <;> simp [*]
theorem mem_dedF' {ys : List Vrp} {x : Vrp} (h : x ∈ ys) : x ∈ dedF ys := by
  have : ∀ (ys acc : List Vrp), x ∈ acc ∨ x ∈ ys → x ∈ ys.foldl addD acc := by
    intro ys
    induction ys with
    | nil => intro acc h; simpa using h
    | cons y ys ih =>
      intro acc h
      refine ih _ ?_
      rcases h with h | h
      · exact .inl (mem_addD (.inl h))
      · rcases List.mem_cons.1 h with rfl | h
        · exact .inl (mem_addD (.inr rfl))
        · exact .inr h
  exact this ys [] (.inr h)
theorem mem_rowOf {xs : List Vrp} {x : Vrp} : x ∈ rowOf xs ↔ vrpOk x = true ∧ x ∈ xs :=
  ⟨rowOf_ok, fun h => mem_dedF' (by rw [List.mem_mergeSort, List.mem_filter]; exact ⟨h.2, h.1⟩)⟩
theorem cmpV_irr (a : Vrp) : cmpV a a = 0 := by have := compV.anti a a; omega
theorem rise_unique : ∀ {l m : List Vrp}, RiseV l → RiseV m → (∀ x, x ∈ l ↔ x ∈ m) → l = m
  | [], [], _, _, _ => rfl
  | [], b :: m, _, _, h => absurd ((h b).2 (by simp)) (by simp)
  | a :: l, [], _, _, h => absurd ((h a).1 (by simp)) (by simp)
  | a :: l, b :: m, hl, hm, h => by
    have hl' := List.pairwise_cons.1 hl
    have hm' := List.pairwise_cons.1 hm
    have hab : a = b := by
      rcases List.mem_cons.1 ((h a).1 (by simp)) with e | ha
      · exact e
      · rcases List.mem_cons.1 ((h b).2 (by simp)) with e | hb
        · exact e.symm
        · have h1 := hm'.1 a ha
          have h2 := hl'.1 b hb
          have := compV.anti a b
          omega
    subst hab
    have : l = m := rise_unique hl'.2 hm'.2 fun x => by
      constructor
      · intro hx
        rcases List.mem_cons.1 ((h x).1 (by simp [hx])) with e | hx'
        · have := hl'.1 x hx
          rw [e, cmpV_irr] at this
          omega
        · exact hx'
      · intro hx
        rcases List.mem_cons.1 ((h x).2 (by simp [hx])) with e | hx'
        · have := hm'.1 x hx
          rw [e, cmpV_irr] at this
          omega
        · exact hx'
    rw [this]
theorem rowOf_congr {xs ys : List Vrp} (h : ∀ x, x ∈ xs ↔ x ∈ ys) : rowOf xs = rowOf ys :=
  rise_unique (rowOf_rise _) (rowOf_rise _) fun x => by rw [mem_rowOf, mem_rowOf, h]
theorem rowOf_self {xs : List Vrp} (hr : RiseV xs) (hok : ∀ x ∈ xs, vrpOk x = true) : rowOf xs = xs :=
  rise_unique (rowOf_rise _) hr fun x => by rw [mem_rowOf]; exact ⟨fun h => h.2, fun h => ⟨hok x h, h⟩⟩
end Go.Proofs.Ytmoldmnhijcckaa
/- router's Has. -/
set_option linter.unusedVariables false
set_option linter.unusedSectionVars false
set_option linter.unusedSimpArgs false
namespace Go.Proofs.Ytmoldmnhijcckaa
open Go.RowKit Go.Shelf
set_option maxRecDepth 100000 in
set_option maxHeartbeats 1000000 in
theorem collectV_in (F : Fence) (n : Nat) (h8 : F.fn 57) (h11 : F.fn 81) (h10 : F.fn 82) (hro : F.round = none) (hn : 4 ≤ n) (Bm b : Nat) (ks : List Vrp) (hk6 : ks.length ≤ 1000000) (w : World) (hBm : Bm < w.heap.size) (hm : w.cell? ⟨Bm, 0, none⟩ = some (.map (some b))) (hM : MapV w b ks) :
    CallsIn F n Try.prog 57 #[.func (.func 82) #[] #[.pointer (some ⟨Bm, 0, none⟩)]] w fun e w' => ∃ (v : Value) (xs : List Vrp), e = .returned v ∧ (xs.Nodup ∧ ∀ x, x ∈ xs ↔ x ∈ ks) ∧ w'.ownsRow w.heap.size 27 20 v xs.length (xs.flatMap Vrp.cells) ∧ Below w.heap.size w w' := by
  have h1 : 1 ≤ n := by omega
  refine callsIn_of_wp Try.func57 rfl h8 ?_ hro
  simp only [Try.ntmps57, List.size_toArray, List.length_cons, List.length_nil, Nat.reduceAdd, Nat.reduceSub, Array.replicate_succ, Array.replicate_zero, List.push_toArray, List.append_toArray, List.nil_append, List.cons_append]
  gi_wp2_with (gi_at_call 81; refine (appendV_in F (n - 1) h11 h10 hro (by omega) Bm b ks hk6 _ hBm hm hM).mono ?_; rintro e w' ⟨v, ss, rfl, hS, hrow, hb⟩)
  go_ret
  exact ⟨v, ss, rfl, hS, hrow, hb⟩
theorem collectV_any (Bm b : Nat) (ks : List Vrp) (hk6 : ks.length ≤ 1000000) (w : World) (hBm : Bm < w.heap.size) (hm : w.cell? ⟨Bm, 0, none⟩ = some (.map (some b))) (hM : MapV w b ks) :
    Calls Try.prog 57 #[.func (.func 82) #[] #[.pointer (some ⟨Bm, 0, none⟩)]] w fun e w' => ∃ (v : Value) (xs : List Vrp), e = .returned v ∧ (xs.Nodup ∧ ∀ x, x ∈ xs ↔ x ∈ ks) ∧ w'.ownsRow w.heap.size 27 20 v xs.length (xs.flatMap Vrp.cells) ∧ Below w.heap.size w w' :=
  callsIn_wide.1 (collectV_in Fence.wide 4 trivial trivial trivial rfl (by omega) Bm b ks hk6 w hBm hm hM)
set_option maxRecDepth 100000 in
set_option maxHeartbeats 1000000 in
theorem keysV_any (mb : Option Nat) (w : World) : Calls Try.prog 58 #[.map mb] w fun e w' => e = .returned (.func (.func 82) #[] #[.pointer (some ⟨w.heap.size, 0, none⟩)]) ∧ w' = w.alloc (.cells #[.map mb] 93) := by
  go_enter Try.func58, Try.ntmps58
  go_wp2_with fail
  go_ret
  exact ⟨rfl, rfl⟩
structure HsS (w : World) (g : Nat) (r : RoT) (W : World) : Prop where
  a : RtA W g r
  f : Below w.heap.size w W
theorem HsS.next {w W W' : World} {g : Nat} {r : RoT} (h : HsS w g r W) (hb : Below W.heap.size W W') : HsS w g r W' := ⟨h.a.next hb, below_then h.f (Nat.le_refl _) hb⟩
def HasPost (w : World) (h : Option (Int × List Vrp)) (sn : UInt32) (e : Ending) (w' : World) : Prop :=
  match h with
  | none => e = .returned (.tuple #[.slice none 0 0, .int .u32 0, .bool false]) ∧ Below w.heap.size w w'
  | some t => ∃ A c, e = .returned (.tuple #[.slice A (rowOf t.2).length c, .int .u32 sn.toNat, .bool true]) ∧ w'.ownsRow w.heap.size 27 20 (.slice A (rowOf t.2).length c) (rowOf t.2).length ((rowOf t.2).flatMap Vrp.cells) ∧ Below w.heap.size w w'
set_option maxRecDepth 100000 in
set_option maxHeartbeats 4000000 in
theorem rhas_any (w : World) (g : Nat) (r : RoT) (h : RtA w g r) (hk6 : ∀ t, r.h = some t → t.ks.length ≤ 1000000) : Calls Try.prog 26 #[.pointer (some ⟨g, 0, none⟩)] w (HasPost w r.abs.h r.abs.sn) := by
  have c0 := h.blk.cell 0
  simp only [RoT.cells, List.getElem?_cons_zero] at c0
  cases hh : r.h with
  | none =>
    have HH := Lib.hid (show r.abs.h = none by unfold RoT.abs; rw [hh]; rfl)
    rw [hh] at c0
    simp only [tbP] at c0
    rw [HH.out]
    clear hh hk6
    go_enter Try.func26, Try.ntmps26
    go_wp2_with fail
    refine bodyPost_ret (v := .tuple #[.slice none 0 0, .int .u32 0, .bool false]) (by simp [results, Try.results26, go_sem]) rfl ?_
    exact ⟨rfl, Below.refl _ _⟩
  | some t =>
    have HH := Lib.hid (show r.abs.h = some (t.sess, t.ks) by unfold RoT.abs; rw [hh]; rfl)
    have hk := hk6 t hh
    have HR := Lib.hid hh
    rw [hh] at c0
    simp only [tbP] at c0
    rw [HH.out]
    have hS0 : HsS w g r w := ⟨h, Below.refl _ _⟩
    clear hh hk6
    obtain ⟨ir, hir, hrz0, hrz1, hrz2⟩ := info_parts info_vrow
    go_enter Try.func26, Try.ntmps26
    go_upto_region 3 with fail
    clear c0
    refine reg_sch2 18 [(true, 0), (true, 1), (true, 2), (true, 3), (true, 4), (true, 5), (true, 6), (true, 11), (true, 12), (true, 13), (true, 14), (false, 7), (false, 8), (false, 9), (false, 10), (true, 15), (true, 16), (true, 17)] (by kernel_rfl) (by kernel_rfl) (HsS w g r) (HsS w g r) ?_ ?_ ?_
    · first | exact hS0.next (Below.refl _ _).drew | exact hS0
    · exact fun _ h => h
    intro W hSW
    simp only [List.map_cons, List.map_nil, List.getD_cons_zero, List.getD_cons_succ, List.drop_succ_cons, List.drop_zero]
    refine hd_pure (v := ?_) (by rfl) (fun W' hS' => ?_) ?_ -- 0
    rotate_left
    · have hB := hS'.a.blk; unfold RoT.cells at hB; rw [HR.out] at hB; have e0 := hB.cell 0; have e1 := hB.cell 1; have k1 := (hS'.a.has t HR.out).b.cell 1; simp only [tbP, List.getElem?_cons_zero, List.getElem?_cons_succ] at e0 e1 k1; clear hB; (go_simp; first | with_reducible rfl | rfl)
    try simp only [Act.put, List.setIfInBounds_toArray, List.set_cons_zero, List.set_cons_succ]
    refine hd_pure (v := ?_) (by rfl) (fun W' hS' => ?_) ?_ -- 1
    rotate_left
    · have hB := hS'.a.blk; unfold RoT.cells at hB; rw [HR.out] at hB; have e0 := hB.cell 0; have e1 := hB.cell 1; have k1 := (hS'.a.has t HR.out).b.cell 1; simp only [tbP, List.getElem?_cons_zero, List.getElem?_cons_succ] at e0 e1 k1; clear hB; (go_simp; first | with_reducible rfl | rfl)
    try simp only [Act.put, List.setIfInBounds_toArray, List.set_cons_zero, List.set_cons_succ]
    refine hd_pure (v := ?_) (by rfl) (fun W' hS' => ?_) ?_ -- 2
    rotate_left
    · have hB := hS'.a.blk; unfold RoT.cells at hB; rw [HR.out] at hB; have e0 := hB.cell 0; have e1 := hB.cell 1; have k1 := (hS'.a.has t HR.out).b.cell 1; simp only [tbP, List.getElem?_cons_zero, List.getElem?_cons_succ] at e0 e1 k1; clear hB; (go_simp; first | with_reducible rfl | rfl)
    try simp only [Act.put, List.setIfInBounds_toArray, List.set_cons_zero, List.set_cons_succ]
    refine hd_pure (v := ?_) (by rfl) (fun W' hS' => ?_) ?_ -- 3
    rotate_left
    · have hB := hS'.a.blk; unfold RoT.cells at hB; rw [HR.out] at hB; have e0 := hB.cell 0; have e1 := hB.cell 1; have k1 := (hS'.a.has t HR.out).b.cell 1; simp only [tbP, List.getElem?_cons_zero, List.getElem?_cons_succ] at e0 e1 k1; clear hB; (go_simp; first | with_reducible rfl | rfl)
    try simp only [Act.put, List.setIfInBounds_toArray, List.set_cons_zero, List.set_cons_succ]
    refine hd_pure (v := ?_) (by rfl) (fun W' hS' => ?_) ?_ -- 4
    rotate_left
    · have hB := hS'.a.blk; unfold RoT.cells at hB; rw [HR.out] at hB; have e0 := hB.cell 0; have e1 := hB.cell 1; have k1 := (hS'.a.has t HR.out).b.cell 1; simp only [tbP, List.getElem?_cons_zero, List.getElem?_cons_succ] at e0 e1 k1; clear hB; (go_simp; first | with_reducible rfl | rfl)
    try simp only [Act.put, List.setIfInBounds_toArray, List.set_cons_zero, List.set_cons_succ]
    refine hd_pure (v := ?_) (by rfl) (fun W' hS' => ?_) ?_ -- 5
    rotate_left
    · have hB := hS'.a.blk; unfold RoT.cells at hB; rw [HR.out] at hB; have e0 := hB.cell 0; have e1 := hB.cell 1; have k1 := (hS'.a.has t HR.out).b.cell 1; simp only [tbP, List.getElem?_cons_zero, List.getElem?_cons_succ] at e0 e1 k1; clear hB; (go_simp; first | with_reducible rfl | rfl)
    try simp only [Act.put, List.setIfInBounds_toArray, List.set_cons_zero, List.set_cons_succ]
    refine hd_pure (v := ?_) (by rfl) (fun W' hS' => ?_) ?_ -- 6
    rotate_left
    · have hB := hS'.a.blk; unfold RoT.cells at hB; rw [HR.out] at hB; have e0 := hB.cell 0; have e1 := hB.cell 1; have k1 := (hS'.a.has t HR.out).b.cell 1; simp only [tbP, List.getElem?_cons_zero, List.getElem?_cons_succ] at e0 e1 k1; clear hB; (go_simp; first | with_reducible rfl | rfl)
    try simp only [Act.put, List.setIfInBounds_toArray, List.set_cons_zero, List.set_cons_succ]
    refine hd_pure (v := ?_) (by rfl) (fun W' hS' => ?_) ?_ -- 11
    rotate_left
    · have hB := hS'.a.blk; unfold RoT.cells at hB; rw [HR.out] at hB; have e0 := hB.cell 0; have e1 := hB.cell 1; have k1 := (hS'.a.has t HR.out).b.cell 1; simp only [tbP, List.getElem?_cons_zero, List.getElem?_cons_succ] at e0 e1 k1; clear hB; (go_simp; first | with_reducible rfl | rfl)
    try simp only [Act.put, List.setIfInBounds_toArray, List.set_cons_zero, List.set_cons_succ]
    refine hd_pure (v := ?_) (by rfl) (fun W' hS' => ?_) ?_ -- 12
    rotate_left
    · have hB := hS'.a.blk; unfold RoT.cells at hB; rw [HR.out] at hB; have e0 := hB.cell 0; have e1 := hB.cell 1; have k1 := (hS'.a.has t HR.out).b.cell 1; simp only [tbP, List.getElem?_cons_zero, List.getElem?_cons_succ] at e0 e1 k1; clear hB; (go_simp; first | with_reducible rfl | rfl)
    try simp only [Act.put, List.setIfInBounds_toArray, List.set_cons_zero, List.set_cons_succ]
    refine hd_pure (v := ?_) (by rfl) (fun W' hS' => ?_) ?_ -- 13
    rotate_left
    · have hB := hS'.a.blk; unfold RoT.cells at hB; rw [HR.out] at hB; have e0 := hB.cell 0; have e1 := hB.cell 1; have k1 := (hS'.a.has t HR.out).b.cell 1; simp only [tbP, List.getElem?_cons_zero, List.getElem?_cons_succ] at e0 e1 k1; clear hB; (go_simp; first | with_reducible rfl | rfl)
    try simp only [Act.put, List.setIfInBounds_toArray, List.set_cons_zero, List.set_cons_succ]
    refine hd_pure (v := ?_) (by rfl) (fun W' hS' => ?_) ?_ -- 14
    rotate_left
    · have hB := hS'.a.blk; unfold RoT.cells at hB; rw [HR.out] at hB; have e0 := hB.cell 0; have e1 := hB.cell 1; have k1 := (hS'.a.has t HR.out).b.cell 1; simp only [tbP, List.getElem?_cons_zero, List.getElem?_cons_succ] at e0 e1 k1; clear hB; (go_simp; first | with_reducible rfl | rfl)
    try simp only [Act.put, List.setIfInBounds_toArray, List.set_cons_zero, List.set_cons_succ]
    refine hd_sole (by rfl) (fun K hK => ?_) -- 7
    go_simp
    have hM0 := (hSW.a.has t HR.out).m
    have hS1 := hSW
    refine (keysV_any (some t.m) W).mono ?_
    rintro e w1 ⟨rfl, rfl⟩
    have hb1 : Below W.heap.size W (W.alloc (.cells #[.map (some t.m)] 93)) := (Below.refl _ _).alloc (Nat.le_refl _) _
    refine hK _ _ (hS1.next hb1) ?_
    clear hK K hSW
    intro hSW
    try simp only [Act.put, List.setIfInBounds_toArray, List.set_cons_zero, List.set_cons_succ]
    refine hd_sole (by rfl) (fun K hK => ?_) -- 8
    go_simp
    refine (collectV_any W.heap.size t.m t.ks hk _ (by simp) ((Blk.new W 93 [.map (some t.m)]).cell 0) (hM0.below hb1)).mono ?_
    rintro e w2 ⟨v, xs, rfl, ⟨hnd, hxs⟩, hrow, hb2⟩
    obtain ⟨A2, c2, rfl⟩ := own_slice' hrow
    have hS2 := hSW.next hb2
    refine hK _ _ (hS2) ?_
    clear hK K hSW
    intro hSW
    try simp only [Act.put, List.setIfInBounds_toArray, List.set_cons_zero, List.set_cons_succ]
    refine hd_sole (by rfl) (fun K hK => ?_) -- 9
    go_simp
    have hb3 : Below w2.heap.size w2 (w2.alloc (.cells #[.slice A2 xs.length c2] 50)) := (Below.refl _ _).alloc (Nat.le_refl _) _
    have hcl : (w2.alloc (.cells #[.slice A2 xs.length c2] 50)).cell? ⟨w2.heap.size, 0, none⟩ = some (.slice A2 xs.length c2) := (Blk.new w2 50 [.slice A2 xs.length c2]).cell 0
    refine hK _ _ (hS2.next hb3) ?_
    clear hK K hSW
    intro hSW
    try simp only [Act.put, List.setIfInBounds_toArray, List.set_cons_zero, List.set_cons_succ]
    refine hd_sole (by rfl) (fun K hK => ?_) -- 10
    go_simp
    refine (join1_any xs _ rfl A2 c2 _ w2.heap.size 1 (Nat.le_trans (nodup_le hnd (fun x hx => (hxs x).1 hx)) hk) _ (by simp) ((Reads.of_own hrow).alloc (Nat.le_refl _) _) hcl (by simp)).mono ?_
    rintro e w4 ⟨A4, c4, rfl, hrow4, hb4⟩
    refine hK _ _ ((hS2.next hb3).next hb4) ?_
    clear hK K hSW
    intro hSW
    try simp only [Act.put, List.setIfInBounds_toArray, List.set_cons_zero, List.set_cons_succ]
    refine hd_pure (v := ?_) (by rfl) (fun W' hS' => ?_) ?_ -- 15
    rotate_left
    · have hB := hS'.a.blk; unfold RoT.cells at hB; rw [HR.out] at hB; have e0 := hB.cell 0; have e1 := hB.cell 1; have k1 := (hS'.a.has t HR.out).b.cell 1; simp only [tbP, List.getElem?_cons_zero, List.getElem?_cons_succ] at e0 e1 k1; clear hB; (go_simp; first | with_reducible rfl | rfl)
    try simp only [Act.put, List.setIfInBounds_toArray, List.set_cons_zero, List.set_cons_succ]
    refine hd_pure (v := ?_) (by rfl) (fun W' hS' => ?_) ?_ -- 16
    rotate_left
    · have hB := hS'.a.blk; unfold RoT.cells at hB; rw [HR.out] at hB; have e0 := hB.cell 0; have e1 := hB.cell 1; have k1 := (hS'.a.has t HR.out).b.cell 1; simp only [tbP, List.getElem?_cons_zero, List.getElem?_cons_succ] at e0 e1 k1; clear hB; (go_simp; first | with_reducible rfl | rfl)
    try simp only [Act.put, List.setIfInBounds_toArray, List.set_cons_zero, List.set_cons_succ]
    refine hd_pure (v := ?_) (by rfl) (fun W' hS' => ?_) ?_ -- 17
    rotate_left
    · have hB := hS'.a.blk; unfold RoT.cells at hB; rw [HR.out] at hB; have e0 := hB.cell 0; have e1 := hB.cell 1; have k1 := (hS'.a.has t HR.out).b.cell 1; simp only [tbP, List.getElem?_cons_zero, List.getElem?_cons_succ] at e0 e1 k1; clear hB; (go_simp; first | with_reducible rfl | rfl)
    try simp only [Act.put, List.setIfInBounds_toArray, List.set_cons_zero, List.set_cons_succ]
    refine hd_nil ?_
    have hfin := hSW.f; have hbs := hS2.f.size; rw [rowOf_congr hxs] at hrow4 ⊢; clear hSW
    refine wpList_nil (NoPanic.normal ?_)
    go_wp2_with fail
    refine bodyPost_ret (v := .tuple #[.slice A4 (rowOf t.ks).length c4, .int .u32 r.sn.toNat, .bool true]) (by simp [results, Try.results26, go_sem]) rfl ?_
    exact ⟨A4, c4, rfl, own_base_mono hrow4 (by simp; omega), hfin⟩
end Go.Proofs.Ytmoldmnhijcckaa
/- Serials, as plain law: which are remembered, and what a router is told that asks by one. -/
set_option linter.unusedVariables false
set_option linter.unusedSectionVars false
set_option linter.unusedSimpArgs false
namespace Go.Proofs.Ytmoldmnhijcckaa
open Go.RowKit
/-- The serials that are remembered when there were n other rows. -/
def serL (n : Nat) : List UInt32 := (List.range' (n - min n 5) (min n 5)).map fun j => 10 + UInt32.ofNat j
def updM (l : List UInt32) : List UInt32 := if 5 < l.length then l.drop 1 else l
theorem ser_step : ∀ n, n < 12 → updM (serL n ++ [9 + UInt32.ofNat n + 1]) = serL (n + 1) := by decide
theorem ser_num : ∀ n, n < 12 → (9 + UInt32.ofNat n + 1 : UInt32) = 9 + UInt32.ofNat (n + 1) := by decide
theorem ser_last : ∀ m, m < 12 → serL (m + 1) = (serL (m + 1)).dropLast ++ [9 + UInt32.ofNat (m + 1)] ∧ (9 + UInt32.ofNat (m + 1)) ∉ (serL (m + 1)).dropLast := by decide
theorem ser_len : ∀ n, n < 13 → (serL n).length = min n 5 := by decide
theorem ser_mem (n : Nat) (hn : n ≤ 12) (ago : UInt32) : (9 + UInt32.ofNat n - ago ∈ serL n) ↔ ago.toNat < min n 5 := by
  unfold serL
  rw [List.mem_map]
  have ha := ago.toNat_lt
  constructor
  · rintro ⟨j, hj, e⟩
    have hj' := List.mem_range'_1.1 hj
    have e2 := congrArg UInt32.toNat e
    rw [UInt32.toNat_sub, UInt32.toNat_add, UInt32.toNat_add, UInt32.toNat_ofNat, UInt32.toNat_ofNat] at e2
    simp at e2
    omega
  · intro h
    refine ⟨n - 1 - ago.toNat, List.mem_range'_1.2 ⟨by omega, by omega⟩, UInt32.toNat.inj ?_⟩
    rw [UInt32.toNat_sub, UInt32.toNat_add, UInt32.toNat_add, UInt32.toNat_ofNat, UInt32.toNat_ofNat]
    simp
    omega
structure SerOk (n : Nat) (st : UInt32 × List (List Vrp × UInt32)) : Prop where
  few : n ≤ 12
  sn : st.1 = 9 + UInt32.ofNat n
  l : st.2.map Prod.snd = serL n
theorem SerOk.start : SerOk 0 (9, []) := ⟨by omega, by decide, by decide⟩
theorem updS_snd (l : List (List Vrp × UInt32)) : (updS l).map Prod.snd = updM (l.map Prod.snd) := by
  unfold updS updM
  rw [List.length_map]
  split
  · rw [List.map_drop]
  · rfl
theorem updS_last (l : List (List Vrp × UInt32)) (x : List Vrp × UInt32) : (updS (l ++ [x])).getLast? = some x := by
  unfold updS
  split
  · rename_i h
    rw [List.getLast?_drop, if_neg (by omega)]
    simp
  · simp
theorem SerOk.last {n : Nat} {st : UInt32 × List (List Vrp × UInt32)} (h : SerOk n st) (hn : 0 < n) : ∃ l s, st.2 = l ++ [s] ∧ s.2 = 9 + UInt32.ofNat n ∧ ∀ x ∈ l, x.2 ≠ 9 + UInt32.ofNat n := by
  obtain ⟨m, rfl⟩ : ∃ m, n = m + 1 := ⟨n - 1, by omega⟩
  obtain ⟨e1, e2⟩ := ser_last m (by have := h.few; omega)
  have hl := h.l
  rcases List.eq_nil_or_concat st.2 with e | ⟨l, s, e⟩
  · rw [e, e1] at hl
    simp at hl
  · rw [List.concat_eq_append] at e
    rw [e, e1, List.map_append] at hl
    obtain ⟨h1, h2⟩ := List.append_inj' hl rfl
    refine ⟨l, s, e, by simpa using h2, fun x hx hs => e2 ?_⟩
    rw [← h1, ← hs]
    exact List.mem_map.2 ⟨x, hx, rfl⟩
theorem SerOk.none_ {n : Nat} {st : UInt32 × List (List Vrp × UInt32)} (h : SerOk n st) (hn : n = 0) : st.2 = [] := by
  subst hn
  have := h.l
  exact List.map_eq_nil_iff.1 this
theorem SerOk.step {n : Nat} {st : UInt32 × List (List Vrp × UInt32)} (h : SerOk n st) (hn : n < 12) (xs : List Vrp) :
    SerOk (if decide (st.2.getLast?.map Prod.fst ≠ some (rowOf xs)) = true then n + 1 else n) (mkStep st xs) ∧ (mkStep st xs).2.getLast?.map Prod.fst = some (rowOf xs) ∧
    (decide (st.2.getLast?.map Prod.fst ≠ some (rowOf xs)) = true ∨ 0 < n) := by
  unfold mkStep
  by_cases he : st.2.getLast?.map Prod.fst = some (rowOf xs)
  · rw [if_pos he]
    simp only [he]
    refine ⟨by simpa using h, trivial, .inr ?_⟩
    rcases Nat.eq_zero_or_pos n with h0 | h0
    · rw [h.none_ h0] at he
      simp at he
    · exact h0
  · rw [if_neg he]
    refine ⟨?_, ?_, .inl (by simpa using he)⟩
    · rw [if_pos (by simpa using he)]
      refine ⟨by omega, ?_, ?_⟩
      · rw [h.sn]; exact ser_num n hn
      · show (updS _).map Prod.snd = _
        rw [updS_snd, List.map_append, h.l, h.sn]
        exact ser_step n hn
    · show (updS _).getLast?.map Prod.fst = _
      rw [updS_last]
      rfl
theorem mkStep_same (st : UInt32 × List (List Vrp × UInt32)) (xs : List Vrp) (h : st.2.getLast?.map Prod.fst = some (rowOf xs)) : mkStep st xs = st := by
  unfold mkStep; rw [if_pos h]
theorem lessF_self (l : List Vrp) : lessF l l = [] := by
  unfold lessF
  rw [List.filter_eq_nil_iff]
  intro a ha
  simp [ha]
theorem tellAll_flat (vs : List Vrp) (add : Bool) : ∃ ps : List Pdu, tellAll vs add = ps.flatMap wrB ∧ (∀ p ∈ ps, pduOk p = true) ∧ (vs = [] → ps = []) := by
  refine ⟨(vs.map fun v => pdOf v add).filter pduOk, ?_, fun p hp => (List.mem_filter.1 hp).2, fun h => by rw [h]; rfl⟩
  unfold tellAll
  induction vs with
  | nil => rfl
  | cons v vs ih =>
    rw [List.flatMap_cons, ih, List.map_cons, List.filter_cons]
    unfold wrD
    cases hp : pduOk (pdOf v add)
    · simp
    · simp
theorem okBegin : pduOk (pdS 3 7 0 0) = true := by kernel_rfl
theorem okNoData : pduOk (pdS 10 0 0 2) = true := by kernel_rfl
theorem okLost : pduOk (pdS 8 0 0 0) = true := by kernel_rfl
theorem okAsk (s : UInt32) : pduOk (pdS 1 7 s 0) = true := by
  unfold pduOk
  simp [pdS, isKind, namedOf, imin, imax]
  exact ⟨⟨rfl, rfl, rfl, rfl, rfl⟩, rfl⟩
theorem okEnd (s : UInt32) : pduOk (pdS 7 7 s 0) = true := by
  unfold pduOk
  simp [pdS, isKind, namedOf, imin, imax]
  exact ⟨⟨rfl, rfl, rfl, rfl, rfl⟩, rfl⟩
/-- What is told to who asks by a serial. -/
def SerP (n : Nat) (ago : UInt32) (ps : List Pdu) : Prop :=
  (n = 0 ∧ ps = [pdS 10 0 0 2]) ∨ (0 < n ∧ ago.toNat < min n 5 ∧ ∃ qs, ps = pdS 3 7 0 0 :: (qs ++ [pdS 7 7 (9 + UInt32.ofNat n) 0]) ∧ (ago.toNat = 0 → qs = [])) ∨ (0 < n ∧ ¬ ago.toNat < min n 5 ∧ ps = [pdS 8 0 0 0])
theorem ser_since {n : Nat} (s r : List Vrp × UInt32) (hs : s.2 = 9 + UInt32.ofNat n) : ∃ qs : List Pdu, sinceG 7 s r.1 = (pdS 3 7 0 0 :: (qs ++ [pdS 7 7 (9 + UInt32.ofNat n) 0])).flatMap wrB ∧ (∀ p ∈ qs, pduOk p = true) ∧ (r.1 = s.1 → qs = []) := by
  obtain ⟨p1, e1, o1, z1⟩ := tellAll_flat (moreOf s.1 r.1) false
  obtain ⟨p2, e2, o2, z2⟩ := tellAll_flat (moreOf r.1 s.1) true
  refine ⟨p1 ++ p2, ?_, fun p hp => (List.mem_append.1 hp).elim (o1 p) (o2 p), fun h => ?_⟩
  · unfold sinceG sinceB
    simp only
    rw [e1, e2, hs]
    unfold wrD
    rw [okBegin, okEnd]
    simp
  · rw [z1 (by rw [h]; exact lessF_self _), z2 (by rw [h]; exact lessF_self _)]
    rfl
theorem ser_take {n : Nat} {st : UInt32 × List (List Vrp × UInt32)} (h : SerOk n st) (ago : UInt32) :
    ∃ ps : List Pdu, takeG 7 st.2 (pdS 1 7 (9 + UInt32.ofNat n - ago) 0) = (ps.flatMap wrB, true) ∧ (∀ p ∈ ps, pduOk p = true) ∧ SerP n ago ps := by
  unfold takeG
  rw [if_neg (show ¬ (pdS 1 7 (9 + UInt32.ofNat n - ago) 0).kind = 10 from (show ¬ (1 : Int) = 10 by decide)), if_pos (.inr rfl)]
  rcases Nat.eq_zero_or_pos n with h0 | h0
  · rw [h.none_ h0]
    refine ⟨[pdS 10 0 0 2], ?_, fun p hp => by rw [List.mem_singleton] at hp; subst hp; exact okNoData, .inl ⟨h0, rfl⟩⟩
    unfold wrD
    simp [okNoData]
  · obtain ⟨l, s, e, hs, hl⟩ := h.last h0
    have hg : st.2.getLast? = some s := by rw [e]; simp
    rw [hg]
    simp only
    rw [if_neg (show ¬ (pdS 1 7 (9 + UInt32.ofNat n - ago) 0).kind = 2 from (show ¬ (1 : Int) = 2 by decide)), if_pos (show (pdS 1 7 (9 + UInt32.ofNat n - ago) 0).session = 7 from rfl)]
    have hm := ser_mem n h.few ago
    rw [← h.l] at hm
    by_cases hin : ago.toNat < min n 5
    · obtain ⟨x, hx, hxs⟩ := List.mem_map.1 (hm.2 hin)
      cases hf : st.2.find? (fun s => s.2 == (pdS 1 7 (9 + UInt32.ofNat n - ago) 0).serial) with
      | none =>
        have := List.find?_eq_none.1 hf x hx
        exact absurd (by simpa [pdS] using hxs) this
      | some r =>
        obtain ⟨qs, q1, q2, q3⟩ := ser_since s r hs
        refine ⟨_, by simp only; rw [q1], fun p hp => ?_, .inr (.inl ⟨h0, hin, qs, rfl, fun ha => q3 ?_⟩)⟩
        · rcases List.mem_cons.1 hp with rfl | hp
          · exact okBegin
          · rcases List.mem_append.1 hp with hp | hp
            · exact q2 p hp
            · rw [List.mem_singleton] at hp; subst hp; exact okEnd _
        · have ha0 : ago = 0 := UInt32.toNat.inj ha
          have hr2 := List.find?_some hf
          have hrm := List.mem_of_find?_eq_some hf
          have hr3 : r.2 = 9 + UInt32.ofNat n := by
            have : r.2 = 9 + UInt32.ofNat n - ago := by simpa [pdS] using hr2
            rw [this, ha0]
            simp
          rw [e] at hrm
          rcases List.mem_append.1 hrm with hr | hr
          · exact absurd hr3 (hl r hr)
          · rw [List.mem_singleton] at hr; rw [hr]
    · cases hf : st.2.find? (fun s => s.2 == (pdS 1 7 (9 + UInt32.ofNat n - ago) 0).serial) with
      | some r =>
        have hr2 := List.find?_some hf
        exact absurd (hm.1 (List.mem_map.2 ⟨r, List.mem_of_find?_eq_some hf, by simpa [pdS] using hr2⟩)) hin
      | none =>
        refine ⟨[pdS 8 0 0 0], ?_, fun p hp => by rw [List.mem_singleton] at hp; subst hp; exact okLost, .inr (.inr ⟨h0, hin, rfl⟩)⟩
        simp only
        unfold wrD
        simp [okLost]
theorem ser_feed {n : Nat} {st : UInt32 × List (List Vrp × UInt32)} (h : SerOk n st) (ago : UInt32) (ss : List SetV) (ha : absS ss = st.2) :
    ∃ ps : List Pdu, feedF 7 ss [] (wrB (pdS 1 7 (9 + UInt32.ofNat n - ago) 0)) = (ps.flatMap wrB, some []) ∧ allOf (ps.flatMap wrB) = (ps, [], 0, 0) ∧ SerP n ago ps := by
  obtain ⟨ps, h1, h2, h3⟩ := ser_take h ago
  refine ⟨ps, ?_, all_flat ps h2, h3⟩
  have h4 := all_flat [pdS 1 7 (9 + UInt32.ofNat n - ago) 0] (fun p hp => by rw [List.mem_singleton] at hp; subst hp; exact okAsk _)
  rw [List.flatMap_cons, List.flatMap_nil, List.append_nil] at h4
  unfold feedF
  rw [List.nil_append, h4]
  simp only [goF, takeG_eq, ha, h1, if_true, List.append_nil]
end Go.Proofs.Ytmoldmnhijcckaa
/- A router that asks a cache, as plain law. -/
set_option linter.unusedVariables false
set_option linter.unusedSectionVars false
set_option linter.unusedSimpArgs false
namespace Go.Proofs.Ytmoldmnhijcckaa
open Go.RowKit
theorem ok_pdOf {v : Vrp} (h : vrpOk v = true) (add : Bool) : pduOk (pdOf v add) = true := by
  unfold pduOk pdOf
  cases hv : v.p.v6 <;> simp [hv, h, isKind, namedOf, imin, imax]
  · exact ⟨⟨rfl, rfl, rfl, rfl, rfl⟩, by decide⟩
  · exact ⟨⟨rfl, rfl, rfl, rfl, rfl⟩, by decide⟩
theorem tellAll_ok (vs : List Vrp) (add : Bool) (h : ∀ v ∈ vs, vrpOk v = true) : tellAll vs add = (vs.map fun v => pdOf v add).flatMap wrB := by
  unfold tellAll
  induction vs with
  | nil => rfl
  | cons v vs ih =>
    rw [List.flatMap_cons, ih (fun x hx => h x (by simp [hx])), List.map_cons, List.flatMap_cons, wrD_ok (ok_pdOf (h v (by simp)) add)]
theorem pdOf_kind (v : Vrp) (add : Bool) : (pdOf v add).kind = 4 ∨ (pdOf v add).kind = 6 := by
  unfold pdOf
  cases v.p.v6 <;> simp
theorem take_pdOf (s : RoS) (v : Vrp) (add : Bool) : takeR s (pdOf v add) = changeR s (pdOf v add) := by
  unfold takeR
  have := pdOf_kind v add
  rw [if_neg (by omega), if_neg (by omega), if_pos this]
theorem go_add (rest : List Pdu) : ∀ (vs : List Vrp) (s : RoS) (n : Int) (ks : List Vrp), s.nx = some (n, ks) → vs.Nodup → (∀ v ∈ vs, v ∉ ks) → goR s (vs.map (fun v => pdOf v true) ++ rest) = goR { s with nx := some (n, ks ++ vs) } rest
  | [], s, n, ks, h, _, _ => by
    rw [List.append_nil, ← h]
    rfl
  | v :: vs, s, n, ks, h, hn, hnot => by
    have h1 : takeR s (pdOf v true) = ({ s with nx := some (n, ks ++ [v]) }, 0) := by
      rw [take_pdOf]
      unfold changeR
      rw [h]
      show (if (true = true) then (if v ∈ ks then _ else _) else _) = _
      rw [if_pos rfl, if_neg (hnot v (by simp))]
      rfl
    have hn' := List.nodup_cons.1 hn
    rw [List.map_cons, List.cons_append, goR, h1, if_pos rfl]
    have ih := go_add rest vs { s with nx := some (n, ks ++ [v]) } n (ks ++ [v]) rfl hn'.2 (fun x hx hm => by
      rcases List.mem_append.1 hm with hm | hm
      · exact hnot x (by simp [hx]) hm
      · rw [List.mem_singleton] at hm; subst hm; exact hn'.1 hx)
    rw [ih]
    simp
theorem go_del (rest : List Pdu) : ∀ (vs : List Vrp) (s : RoS) (n : Int) (ks : List Vrp), s.nx = some (n, ks) → vs.Nodup → (∀ v ∈ vs, v ∈ ks) → goR s (vs.map (fun v => pdOf v false) ++ rest) = goR { s with nx := some (n, ks.filter fun x => !decide (x ∈ vs)) } rest
  | [], s, n, ks, h, _, _ => by
    have : (ks.filter fun x => !decide (x ∈ ([] : List Vrp))) = ks := List.filter_eq_self.2 fun x _ => by simp
    rw [this, ← h]
    rfl
  | v :: vs, s, n, ks, h, hn, hin => by
    have h1 : takeR s (pdOf v false) = ({ s with nx := some (n, ks.filter fun x => !decide (x = v)) }, 0) := by
      rw [take_pdOf]
      unfold changeR
      rw [h]
      show (if (false = true) then _ else (if v ∈ ks then _ else _)) = _
      rw [if_neg (by decide), if_pos (hin v (by simp))]
      rfl
    have hn' := List.nodup_cons.1 hn
    rw [List.map_cons, List.cons_append, goR, h1, if_pos rfl]
    have ih := go_del rest vs { s with nx := some (n, ks.filter fun x => !decide (x = v)) } n (ks.filter fun x => !decide (x = v)) rfl hn'.2 (fun x hx => by
      rw [List.mem_filter]
      refine ⟨hin x (by simp [hx]), ?_⟩
      have : x ≠ v := fun e => hn'.1 (by rw [← e]; exact hx)
      simp [this])
    rw [ih, List.filter_filter]
    have : (fun x => (!decide (x ∈ vs) && !decide (x = v))) = fun x => !decide (x ∈ v :: vs) := by
      funext x
      by_cases h1 : x = v <;> by_cases h2 : x ∈ vs <;> simp [h1, h2]
    rw [this]
theorem rise_nodup {xs : List Vrp} (h : RiseV xs) : xs.Nodup := h.imp fun {a b} hab e => by rw [e, cmpV_irr] at hab; omega
theorem lessF_nodup {av bs : List Vrp} (h : av.Nodup) : (lessF av bs).Nodup := h.sublist List.filter_sublist
theorem mem_lessF {av bs : List Vrp} {x : Vrp} : x ∈ lessF av bs ↔ x ∈ av ∧ x ∉ bs := by
  unfold lessF
  rw [List.mem_filter]
  simp
/-- A row: rising, and of what may be. -/
def Row (xs : List Vrp) : Prop := RiseV xs ∧ ∀ x ∈ xs, vrpOk x = true
theorem Row.of (xs : List Vrp) : Row (rowOf xs) := ⟨rowOf_rise xs, fun x hx => (rowOf_ok hx).1⟩
theorem Row.self {xs : List Vrp} (h : Row xs) : rowOf xs = xs := rowOf_self h.1 h.2
def sincePs (row : List Vrp) (sn : UInt32) (xs : List Vrp) : List Pdu := pdS 3 7 0 0 :: ((moreOf row xs).map (fun v => pdOf v false) ++ ((moreOf xs row).map (fun v => pdOf v true) ++ [pdS 7 7 sn 0]))
theorem sincePs_ok (row : List Vrp) (sn : UInt32) (xs : List Vrp) : ∀ p ∈ sincePs row sn xs, pduOk p = true := by
  intro p hp
  unfold sincePs at hp
  rcases List.mem_cons.1 hp with rfl | hp
  · exact okBegin
  rcases List.mem_append.1 hp with hp | hp
  · obtain ⟨v, hv, rfl⟩ := List.mem_map.1 hp
    exact ok_pdOf ((Row.of _).2 v (mem_lessF.1 hv).1) _
  rcases List.mem_append.1 hp with hp | hp
  · obtain ⟨v, hv, rfl⟩ := List.mem_map.1 hp
    exact ok_pdOf ((Row.of _).2 v (mem_lessF.1 hv).1) _
  · rw [List.mem_singleton] at hp; subst hp; exact okEnd _
theorem since_ps (s : List Vrp × UInt32) (xs : List Vrp) : sinceG 7 s xs = (sincePs s.1 s.2 xs).flatMap wrB := by
  unfold sinceG sinceB sincePs
  simp only
  rw [tellAll_ok (moreOf s.1 xs) _ (fun v hv => (Row.of _).2 v (mem_lessF.1 hv).1), tellAll_ok (moreOf xs s.1) _ (fun v hv => (Row.of _).2 v (mem_lessF.1 hv).1), wrD_ok okBegin, wrD_ok (okEnd _)]
  simp
theorem go_since (r : RoS) (hw : r.waits = true) (base : List Vrp) (hb : (r.kind ≠ 1 ∧ base = []) ∨ (r.kind = 1 ∧ r.h = some (7, base))) (xs : List Vrp) (hx : ∀ x, x ∈ base ↔ x ∈ rowOf xs) (row : List Vrp) (hrow : Row row) (sn : UInt32) :
    ∃ ks, goR r (sincePs row sn xs) = ({ r with h := some (7, ks), sn := sn, nx := none, asked := false }, 0) ∧ ∀ x, x ∈ ks ↔ x ∈ row := by
  have hbeg : takeR r (pdS 3 7 0 0) = ({ r with nx := some (7, base) }, 0) := by
    show beginR r (pdS 3 7 0 0) = _
    unfold beginR
    rw [if_neg (by rw [hw]; decide)]
    rcases hb with ⟨h1, rfl⟩ | ⟨h1, h2⟩
    · rw [if_neg h1]; rfl
    · rw [if_pos h1, h2]
      simp only
      rw [if_neg (by show ¬ ((7 : Int) ≠ 7); decide)]
      rfl
  unfold sincePs
  rw [goR, hbeg, if_pos rfl]
  rw [go_del _ (moreOf row xs) _ 7 base rfl (lessF_nodup (rise_nodup (rowOf_rise _))) (fun v hv => (hx v).2 (mem_lessF.1 hv).1)]
  rw [go_add _ (moreOf xs row) _ 7 _ rfl (lessF_nodup (rise_nodup (rowOf_rise _))) (fun v hv hm => (mem_lessF.1 hv).2 ((hx v).1 (List.mem_filter.1 hm).1))]
  refine ⟨(base.filter fun x => !decide (x ∈ moreOf row xs)) ++ moreOf xs row, ?_, fun x => ?_⟩
  · rw [goR]
    have hend : takeR { r with nx := some (7, (base.filter fun x => !decide (x ∈ moreOf row xs)) ++ moreOf xs row) } (pdS 7 7 sn 0) = ({ r with h := some (7, (base.filter fun x => !decide (x ∈ moreOf row xs)) ++ moreOf xs row), sn := sn, nx := none, asked := false }, 0) := rfl
    rw [hend]
    rfl
  · have hm1 : x ∈ moreOf row xs ↔ x ∈ rowOf xs ∧ x ∉ rowOf row := mem_lessF
    have hm2 : x ∈ moreOf xs row ↔ x ∈ rowOf row ∧ x ∉ rowOf xs := mem_lessF
    rw [hrow.self] at hm1 hm2
    rw [List.mem_append, List.mem_filter, hm2, hx]
    simp only [Bool.not_eq_true', decide_eq_false_iff_not, hm1]
    by_cases h1 : x ∈ rowOf xs <;> by_cases h2 : x ∈ row <;> simp [h1, h2]
/-- A whole question, answered by a cache that has something: what the router is behind it. -/
theorem sync_law (q : RoQ) (hb : q.b = false) (hl : q.l = []) (L : List (List Vrp × UInt32)) (s : List Vrp × UInt32) (hs : L.getLast? = some s) (hrow : ∀ r ∈ L, Row r.1)
    (hq : q.s.h = none ∨ ∃ ks, q.s.h = some (7, ks) ∧ ∀ r ∈ L, r.2 = q.s.sn → ∀ x, x ∈ ks ↔ x ∈ r.1) :
    ∃ (p : Pdu) (ps : List Pdu) (q' : RoQ), (askQ q).2 = wrB p ∧ pduOk p = true ∧ takeG 7 L p = (ps.flatMap wrB, true) ∧ (∀ x ∈ ps, pduOk x = true) ∧ takeQ (askQ q).1 (ps.flatMap wrB) = (q', 0) ∧ q'.b = false ∧ q'.l = [] ∧
      ((q'.s.h = none ∧ q.s.h ≠ none) ∨ ∃ ks, q'.s.h = some (7, ks) ∧ q'.s.sn = s.2 ∧ ∀ x, x ∈ ks ↔ x ∈ s.1) := by
  have hsm : s ∈ L := List.mem_of_getLast? hs
  have htake : ∀ (r : RoS) (ps : List Pdu) (r' : RoS), (∀ x ∈ ps, pduOk x = true) → goR r ps = (r', 0) → takeQ ⟨r, [], false⟩ (ps.flatMap wrB) = (⟨r', [], false⟩, 0) := fun r ps r' hok hg => by
    unfold takeQ thruR
    rw [List.nil_append, all_flat ps hok]
    simp [hg]
  rcases hq with h0 | ⟨ks, h1, h2⟩
  · have ha : askQ q = (⟨{ q.s with asked := true, kind := 2, nx := none }, [], false⟩, wrB (pdS 2 0 0 0)) := by
      unfold askQ
      rw [hb, h0]
      simp only [Bool.false_eq_true, if_false]
      rw [wrD_ok (show pduOk (pdS 2 0 0 0) = true from by kernel_rfl)]
    obtain ⟨ks, hg, hk⟩ := go_since { q.s with asked := true, kind := 2, nx := none } rfl [] (.inl ⟨(show (2 : Int) ≠ 1 by decide), rfl⟩) [] (fun x => by rw [rowOf_nil]) s.1 (hrow s hsm) s.2
    refine ⟨pdS 2 0 0 0, sincePs s.1 s.2 [], _, by rw [ha], by kernel_rfl, ?_, sincePs_ok _ _ _, by rw [ha]; exact htake _ _ _ (sincePs_ok _ _ _) hg, rfl, rfl, .inr ⟨ks, rfl, rfl, hk⟩⟩
    unfold takeG
    rw [if_neg (show ¬ (pdS 2 0 0 0).kind = 10 by decide), if_pos (.inl rfl), hs]
    simp only
    rw [if_pos (by rfl), since_ps]
  · have ha : askQ q = (⟨{ q.s with asked := true, kind := 1, nx := none }, [], false⟩, wrB (pdS 1 7 q.s.sn 0)) := by
      unfold askQ
      rw [hb, h1]
      simp only [Bool.false_eq_true, if_false]
      rw [wrD_ok (okAsk _)]
    cases hf : L.find? (fun s => s.2 == q.s.sn) with
    | some r =>
      have hr2 : r.2 = q.s.sn := by simpa using List.find?_some hf
      have hrm := List.mem_of_find?_eq_some hf
      obtain ⟨ks', hg, hk⟩ := go_since { q.s with asked := true, kind := 1, nx := none } rfl ks (.inr ⟨rfl, h1⟩) r.1 (fun x => by rw [(hrow r hrm).self]; exact h2 r hrm hr2 x) s.1 (hrow s hsm) s.2
      refine ⟨pdS 1 7 q.s.sn 0, sincePs s.1 s.2 r.1, _, by rw [ha], okAsk _, ?_, sincePs_ok _ _ _, by rw [ha]; exact htake _ _ _ (sincePs_ok _ _ _) hg, rfl, rfl, .inr ⟨ks', rfl, rfl, hk⟩⟩
      unfold takeG
      rw [if_neg (show ¬ (pdS 1 7 q.s.sn 0).kind = 10 from (show ¬ (1 : Int) = 10 by decide)), if_pos (.inr rfl), hs]
      simp only
      rw [if_neg (show ¬ (pdS 1 7 q.s.sn 0).kind = 2 from (show ¬ (1 : Int) = 2 by decide)), if_pos (show (pdS 1 7 q.s.sn 0).session = 7 from rfl)]
      show (match L.find? (fun s => s.2 == q.s.sn) with | some r => _ | none => _) = _
      rw [hf]
      simp only
      rw [since_ps]
    | none =>
      have hg : goR { q.s with asked := true, kind := 1, nx := none } [pdS 8 0 0 0] = ({ q.s with h := none, asked := false, kind := 1, nx := none }, 0) := rfl
      refine ⟨pdS 1 7 q.s.sn 0, [pdS 8 0 0 0], _, by rw [ha], okAsk _, ?_, fun x hx => by rw [List.mem_singleton] at hx; subst hx; exact okLost, by rw [ha]; exact htake _ _ _ (fun x hx => by rw [List.mem_singleton] at hx; subst hx; exact okLost) hg, rfl, rfl, .inl ⟨rfl, by rw [h1]; simp⟩⟩
      unfold takeG
      rw [if_neg (show ¬ (pdS 1 7 q.s.sn 0).kind = 10 from (show ¬ (1 : Int) = 10 by decide)), if_pos (.inr rfl), hs]
      simp only
      rw [if_neg (show ¬ (pdS 1 7 q.s.sn 0).kind = 2 from (show ¬ (1 : Int) = 2 by decide)), if_pos (show (pdS 1 7 q.s.sn 0).session = 7 from rfl)]
      show (match L.find? (fun s => s.2 == q.s.sn) with | some r => _ | none => _) = _
      rw [hf]
      simp only
      rw [wrD_ok okLost]
      simp
end Go.Proofs.Ytmoldmnhijcckaa
