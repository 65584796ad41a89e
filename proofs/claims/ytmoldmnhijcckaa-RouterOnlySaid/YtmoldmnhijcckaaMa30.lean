/- session.take. -/
import Derived.Test.YtmoldmnhijcckaaMa29
set_option linter.unusedVariables false
set_option linter.unusedSectionVars false
set_option linter.unusedSimpArgs false
namespace Go.Proofs.Ytmoldmnhijcckaa
open Go.RowKit
/-- What a message is answered, and whether the router goes on. -/
def takeF (sess : Int) (ss : List SetV) (p : Pdu) : List UInt8 × Bool :=
  if p.kind = 10 then ([], false)
  else if p.kind = 2 ∨ p.kind = 1 then
    match ss.getLast? with
    | none => (wrD (pdS 10 0 0 2), true)
    | some s => if p.kind = 2 then (sinceB sess s [], true) else
      match remF p.session p.serial sess ss with
      | some r => (sinceB sess s r.l, true)
      | none => (wrD (pdS 8 0 0 0), true)
  else (wrD (pdS 10 0 0 3), false)
theorem remF_mem {sess' sess : Int} {sn' : UInt32} {ss : List SetV} {r : SetV} (h : remF sess' sn' sess ss = some r) : r ∈ ss := by
  unfold remF at h
  split at h
  · exact List.mem_of_find?_eq_some h
  · cases h
structure TQ (w : World) (ab : Nat) (bs : List UInt8) (p : Pdu) (W : World) : Prop where
  b : Blk W w.heap.size 29 p.cells
  a : AnsAt W ab bs
  f : AnsFr w W ab
set_option maxRecDepth 100000 in
set_option maxHeartbeats 8000000 in
theorem take_any (p : Pdu) (ab : Nat) (bs : List UInt8) (w w0 : World) (lo g b : Nat) (sess : Int) (serial : UInt32) (v : Value) (ss : List SetV) (f : Int → Option Lf) (many : Int) (h0 : CA w0 lo g b sess serial v ss f many) (hab : w0.heap.size ≤ ab) (hlo : Below ab w0 w) (hA : AnsAt w ab bs)
    (hl : ss.length ≤ 1000000) (hs6 : ∀ s ∈ ss, s.l.length ≤ 1000000) (hL : bs.length + (takeF sess ss p).1.length ≤ 100000000) :
    Calls Try.prog 66 #[.pointer (some ⟨g, 0, none⟩), .pointer (some ⟨ab, 0, none⟩), p.val] w fun e w' => e = .returned (.bool (takeF sess ss p).2) ∧ AnsAt w' ab (bs ++ (takeF sess ss p).1) ∧ AnsFr w w' ab := by
  simp only [Pdu.val]
  have habw := hA.lt
  have hT : TQ w ab bs p (w.alloc (.cells p.cells.toArray 29)) := ⟨Blk.new _ _ _, hA.next ((Below.refl _ _).alloc (Nat.le_refl _) _), (AnsFr.refl w ab).then habw ((Below.refl _ _).alloc (Nat.le_refl _) _)⟩
  clear hA
  by_cases h10 : p.kind = 10
  · have HT := Lib.hid (show takeF sess ss p = ([], false) by unfold takeF; rw [if_pos h10])
    have be10 : (p.kind == 10) = true := beq_iff_eq.2 h10
    clear h10 hL
    go_enter Try.func66, Try.ntmps66
    go_upto_region 1 with fail
    refine wp_gen (TQ w ab bs p) hT ?_
    clear hT
    intro W hT
    have c0 := (hT.b.cell 0).trans (Pdu.c0 _)
    go_wp2_with fail
    go_ret
    rw [HT.out, List.append_nil]
    exact ⟨rfl, hT.a, hT.f⟩
  have be10 : (p.kind == 10) = false := beq_eq_false_iff_ne.2 h10
  by_cases h21 : p.kind = 2 ∨ p.kind = 1
  · have hCA : ∀ W, AnsFr w W ab → CA W lo g b sess serial v ss f many := fun W hW => h0.next ((hlo.trans hW.lo).mono hab)
    have hCW : ∀ W, AnsFr w W ab → Below ab w0 W := fun W hW => hlo.trans hW.lo
    cases hs : ss.getLast? with
    | none =>
      have HT := Lib.hid (show takeF sess ss p = (wrD (pdS 10 0 0 2), true) by unfold takeF; rw [if_neg h10, if_pos h21, hs])
      rw [HT.out] at hL
      have HS := Lib.hid hs
      clear hs h10
      rcases h21 with h2 | h2
      · have be2 : (p.kind == 2) = (2 == 2) := by rw [h2]; rfl
        have be1 : (p.kind == 1) = (2 == 1) := by rw [h2]; rfl
        simp only [show ((2 : Nat) == 2) = true from rfl, show ((1 : Nat) == 1) = true from rfl, show ((2 : Nat) == 1) = false from rfl, show ((1 : Nat) == 2) = false from rfl] at be2 be1
        clear h2
        go_enter Try.func66, Try.ntmps66
        go_upto_region 1 with fail
        refine wp_gen (TQ w ab bs p) hT ?_
        clear hT
        intro W hT
        have c0 := (hT.b.cell 0).trans (Pdu.c0 _)
        go_wp2_with fail
        refine (last_any W lo g b sess serial v ss f many (hCA W hT.f) hl).mono ?_
        rintro e w2 ⟨hlp, hb2⟩
        have hA2 := hT.a.next hb2
        have hF2 := hT.f.then habw hb2
        rcases hlp with ⟨_, rfl⟩ | ⟨s, gs, c, h, _⟩
        · clear hT c0 hb2
          go_wp2_with fail
          refine (tell_any (pdS 10 0 0 2) ab bs w2 hA2 (by omega)).mono ?_
          rintro e w3 ⟨rfl, hA3, hF3⟩
          have hF4 := hF2.trans hF3
          clear hF3 hA2 hF2
          go_wp2_with fail
          go_ret
          rw [HT.out]
          exact ⟨rfl, hA3, hF4⟩
        · rw [HS.out] at h; cases h
      · have be2 : (p.kind == 2) = (1 == 2) := by rw [h2]; rfl
        have be1 : (p.kind == 1) = (1 == 1) := by rw [h2]; rfl
        simp only [show ((2 : Nat) == 2) = true from rfl, show ((1 : Nat) == 1) = true from rfl, show ((2 : Nat) == 1) = false from rfl, show ((1 : Nat) == 2) = false from rfl] at be2 be1
        clear h2
        go_enter Try.func66, Try.ntmps66
        go_upto_region 1 with fail
        refine wp_gen (TQ w ab bs p) hT ?_
        clear hT
        intro W hT
        have c0 := (hT.b.cell 0).trans (Pdu.c0 _)
        go_wp2_with fail
        refine (last_any W lo g b sess serial v ss f many (hCA W hT.f) hl).mono ?_
        rintro e w2 ⟨hlp, hb2⟩
        have hA2 := hT.a.next hb2
        have hF2 := hT.f.then habw hb2
        rcases hlp with ⟨_, rfl⟩ | ⟨s, gs, c, h, _⟩
        · clear hT c0 hb2
          go_wp2_with fail
          refine (tell_any (pdS 10 0 0 2) ab bs w2 hA2 (by omega)).mono ?_
          rintro e w3 ⟨rfl, hA3, hF3⟩
          have hF4 := hF2.trans hF3
          clear hF3 hA2 hF2
          go_wp2_with fail
          go_ret
          rw [HT.out]
          exact ⟨rfl, hA3, hF4⟩
        · rw [HS.out] at h; cases h
    | some s =>
      have hsm : s ∈ ss := List.mem_of_getLast? hs
      rcases h21 with h2 | h2
      · have HT := Lib.hid (show takeF sess ss p = (sinceB sess s [], true) by unfold takeF; rw [if_neg h10, if_pos (.inl h2), hs]; simp only [h2, if_true])
        rw [HT.out] at hL
        have be2 : (p.kind == 2) = true := beq_iff_eq.2 h2
        clear h10 h2
        go_enter Try.func66, Try.ntmps66
        go_upto_region 1 with fail
        refine wp_gen (TQ w ab bs p) hT ?_
        clear hT
        intro W hT
        have c0 := (hT.b.cell 0).trans (Pdu.c0 _)
        go_wp2_with fail
        refine (last_any W lo g b sess serial v ss f many (hCA W hT.f) hl).mono ?_
        rintro e w2 ⟨hlp, hb2⟩
        have hA2 := hT.a.next hb2
        have hF2 := hT.f.then habw hb2
        have hB2 := hT.b.below hb2 hT.b.lt
        rcases hlp with ⟨he, _⟩ | ⟨s', gs, c, _, _, rfl⟩
        · rw [he] at hsm; simp at hsm
        clear hT c0 hb2
        have c0 := (hB2.cell 0).trans (Pdu.c0 _)
        go_wp2_with fail
        refine (since_any [] 0 rfl none 0 0 (by omega) ab bs w2 w0 lo g b sess serial v ss f many h0 hab (hCW _ hF2) hA2 hl s hs (hs6 s hsm) (Nat.zero_le _) Reads.none_ hL).mono ?_
        rintro e w3 ⟨rfl, hA3, hF3⟩
        have hF4 := hF2.trans hF3
        clear hF3 hA2 hF2 c0 hB2
        go_wp2_with fail
        go_ret
        rw [HT.out]
        exact ⟨rfl, hA3, hF4⟩
      · have be2 : (p.kind == 2) = false := by rw [h2]; rfl
        have be1 : (p.kind == 1) = true := by rw [h2]; rfl
        have HT0 := Lib.hid (show takeF sess ss p = (match remF p.session p.serial sess ss with | some r => (sinceB sess s r.l, true) | none => (wrD (pdS 8 0 0 0), true)) by unfold takeF; rw [if_neg h10, if_pos (.inr h2), hs]; simp only [h2]; rfl)
        clear h10 h2
        go_enter Try.func66, Try.ntmps66
        go_upto_region 1 with fail
        refine wp_gen (TQ w ab bs p) hT ?_
        clear hT
        intro W hT
        have c0 := (hT.b.cell 0).trans (Pdu.c0 _)
        go_wp2_with fail
        refine (last_any W lo g b sess serial v ss f many (hCA W hT.f) hl).mono ?_
        rintro e w2 ⟨hlp, hb2⟩
        have hA2 := hT.a.next hb2
        have hF2 := hT.f.then habw hb2
        have hB2 := hT.b.below hb2 hT.b.lt
        rcases hlp with ⟨he, _⟩ | ⟨s', gs, c, _, _, rfl⟩
        · rw [he] at hsm; simp at hsm
        clear hT c0 hb2
        have c0 := (hB2.cell 0).trans (Pdu.c0 _)
        have c1 := (hB2.cell 1).trans (Pdu.c1 _)
        have c2 := (hB2.cell 2).trans (Pdu.c2 _)
        go_wp2_with fail
        refine (remembered_any p.session p.serial w2 lo g b sess serial v ss f many (hCA w2 hF2) hl).mono ?_
        rintro e w3 ⟨hrp, hb3⟩
        replace hA2 := hA2.next hb3
        replace hF2 := hF2.then habw hb3
        clear hB2 c0 c1 c2 hb3
        cases hrf : remF p.session p.serial sess ss with
        | some r =>
          rw [hrf] at hrp HT0
          have HT := Lib.hid (HT0.out.trans rfl)
          rw [HT.out] at hL
          obtain rfl := hrp
          have hrm := remF_mem hrf
          have hro := (hCA w3 hF2).sets r hrm
          clear hrf HT0
          go_wp2_with fail
          refine (since_any r.l _ rfl r.A r.c _ (hs6 r hrm) ab bs w3 w0 lo g b sess serial v ss f many h0 hab (hCW _ hF2) hA2 hl s hs (hs6 s hsm) (Nat.le_refl _) (Reads.of_own hro) hL).mono ?_
          rintro e w4 ⟨rfl, hA3, hF3⟩
          have hF4 := hF2.trans hF3
          clear hF3 hA2 hF2 hro
          go_wp2_with fail
          go_ret
          rw [HT.out]
          exact ⟨rfl, hA3, hF4⟩
        | none =>
          rw [hrf] at hrp HT0
          have HT := Lib.hid (HT0.out.trans rfl)
          rw [HT.out] at hL
          obtain rfl := hrp
          clear hrf HT0
          go_wp2_with fail
          refine (tell_any (pdS 8 0 0 0) ab bs w3 hA2 hL).mono ?_
          rintro e w4 ⟨rfl, hA3, hF3⟩
          have hF4 := hF2.trans hF3
          clear hF3 hA2 hF2
          go_wp2_with fail
          go_ret
          rw [HT.out]
          exact ⟨rfl, hA3, hF4⟩
  · have h2 : p.kind ≠ 2 := fun e => h21 (.inl e)
    have h1 : p.kind ≠ 1 := fun e => h21 (.inr e)
    have HT := Lib.hid (show takeF sess ss p = (wrD (pdS 10 0 0 3), false) by unfold takeF; rw [if_neg h10, if_neg h21])
    rw [HT.out] at hL
    have be2 : (p.kind == 2) = false := beq_eq_false_iff_ne.2 h2
    have be1 : (p.kind == 1) = false := beq_eq_false_iff_ne.2 h1
    clear h10 h21 h2 h1
    go_enter Try.func66, Try.ntmps66
    go_upto_region 1 with fail
    refine wp_gen (TQ w ab bs p) hT ?_
    clear hT
    intro W hT
    have c0 := (hT.b.cell 0).trans (Pdu.c0 _)
    go_wp2_with fail
    refine (tell_any (pdS 10 0 0 3) ab bs W hT.a (by omega)).mono ?_
    rintro e w3 ⟨rfl, hA3, hF3⟩
    have hF4 := hT.f.trans hF3
    clear hT hF3 c0
    go_wp2_with fail
    go_ret
    rw [HT.out]
    exact ⟨rfl, hA3, hF4⟩
end Go.Proofs.Ytmoldmnhijcckaa
