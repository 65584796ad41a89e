/- session.take. -/
import Derived.Test.YtmoldmnhijcckaaGreatMa22
import Derived.Test.YtmoldmnhijcckaaGreatMa16
import Derived.Test.YtmoldmnhijcckaaGreatMa15
set_option linter.unusedVariables false
set_option linter.unusedSectionVars false
set_option linter.unusedSimpArgs false
namespace Go.Proofs.YtmoldmnhijcckaaGreat
open Go.RowKit
/-- What a message is answered, and whether the router goes on. -/
def takeF (sess : Int) (ss : List SetV) (p : Pdu) : List UInt8 × Bool :=
  if p.kind = 10 then ([], false)
  else if p.kind = 2 ∨ p.kind = 1 then
    match ss.getLast? with
    | none => (wrD (pdS 10 0 0 2), true)
    | some s => if p.kind = 2 then (sinceB sess s [], true) else
      match remF p.session p.serial sess ss with
      | some r => (sinceB sess s r.l, true)
      | none => (wrD (pdS 8 0 0 0), true)
  else (wrD (pdS 10 0 0 3), false)
theorem remF_mem {sess' sess : Int} {sn' : UInt32} {ss : List SetV} {r : SetV} (h : remF sess' sn' sess ss = some r) : r ∈ ss := by
  unfold remF at h
  split at h
  · exact List.mem_of_find?_eq_some h
  · cases h
structure TQ (w : World) (ab : Nat) (bs : List UInt8) (p : Pdu) (W : World) : Prop where
  b : Blk W w.heap.size 69 p.cells
  a : AnsAt W ab bs
  f : AnsFr w W ab
set_option maxRecDepth 100000 in
set_option maxHeartbeats 8000000 in
theorem take_any (p : Pdu) (ab : Nat) (bs : List UInt8) (w w0 : World) (lo g b : Nat) (sess : Int) (serial : UInt32) (v : Value) (ss : List SetV) (f : Int → Option Lf) (many : Int) (h0 : CA w0 lo g b sess serial v ss f many) (hab : w0.heap.size ≤ ab) (hlo : Below ab w0 w) (hA : AnsAt w ab bs)
    (hl : ss.length ≤ 1000000) (hs6 : ∀ s ∈ ss, s.l.length ≤ 1000000) (hL : bs.length + (takeF sess ss p).1.length ≤ 100000000) :
    Calls Tryz.prog 50 #[.pointer (some ⟨g, 0, none⟩), .pointer (some ⟨ab, 0, none⟩), p.val] w fun e w' => e = .returned (.bool (takeF sess ss p).2) ∧ AnsAt w' ab (bs ++ (takeF sess ss p).1) ∧ AnsFr w w' ab := by
  simp only [Pdu.val]
  have habw := hA.lt
  have hT : TQ w ab bs p (w.alloc (.cells p.cells.toArray 69)) := ⟨Blk.new _ _ _, hA.next ((Below.refl _ _).alloc (Nat.le_refl _) _), (AnsFr.refl w ab).then habw ((Below.refl _ _).alloc (Nat.le_refl _) _)⟩
  clear hA
  by_cases h10 : p.kind = 10
  · have HT := Lib.hid (show takeF sess ss p = ([], false) by unfold takeF; rw [if_pos h10])
    have be10 : (p.kind == 10) = true := beq_iff_eq.2 h10
    clear h10 hL
    go_enter Tryz.func50, Tryz.ntmps50
    go_upto_region 1 with fail
    refine wp_gen (TQ w ab bs p) hT ?_
    clear hT
    intro W hT
    have c0 := (hT.b.cell 0).trans (Pdu.c0 _)
    go_wp2_with fail
    go_ret
    rw [HT.out, List.append_nil]
    exact ⟨rfl, hT.a, hT.f⟩
  have be10 : (p.kind == 10) = false := beq_eq_false_iff_ne.2 h10
  by_cases h21 : p.kind = 2 ∨ p.kind = 1
  · have hCA : ∀ W, AnsFr w W ab → CA W lo g b sess serial v ss f many := fun W hW => h0.next ((hlo.trans hW.lo).mono hab)
    have hCW : ∀ W, AnsFr w W ab → Below ab w0 W := fun W hW => hlo.trans hW.lo
    cases hs : ss.getLast? with
    | none =>
      have HT := Lib.hid (show takeF sess ss p = (wrD (pdS 10 0 0 2), true) by unfold takeF; rw [if_neg h10, if_pos h21, hs])
      rw [HT.out] at hL
      have HS := Lib.hid hs
      clear hs h10
      rcases h21 with h2 | h2
      · have be2 : (p.kind == 2) = (2 == 2) := by rw [h2]; rfl
        have be1 : (p.kind == 1) = (2 == 1) := by rw [h2]; rfl
        simp only [show ((2 : Nat) == 2) = true from rfl, show ((1 : Nat) == 1) = true from rfl, show ((2 : Nat) == 1) = false from rfl, show ((1 : Nat) == 2) = false from rfl] at be2 be1
        clear h2
        go_enter Tryz.func50, Tryz.ntmps50
        go_upto_region 1 with fail
        refine wp_gen (TQ w ab bs p) hT ?_
        clear hT
        intro W hT
        have c0 := (hT.b.cell 0).trans (Pdu.c0 _)
        go_wp2_with fail
        refine (last_any W lo g b sess serial v ss f many (hCA W hT.f) hl).mono ?_
        rintro e w2 ⟨hlp, hb2⟩
        have hA2 := hT.a.next hb2
        have hF2 := hT.f.then habw hb2
        rcases hlp with ⟨_, rfl⟩ | ⟨s, gs, c, h, _⟩
        · clear hT c0 hb2
          go_wp2_with fail
          refine (tell_any (pdS 10 0 0 2) ab bs w2 hA2 (by omega)).mono ?_
          rintro e w3 ⟨rfl, hA3, hF3⟩
          have hF4 := hF2.trans hF3
          clear hF3 hA2 hF2
          go_wp2_with fail
          go_ret
          rw [HT.out]
          exact ⟨rfl, hA3, hF4⟩
        · rw [HS.out] at h; cases h
      · have be2 : (p.kind == 2) = (1 == 2) := by rw [h2]; rfl
        have be1 : (p.kind == 1) = (1 == 1) := by rw [h2]; rfl
        simp only [show ((2 : Nat) == 2) = true from rfl, show ((1 : Nat) == 1) = true from rfl, show ((2 : Nat) == 1) = false from rfl, show ((1 : Nat) == 2) = false from rfl] at be2 be1
        clear h2
        go_enter Tryz.func50, Tryz.ntmps50
        go_upto_region 1 with fail
        refine wp_gen (TQ w ab bs p) hT ?_
        clear hT
        intro W hT
        have c0 := (hT.b.cell 0).trans (Pdu.c0 _)
        go_wp2_with fail
        refine (last_any W lo g b sess serial v ss f many (hCA W hT.f) hl).mono ?_
        rintro e w2 ⟨hlp, hb2⟩
        have hA2 := hT.a.next hb2
        have hF2 := hT.f.then habw hb2
        rcases hlp with ⟨_, rfl⟩ | ⟨s, gs, c, h, _⟩
        · clear hT c0 hb2
          go_wp2_with fail
          refine (tell_any (pdS 10 0 0 2) ab bs w2 hA2 (by omega)).mono ?_
          rintro e w3 ⟨rfl, hA3, hF3⟩
          have hF4 := hF2.trans hF3
          clear hF3 hA2 hF2
          go_wp2_with fail
          go_ret
          rw [HT.out]
          exact ⟨rfl, hA3, hF4⟩
        · rw [HS.out] at h; cases h
    | some s =>
      have hsm : s ∈ ss := List.mem_of_getLast? hs
      rcases h21 with h2 | h2
      · have HT := Lib.hid (show takeF sess ss p = (sinceB sess s [], true) by unfold takeF; rw [if_neg h10, if_pos (.inl h2), hs]; simp only [h2, if_true])
        rw [HT.out] at hL
        have be2 : (p.kind == 2) = true := beq_iff_eq.2 h2
        clear h10 h2
        go_enter Tryz.func50, Tryz.ntmps50
        go_upto_region 1 with fail
        refine wp_gen (TQ w ab bs p) hT ?_
        clear hT
        intro W hT
        have c0 := (hT.b.cell 0).trans (Pdu.c0 _)
        go_wp2_with fail
        refine (last_any W lo g b sess serial v ss f many (hCA W hT.f) hl).mono ?_
        rintro e w2 ⟨hlp, hb2⟩
        have hA2 := hT.a.next hb2
        have hF2 := hT.f.then habw hb2
        have hB2 := hT.b.below hb2 hT.b.lt
        rcases hlp with ⟨he, _⟩ | ⟨s', gs, c, _, _, rfl⟩
        · rw [he] at hsm; simp at hsm
        clear hT c0 hb2
        have c0 := (hB2.cell 0).trans (Pdu.c0 _)
        go_wp2_with fail
        refine (since_any [] 0 rfl none 0 0 (by omega) ab bs w2 w0 lo g b sess serial v ss f many h0 hab (hCW _ hF2) hA2 hl s hs (hs6 s hsm) (Nat.zero_le _) Reads.none_ hL).mono ?_
        rintro e w3 ⟨rfl, hA3, hF3⟩
        have hF4 := hF2.trans hF3
        clear hF3 hA2 hF2 c0 hB2
        go_wp2_with fail
        go_ret
        rw [HT.out]
        exact ⟨rfl, hA3, hF4⟩
      · have be2 : (p.kind == 2) = false := by rw [h2]; rfl
        have be1 : (p.kind == 1) = true := by rw [h2]; rfl
        have HT0 := Lib.hid (show takeF sess ss p = (match remF p.session p.serial sess ss with | some r => (sinceB sess s r.l, true) | none => (wrD (pdS 8 0 0 0), true)) by unfold takeF; rw [if_neg h10, if_pos (.inr h2), hs]; simp only [h2]; rfl)
        clear h10 h2
        go_enter Tryz.func50, Tryz.ntmps50
        go_upto_region 1 with fail
        refine wp_gen (TQ w ab bs p) hT ?_
        clear hT
        intro W hT
        have c0 := (hT.b.cell 0).trans (Pdu.c0 _)
        go_wp2_with fail
        refine (last_any W lo g b sess serial v ss f many (hCA W hT.f) hl).mono ?_
        rintro e w2 ⟨hlp, hb2⟩
        have hA2 := hT.a.next hb2
        have hF2 := hT.f.then habw hb2
        have hB2 := hT.b.below hb2 hT.b.lt
        rcases hlp with ⟨he, _⟩ | ⟨s', gs, c, _, _, rfl⟩
        · rw [he] at hsm; simp at hsm
        clear hT c0 hb2
        have c0 := (hB2.cell 0).trans (Pdu.c0 _)
        have c1 := (hB2.cell 1).trans (Pdu.c1 _)
        have c2 := (hB2.cell 2).trans (Pdu.c2 _)
        go_wp2_with fail
        refine (remembered_any p.session p.serial w2 lo g b sess serial v ss f many (hCA w2 hF2) hl).mono ?_
        rintro e w3 ⟨hrp, hb3⟩
        replace hA2 := hA2.next hb3
        replace hF2 := hF2.then habw hb3
        clear hB2 c0 c1 c2 hb3
        cases hrf : remF p.session p.serial sess ss with
        | some r =>
          rw [hrf] at hrp HT0
          have HT := Lib.hid (HT0.out.trans rfl)
          rw [HT.out] at hL
          obtain rfl := hrp
          have hrm := remF_mem hrf
          have hro := (hCA w3 hF2).sets r hrm
          clear hrf HT0
          go_wp2_with fail
          refine (since_any r.l _ rfl r.A r.c _ (hs6 r hrm) ab bs w3 w0 lo g b sess serial v ss f many h0 hab (hCW _ hF2) hA2 hl s hs (hs6 s hsm) (Nat.le_refl _) (Reads.of_own hro) hL).mono ?_
          rintro e w4 ⟨rfl, hA3, hF3⟩
          have hF4 := hF2.trans hF3
          clear hF3 hA2 hF2 hro
          go_wp2_with fail
          go_ret
          rw [HT.out]
          exact ⟨rfl, hA3, hF4⟩
        | none =>
          rw [hrf] at hrp HT0
          have HT := Lib.hid (HT0.out.trans rfl)
          rw [HT.out] at hL
          obtain rfl := hrp
          clear hrf HT0
          go_wp2_with fail
          refine (tell_any (pdS 8 0 0 0) ab bs w3 hA2 hL).mono ?_
          rintro e w4 ⟨rfl, hA3, hF3⟩
          have hF4 := hF2.trans hF3
          clear hF3 hA2 hF2
          go_wp2_with fail
          go_ret
          rw [HT.out]
          exact ⟨rfl, hA3, hF4⟩
  · have h2 : p.kind ≠ 2 := fun e => h21 (.inl e)
    have h1 : p.kind ≠ 1 := fun e => h21 (.inr e)
    have HT := Lib.hid (show takeF sess ss p = (wrD (pdS 10 0 0 3), false) by unfold takeF; rw [if_neg h10, if_neg h21])
    rw [HT.out] at hL
    have be2 : (p.kind == 2) = false := beq_eq_false_iff_ne.2 h2
    have be1 : (p.kind == 1) = false := beq_eq_false_iff_ne.2 h1
    clear h10 h21 h2 h1
    go_enter Tryz.func50, Tryz.ntmps50
    go_upto_region 1 with fail
    refine wp_gen (TQ w ab bs p) hT ?_
    clear hT
    intro W hT
    have c0 := (hT.b.cell 0).trans (Pdu.c0 _)
    go_wp2_with fail
    refine (tell_any (pdS 10 0 0 3) ab bs W hT.a (by omega)).mono ?_
    rintro e w3 ⟨rfl, hA3, hF3⟩
    have hF4 := hT.f.trans hF3
    clear hT hF3 c0
    go_wp2_with fail
    go_ret
    rw [HT.out]
    exact ⟨rfl, hA3, hF4⟩
end Go.Proofs.YtmoldmnhijcckaaGreat
/- The contracts of pdu.word, pdu.long. -/
set_option linter.unusedVariables false
set_option linter.unusedSectionVars false
set_option linter.unusedSimpArgs false
namespace Go.Proofs.YtmoldmnhijcckaaGreat
open Go.RowKit
def at8 (bs : List UInt8) (i : Nat) : Nat := (bs.getD i 0).toNat
def wordOf (bs : List UInt8) : Nat := beN (bs.take 4)
theorem num_n (bs : List UInt8) (n : Nat) (hl : bs.length = n) (hn : n ≤ 8) (A : Option Addr) (c B : Nat) (w : World) (hr : Reads w B 1 A n (bs.map bv)) :
    Calls Tryz.prog 142 #[.slice A n c] w fun e w' => e = .returned (.tuple #[.int .u64 (beN bs), .bool true]) ∧ w = w' := by
  subst hl
  exact num_any bs hn A c B w hr
theorem Reads.cut1 {w : World} {B n : Nat} {ad : Addr} {bs : List UInt8} (h : Reads w B 1 (some ad) n (bs.map bv)) {k m : Nat} (h0 : 0 < k) (hk : k < n) (hm : m = n - k) : Reads w B 1 (some ⟨ad.block, ad.off + k, none⟩) m ((bs.drop k).map bv) := by
  subst hm
  rw [← add_pos ad h0]
  have := h.cut (k := k) (cap := n + 1) (by omega) (by omega)
  rw [if_neg (by omega), Nat.mul_one, ← List.map_drop] at this
  exact this
theorem Reads.take1 {w : World} {B n : Nat} {A : Option Addr} {bs : List UInt8} (h : Reads w B 1 A n (bs.map bv)) {k : Nat} (hk : k ≤ n) : Reads w B 1 A k ((bs.take k).map bv) := by
  have := h.take hk
  rwa [Nat.mul_one, ← List.map_take] at this
theorem Reads.byte {w : World} {B n : Nat} {ad : Addr} {bs : List UInt8} (h : Reads w B 1 (some ad) n (bs.map bv)) {k : Nat} (h0 : 0 < k) (hk : k < n) : w.cell? ⟨ad.block, ad.off + k, none⟩ = some (.int .u8 (at8 bs k)) := by
  rw [← add_pos ad h0]
  obtain ⟨ad', e, _, hc⟩ := h.2 (by omega)
  cases e
  have hl : k < bs.length := by have := h.1; simp at this; omega
  exact hc k _ (by simp [bv, at8, List.getElem?_eq_getElem hl, List.getD_eq_getElem?_getD])
set_option maxRecDepth 10000 in
theorem word_any (bs : List UInt8) (hn : 4 ≤ bs.length) (A : Option Addr) (c B : Nat) (hc : bs.length ≤ c) (w : World) (hr : Reads w B 1 A bs.length (bs.map bv)) :
    Calls Tryz.prog 124 #[.slice A bs.length c] w fun e w' => e = .returned (.int .u32 (wordOf bs)) ∧ w = w' := by
  obtain ⟨ad, rfl, hb, hcell⟩ := hr.2 (by omega)
  have hw : IntKind.u32.wrap (beN (bs.take 4)) = (wordOf bs : Int) := by
    have := beN_lt (bs.take 4)
    have h2 : (bs.take 4).length = 4 := by simp; omega
    rw [h2] at this
    unfold wordOf
    rw [IntKind.wrap_u32]; omega
  go_enter Tryz.func124, Tryz.ntmps124
  go_wp2_with fail
  refine (num_n (bs.take 4) 4 (by simp; omega) (by omega) _ c B _ (hr.take1 hn)).mono ?_
  rintro e w' ⟨rfl, rfl⟩
  go_wp2
  go_ret
  exact ⟨rfl, rfl⟩
theorem word_n (bs : List UInt8) (n : Nat) (hl : bs.length = n) (hn : 4 ≤ n) (A : Option Addr) (c B : Nat) (hc : n ≤ c) (w : World) (hr : Reads w B 1 A n (bs.map bv)) :
    Calls Tryz.prog 124 #[.slice A n c] w fun e w' => e = .returned (.int .u32 (wordOf bs)) ∧ w = w' := by
  subst hl
  exact word_any bs hn A c B hc w hr
/-- How long a message says that it is. -/
def longOf (bs : List UInt8) : Nat := wordOf (bs.drop 4)
def longOk (bs : List UInt8) : Bool :=
  if at8 bs 1 = 10 then decide (16 ≤ longOf bs ∧ longOf bs ≤ 216) else decide ((longOf bs : Int) = lenOf (at8 bs 1))
theorem at8_lt (bs : List UInt8) (i : Nat) : at8 bs i < 256 := by unfold at8; have := (bs.getD i 0).toNat_lt; omega
theorem wrap_at8 (bs : List UInt8) (i : Nat) : IntKind.i64.wrap (at8 bs i : Int) = (at8 bs i : Int) := IntWalk.i64_in _ (by have := at8_lt bs i; omega)
theorem wordOf_lt (bs : List UInt8) : wordOf bs < 2 ^ 32 := by
  unfold wordOf
  refine Nat.lt_of_lt_of_le (beN_lt _) ?_
  rw [show (2 : Nat) ^ 32 = 256 ^ 4 from rfl]
  exact Nat.pow_le_pow_right (by omega) (by simp; omega)
theorem wrap_word (bs : List UInt8) : IntKind.i64.wrap (wordOf bs : Int) = (wordOf bs : Int) := IntWalk.i64_in _ (by have := wordOf_lt bs; omega)
set_option maxRecDepth 100000 in
set_option maxHeartbeats 1000000 in
theorem long_any (bs : List UInt8) (hn : 8 ≤ bs.length) (A : Option Addr) (c B : Nat) (hc : bs.length ≤ c) (w : World) (hB : B ≤ w.heap.size) (hr : Reads w B 1 A bs.length (bs.map bv)) :
    Calls Tryz.prog 106 #[.slice A bs.length c] w fun e w' => e = .returned (.tuple #[.int .i64 (longOf bs), .bool (longOk bs)]) ∧ Below w.heap.size w w' := by
  obtain ⟨ad, rfl, hb, hcell⟩ := hr.2 (by omega)
  clear hcell hb
  have e1 := hr.byte (k := 1) (by omega) (by omega)
  by_cases h10 : at8 bs 1 = 10
  · have HL := Lib.hid (show longOk bs = decide (16 ≤ longOf bs ∧ longOf bs ≤ 216) by simp [longOk, h10])
    have H10 := Lib.hid h10
    clear h10
    have hw1 := wrap_at8 bs 1
    have hw2 : IntKind.i64.wrap (wordOf (bs.drop 4) : Int) = (longOf bs : Int) := wrap_word _
    have f4 : (4 : Int) ≤ (bs.length : Int) := by omega
    have f1 : (1 : Int) < (bs.length : Int) := by omega
    have fc : ¬ c = 4 := by omega
    go_enter Tryz.func106, Tryz.ntmps106
    go_upto_region 1 with fail
    refine reg_sch2 12 [(true, 0), (true, 1), (true, 5), (true, 6), (true, 7), (true, 8), (false, 2), (true, 3), (false, 4), (true, 10), (false, 9), (true, 11)] (by kernel_rfl) (by kernel_rfl) (fun W => Reads W B 1 (some ad) bs.length (bs.map bv) ∧ Below w.heap.size w W) (fun W => Reads W B 1 (some ad) bs.length (bs.map bv) ∧ Below w.heap.size w W) ?_ ?_ ?_
    · exact ⟨hr.drew, (Below.refl _ _).drew⟩
    · exact fun _ h => h
    intro W hSW
    simp only [List.map_cons, List.map_nil, List.getD_cons_zero, List.getD_cons_succ, List.drop_succ_cons, List.drop_zero]
    refine hd_pure (v := ?_) (by rfl) (fun W' hS' => ?_) ?_ -- 0
    rotate_left
    · have e1 := hS'.1.byte (k := 1) (by omega) (by omega); clear hS'; (go_simp; first | with_reducible rfl | rfl)
    try simp only [Act.put, List.setIfInBounds_toArray, List.set_cons_zero, List.set_cons_succ]
    refine hd_pure (v := ?_) (by rfl) (fun W' hS' => ?_) ?_ -- 1
    rotate_left
    · have e1 := hS'.1.byte (k := 1) (by omega) (by omega); clear hS'; (go_simp; first | with_reducible rfl | rfl)
    try simp only [Act.put, List.setIfInBounds_toArray, List.set_cons_zero, List.set_cons_succ]
    refine hd_pure (v := ?_) (by rfl) (fun W' hS' => ?_) ?_ -- 5
    rotate_left
    · have e1 := hS'.1.byte (k := 1) (by omega) (by omega); clear hS'; (go_simp; first | with_reducible rfl | rfl)
    try simp only [Act.put, List.setIfInBounds_toArray, List.set_cons_zero, List.set_cons_succ]
    refine hd_pure (v := ?_) (by rfl) (fun W' hS' => ?_) ?_ -- 6
    rotate_left
    · have e1 := hS'.1.byte (k := 1) (by omega) (by omega); clear hS'; (go_simp; first | with_reducible rfl | rfl)
    try simp only [Act.put, List.setIfInBounds_toArray, List.set_cons_zero, List.set_cons_succ]
    refine hd_pure (v := ?_) (by rfl) (fun W' hS' => ?_) ?_ -- 7
    rotate_left
    · have e1 := hS'.1.byte (k := 1) (by omega) (by omega); clear hS'; (go_simp; first | with_reducible rfl | rfl)
    try simp only [Act.put, List.setIfInBounds_toArray, List.set_cons_zero, List.set_cons_succ]
    refine hd_pure (v := ?_) (by rfl) (fun W' hS' => ?_) ?_ -- 8
    rotate_left
    · have e1 := hS'.1.byte (k := 1) (by omega) (by omega); clear hS'; (go_simp; first | with_reducible rfl | rfl)
    try simp only [Act.put, List.setIfInBounds_toArray, List.set_cons_zero, List.set_cons_succ]
    refine hd_sole (by rfl) (fun K hK => ?_) -- 2
    go_simp
    refine (word_n (bs.drop 4) (bs.length - 4) (by simp) (by omega) _ _ B (by omega) _ (hSW.1.cut1 (by omega) (by omega) rfl)).mono ?_; rintro e w' ⟨rfl, rfl⟩
    refine hK _ _ (hSW) ?_
    clear hK K hSW
    intro hSW
    try simp only [Act.put, List.setIfInBounds_toArray, List.set_cons_zero, List.set_cons_succ]
    refine hd_pure (v := ?_) (by rfl) (fun W' hS' => ?_) ?_ -- 3
    rotate_left
    · have e1 := hS'.1.byte (k := 1) (by omega) (by omega); clear hS'; (go_simp; first | with_reducible rfl | rfl)
    try simp only [Act.put, List.setIfInBounds_toArray, List.set_cons_zero, List.set_cons_succ]
    refine hd_sole (by rfl) (fun K hK => ?_) -- 4
    go_simp
    refine (lengths_any _).mono ?_; rintro e w' ⟨b, rfl, hm, hb⟩
    refine hK _ _ (⟨hSW.1.below hb (by have := hSW.2.size; omega), below_then hSW.2 (Nat.le_refl _) hb⟩) ?_
    clear hK K hSW
    intro hSW
    clear hb; have hl := run_len _ b hm (at8 bs 1) false; simp only [Bool.false_eq_true, if_false] at hl
    try simp only [Act.put, List.setIfInBounds_toArray, List.set_cons_zero, List.set_cons_succ]
    refine hd_pure (v := ?_) (by rfl) (fun W' hS' => ?_) ?_ -- 10
    rotate_left
    · have e1 := hS'.1.byte (k := 1) (by omega) (by omega); clear hS'; (go_simp; first | with_reducible rfl | rfl)
    try simp only [Act.put, List.setIfInBounds_toArray, List.set_cons_zero, List.set_cons_succ]
    refine hd_sole (by rfl) (fun K hK => ?_) -- 9
    go_simp
    refine hK _ _ (hSW) ?_
    clear hK K hSW
    intro hSW
    clear hl hm
    try simp only [Act.put, List.setIfInBounds_toArray, List.set_cons_zero, List.set_cons_succ]
    refine hd_pure (v := ?_) (by rfl) (fun W' hS' => ?_) ?_ -- 11
    rotate_left
    · have e1 := hS'.1.byte (k := 1) (by omega) (by omega); clear hS'; (go_simp; first | with_reducible rfl | rfl)
    try simp only [Act.put, List.setIfInBounds_toArray, List.set_cons_zero, List.set_cons_succ]
    refine hd_nil ?_
    have hX := hSW; clear hSW
    refine wpList_nil (NoPanic.normal ?_)
    have e1 := hX.1.byte (k := 1) (by omega) (by omega)
    have h10 := H10.out
    have hl10 : lenOf 10 = 16 := rfl
    cases hd1 : decide ((16 : Int) ≤ (longOf bs : Int)) <;> cases hd2 : decide ((longOf bs : Int) ≤ 216)
    all_goals
      have HD1 := Lib.hid hd1
      have HD2 := Lib.hid hd2
      go_wp2
      go_ret2
      refine ⟨?_, hX.2⟩
      have h1 := HD1.out
      have h2 := HD2.out
      have e : longOk bs = (decide ((16 : Int) ≤ (longOf bs : Int)) && decide ((longOf bs : Int) ≤ 216)) := by rw [HL.out, ← Bool.decide_and]; congr 1; rw [eq_iff_iff]; omega
      rw [e, h1, h2]; rfl
  · have HL := Lib.hid (show longOk bs = decide ((longOf bs : Int) = lenOf (at8 bs 1)) by simp [longOk, h10])
    have b10 : (((at8 bs 1 : Nat) : Int) == 10) = false := by simp; omega
    clear h10
    have hw1 := wrap_at8 bs 1
    have hw2 : IntKind.i64.wrap (wordOf (bs.drop 4) : Int) = (longOf bs : Int) := wrap_word _
    have f4 : (4 : Int) ≤ (bs.length : Int) := by omega
    have f1 : (1 : Int) < (bs.length : Int) := by omega
    have fc : ¬ c = 4 := by omega
    go_enter Tryz.func106, Tryz.ntmps106
    go_upto_region 1 with fail
    refine reg_sch2 12 [(true, 0), (true, 1), (true, 5), (true, 6), (true, 7), (true, 8), (false, 2), (true, 3), (false, 4), (true, 10), (false, 9), (true, 11)] (by kernel_rfl) (by kernel_rfl) (fun W => Reads W B 1 (some ad) bs.length (bs.map bv) ∧ Below w.heap.size w W) (fun W => Reads W B 1 (some ad) bs.length (bs.map bv) ∧ Below w.heap.size w W) ?_ ?_ ?_
    · exact ⟨hr.drew, (Below.refl _ _).drew⟩
    · exact fun _ h => h
    intro W hSW
    simp only [List.map_cons, List.map_nil, List.getD_cons_zero, List.getD_cons_succ, List.drop_succ_cons, List.drop_zero]
    refine hd_pure (v := ?_) (by rfl) (fun W' hS' => ?_) ?_ -- 0
    rotate_left
    · have e1 := hS'.1.byte (k := 1) (by omega) (by omega); clear hS'; (go_simp; first | with_reducible rfl | rfl)
    try simp only [Act.put, List.setIfInBounds_toArray, List.set_cons_zero, List.set_cons_succ]
    refine hd_pure (v := ?_) (by rfl) (fun W' hS' => ?_) ?_ -- 1
    rotate_left
    · have e1 := hS'.1.byte (k := 1) (by omega) (by omega); clear hS'; (go_simp; first | with_reducible rfl | rfl)
    try simp only [Act.put, List.setIfInBounds_toArray, List.set_cons_zero, List.set_cons_succ]
    refine hd_pure (v := ?_) (by rfl) (fun W' hS' => ?_) ?_ -- 5
    rotate_left
    · have e1 := hS'.1.byte (k := 1) (by omega) (by omega); clear hS'; (go_simp; first | with_reducible rfl | rfl)
    try simp only [Act.put, List.setIfInBounds_toArray, List.set_cons_zero, List.set_cons_succ]
    refine hd_pure (v := ?_) (by rfl) (fun W' hS' => ?_) ?_ -- 6
    rotate_left
    · have e1 := hS'.1.byte (k := 1) (by omega) (by omega); clear hS'; (go_simp; first | with_reducible rfl | rfl)
    try simp only [Act.put, List.setIfInBounds_toArray, List.set_cons_zero, List.set_cons_succ]
    refine hd_pure (v := ?_) (by rfl) (fun W' hS' => ?_) ?_ -- 7
    rotate_left
    · have e1 := hS'.1.byte (k := 1) (by omega) (by omega); clear hS'; (go_simp; first | with_reducible rfl | rfl)
    try simp only [Act.put, List.setIfInBounds_toArray, List.set_cons_zero, List.set_cons_succ]
    refine hd_pure (v := ?_) (by rfl) (fun W' hS' => ?_) ?_ -- 8
    rotate_left
    · have e1 := hS'.1.byte (k := 1) (by omega) (by omega); clear hS'; (go_simp; first | with_reducible rfl | rfl)
    try simp only [Act.put, List.setIfInBounds_toArray, List.set_cons_zero, List.set_cons_succ]
    refine hd_sole (by rfl) (fun K hK => ?_) -- 2
    go_simp
    refine (word_n (bs.drop 4) (bs.length - 4) (by simp) (by omega) _ _ B (by omega) _ (hSW.1.cut1 (by omega) (by omega) rfl)).mono ?_; rintro e w' ⟨rfl, rfl⟩
    refine hK _ _ (hSW) ?_
    clear hK K hSW
    intro hSW
    try simp only [Act.put, List.setIfInBounds_toArray, List.set_cons_zero, List.set_cons_succ]
    refine hd_pure (v := ?_) (by rfl) (fun W' hS' => ?_) ?_ -- 3
    rotate_left
    · have e1 := hS'.1.byte (k := 1) (by omega) (by omega); clear hS'; (go_simp; first | with_reducible rfl | rfl)
    try simp only [Act.put, List.setIfInBounds_toArray, List.set_cons_zero, List.set_cons_succ]
    refine hd_sole (by rfl) (fun K hK => ?_) -- 4
    go_simp
    refine (lengths_any _).mono ?_; rintro e w' ⟨b, rfl, hm, hb⟩
    refine hK _ _ (⟨hSW.1.below hb (by have := hSW.2.size; omega), below_then hSW.2 (Nat.le_refl _) hb⟩) ?_
    clear hK K hSW
    intro hSW
    clear hb; have hl := run_len _ b hm (at8 bs 1) false; simp only [Bool.false_eq_true, if_false] at hl
    try simp only [Act.put, List.setIfInBounds_toArray, List.set_cons_zero, List.set_cons_succ]
    refine hd_pure (v := ?_) (by rfl) (fun W' hS' => ?_) ?_ -- 10
    rotate_left
    · have e1 := hS'.1.byte (k := 1) (by omega) (by omega); clear hS'; (go_simp; first | with_reducible rfl | rfl)
    try simp only [Act.put, List.setIfInBounds_toArray, List.set_cons_zero, List.set_cons_succ]
    refine hd_sole (by rfl) (fun K hK => ?_) -- 9
    go_simp
    refine hK _ _ (hSW) ?_
    clear hK K hSW
    intro hSW
    clear hl hm
    try simp only [Act.put, List.setIfInBounds_toArray, List.set_cons_zero, List.set_cons_succ]
    refine hd_pure (v := ?_) (by rfl) (fun W' hS' => ?_) ?_ -- 11
    rotate_left
    · have e1 := hS'.1.byte (k := 1) (by omega) (by omega); clear hS'; (go_simp; first | with_reducible rfl | rfl)
    try simp only [Act.put, List.setIfInBounds_toArray, List.set_cons_zero, List.set_cons_succ]
    refine hd_nil ?_
    have hX := hSW; clear hSW
    refine wpList_nil (NoPanic.normal ?_)
    have e1 := hX.1.byte (k := 1) (by omega) (by omega)
    go_wp2
    go_ret2
    refine ⟨?_, hX.2⟩
    rw [HL.out]; rfl
end Go.Proofs.YtmoldmnhijcckaaGreat
