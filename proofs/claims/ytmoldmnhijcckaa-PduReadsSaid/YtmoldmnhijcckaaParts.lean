/- The law PduParts, walked. -/
import Derived.Test.YtmoldmnhijcckaaAlll
import Derived.Test.YtmoldmnhijcckaaSame
set_option linter.unusedVariables false
set_option linter.unusedSectionVars false
set_option linter.unusedSimpArgs false
namespace Go.Proofs.Ytmoldmnhijcckaa
open Go.RowKit
structure PT (w : World) (B : Nat) (A : Option Addr) (ps : List Pdu) (n : Nat) (v : Value) (xs : List UInt8) (W : World) : Prop where
  rd : Reads W B 26 A n (ps.flatMap Pdu.cells)
  own : W.ownsRow w.heap.size 5 1 v xs.length (xs.map bv)
  b : Below w.heap.size w W
theorem PT.next {w : World} {B : Nat} {A : Option Addr} {ps : List Pdu} {n : Nat} {v : Value} {xs : List UInt8} {W W' : World} (h : PT w B A ps n v xs W) (hB : B ≤ w.heap.size) (hb : Below W.heap.size W W') : PT w B A ps n v xs W' :=
  ⟨h.rd.below hb (by have := h.b.size; omega), own_below h.own hb, below_then h.b (Nat.le_refl _) hb⟩
theorem PT.drew {w : World} {B : Nat} {A : Option Addr} {ps : List Pdu} {n : Nat} {v : Value} {xs : List UInt8} {W : World} (h : PT w B A ps n v xs W) : PT w B A ps n v xs W.drew := ⟨h.rd.drew, own_below h.own (Below.refl _ _).drew, h.b.drew⟩
/-- The bytes of the first ones. -/
def flatK (ps : List Pdu) (k : Nat) : List UInt8 := (ps.take k).flatMap wrB
theorem flatK_succ (ps : List Pdu) (k : Nat) (hk : k < ps.length) : flatK ps (k + 1) = flatK ps k ++ wrB ps[k] := by
  unfold flatK
  rw [List.take_succ_eq_append_getElem hk, List.flatMap_append]
  simp
theorem flatK_le (ps : List Pdu) (k : Nat) (h : ∀ j (hj : j < ps.length), j < k → pduOk ps[j] = true) : (flatK ps k).length ≤ 232 * k := by
  induction k with
  | zero => simp [flatK]
  | succ k ih =>
    have h1 := ih fun j hj hk => h j hj (by omega)
    by_cases hk : k < ps.length
    · rw [flatK_succ ps k hk, List.length_append]
      have := (wr_bd (h k hk (by omega))).2
      omega
    · have e : flatK ps (k + 1) = flatK ps k := by unfold flatK; rw [List.take_of_length_le (by omega), List.take_of_length_le (by omega)]
      rw [e]; omega
theorem parts_upa (ps : List Pdu) (A : Option Addr) (c : Nat) (n : Int) (w : World) (h1 : 30 < ps.length) :
    Calls Try.prog 6 #[.slice A ps.length c, .int .i64 n] w fun e w' => e = .returned (.bool true) ∧ Below w.heap.size w w' := by
  have d1 : decide ((30 : Int) < (ps.length : Int)) = true := decide_eq_true (by omega)
  have d1' : decide (30 < ps.length) = true := decide_eq_true h1
  clear h1
  go_enter Try.func6, Try.ntmps6
  go_upto_region 2 with (go_at_call 12; refine (awake_any _).mono ?_; rintro e w1 ⟨rfl, hb1⟩)
  go_wp2
  go_ret
  exact ⟨rfl, hb1⟩
theorem parts_upb (ps : List Pdu) (A : Option Addr) (c : Nat) (n : Int) (w : World) (h1 : ¬ 30 < ps.length) (h2 : n < 0) :
    Calls Try.prog 6 #[.slice A ps.length c, .int .i64 n] w fun e w' => e = .returned (.bool true) ∧ Below w.heap.size w w' := by
  have d1 : decide ((30 : Int) < (ps.length : Int)) = false := decide_eq_false (by omega)
  have d1' : decide (30 < ps.length) = false := decide_eq_false h1
  have d2 : decide (n < 0) = true := decide_eq_true h2
  clear h1 h2
  go_enter Try.func6, Try.ntmps6
  go_upto_region 2 with (go_at_call 12; refine (awake_any _).mono ?_; rintro e w1 ⟨rfl, hb1⟩)
  go_wp2
  go_ret
  exact ⟨rfl, hb1⟩
theorem all_n (bs : List UInt8) (n : Nat) (hn : bs.length = n) (ms : List Pdu) (rest : List UInt8) (k x : Int) (R : allOf bs = (ms, rest, k, x)) (A : Option Addr) (c B : Nat) (hc : n ≤ c) (hlen : n ≤ 1000000000) (w : World) (hB : B ≤ w.heap.size) (hr : Reads w B 1 A n (bs.map bv)) :
    Calls Try.prog 18 #[.slice A n c] w fun e w' => ∃ A1 c1 A' c', e = .returned (.tuple #[.slice A1 ms.length c1, .slice A' rest.length c', .int .i64 k, .int .i64 x]) ∧ rest.length ≤ c' ∧ Reads w' w'.heap.size 1 A' rest.length (rest.map bv) ∧
      w'.ownsRow w.heap.size 29 26 (.slice A1 ms.length c1) ms.length (ms.flatMap Pdu.cells) ∧ Below w.heap.size w w' := by
  subst hn
  refine (all_any bs A c B hc hlen w hB hr).mono ?_
  rintro e w1 ⟨v, A', n', c', rfl, hn', hc', hr', hov, hb⟩
  rw [R] at hn' hr' hov ⊢
  subst hn'
  obtain ⟨A1, c1, rfl⟩ := own_slice' hov
  exact ⟨A1, c1, A', c', rfl, hc', hr', hov, hb⟩
theorem cutN {w : World} {B n c : Nat} {bs : List UInt8} (h : Reads w B 1 none n (bs.map bv)) {k : Nat} (hk : k ≤ n) (hc : n ≤ c) : Reads w B 1 none (n - k) ((bs.drop k).map bv) := by
  have := cutR h hk hc
  simpa using this
theorem pdus_one (ms : List Pdu) : ∀ u ∈ ms.flatMap Pdu.cells, u.oneCell' = true := by
  intro u hu
  obtain ⟨p, _, hp⟩ := List.mem_flatMap.1 hu
  exact Pdu.one p u hp
/-- Behind the first All. -/
structure PU (w : World) (B : Nat) (A : Option Addr) (ps : List Pdu) (n : Nat) (v : Value) (xs : List UInt8) (v2 : Value) (ms : List Pdu) (A3 : Option Addr) (rest : List UInt8) (W : World) : Prop where
  pt : PT w B A ps n v xs W
  own : W.ownsRow w.heap.size 29 26 v2 ms.length (ms.flatMap Pdu.cells)
  rd : Reads W W.heap.size 1 A3 rest.length (rest.map bv)
theorem PU.next {w : World} {B : Nat} {A : Option Addr} {ps : List Pdu} {n : Nat} {v : Value} {xs : List UInt8} {v2 : Value} {ms : List Pdu} {A3 : Option Addr} {rest : List UInt8} {W W' : World} (h : PU w B A ps n v xs v2 ms A3 rest W) (hB : B ≤ w.heap.size) (hb : Below W.heap.size W W') : PU w B A ps n v xs v2 ms A3 rest W' :=
  ⟨h.pt.next hB hb, own_below h.own hb, (h.rd.below hb (Nat.le_refl _)).more hb.size⟩
theorem PU.drew {w : World} {B : Nat} {A : Option Addr} {ps : List Pdu} {n : Nat} {v : Value} {xs : List UInt8} {v2 : Value} {ms : List Pdu} {A3 : Option Addr} {rest : List UInt8} {W : World} (h : PU w B A ps n v xs v2 ms A3 rest W) : PU w B A ps n v xs v2 ms A3 rest W.drew :=
  ⟨h.pt.drew, own_below h.own (Below.refl _ _).drew, h.rd.drew⟩
set_option maxRecDepth 100000 in
set_option maxHeartbeats 4000000 in
theorem parts_go (ps : List Pdu) (L : Nat) (hL : ps.length = L) (A : Option Addr) (c B : Nat) (n : Nat) (w : World) (hB : B ≤ w.heap.size) (hr : Reads w B 26 A L (ps.flatMap Pdu.cells)) (h1 : ¬ 30 < L) :
    Calls Try.prog 6 #[.slice A L c, .int .i64 n] w fun e w' => e = .returned (.bool true) ∧ Below w.heap.size w w' := by
  have d1 : decide ((30 : Int) < (L : Int)) = false := decide_eq_false (by omega)
  have d1' : decide (30 < L) = false := decide_eq_false h1
  have d2 : decide ((n : Int) < 0) = false := decide_eq_false (by omega)
  have hL30 : L ≤ 30 := by omega
  have HL := Lib.hid hL
  clear h1 hL
  obtain ⟨i0, hi0, hz0, hz1, hz2⟩ := info_parts info5b
  go_enter Try.func6, Try.ntmps6
  go_upto_region 2 with (go_at_call 12; refine (awake_any _).mono ?_; rintro e w1 ⟨rfl, hb1⟩)
  have hst : PT w B A ps L (.slice none 0 0) [] w1 := ⟨hr.below hb1 hB, World.ownsRow_nil _ _ _ _, hb1⟩
  clear hr hb1
  go_wp2_with fail
  go_loopw [6, 7] (fun v i wr => ∃ k : Nat, k ≤ L ∧ i = .int .i64 k ∧ PT w B A ps L v (flatK ps k) wr ∧ Hid (∀ j (hj : j < ps.length), j < k → pduOk ps[j] = true)) (fun _ i _ => L - (intOf i).toNat)
  case atStart => exact ⟨0, Nat.zero_le _, rfl, hst, Lib.hid (fun j _ h => absurd h (by omega))⟩
  case round =>
    clear hst
    obtain ⟨k, hk, rfl, hW, HO⟩ := hrel
    by_cases hlt : k < L
    · have hk1 : k < ps.length := by rw [HL.out]; exact hlt
      obtain ⟨ad, rfl, _, _⟩ := hW.rd.2 (by omega)
      have hpk : (k : Int) < (L : Int) := by omega
      have hp0 : (0 : Int) ≤ (k : Int) := by omega
      have hEl := hW.rd.elem Pdu.cells_length hk1 HL.out
      obtain ⟨p, hp⟩ : ∃ p, p = ps[k] := ⟨_, rfl⟩
      rw [← hp] at hEl
      have HP := Lib.hid hp
      clear hp
      have c25 := hEl 25 _ (Pdu.c25 p)
      rw [add_pos _ (by omega)] at c25
      by_cases ht : 1000 < p.text.size
      · have d3 : decide ((1000 : Int) < (p.text.size : Int)) = true := decide_eq_true (by omega)
        have d3' : decide (1000 < p.text.size) = true := decide_eq_true ht
        clear ht
        go_wp2
        go_ret
        exact ⟨rfl, hW.b⟩
      · have d3 : decide ((1000 : Int) < (p.text.size : Int)) = false := decide_eq_false (by omega)
        have d3' : decide (1000 < p.text.size) = false := decide_eq_false ht
        clear ht
        cases hok : pduOk p
        · have HK := Lib.hid hok
          clear hok
          go_wp2_with (first | (refine wpList_load_adr (by rfl) 29 _ rfl (ad.add (k * 26)) 26 (by rfl) _ _ hEl (Pdu.cells_length _) Try.underlying29 rfl info_pdu ?_) | (go_at_call 13; go_must (refine (write_any p _).mono ?_; rintro e w3 hw3; obtain rfl := hw3.2.1 HK.out; replace hW := hW.next hB hw3.2.2; clear hw3 c25 hEl)))
          go_ret
          exact ⟨rfl, hW.b⟩
        · have HK := Lib.hid hok
          obtain ⟨xs, hx⟩ : ∃ xs, xs = wrB p := ⟨_, rfl⟩
          have HX := Lib.hid hx
          have hxl := wr_bd hok
          rw [← hx] at hxl
          have hfl := flatK_le ps k HO.out
          have HW := Lib.hid (fun w => write_ok p hok xs hx w)
          clear hok hx
          go_wp2_with (first | (refine wpList_load_adr (by rfl) 29 _ rfl (ad.add (k * 26)) 26 (by rfl) _ _ hEl (Pdu.cells_length _) Try.underlying29 rfl info_pdu ?_) | (go_at_call 13; go_must (refine (HW.out _).mono ?_; rintro e w3 ⟨A3, c3, rfl, hov, hb3⟩; replace hW := hW.next hB hb3; have hrd3 := Reads.of_own hov; clear hov hb3 c25 hEl)) | (at_builtin; go_must (refine wpList_append_any _ rfl _ _ 30 rfl w.heap.size 5 i0 _ 1 1 Try.underlying30 hi0 hz0 hz1 hz2 rfl (by omega) _ _ _ rfl hW.own _ A3 xs.length c3 _ rfl hrd3 (bv_one _) (by simp only [maxLen]; omega) (by omega) hW.b.size ?_; intro v4 w4 ho4 hg4 _; rw [← List.map_append] at ho4; have hb4 := (Below.refl w.heap.size w3).grown hg4 hW.b.size (fun k hk => (own_base_le hW.own k hk).1); clear hg4)))
          go_roundw
          case rel =>
            have e1 : flatK ps (k + 1) = flatK ps k ++ xs := by rw [flatK_succ ps k hk1, HX.out, HP.out]
            refine ⟨k + 1, by omega, by go_num, ⟨hW.rd.below hb4 hB, ?_, hW.b.trans hb4⟩, Lib.hid (fun j hj hjk => ?_)⟩
            · rw [e1, List.length_append]; exact ho4
            · by_cases hjk' : j = k
              · subst hjk'; rw [← HP.out]; exact HK.out
              · exact HO.out j hj (by omega)
          case measure => simp [intOf]; omega
    · have hkL : k = L := by omega
      subst hkL
      have hfl := flatK_le ps k HO.out
      have hLaw := parts_law ps (fun p hp => by obtain ⟨j, hj, rfl⟩ := List.getElem_of_mem hp; exact HO.out j hj (by rw [← HL.out]; exact hj))
      have hfk : flatK ps k = ps.flatMap wrB := by unfold flatK; rw [List.take_of_length_le (by rw [HL.out]; omega)]
      rw [hfk] at hW hfl
      clear hfk hlt hk
      generalize ps.flatMap wrB = xs at hW hfl hLaw
      obtain ⟨A6, c6, rfl⟩ := own_slice' hW.own
      have hc6 := own_cap hW.own
      obtain ⟨N, hN⟩ : ∃ N, N = xs.length := ⟨_, rfl⟩
      have HN := Lib.hid hN
      rw [← hN] at hfl hc6 hLaw
      obtain ⟨j, rest, q1, q2, q3⟩ := hLaw (n % (N + 1)) (by have := Nat.mod_lt n (show 0 < N + 1 by omega); omega)
      have hmN : n % (N + 1) ≤ N := by have := Nat.mod_lt n (show 0 < N + 1 by omega); omega
      have e1 : (n : Int) % ((N : Int) + 1) = ((n % (N + 1) : Nat) : Int) := by rw [Int.natCast_emod, Int.natCast_add]; rfl
      have e2 : Int.tmod (n : Int) ((N : Int) + 1) = ((n % (N + 1) : Nat) : Int) := rfl
      have hN0 : ((N : Int) + 1 == 0) = false := beq_eq_false_iff_ne.2 (by omega)
      generalize n % (N + 1) = m at q1 q2 q3 hmN e1 e2
      obtain ⟨ms, hms⟩ : ∃ ms, ms = ps.take j := ⟨_, rfl⟩
      obtain ⟨ns, hns⟩ : ∃ ns, ns = ps.drop j := ⟨_, rfl⟩
      have HMN := Lib.hid (show ms ++ ns = ps by rw [hms, hns, List.take_append_drop])
      have hml : ms.length + ns.length ≤ k := by have := congrArg List.length HMN.out; have := HL.out; simp at *; omega
      rw [← hms] at q1
      rw [← hns] at q3
      have Q1 := Lib.hid q1
      have Q3 := Lib.hid q3
      have r1 : decide ((m : Int) < (rest.length : Int)) = false := decide_eq_false (by omega)
      have r1' : decide (m < rest.length) = false := decide_eq_false (by omega)
      have hmc : (m : Int) ≤ (c6 : Int) := by omega
      have hmc' : m ≤ c6 := by omega
      clear hLaw q1 q3 hms hns hN HO
      rw [← HN.out]
      go_upto_region 16 with (go_at_call 18; go_must (refine (all_n (xs.take m) m (by rw [List.length_take, ← HN.out]; omega) _ _ _ _ Q1.out A6 c6 wr.heap.size hmc' (by omega) _ (Nat.le_refl _) ((by have := Reads.of_own hW.own; rw [← HN.out] at this; exact this : Reads wr wr.heap.size 1 A6 N (xs.map bv)).take1 hmN)).mono ?_; rintro e w5 ⟨A2, c2, A3, c3, rfl, hc3, hr3, ho2, hb5⟩))
      refine wp_gen (PU w B A ps k (.slice A6 N c6) xs (.slice A2 ms.length c2) ms A3 rest) ⟨(by have h := hW.next hB hb5; rw [← HN.out] at h; exact h), own_base_mono ho2 hW.b.size, hr3⟩ ?_
      have hwsz := hW.b.size
      clear hW hb5 ho2 hr3 e1 e2 hN0
      intro W hP
      have hmN' : (m : Int) ≤ (N : Int) := by omega
      have hm0 : (0 : Int) ≤ (m : Int) := by omega
      have tA : A6 = none ∨ ∃ ad, A6 = some ad := by cases A6; exact .inl rfl; exact .inr ⟨_, rfl⟩
      rcases tA with rfl | ⟨ad6, rfl⟩
      ·
        go_upto_region 18 with fail
        clear r1 r1'
        refine reg_sch2 17 [(true, 1), (true, 3), (true, 4), (true, 5), (false, 0), (false, 2), (false, 6), (false, 7), (true, 8), (true, 9), (true, 10), (true, 11), (true, 12), (true, 13), (true, 14), (true, 15), (true, 16)] (by kernel_rfl) (by kernel_rfl) (PU w B A ps k (.slice none N c6) xs (.slice A2 ms.length c2) ms A3 rest) (PU w B A ps k (.slice none N c6) xs (.slice A2 ms.length c2) ms A3 rest) ?_ ?_ ?_
        · exact hP.drew
        · exact fun _ h => h
        intro W hSW
        simp only [List.map_cons, List.map_nil, List.getD_cons_zero, List.getD_cons_succ, List.drop_succ_cons, List.drop_zero]
        refine hd_pure (v := ?_) (by rfl) (fun W' hS' => ?_) ?_ -- 1
        rotate_left
        · (go_simp; first | with_reducible rfl | rfl)
        try simp only [Act.put, List.setIfInBounds_toArray, List.set_cons_zero, List.set_cons_succ]
        refine hd_pure (v := ?_) (by rfl) (fun W' hS' => ?_) ?_ -- 3
        rotate_left
        · (go_simp; first | with_reducible rfl | rfl)
        try simp only [Act.put, List.setIfInBounds_toArray, List.set_cons_zero, List.set_cons_succ]
        refine hd_pure (v := ?_) (by rfl) (fun W' hS' => ?_) ?_ -- 4
        rotate_left
        · (go_simp; first | with_reducible rfl | rfl)
        try simp only [Act.put, List.setIfInBounds_toArray, List.set_cons_zero, List.set_cons_succ]
        refine hd_pure (v := ?_) (by rfl) (fun W' hS' => ?_) ?_ -- 5
        rotate_left
        · (go_simp; first | with_reducible rfl | rfl)
        try simp only [Act.put, List.setIfInBounds_toArray, List.set_cons_zero, List.set_cons_succ]
        refine hd_sole (by rfl) (fun K hK => ?_) -- 0
        go_simp
        have hS0 := hSW
        have hl0 := own_lit0 W W.heap.size 5 1 (Nat.le_refl _)
        have hbA : Below W.heap.size W (W.alloc (.cells #[] 5)) := (Below.refl _ _).alloc (Nat.le_refl _) _
        refine hK _ _ (hS0.next hB hbA) ?_
        clear hK K hSW
        intro hSW
        try simp only [Act.put, List.setIfInBounds_toArray, List.set_cons_zero, List.set_cons_succ]
        refine hd_sole (by rfl) (fun K hK => ?_) -- 2
        refine wp_append_any _ _ _ 30 rfl W.heap.size 5 i0 _ 1 1 Try.underlying30 hi0 hz0 hz1 hz2 rfl (by omega) _ 0 _ rfl hl0 _ A3 rest.length c3 _ rfl hSW.rd (bv_one _) (by simp only [maxLen]; omega) (by omega) (by simp) ?_
        intro v4 w4 ho4 hg4 _
        rw [Nat.zero_add, List.nil_append] at ho4
        obtain ⟨A4, c4, rfl⟩ := own_slice' ho4
        have hb4 := hbA.grown hg4 (by simp) (fun k hk => (own_base_le hl0 k hk).1)
        refine hK _ _ (hS0.next hB hb4) ?_
        clear hK K hSW
        intro hSW
        try simp only [Act.put, List.setIfInBounds_toArray, List.set_cons_zero, List.set_cons_succ]
        refine hd_sole (by rfl) (fun K hK => ?_) -- 6
        have hx6 : W.ownsRow w.heap.size 5 1 (.slice none N c6) N (xs.map bv) := by have h := hS0.pt.own; rw [← HN.out] at h; exact h
        refine wp_append_any _ _ _ 30 rfl W.heap.size 5 i0 _ 1 1 Try.underlying30 hi0 hz0 hz1 hz2 rfl (by omega) _ rest.length _ rfl ho4 W.heap.size _ (N - m) (c6 - m) _ rfl (cutN ((Reads.of_own hx6).below hb4 (Nat.le_refl _)) hmN hc6) (bv_one _) (by simp only [maxLen]; omega) (by omega) hb4.size ?_
        intro v5 w5 ho5 hg5 _
        rw [← List.map_append] at ho5
        obtain ⟨A5, c5, rfl⟩ := own_slice' ho5
        have hb5 := hb4.grown hg5 hb4.size (fun k hk => (own_base_le ho4 k hk).1)
        refine hK _ _ (hS0.next hB hb5) ?_
        clear hK K hSW
        intro hSW
        try simp only [Act.put, List.setIfInBounds_toArray, List.set_cons_zero, List.set_cons_succ]
        refine hd_sole (by rfl) (fun K hK => ?_) -- 7
        go_simp
        refine (all_n (rest ++ xs.drop m) (rest.length + (N - m)) (by rw [List.length_append, List.length_drop, ← HN.out]) _ _ _ _ Q3.out A5 c5 w5.heap.size (own_cap ho5) (by omega) _ (Nat.le_refl _) (Reads.of_own ho5)).mono ?_
        rintro e w' ⟨A7, c7, A8, c8, rfl, hc8, hr8, ho7, hb7⟩
        refine hK _ _ (hS0.next hB (below_then hb5 (Nat.le_refl _) hb7)) ?_
        clear hK K hSW
        intro hSW
        try simp only [Act.put, List.setIfInBounds_toArray, List.set_cons_zero, List.set_cons_succ]
        refine hd_pure (v := ?_) (by rfl) (fun W' hS' => ?_) ?_ -- 8
        rotate_left
        · (go_simp; first | with_reducible rfl | rfl)
        try simp only [Act.put, List.setIfInBounds_toArray, List.set_cons_zero, List.set_cons_succ]
        refine hd_pure (v := ?_) (by rfl) (fun W' hS' => ?_) ?_ -- 9
        rotate_left
        · (go_simp; first | with_reducible rfl | rfl)
        try simp only [Act.put, List.setIfInBounds_toArray, List.set_cons_zero, List.set_cons_succ]
        refine hd_pure (v := ?_) (by rfl) (fun W' hS' => ?_) ?_ -- 10
        rotate_left
        · (go_simp; first | with_reducible rfl | rfl)
        try simp only [Act.put, List.setIfInBounds_toArray, List.set_cons_zero, List.set_cons_succ]
        refine hd_pure (v := ?_) (by rfl) (fun W' hS' => ?_) ?_ -- 11
        rotate_left
        · (go_simp; first | with_reducible rfl | rfl)
        try simp only [Act.put, List.setIfInBounds_toArray, List.set_cons_zero, List.set_cons_succ]
        refine hd_pure (v := ?_) (by rfl) (fun W' hS' => ?_) ?_ -- 12
        rotate_left
        · (go_simp; first | with_reducible rfl | rfl)
        try simp only [Act.put, List.setIfInBounds_toArray, List.set_cons_zero, List.set_cons_succ]
        refine hd_pure (v := ?_) (by rfl) (fun W' hS' => ?_) ?_ -- 13
        rotate_left
        · (go_simp; first | with_reducible rfl | rfl)
        try simp only [Act.put, List.setIfInBounds_toArray, List.set_cons_zero, List.set_cons_succ]
        refine hd_pure (v := ?_) (by rfl) (fun W' hS' => ?_) ?_ -- 14
        rotate_left
        · (go_simp; first | with_reducible rfl | rfl)
        try simp only [Act.put, List.setIfInBounds_toArray, List.set_cons_zero, List.set_cons_succ]
        refine hd_pure (v := ?_) (by rfl) (fun W' hS' => ?_) ?_ -- 15
        rotate_left
        · (go_simp; first | with_reducible rfl | rfl)
        try simp only [Act.put, List.setIfInBounds_toArray, List.set_cons_zero, List.set_cons_succ]
        refine hd_pure (v := ?_) (by rfl) (fun W' hS' => ?_) ?_ -- 16
        rotate_left
        · (go_simp; first | with_reducible rfl | rfl)
        try simp only [Act.put, List.setIfInBounds_toArray, List.set_cons_zero, List.set_cons_succ]
        refine hd_nil ?_
        replace hP := hSW; clear hSW hS0 hl0 hbA ho4 hg4 hb4 ho5 hg5 hb5 hr8 hb7
        refine wpList_nil (NoPanic.normal ?_)
        obtain ⟨j0, hj0, hy0, hy1, hy2⟩ := info_parts info29b
        have hl0 := own_lit0 w' w'.heap.size 29 26 (Nat.le_refl _)
        have hbA : Below w'.heap.size w' (w'.alloc (.cells #[] 29)) := (Below.refl _ _).alloc (Nat.le_refl _) _
        have hm2 := Reads.of_own hP.own
        have hn2 := Reads.of_own ho7
        have HK := Lib.hid (show ms.length + ns.length = k by have := congrArg List.length HMN.out; rw [List.length_append, HL.out] at this; exact this)
        have tok1 : True := trivial
        go_upto_region 20 with (first | (at_builtin; have _t := tok1; go_must (refine wpList_append_any _ rfl _ _ 40 rfl w'.heap.size 29 j0 _ 26 96 Try.underlying40 hj0 hy0 hy1 hy2 rfl (by omega) _ 0 _ rfl hl0 w'.heap.size A2 ms.length c2 _ rfl (hm2.alloc (Nat.le_refl _) _) (pdus_one _) (by simp only [maxLen]; omega) (by omega) (by simp) ?_; intro v8 w8 ho8 hg8 _; rw [Nat.zero_add, List.nil_append] at ho8; obtain ⟨A8, c8, rfl⟩ := own_slice' ho8; have hb8 := hbA.grown hg8 (by simp) (fun k hk => (own_base_le hl0 k hk).1); clear tok1 hg8)) | (at_builtin; go_must (refine wpList_append_any _ rfl _ _ 40 rfl w'.heap.size 29 j0 _ 26 96 Try.underlying40 hj0 hy0 hy1 hy2 rfl (by omega) _ ms.length _ rfl ho8 w'.heap.size A7 ns.length c7 _ rfl (hn2.below hb8 (Nat.le_refl _)) (pdus_one _) (by simp only [maxLen]; omega) (by omega) hb8.size ?_; intro v9 w9 ho9 hg9 _; rw [← List.flatMap_append, HMN.out, HK.out] at ho9; obtain ⟨A9, c9, rfl⟩ := own_slice' ho9; have hb9 := hb8.grown hg9 hb8.size (fun k hk => (own_base_le ho8 k hk).1); clear hg9)) | (go_at_call 20; go_must (refine (same_eqlen ps ps k HL.out HL.out (by omega) A9 A c9 c w9.heap.size B _ (Nat.le_refl _) (by have := hb9.size; have := hP.pt.b.size; omega) (Reads.of_own ho9) ((hP.pt.rd.below hb9 (by have := hP.pt.b.size; omega)))).mono ?_; rintro e w10 ⟨rfl, hb10⟩; rw [show decide (ps = ps) = true from decide_eq_true rfl])))
        have hend := below_then (below_then hP.pt.b (Nat.le_refl _) hb9) (Nat.le_refl _) hb10
        clear hP hb8 hb9 hb10 ho8 ho9 hm2 hn2 hl0 hbA ho7
        go_wp2
        all_goals
          go_ret
          exact ⟨rfl, hend⟩
      ·
        go_upto_region 18 with fail
        clear r1 r1'
        refine reg_sch2 17 [(true, 1), (true, 3), (true, 4), (true, 5), (false, 0), (false, 2), (false, 6), (false, 7), (true, 8), (true, 9), (true, 10), (true, 11), (true, 12), (true, 13), (true, 14), (true, 15), (true, 16)] (by kernel_rfl) (by kernel_rfl) (PU w B A ps k (.slice (some ad6) N c6) xs (.slice A2 ms.length c2) ms A3 rest) (PU w B A ps k (.slice (some ad6) N c6) xs (.slice A2 ms.length c2) ms A3 rest) ?_ ?_ ?_
        · exact hP.drew
        · exact fun _ h => h
        intro W hSW
        simp only [List.map_cons, List.map_nil, List.getD_cons_zero, List.getD_cons_succ, List.drop_succ_cons, List.drop_zero]
        refine hd_pure (v := ?_) (by rfl) (fun W' hS' => ?_) ?_ -- 1
        rotate_left
        · (go_simp; first | with_reducible rfl | rfl)
        try simp only [Act.put, List.setIfInBounds_toArray, List.set_cons_zero, List.set_cons_succ]
        refine hd_pure (v := ?_) (by rfl) (fun W' hS' => ?_) ?_ -- 3
        rotate_left
        · (go_simp; first | with_reducible rfl | rfl)
        try simp only [Act.put, List.setIfInBounds_toArray, List.set_cons_zero, List.set_cons_succ]
        refine hd_pure (v := ?_) (by rfl) (fun W' hS' => ?_) ?_ -- 4
        rotate_left
        · (go_simp; first | with_reducible rfl | rfl)
        try simp only [Act.put, List.setIfInBounds_toArray, List.set_cons_zero, List.set_cons_succ]
        refine hd_pure (v := ?_) (by rfl) (fun W' hS' => ?_) ?_ -- 5
        rotate_left
        · (go_simp; first | with_reducible rfl | rfl)
        try simp only [Act.put, List.setIfInBounds_toArray, List.set_cons_zero, List.set_cons_succ]
        refine hd_sole (by rfl) (fun K hK => ?_) -- 0
        go_simp
        have hS0 := hSW
        have hl0 := own_lit0 W W.heap.size 5 1 (Nat.le_refl _)
        have hbA : Below W.heap.size W (W.alloc (.cells #[] 5)) := (Below.refl _ _).alloc (Nat.le_refl _) _
        refine hK _ _ (hS0.next hB hbA) ?_
        clear hK K hSW
        intro hSW
        try simp only [Act.put, List.setIfInBounds_toArray, List.set_cons_zero, List.set_cons_succ]
        refine hd_sole (by rfl) (fun K hK => ?_) -- 2
        refine wp_append_any _ _ _ 30 rfl W.heap.size 5 i0 _ 1 1 Try.underlying30 hi0 hz0 hz1 hz2 rfl (by omega) _ 0 _ rfl hl0 _ A3 rest.length c3 _ rfl hSW.rd (bv_one _) (by simp only [maxLen]; omega) (by omega) (by simp) ?_
        intro v4 w4 ho4 hg4 _
        rw [Nat.zero_add, List.nil_append] at ho4
        obtain ⟨A4, c4, rfl⟩ := own_slice' ho4
        have hb4 := hbA.grown hg4 (by simp) (fun k hk => (own_base_le hl0 k hk).1)
        refine hK _ _ (hS0.next hB hb4) ?_
        clear hK K hSW
        intro hSW
        try simp only [Act.put, List.setIfInBounds_toArray, List.set_cons_zero, List.set_cons_succ]
        refine hd_sole (by rfl) (fun K hK => ?_) -- 6
        have hx6 : W.ownsRow w.heap.size 5 1 (.slice (some ad6) N c6) N (xs.map bv) := by have h := hS0.pt.own; rw [← HN.out] at h; exact h
        refine wp_append_any _ _ _ 30 rfl W.heap.size 5 i0 _ 1 1 Try.underlying30 hi0 hz0 hz1 hz2 rfl (by omega) _ rest.length _ rfl ho4 W.heap.size _ (N - m) (c6 - m) _ rfl (cutR ((Reads.of_own hx6).below hb4 (Nat.le_refl _)) hmN hc6) (bv_one _) (by simp only [maxLen]; omega) (by omega) hb4.size ?_
        intro v5 w5 ho5 hg5 _
        rw [← List.map_append] at ho5
        obtain ⟨A5, c5, rfl⟩ := own_slice' ho5
        have hb5 := hb4.grown hg5 hb4.size (fun k hk => (own_base_le ho4 k hk).1)
        refine hK _ _ (hS0.next hB hb5) ?_
        clear hK K hSW
        intro hSW
        try simp only [Act.put, List.setIfInBounds_toArray, List.set_cons_zero, List.set_cons_succ]
        refine hd_sole (by rfl) (fun K hK => ?_) -- 7
        go_simp
        refine (all_n (rest ++ xs.drop m) (rest.length + (N - m)) (by rw [List.length_append, List.length_drop, ← HN.out]) _ _ _ _ Q3.out A5 c5 w5.heap.size (own_cap ho5) (by omega) _ (Nat.le_refl _) (Reads.of_own ho5)).mono ?_
        rintro e w' ⟨A7, c7, A8, c8, rfl, hc8, hr8, ho7, hb7⟩
        refine hK _ _ (hS0.next hB (below_then hb5 (Nat.le_refl _) hb7)) ?_
        clear hK K hSW
        intro hSW
        try simp only [Act.put, List.setIfInBounds_toArray, List.set_cons_zero, List.set_cons_succ]
        refine hd_pure (v := ?_) (by rfl) (fun W' hS' => ?_) ?_ -- 8
        rotate_left
        · (go_simp; first | with_reducible rfl | rfl)
        try simp only [Act.put, List.setIfInBounds_toArray, List.set_cons_zero, List.set_cons_succ]
        refine hd_pure (v := ?_) (by rfl) (fun W' hS' => ?_) ?_ -- 9
        rotate_left
        · (go_simp; first | with_reducible rfl | rfl)
        try simp only [Act.put, List.setIfInBounds_toArray, List.set_cons_zero, List.set_cons_succ]
        refine hd_pure (v := ?_) (by rfl) (fun W' hS' => ?_) ?_ -- 10
        rotate_left
        · (go_simp; first | with_reducible rfl | rfl)
        try simp only [Act.put, List.setIfInBounds_toArray, List.set_cons_zero, List.set_cons_succ]
        refine hd_pure (v := ?_) (by rfl) (fun W' hS' => ?_) ?_ -- 11
        rotate_left
        · (go_simp; first | with_reducible rfl | rfl)
        try simp only [Act.put, List.setIfInBounds_toArray, List.set_cons_zero, List.set_cons_succ]
        refine hd_pure (v := ?_) (by rfl) (fun W' hS' => ?_) ?_ -- 12
        rotate_left
        · (go_simp; first | with_reducible rfl | rfl)
        try simp only [Act.put, List.setIfInBounds_toArray, List.set_cons_zero, List.set_cons_succ]
        refine hd_pure (v := ?_) (by rfl) (fun W' hS' => ?_) ?_ -- 13
        rotate_left
        · (go_simp; first | with_reducible rfl | rfl)
        try simp only [Act.put, List.setIfInBounds_toArray, List.set_cons_zero, List.set_cons_succ]
        refine hd_pure (v := ?_) (by rfl) (fun W' hS' => ?_) ?_ -- 14
        rotate_left
        · (go_simp; first | with_reducible rfl | rfl)
        try simp only [Act.put, List.setIfInBounds_toArray, List.set_cons_zero, List.set_cons_succ]
        refine hd_pure (v := ?_) (by rfl) (fun W' hS' => ?_) ?_ -- 15
        rotate_left
        · (go_simp; first | with_reducible rfl | rfl)
        try simp only [Act.put, List.setIfInBounds_toArray, List.set_cons_zero, List.set_cons_succ]
        refine hd_pure (v := ?_) (by rfl) (fun W' hS' => ?_) ?_ -- 16
        rotate_left
        · (go_simp; first | with_reducible rfl | rfl)
        try simp only [Act.put, List.setIfInBounds_toArray, List.set_cons_zero, List.set_cons_succ]
        refine hd_nil ?_
        replace hP := hSW; clear hSW hS0 hl0 hbA ho4 hg4 hb4 ho5 hg5 hb5 hr8 hb7
        refine wpList_nil (NoPanic.normal ?_)
        obtain ⟨j0, hj0, hy0, hy1, hy2⟩ := info_parts info29b
        have hl0 := own_lit0 w' w'.heap.size 29 26 (Nat.le_refl _)
        have hbA : Below w'.heap.size w' (w'.alloc (.cells #[] 29)) := (Below.refl _ _).alloc (Nat.le_refl _) _
        have hm2 := Reads.of_own hP.own
        have hn2 := Reads.of_own ho7
        have HK := Lib.hid (show ms.length + ns.length = k by have := congrArg List.length HMN.out; rw [List.length_append, HL.out] at this; exact this)
        have tok1 : True := trivial
        go_upto_region 20 with (first | (at_builtin; have _t := tok1; go_must (refine wpList_append_any _ rfl _ _ 40 rfl w'.heap.size 29 j0 _ 26 96 Try.underlying40 hj0 hy0 hy1 hy2 rfl (by omega) _ 0 _ rfl hl0 w'.heap.size A2 ms.length c2 _ rfl (hm2.alloc (Nat.le_refl _) _) (pdus_one _) (by simp only [maxLen]; omega) (by omega) (by simp) ?_; intro v8 w8 ho8 hg8 _; rw [Nat.zero_add, List.nil_append] at ho8; obtain ⟨A8, c8, rfl⟩ := own_slice' ho8; have hb8 := hbA.grown hg8 (by simp) (fun k hk => (own_base_le hl0 k hk).1); clear tok1 hg8)) | (at_builtin; go_must (refine wpList_append_any _ rfl _ _ 40 rfl w'.heap.size 29 j0 _ 26 96 Try.underlying40 hj0 hy0 hy1 hy2 rfl (by omega) _ ms.length _ rfl ho8 w'.heap.size A7 ns.length c7 _ rfl (hn2.below hb8 (Nat.le_refl _)) (pdus_one _) (by simp only [maxLen]; omega) (by omega) hb8.size ?_; intro v9 w9 ho9 hg9 _; rw [← List.flatMap_append, HMN.out, HK.out] at ho9; obtain ⟨A9, c9, rfl⟩ := own_slice' ho9; have hb9 := hb8.grown hg9 hb8.size (fun k hk => (own_base_le ho8 k hk).1); clear hg9)) | (go_at_call 20; go_must (refine (same_eqlen ps ps k HL.out HL.out (by omega) A9 A c9 c w9.heap.size B _ (Nat.le_refl _) (by have := hb9.size; have := hP.pt.b.size; omega) (Reads.of_own ho9) ((hP.pt.rd.below hb9 (by have := hP.pt.b.size; omega)))).mono ?_; rintro e w10 ⟨rfl, hb10⟩; rw [show decide (ps = ps) = true from decide_eq_true rfl])))
        have hend := below_then (below_then hP.pt.b (Nat.le_refl _) hb9) (Nat.le_refl _) hb10
        clear hP hb8 hb9 hb10 ho8 ho9 hm2 hn2 hl0 hbA ho7
        go_wp2
        all_goals
          go_ret
          exact ⟨rfl, hend⟩
end Go.Proofs.Ytmoldmnhijcckaa
