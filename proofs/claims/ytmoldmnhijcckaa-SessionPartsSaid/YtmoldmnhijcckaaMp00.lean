/- Feeding in parts, as plain law; session.Feed at a router that is not open. -/
import Derived.Test.YtmoldmnhijcckaaMa51
set_option linter.unusedVariables false
set_option linter.unusedSectionVars false
set_option linter.unusedSimpArgs false
namespace Go.Proofs.Ytmoldmnhijcckaa
open Go.RowKit
theorem at8_app {X : List UInt8} {i : Nat} (h : i < X.length) (Y : List UInt8) : at8 (X ++ Y) i = at8 X i := by
  unfold at8
  simp [List.getD_eq_getElem?_getD, List.getElem?_append_left h]
theorem readOf_app {X : List UInt8} (h : (readOf X).2.2.2 ≠ 3) (Y : List UInt8) : readOf (X ++ Y) = readOf X := by
  have h8 : ¬ X.length < 8 := fun h8 => h (by unfold readOf; rw [if_pos h8])
  have hl8 : ¬ (X ++ Y).length < 8 := by rw [List.length_append]; omega
  have hlo := longOk_take (bs := X ++ Y) (k := X.length) (by omega)
  rw [List.take_left] at hlo
  have hk : kd (X ++ Y) = kd X := by unfold kd; rw [at8_app (by omega)]
  have h0 : at8 (X ++ Y) 0 = at8 X 0 := at8_app (by omega) Y
  unfold readOf at h ⊢
  rw [if_neg h8] at h ⊢
  rw [if_neg hl8, h0, hk, ← hlo.1, ← hlo.2]
  by_cases a1 : at8 X 0 ≠ 1
  · rw [if_pos a1, if_pos a1]
  rw [if_neg a1] at h ⊢
  rw [if_neg a1]
  by_cases a2 : isKind (kd X) = false
  · rw [if_pos a2, if_pos a2]
  rw [if_neg a2] at h ⊢
  rw [if_neg a2]
  by_cases a3 : longOk X = false
  · rw [if_pos a3, if_pos a3]
  rw [if_neg a3] at h ⊢
  rw [if_neg a3]
  by_cases a4 : X.length < longOf X
  · rw [if_pos a4] at h
    exact absurd rfl h
  rw [if_neg a4] at h ⊢
  have a5 : ¬ (X ++ Y).length < longOf X := by rw [List.length_append]; omega
  rw [if_neg a5, List.take_append_of_le_length (by omega)]
theorem allOf_app (X : List UInt8) : ∀ Y : List UInt8, ((allOf X).2.2.2 = 0 → allOf (X ++ Y) = ((allOf X).1 ++ (allOf ((allOf X).2.1 ++ Y)).1, (allOf ((allOf X).2.1 ++ Y)).2)) ∧
    ((allOf X).2.2.2 ≠ 0 → allOf (X ++ Y) = ((allOf X).1, (allOf X).2.1 ++ Y, (allOf X).2.2.1, (allOf X).2.2.2)) ∧ (allOf X).2.1.length ≤ X.length := by
  induction hn : X.length using Nat.strongRecOn generalizing X with
  | _ n ih =>
    subst hn
    intro Y
    rcases hr : readOf X with ⟨q, m, k, x⟩
    by_cases h0 : x = 0
    · subst h0
      obtain ⟨l, e1, e2, e3⟩ := readOf_zero (bs := X) (by rw [hr])
      rw [hr] at e1
      simp only at e1
      subst e1
      have hXY := readOf_app (X := X) (by rw [hr]; show (0 : Int) ≠ 3; decide) Y
      rw [hr] at hXY
      have i := ih (X.drop l).length (by rw [List.length_drop]; omega) (X.drop l) rfl Y
      have hd : (X ++ Y).drop l = X.drop l ++ Y := List.drop_append_of_le_length e3
      rw [all_ok hr, all_ok hXY, Int.toNat_natCast, hd]
      refine ⟨fun h => ?_, fun h => ?_, ?_⟩
      · rw [i.1 h]; rfl
      · rw [i.2.1 h]
      · have := i.2.2; rw [List.length_drop] at this; simp only; omega
    · by_cases h3 : x = 3
      · subst h3
        rw [all_short hr]
        refine ⟨fun _ => ?_, fun h => absurd rfl h, Nat.le_refl _⟩
        simp
      · have hXY := readOf_app (X := X) (by rw [hr]; exact h3) Y
        rw [hr] at hXY
        rw [all_bad hr h0 h3, all_bad hXY h0 h3]
        exact ⟨fun h => absurd h h0, fun _ => rfl, Nat.le_refl _⟩
theorem goF_append (sess : Int) (ss : List SetV) (qs : List Pdu) : ∀ ps : List Pdu, goF sess ss (ps ++ qs) = if (goF sess ss ps).2 then ((goF sess ss ps).1 ++ (goF sess ss qs).1, (goF sess ss qs).2) else goF sess ss ps
  | [] => by simp [goF]
  | p :: ps => by
    rw [List.cons_append, goF, goF, goF_append sess ss qs ps]
    cases h1 : (takeF sess ss p).2
    · simp
    · cases h2 : (goF sess ss ps).2
      · simp [h2]
      · simp [h2]
/-- Bytes in two parts are answered alike. -/
theorem feed_parts (sess : Int) (ss : List SetV) (L X Y : List UInt8) :
    (∀ r, (feedF sess ss L X).2 = some r → r.length ≤ L.length + X.length ∧ feedF sess ss L (X ++ Y) = ((feedF sess ss L X).1 ++ (feedF sess ss r Y).1, (feedF sess ss r Y).2)) ∧
    ((feedF sess ss L X).2 = none → feedF sess ss L (X ++ Y) = ((feedF sess ss L X).1, none)) := by
  have ha := allOf_app (L ++ X) Y
  rw [List.append_assoc] at ha
  unfold feedF
  rcases hX : allOf (L ++ X) with ⟨ps, rest, k, x⟩
  rw [hX] at ha
  simp only at ha ⊢
  obtain ⟨a1, a2, a3⟩ := ha
  rw [List.length_append] at a3
  cases hg : (goF sess ss ps).2
  · by_cases h0 : x = 0
    · rw [a1 h0, goF_append, hg]
      simp [hg]
    · rw [a2 h0, hg]
      simp
  · by_cases h0 : x = 0
    · rw [a1 h0, goF_append, hg]
      simp only [if_true, if_pos h0]
      refine ⟨fun r hr => ?_, fun hr => by cases hr⟩
      obtain rfl := Option.some.inj hr
      refine ⟨a3, ?_⟩
      cases hg2 : (goF sess ss (allOf (rest ++ Y)).1).2
      · simp
      · by_cases h2 : (allOf (rest ++ Y)).2.2.2 = 0
        · simp [h2]
        · simp [h2]
    · rw [a2 h0, hg]
      simp only [if_true, if_neg h0]
      exact ⟨fun r hr => (by cases hr), fun _ => by first | trivial | rfl⟩
set_option maxRecDepth 100000 in
set_option maxHeartbeats 1000000 in
theorem feed_none (id : Int) (nb : Nat) (A : Option Addr) (c : Nat) (w : World) (lo g b : Nat) (sess : Int) (serial : UInt32) (v : Value) (ss : List SetV) (f : Int → Option Lf) (many : Int) (h : CA w lo g b sess serial v ss f many) (hf : f id = none) :
    Calls Try.prog 34 #[.pointer (some ⟨g, 0, none⟩), .int .i64 id, .slice A nb c] w fun e w' => e = .returned (.tuple #[.slice none 0 0, .int .i64 10]) ∧ w = w' := by
  have cm := h.blk.cell 3
  simp only [List.getElem?_cons_zero, List.getElem?_cons_succ] at cm
  have hlook := h.mp.look_none Try.underlying108 Try.underlying3 (P := Try.prog) (k := id) (Try.zeroValue30 w) (by simp [hf])
  clear hf
  go_enter Try.func34, Try.ntmps34
  go_wp2_with fail
  exact bodyPost_ret (v := .tuple #[.slice none 0 0, .int .i64 10]) (by simp [results, Try.results34, go_sem]) rfl ⟨rfl, rfl⟩
end Go.Proofs.Ytmoldmnhijcckaa
/- The walk of lanyardlaw26.SessionParts: it returns true. -/
set_option linter.unusedVariables false
set_option linter.unusedSectionVars false
set_option linter.unusedSimpArgs false
namespace Go.Proofs.Ytmoldmnhijcckaa
open Go.RowKit
/-- The rest of a row of bytes. -/
theorem cut_tail (A : Option Addr) (c n k : Nat) (h1 : k ≤ n) (hc : n ≤ c) : ∃ A2 : Option Addr, (∀ W, (Instr.sliceAt 30 (.slice A n c) (some (.int .i64 (k : Int))) none none).run Try.prog W = .ok (.slice A2 (n - k) (c - k)) W) ∧
    ∀ (W : World) (B : Nat) (bs : List UInt8), Reads W B 1 A n (bs.map bv) → Reads W B 1 A2 (n - k) ((bs.drop k).map bv) := by
  have ht : Try.prog.underlying 30 = some (.slice (Try.prog.elem 30)) := by kernel_rfl
  have he : Try.prog.elem 30 = 5 := by kernel_rfl
  refine ⟨(if c = k then A else A.map (·.add (k * 1))), fun W => ?_, fun W B bs h => ?_⟩
  · rw [run_sliceAt_slice _ _ _ _ _ _ ht, run_slice_l _ _ _ _ _ ht _ _ (by omega) (by omega), he, Try.sizeOf5]
    simp [Result.andThen, sliced]
  · have := cutR h h1 hc
    rw [Nat.mul_one]
    exact this
/-- One cache behind what was there. -/
structure C1 (w : World) (lc gc bc : Nat) (sn : UInt32) (vc : Value) (sc : List SetV) (fc : Int → Option Lf) (mc : Int) (W : World) : Prop where
  c : CA W lc gc bc 7 sn vc sc fc mc
  lo : Below w.heap.size w W
  l1 : w.heap.size ≤ lc
section
variable {w W W' : World} {lc gc bc : Nat} {sn : UInt32} {vc : Value} {sc : List SetV} {fc f' : Int → Option Lf} {mc m' : Int}
theorem C1.step (h : C1 w lc gc bc sn vc sc fc mc W) (hC : CA W' lc gc bc 7 sn vc sc f' m') (hF : Fr2 W W' gc bc) : C1 w lc gc bc sn vc sc f' m' W' :=
  ⟨hC, fr2_lo h.lo h.l1 h.c.l1 h.c.l2 hF, h.l1⟩
theorem C1.next (h : C1 w lc gc bc sn vc sc fc mc W) (hb : Below W.heap.size W W') : C1 w lc gc bc sn vc sc fc mc W' :=
  ⟨h.c.next hb, below_then h.lo (Nat.le_refl _) hb, h.l1⟩
end
set_option maxRecDepth 100000 in
set_option maxHeartbeats 2000000 in
theorem parts26_far (w : World) (xs : List SL) (A : Option Addr) (c B : Nat) (hc : xs.length ≤ c) (hm : c ≤ maxLen) (hr : Reads w B 1 A xs.length (xs.map SL.val)) (hrx : ∀ x ∈ xs, x.l.length ≤ x.c ∧ x.c ≤ maxLen ∧ Reads w B 20 x.A x.l.length (x.l.flatMap Vrp.cells))
    (as1 : List UInt8) (A1 : Option Addr) (c1 : Nat) (n : Int) (hB : B ≤ w.heap.size) (hbig : ¬ (as1.length ≤ 600 ∧ 0 ≤ n)) :
    Calls Try.prog 10 #[.slice A xs.length c, .slice A1 as1.length c1, .int .i64 n] w fun e w' => e = .returned (.bool true) ∧ Below w.heap.size w w' := by
  by_cases h1 : as1.length ≤ 600
  · have d1 : decide ((600 : Int) < (as1.length : Int)) = false := decide_eq_false (by omega)
    have d2 : decide (n < 0) = true := decide_eq_true (by omega)
    clear h1 hbig
    go_enter Try.func10, Try.ntmps10
    go_wp2_with fail
    refine (awake26_any w).mono ?_
    rintro e w1 ⟨rfl, hb1⟩
    go_wp2_with fail
    refine (few_any xs _ rfl A c _ (by simp only [maxLen] at hm; omega) w1 (by have := hb1.size; omega) (hr.below hb1 hB) (fun x hx => by have := hrx x hx; simp only [maxLen] at this; omega)).mono ?_
    rintro e w2 ⟨r, rfl, hfew, hb2⟩
    have hlo := below_then hb1 (Nat.le_refl _) hb2
    clear hb1 hb2
    cases r <;> (go_wp2_with fail; go_ret; exact ⟨rfl, hlo⟩)
  · have d1 : decide ((600 : Int) < (as1.length : Int)) = true := decide_eq_true (by omega)
    clear h1 hbig
    go_enter Try.func10, Try.ntmps10
    go_wp2_with fail
    refine (awake26_any w).mono ?_
    rintro e w1 ⟨rfl, hb1⟩
    go_wp2_with fail
    refine (few_any xs _ rfl A c _ (by simp only [maxLen] at hm; omega) w1 (by have := hb1.size; omega) (hr.below hb1 hB) (fun x hx => by have := hrx x hx; simp only [maxLen] at this; omega)).mono ?_
    rintro e w2 ⟨r, rfl, hfew, hb2⟩
    have hlo := below_then hb1 (Nat.le_refl _) hb2
    clear hb1 hb2
    cases r <;> (go_wp2_with fail; go_ret; exact ⟨rfl, hlo⟩)
theorem C1.closed {w W : World} {lc gc bc : Nat} {sn : UInt32} {vc : Value} {sc : List SetV} {fc : Int → Option Lf} {mc : Int} (h : C1 w lc gc bc sn vc sc fc mc W) : ∃ f, f = fc ∧ C1 w lc gc bc sn vc sc f mc W := ⟨fc, rfl, h⟩
theorem isSome_map {x : Option Lf} {r : Option (List UInt8)} (h : x.map Lf.bs = r) : x.isSome = r.isSome := by rw [← h]; cases x <;> rfl
theorem str_app (a b : List UInt8) : (ByteArray.mk a.toArray) ++ (ByteArray.mk b.toArray) = ByteArray.mk (a ++ b).toArray := by
  apply ByteArray.ext
  simp
theorem run_str_add (a b : List UInt8) (h : a.length + b.length ≤ 1000000000) (W : World) : (Go.binOp .add 9 (.string (ByteArray.mk a.toArray)) (.string (ByteArray.mk b.toArray))).run Try.prog W = .ok (.string (ByteArray.mk (a ++ b).toArray)) W := by
  have hne : ¬ (((ByteArray.mk a.toArray).size + (ByteArray.mk b.toArray).size : Nat) : Int) > IntKind.i64.max := by
    have h1 : (ByteArray.mk a.toArray).size = a.length := by simp [ByteArray.size]
    have h2 : (ByteArray.mk b.toArray).size = b.length := by simp [ByteArray.size]
    rw [h1, h2]
    have : IntKind.i64.max = 9223372036854775807 := by decide
    omega
  rw [← str_app]
  simp only [Go.binOp, Op.stringOp, if_neg hne]
  first | rfl | simp [run_underlying Try.underlying9] | (simp [run_underlying Try.underlying9, Op.stringOp, hne])
set_option maxRecDepth 100000 in
set_option maxHeartbeats 3000000 in
theorem parts26_near (w : World) (xs : List SL) (A : Option Addr) (c B : Nat) (hc : xs.length ≤ c) (hm : c ≤ maxLen) (hr : Reads w B 1 A xs.length (xs.map SL.val)) (hrx : ∀ x ∈ xs, x.l.length ≤ x.c ∧ x.c ≤ maxLen ∧ Reads w B 20 x.A x.l.length (x.l.flatMap Vrp.cells))
    (as1 : List UInt8) (N : Nat) (hN : as1.length = N) (A1 : Option Addr) (c1 : Nat) (hc1 : N ≤ c1) (hr1 : Reads w B 1 A1 N (as1.map bv)) (n : Nat) (hB : B ≤ w.heap.size) (h1 : N ≤ 600) :
    Calls Try.prog 10 #[.slice A xs.length c, .slice A1 N c1, .int .i64 n] w fun e w' => e = .returned (.bool true) ∧ Below w.heap.size w w' := by
  have d1 : decide ((600 : Int) < (N : Int)) = false := decide_eq_false (by omega)
  have d2 : decide ((n : Int) < 0) = false := decide_eq_false (by omega)
  have HN := Lib.hid hN
  clear hN
  go_enter Try.func10, Try.ntmps10
  go_wp2_with fail
  refine (awake26_any w).mono ?_
  rintro e w1 ⟨rfl, hb1⟩
  go_wp2_with fail
  refine (few_any xs _ rfl A c _ (by simp only [maxLen] at hm; omega) w1 (by have := hb1.size; omega) (hr.below hb1 hB) (fun x hx => by have := hrx x hx; simp only [maxLen] at this; omega)).mono ?_
  rintro e w2 ⟨r, rfl, hfew, hb2⟩
  have hlo := below_then hb1 (Nat.le_refl _) hb2
  clear hb1 hb2
  cases r
  · go_wp2_with fail
    go_ret
    exact ⟨rfl, hlo⟩
  obtain ⟨h12, h60⟩ := hfew rfl
  have H60 := Lib.hid h60
  clear hfew h12 h60
  go_wp2_with fail
  clear d1 d2
  refine (made_any xs _ rfl A c _ (by simp only [maxLen] at hm; omega) w2 (by have := hlo.size; omega) (hr.below hlo hB) H60.out (fun x hx => (hrx x hx).2.2.below hlo hB)).mono ?_
  rintro e w3 ⟨gc, bc, vc, sc, rfl, hC, hac, h5c, h6c, hb3⟩
  have hC1 : C1 w w2.heap.size gc bc (mkF (xs.map SL.l)).1 vc sc noLf 0 w3 := ⟨hC, below_then hlo (Nat.le_refl _) hb3, hlo.size⟩
  have H5 := Lib.hid (show sc.length ≤ 5 ∧ ∀ s ∈ sc, s.l.length ≤ 60 from ⟨h5c, h6c⟩)
  generalize (mkF (xs.map SL.l)).1 = sn at hC1
  generalize w2.heap.size = lc at hC1
  clear hC hb3 hlo hac h5c h6c H60 hr hrx hc hm
  go_wp2_with fail
  refine (open_any w3 _ _ _ _ _ _ _ _ _ hC1.c (by omega) (by omega)).mono ?_
  rintro e w5 ⟨rfl, hO, hF⟩
  replace hC1 := hC1.step hO hF
  clear hO hF
  go_wp2_with fail
  refine (open_any w5 _ _ _ _ _ _ _ _ _ hC1.c (by omega) (by omega)).mono ?_
  rintro e w6 ⟨rfl, hO, hF⟩
  replace hC1 := hC1.step hO hF
  clear hO hF
  have hmN : n % (N + 1) ≤ N := by have := Nat.mod_lt n (show 0 < N + 1 by omega); omega
  have e1 : (n : Int) % ((N : Int) + 1) = ((n % (N + 1) : Nat) : Int) := by rw [Int.natCast_emod, Int.natCast_add]; rfl
  have e2 : Int.tmod (n : Int) ((N : Int) + 1) = ((n % (N + 1) : Nat) : Int) := rfl
  have hN0 : ((N : Int) + 1 == 0) = false := beq_eq_false_iff_ne.2 (by omega)
  generalize n % (N + 1) = m at hmN e1 e2
  go_wp2_with fail
  refine (feed_any 0 as1 _ HN.out A1 c1 _ (by omega) w6 _ _ _ _ _ _ _ _ _ hC1.c (by have := H5.out.1; omega) (fun s hs => by have := H5.out.2 s hs; omega) ⟨none, 0, []⟩ rfl (by simp) (by have := hC1.lo.size; omega) (hr1.below hC1.lo hB) (feedF_len 7 sc [] as1 H5.out.2 (by rw [HN.out]; simp; omega))).mono ?_
  rintro e w7 ⟨Aa, ca, xa, rfl, hov, hxa, hO, hF⟩
  replace hC1 := hC1.step hO (Fr2.of' hF)
  clear hO hF e1 e2 hN0
  have hmi : (m : Int) ≤ (c1 : Int) := by omega
  have hmi' : m ≤ c1 := by omega
  have hmN' : (m : Int) ≤ (N : Int) := by omega
  have hm0 : (0 : Int) ≤ (m : Int) := by omega
  have HP := Lib.hid (feed_parts 7 sc [] (as1.take m) (as1.drop m))
  rw [List.take_append_drop] at HP
  have HXA := Lib.hid hxa
  clear hxa
  go_wp2_with fail
  refine (feed_any 1 (as1.take m) m (by rw [List.length_take, HN.out]; omega) A1 c1 _ (by omega) w7 _ _ _ _ _ _ _ _ _ hC1.c (by have := H5.out.1; omega) (fun s hs => by have := H5.out.2 s hs; omega) ⟨none, 0, []⟩ rfl (by simp) (by have := hC1.lo.size; omega) ((hr1.below hC1.lo hB).take1 hmN) (feedF_len 7 sc [] (as1.take m) H5.out.2 (by rw [List.length_take, HN.out]; simp; omega))).mono ?_
  rintro e w8 ⟨Ab, cb, xb, rfl, hov1, hxb, hO, hF⟩
  replace hov := own_maps (f' := fun _ => none) hC1.c.mp hF hov
  replace hC1 := hC1.step hO (Fr2.of' hF)
  clear hO hF
  have HXB := Lib.hid hxb
  clear hxb
  cases hrr : (feedF 7 sc [] (as1.take m)).2 with
  | none =>
    have hal := HP.out.2 hrr
    have hb0 := HXB.out
    rw [hrr] at hb0
    have ha0 := HXA.out
    rw [hal] at ha0
    have ho3 : (feedF 7 sc [] as1).1 = (feedF 7 sc [] (as1.take m)).1 ++ [] := by rw [hal, List.append_nil]
    generalize (feedF 7 sc [] as1).1 = o3 at hov ho3 ⊢
    have HO3 := Lib.hid ho3
    clear ho3
    have hbn : xb = none := by simpa using hb0
    have han : xa = none := by simpa using ha0
    subst hbn
    subst han
    clear hrr hal hb0 ha0 HP HXA HXB
    have hlo1 := Lib.hid (feedF_len 7 sc [] (as1.take m) H5.out.2 (by rw [List.length_take, HN.out]; simp; omega))
    generalize (feedF 7 sc [] (as1.take m)).1 = o1 at hov1 hlo1 HO3 ⊢
    obtain ⟨A5, hcut, hrc⟩ := cut_tail A1 c1 N m hmN hc1
    go_wp2_with fail
    refine (feed_none 1 (N - m) _ (c1 - m) w8 _ _ _ _ _ _ _ _ _ hC1.c rfl).mono ?_
    rintro e w9 ⟨rfl, rfl⟩
    obtain ⟨q, hq⟩ : ∃ q, q = false := ⟨_, rfl⟩
    obtain ⟨fc, hfc, hC2⟩ := hC1.closed
    clear hC1
    have hC1 := hC2
    clear hC2
    have HQ1 := Lib.hid (show (fc 1).isSome = q by rw [hfc]; exact hq.symm)
    have HQ0 := Lib.hid (show (fc 0).isSome = q by rw [hfc]; exact hq.symm)
    obtain ⟨i, hi⟩ : ∃ i, i = (if q = true then (0 : Int) else 10) := ⟨_, rfl⟩
    have HI := Lib.hid hi
    clear hi hfc hq
    go_wp2_with fail
    refine (close_any 0 _ _ _ _ _ _ _ _ _ _ hC1.c).mono ?_
    rintro e wa ⟨he, hO, hF⟩
    have he' : e = .returned (.int .i64 i) := he.trans (by rw [HI.out, HQ0.out])
    subst he'
    have hs0 := hC1.c.mp
    replace hov := own_maps (f' := fun _ => none) hs0 hF hov
    replace hov1 := own_maps (f' := fun _ => none) hs0 hF hov1
    skip
    replace hC1 := hC1.step hO (Fr2.of' hF)
    clear hO hF hs0 he
    go_wp2_with fail
    refine (close_any 1 _ _ _ _ _ _ _ _ _ _ hC1.c).mono ?_
    rintro e wb ⟨he, hO, hF⟩
    have he' : e = .returned (.int .i64 i) := he.trans (by rw [HI.out, ← HQ1.out]; rfl)
    subst he'
    have hs0 := hC1.c.mp
    replace hov := own_maps (f' := fun _ => none) hs0 hF hov
    replace hov1 := own_maps (f' := fun _ => none) hs0 hF hov1
    skip
    have hfin := (hC1.step hO (Fr2.of' hF)).lo
    clear hO hF hs0 he hC1
    have hsx := (Reads.of_own hov).str ca
    have hsy := (Reads.of_own hov1).str cb
    obtain ⟨o2, ho2⟩ : ∃ o2 : List UInt8, o2 = [] := ⟨_, rfl⟩
    have hsz2 : (convert 30 9 (.slice none 0 0)).run Try.prog wb = .ok (.string (ByteArray.mk o2.toArray)) wb := by rw [ho2]; exact Reads.str (B := 0) (A := none) (w := wb) (bs := []) Reads.nil 0
    have hno : ¬ 9223372036854775807 < o1.length + o2.length := by have := hlo1.out; rw [ho2, List.length_nil]; omega
    have hO3 : (ByteArray.mk o1.toArray ++ ByteArray.mk o2.toArray).toList = o3 := by rw [str_app, ho2, ← HO3.out]; simp
    clear ho2
    clear hov hov1 
    go_wp2_with fail
    go_ret
    exact ⟨rfl, hfin⟩
  | some r =>
    obtain ⟨hrl, hal⟩ := HP.out.1 r hrr
    have hb0 := HXB.out
    rw [hrr] at hb0
    have ha0 := HXA.out
    rw [hal] at ha0
    have ho3 : (feedF 7 sc [] as1).1 = (feedF 7 sc [] (as1.take m)).1 ++ (feedF 7 sc r (as1.drop m)).1 := by rw [hal]
    generalize (feedF 7 sc [] as1).1 = o3 at hov ho3 ⊢
    have HO3 := Lib.hid ho3
    clear ho3
    obtain ⟨x2, rfl, rfl⟩ : ∃ x2, xb = some x2 ∧ x2.bs = r := by
      cases xb with
      | none => cases hb0
      | some x2 => exact ⟨x2, rfl, Option.some.inj hb0⟩
    have hrl2 : x2.bs.length ≤ 600 := by rw [List.length_take, HN.out] at hrl; simp at hrl; omega
    have HA0 := Lib.hid ha0
    clear hrr hal hb0 ha0 HP HXA HXB hrl
    have hlo1 := Lib.hid (feedF_len 7 sc [] (as1.take m) H5.out.2 (by rw [List.length_take, HN.out]; simp; omega))
    generalize (feedF 7 sc [] (as1.take m)).1 = o1 at hov1 hlo1 HO3 ⊢
    obtain ⟨A5, hcut, hrc⟩ := cut_tail A1 c1 N m hmN hc1
    go_wp2_with fail
    refine (feed_any 1 (as1.drop m) (N - m) (by rw [List.length_drop, HN.out]) _ (c1 - m) _ (by omega) w8 _ _ _ _ _ _ _ _ _ hC1.c (by have := H5.out.1; omega) (fun s hs => by have := H5.out.2 s hs; omega) x2 rfl (by omega) (by have := hC1.lo.size; omega) (hrc _ _ _ (hr1.below hC1.lo hB)) (feedF_len 7 sc x2.bs (as1.drop m) H5.out.2 (by rw [List.length_drop, HN.out]; omega))).mono ?_
    rintro e w9 ⟨Ac, cc, xc, rfl, hov2, hxc, hO, hF⟩
    replace hov := own_maps (f' := fun _ => none) hC1.c.mp hF hov
    replace hov1 := own_maps (f' := fun _ => none) hC1.c.mp hF hov1
    replace hC1 := hC1.step hO (Fr2.of' hF)
    clear hO hF
    obtain ⟨q, hq⟩ : ∃ q, q = xc.isSome := ⟨_, rfl⟩
    have hqa : xa.isSome = q := ((isSome_map HA0.out).trans (isSome_map hxc).symm).trans hq.symm
    clear hxc HA0
    have hlo2 := Lib.hid (feedF_len 7 sc x2.bs (as1.drop m) H5.out.2 (by rw [List.length_drop, HN.out]; omega))
    generalize (feedF 7 sc x2.bs (as1.drop m)).1 = o2 at hov2 hlo2 HO3 ⊢
    obtain ⟨fc, hfc, hC2⟩ := hC1.closed
    clear hC1
    have hC1 := hC2
    clear hC2
    have HQ1 := Lib.hid (show (fc 1).isSome = q by rw [hfc]; exact hq.symm)
    have HQ0 := Lib.hid (show (fc 0).isSome = q by rw [hfc]; exact hqa)
    obtain ⟨i, hi⟩ : ∃ i, i = (if q = true then (0 : Int) else 10) := ⟨_, rfl⟩
    have HI := Lib.hid hi
    clear hi hfc hq hqa
    go_wp2_with fail
    refine (close_any 0 _ _ _ _ _ _ _ _ _ _ hC1.c).mono ?_
    rintro e wa ⟨he, hO, hF⟩
    have he' : e = .returned (.int .i64 i) := he.trans (by rw [HI.out, HQ0.out])
    subst he'
    have hs0 := hC1.c.mp
    replace hov := own_maps (f' := fun _ => none) hs0 hF hov
    replace hov1 := own_maps (f' := fun _ => none) hs0 hF hov1
    replace hov2 := own_maps (f' := fun _ => none) hs0 hF hov2
    replace hC1 := hC1.step hO (Fr2.of' hF)
    clear hO hF hs0 he
    go_wp2_with fail
    refine (close_any 1 _ _ _ _ _ _ _ _ _ _ hC1.c).mono ?_
    rintro e wb ⟨he, hO, hF⟩
    have he' : e = .returned (.int .i64 i) := he.trans (by rw [HI.out, ← HQ1.out]; rfl)
    subst he'
    have hs0 := hC1.c.mp
    replace hov := own_maps (f' := fun _ => none) hs0 hF hov
    replace hov1 := own_maps (f' := fun _ => none) hs0 hF hov1
    replace hov2 := own_maps (f' := fun _ => none) hs0 hF hov2
    have hfin := (hC1.step hO (Fr2.of' hF)).lo
    clear hO hF hs0 he hC1
    have hsx := (Reads.of_own hov).str ca
    have hsy := (Reads.of_own hov1).str cb
    have hsz2 := (Reads.of_own hov2).str cc
    have hno : ¬ 9223372036854775807 < o1.length + o2.length := by have := hlo1.out; have := hlo2.out; omega
    have hO3 : (ByteArray.mk o1.toArray ++ ByteArray.mk o2.toArray).toList = o3 := by rw [str_app, ← HO3.out]; simp
    clear hov2
    clear hov hov1 
    go_wp2_with fail
    go_ret
    exact ⟨rfl, hfin⟩
theorem parts26_any (w : World) (xs : List SL) (A : Option Addr) (c B : Nat) (hc : xs.length ≤ c) (hm : c ≤ maxLen) (hr : Reads w B 1 A xs.length (xs.map SL.val)) (hrx : ∀ x ∈ xs, x.l.length ≤ x.c ∧ x.c ≤ maxLen ∧ Reads w B 20 x.A x.l.length (x.l.flatMap Vrp.cells))
    (as1 : List UInt8) (A1 : Option Addr) (c1 B1 : Nat) (hc1 : as1.length ≤ c1) (hr1 : Reads w B1 1 A1 as1.length (as1.map bv)) (n : Int) (hl : -9223372036854775808 ≤ n) (hu : n ≤ 9223372036854775807) (hB : B ≤ w.heap.size) (hB1 : B1 ≤ w.heap.size) :
    Calls Try.prog 10 #[.slice A xs.length c, .slice A1 as1.length c1, .int .i64 n] w fun e w' => e = .returned (.bool true) ∧ Below w.heap.size w w' := by
  have hrx' : ∀ x ∈ xs, x.l.length ≤ x.c ∧ x.c ≤ maxLen ∧ Reads w w.heap.size 20 x.A x.l.length (x.l.flatMap Vrp.cells) := fun x hx => ⟨(hrx x hx).1, (hrx x hx).2.1, (hrx x hx).2.2.more hB⟩
  by_cases h : as1.length ≤ 600 ∧ 0 ≤ n
  · obtain ⟨k, rfl⟩ : ∃ k : Nat, n = k := ⟨n.toNat, by omega⟩
    exact parts26_near w xs A c w.heap.size hc hm (hr.more hB) hrx' as1 as1.length rfl A1 c1 hc1 (hr1.more hB1) k (Nat.le_refl _) h.1
  · exact parts26_far w xs A c w.heap.size hc hm (hr.more hB) hrx' as1 A1 c1 n (Nat.le_refl _) h
end Go.Proofs.Ytmoldmnhijcckaa
