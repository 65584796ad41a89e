/- What feeding tells depends on the sets' rows and serials alone; how long it is; one cache is kept while another one changes. -/
import Derived.Test.YtmoldmnhijcckaaMa50
set_option linter.unusedVariables false
set_option linter.unusedSectionVars false
set_option linter.unusedSimpArgs false
namespace Go.Proofs.Ytmoldmnhijcckaa
open Go.RowKit
def sinceG (sess : Int) (s : List Vrp × UInt32) (xs : List Vrp) : List UInt8 := sinceB sess ⟨none, 0, s.1, s.2⟩ xs
theorem sinceG_eq (sess : Int) (s : SetV) (xs : List Vrp) : sinceB sess s xs = sinceG sess (s.l, s.sn) xs := rfl
def takeG (sess : Int) (l : List (List Vrp × UInt32)) (p : Pdu) : List UInt8 × Bool :=
  if p.kind = 10 then ([], false)
  else if p.kind = 2 ∨ p.kind = 1 then
    match l.getLast? with
    | none => (wrD (pdS 10 0 0 2), true)
    | some s => if p.kind = 2 then (sinceG sess s [], true) else
      match (if p.session = sess then l.find? (fun s => s.2 == p.serial) else none) with
      | some r => (sinceG sess s r.1, true)
      | none => (wrD (pdS 8 0 0 0), true)
  else (wrD (pdS 10 0 0 3), false)
theorem remG_eq (sess' sess : Int) (sn' : UInt32) (ss : List SetV) : (if sess' = sess then (absS ss).find? (fun s => s.2 == sn') else none) = (remF sess' sn' sess ss).map fun s => (s.l, s.sn) := by
  unfold remF absS
  split
  · rw [List.find?_map]
    rfl
  · rfl
theorem takeG_eq (sess : Int) (ss : List SetV) (p : Pdu) : takeF sess ss p = takeG sess (absS ss) p := by
  unfold takeF takeG
  rw [remG_eq]
  have hg : (absS ss).getLast? = ss.getLast?.map fun s => (s.l, s.sn) := by unfold absS; rw [List.getLast?_map]
  rw [hg]
  cases ss.getLast? with
  | none => rfl
  | some s =>
    cases remF p.session p.serial sess ss with
    | none => rfl
    | some r => rfl
theorem goF_abs (sess : Int) {ss ss' : List SetV} (h : absS ss = absS ss') : ∀ ps : List Pdu, goF sess ss ps = goF sess ss' ps
  | [] => rfl
  | p :: ps => by
    unfold goF
    rw [takeG_eq sess ss p, takeG_eq sess ss' p, h, goF_abs sess h ps]
theorem feedF_abs (sess : Int) {ss ss' : List SetV} (h : absS ss = absS ss') (L bb : List UInt8) : feedF sess ss L bb = feedF sess ss' L bb := by
  unfold feedF
  rw [goF_abs sess h]
theorem wrD_len (p : Pdu) : (wrD p).length ≤ 232 := by
  unfold wrD
  split
  · rename_i h; exact (wr_bd h).2
  · simp
theorem tellAll_len (vs : List Vrp) (add : Bool) : (tellAll vs add).length ≤ 232 * vs.length := by
  unfold tellAll
  induction vs with
  | nil => simp
  | cons v vs ih =>
    rw [List.flatMap_cons, List.length_append, List.length_cons]
    have := wrD_len (pdOf v add)
    omega
theorem moreOf_len (xs ys : List Vrp) : (moreOf xs ys).length ≤ ys.length := Nat.le_trans (lessF_len _ _) (rowOf_len ys)
theorem sinceB_len (sess : Int) (s : SetV) (xs : List Vrp) (M : Nat) (h1 : s.l.length ≤ M) (h2 : xs.length ≤ M) : (sinceB sess s xs).length ≤ 232 * (2 * M + 2) := by
  unfold sinceB
  simp only [List.length_append]
  have a := wrD_len (pdS 3 sess 0 0)
  have b := wrD_len (pdS 7 sess s.sn 0)
  have c := tellAll_len (moreOf s.l xs) false
  have d := tellAll_len (moreOf xs s.l) true
  have e := moreOf_len s.l xs
  have f := moreOf_len xs s.l
  omega
theorem takeF_len (sess : Int) (ss : List SetV) (p : Pdu) (M : Nat) (h : ∀ s ∈ ss, s.l.length ≤ M) : (takeF sess ss p).1.length ≤ 232 * (2 * M + 2) := by
  unfold takeF
  split
  · simp
  split
  · split
    · have := wrD_len (pdS 10 0 0 2); simp only; omega
    · rename_i s hs
      have hm : s ∈ ss := List.mem_of_getLast? hs
      split
      · exact sinceB_len sess s [] M (h s hm) (Nat.zero_le _)
      · split
        · rename_i r hr
          exact sinceB_len sess s r.l M (h s hm) (h r (remF_mem hr))
        · have := wrD_len (pdS 8 0 0 0); simp only; omega
  · have := wrD_len (pdS 10 0 0 3); simp only; omega
theorem goF_len (sess : Int) (ss : List SetV) (M : Nat) (h : ∀ s ∈ ss, s.l.length ≤ M) : ∀ ps : List Pdu, (goF sess ss ps).1.length ≤ 232 * (2 * M + 2) * ps.length
  | [] => by simp [goF]
  | p :: ps => by
    have h1 := takeF_len sess ss p M h
    have h2 := goF_len sess ss M h ps
    unfold goF
    rw [List.length_cons, Nat.mul_succ]
    generalize 232 * (2 * M + 2) * ps.length = K at h2 ⊢
    generalize 232 * (2 * M + 2) = K2 at h1 ⊢
    split
    · simp only [List.length_append]; omega
    · simp only; omega
theorem allOf_len (bs : List UInt8) : (allOf bs).1.length ≤ bs.length := by
  induction hn : bs.length using Nat.strongRecOn generalizing bs with
  | _ n ih =>
    subst hn
    rw [allOf]
    split
    · rename_i h
      obtain ⟨l, h1, h2, h3⟩ := readOf_zero h
      have := ih (bs.drop l).length (by rw [List.length_drop]; omega) (bs.drop l) rfl
      rw [h1, Int.toNat_natCast]
      simp only [List.length_cons]
      rw [List.length_drop] at this
      omega
    · split <;> simp
theorem feedF_len (sess : Int) (ss : List SetV) (L bb : List UInt8) (h : ∀ s ∈ ss, s.l.length ≤ 60) (hb : L.length + bb.length ≤ 2400) : (feedF sess ss L bb).1.length ≤ 100000000 := by
  have h1 := allOf_len (L ++ bb)
  have h2 := goF_len sess ss 60 h (allOf (L ++ bb)).1
  have h3 := wrD_len (pdS 10 0 0 (allOf (L ++ bb)).2.2.1)
  rw [List.length_append] at h1
  unfold feedF
  split
  · split
    · simp only; omega
    · simp only [List.length_append]; omega
  · simp only; omega
/-- A cache is kept while another one changes. -/
theorem CA.other {W W' : World} {lo g b lo' g' b' : Nat} {sess sess' : Int} {serial serial' : UInt32} {v v' : Value} {ss ss' : List SetV} {f f' : Int → Option Lf} {many many' : Int} (h : CA W lo g b sess serial v ss f many) (h' : CA W lo' g' b' sess' serial' v' ss' f' many')
    (hg : g ≠ g') (hb : b ≠ b') (hF : Fr2 W W' g' b') : CA W' lo g b sess serial v ss f many := by
  have hgb : g ≠ b' := fun e => by
    obtain ⟨es, m, hh, _⟩ := h'.mp
    have hB := h.blk
    unfold Blk at hB
    rw [← e, hB] at hh
    cases hh
  have hbg : b ≠ g' := fun e => by
    obtain ⟨es, m, hh, _⟩ := h.mp
    have hB := h'.blk
    unfold Blk at hB
    rw [e, hB] at hh
    cases hh
  obtain ⟨Av', cv', rfl⟩ := own_slice' h'.row
  refine ⟨(hF.block g h.blk.lt hg hgb).trans h.blk, own_kept h.row fun k hk => hF.block k (own_base_le h.row k hk).2 (fun e => by subst e; exact own_blk_ne h.row h'.blk (by decide) hk) (fun e => by subst e; exact own_map_ne h'.mp h.row hk),
    fun s hs => own_kept (h.sets s hs) fun k hk => hF.block k (own_base_le (h.sets s hs) k hk).2 (fun e => by subst e; exact own_blk_ne (h.sets s hs) h'.blk (by decide) hk) (fun e => by subst e; exact own_map_ne h'.mp (h.sets s hs) hk),
    h.mp.kept (hF.block b h.mp.lt hbg hb), fun k x hx => ⟨?_, (h.left k x hx).2⟩, h.l1, h.l2⟩
  have hr := (h.left k x hx).1
  refine ⟨hr.1, fun hn => ?_⟩
  obtain ⟨ad, e, hbl, hc⟩ := hr.2 hn
  refine ⟨ad, e, Nat.lt_of_lt_of_le hbl hF.size, fun j u hu => ?_⟩
  have h1 := hc j u hu
  have hj : j < x.bs.length := by have := (List.getElem?_eq_some_iff.1 hu).1; simpa using this
  have hbv : u = bv x.bs[j] := by
    rw [List.getElem?_map, List.getElem?_eq_getElem hj] at hu
    exact (Option.some.inj hu).symm
  have hne1 : (ad.add j).block ≠ b' := fun e2 => by
    rw [cell_map h'.mp _ e2] at h1
    cases h1
  have hne2 : (ad.add j).block ≠ g' := fun e2 => by
    have h2 := h1
    rw [hbv] at h2
    unfold World.cell? at h2
    have hB := h'.blk
    unfold Blk at hB
    rw [e2, hB] at h2
    simp only at h2
    split at h2
    · cases h2
    · rename_i hp
      rcases ho : (ad.add j).off with _ | _ | _ | _ | _ | n <;> rw [ho] at h2 <;> simp [bv] at h2
  exact (World.cell?_of_block (hF.block _ (by rw [add_blk]; exact hbl) hne2 hne1)).trans h1
end Go.Proofs.Ytmoldmnhijcckaa
/- The walk of lanyardlaw26.SessionAlone: it returns true. -/
set_option linter.unusedVariables false
set_option linter.unusedSectionVars false
set_option linter.unusedSimpArgs false
namespace Go.Proofs.Ytmoldmnhijcckaa
open Go.RowKit
def nowG (l : List (List Vrp × UInt32)) : Int × Bool := match l.getLast? with
  | none => (0, false)
  | some s => (s.2.toNat, true)
theorem now_g {w w' : World} {ss : List SetV} {e : Ending} (h : NowPost w ss e w') : ∃ v, e = .returned (.tuple #[v, .int .u32 (nowG (absS ss)).1, .bool (nowG (absS ss)).2]) := by
  rcases h with ⟨rfl, rfl⟩ | ⟨s, A, c, hs, rfl, _⟩
  · exact ⟨_, rfl⟩
  · refine ⟨.slice A s.l.length c, ?_⟩
    have : (absS ss).getLast? = some (s.l, s.sn) := by unfold absS; rw [List.getLast?_map, hs]; rfl
    unfold nowG
    rw [this]
/-- Two caches, apart. -/
structure CC (w : World) (lc gc bc ld gd bd : Nat) (sn : UInt32) (vc vd : Value) (sc sd : List SetV) (fc fd : Int → Option Lf) (mc md : Int) (W : World) : Prop where
  c : CA W lc gc bc 7 sn vc sc fc mc
  d : CA W ld gd bd 7 sn vd sd fd md
  lo : Below w.heap.size w W
  hg : gc ≠ gd
  hb : bc ≠ bd
  l1 : w.heap.size ≤ lc
  l2 : w.heap.size ≤ ld
section
variable {w W W' : World} {lc gc bc ld gd bd : Nat} {sn : UInt32} {vc vd : Value} {sc sd : List SetV} {fc fd f' : Int → Option Lf} {mc md m' : Int}
theorem fr2_lo {w W W' : World} {lo g b : Nat} (h : Below w.heap.size w W) (h1 : w.heap.size ≤ lo) (h2 : lo ≤ b) (h3 : b < g) (hF : Fr2 W W' g b) : Below w.heap.size w W' :=
  h.trans ⟨hF.os, hF.tape, hF.output, hF.size, fun k hk => hF.block k (by have := h.size; omega) (by omega) (by omega)⟩
theorem CC.stepC (h : CC w lc gc bc ld gd bd sn vc vd sc sd fc fd mc md W) (hC : CA W' lc gc bc 7 sn vc sc f' m') (hF : Fr2 W W' gc bc) : CC w lc gc bc ld gd bd sn vc vd sc sd f' fd m' md W' :=
  ⟨hC, h.d.other h.c (fun e => h.hg e.symm) (fun e => h.hb e.symm) hF, fr2_lo h.lo h.l1 h.c.l1 h.c.l2 hF, h.hg, h.hb, h.l1, h.l2⟩
theorem CC.stepD (h : CC w lc gc bc ld gd bd sn vc vd sc sd fc fd mc md W) (hD : CA W' ld gd bd 7 sn vd sd f' m') (hF : Fr2 W W' gd bd) : CC w lc gc bc ld gd bd sn vc vd sc sd fc f' mc m' W' :=
  ⟨h.c.other h.d h.hg h.hb hF, hD, fr2_lo h.lo h.l2 h.d.l1 h.d.l2 hF, h.hg, h.hb, h.l1, h.l2⟩
theorem CC.next (h : CC w lc gc bc ld gd bd sn vc vd sc sd fc fd mc md W) (hb : Below W.heap.size W W') : CC w lc gc bc ld gd bd sn vc vd sc sd fc fd mc md W' :=
  ⟨h.c.next hb, h.d.next hb, below_then h.lo (Nat.le_refl _) hb, h.hg, h.hb, h.l1, h.l2⟩
end
set_option maxRecDepth 100000 in
set_option maxHeartbeats 2000000 in
theorem alone_far (w : World) (xs : List SL) (A : Option Addr) (c B : Nat) (hc : xs.length ≤ c) (hm : c ≤ maxLen) (hr : Reads w B 1 A xs.length (xs.map SL.val)) (hrx : ∀ x ∈ xs, x.l.length ≤ x.c ∧ x.c ≤ maxLen ∧ Reads w B 20 x.A x.l.length (x.l.flatMap Vrp.cells))
    (as1 : List UInt8) (A1 : Option Addr) (c1 : Nat) (as2 : List UInt8) (A2 : Option Addr) (c2 : Nat) (hB : B ≤ w.heap.size) (hbig : ¬ (as1.length ≤ 600 ∧ as2.length ≤ 600)) :
    Calls Try.prog 11 #[.slice A xs.length c, .slice A1 as1.length c1, .slice A2 as2.length c2] w fun e w' => e = .returned (.bool true) ∧ Below w.heap.size w w' := by
  by_cases h1 : as1.length ≤ 600
  · have d1 : decide ((600 : Int) < (as1.length : Int)) = false := decide_eq_false (by omega)
    have d2 : decide ((600 : Int) < (as2.length : Int)) = true := decide_eq_true (by omega)
    clear h1 hbig
    go_enter Try.func11, Try.ntmps11
    go_wp2_with fail
    refine (awake26_any w).mono ?_
    rintro e w1 ⟨rfl, hb1⟩
    go_wp2_with fail
    refine (few_any xs _ rfl A c _ (by simp only [maxLen] at hm; omega) w1 (by have := hb1.size; omega) (hr.below hb1 hB) (fun x hx => by have := hrx x hx; simp only [maxLen] at this; omega)).mono ?_
    rintro e w2 ⟨r, rfl, hfew, hb2⟩
    have hlo := below_then hb1 (Nat.le_refl _) hb2
    clear hb1 hb2
    cases r <;> (go_wp2_with fail; go_ret; exact ⟨rfl, hlo⟩)
  · have d1 : decide ((600 : Int) < (as1.length : Int)) = true := decide_eq_true (by omega)
    clear h1 hbig
    go_enter Try.func11, Try.ntmps11
    go_wp2_with fail
    refine (awake26_any w).mono ?_
    rintro e w1 ⟨rfl, hb1⟩
    go_wp2_with fail
    refine (few_any xs _ rfl A c _ (by simp only [maxLen] at hm; omega) w1 (by have := hb1.size; omega) (hr.below hb1 hB) (fun x hx => by have := hrx x hx; simp only [maxLen] at this; omega)).mono ?_
    rintro e w2 ⟨r, rfl, hfew, hb2⟩
    have hlo := below_then hb1 (Nat.le_refl _) hb2
    clear hb1 hb2
    cases r <;> (go_wp2_with fail; go_ret; exact ⟨rfl, hlo⟩)
set_option maxRecDepth 100000 in
set_option maxHeartbeats 4000000 in
theorem alone_near (w : World) (xs : List SL) (A : Option Addr) (c B : Nat) (hc : xs.length ≤ c) (hm : c ≤ maxLen) (hr : Reads w B 1 A xs.length (xs.map SL.val)) (hrx : ∀ x ∈ xs, x.l.length ≤ x.c ∧ x.c ≤ maxLen ∧ Reads w B 20 x.A x.l.length (x.l.flatMap Vrp.cells))
    (as1 : List UInt8) (A1 : Option Addr) (c1 : Nat) (hr1 : Reads w B 1 A1 as1.length (as1.map bv)) (as2 : List UInt8) (A2 : Option Addr) (c2 : Nat) (hr2 : Reads w B 1 A2 as2.length (as2.map bv)) (hB : B ≤ w.heap.size) (h1 : as1.length ≤ 600) (h2 : as2.length ≤ 600) :
    Calls Try.prog 11 #[.slice A xs.length c, .slice A1 as1.length c1, .slice A2 as2.length c2] w fun e w' => e = .returned (.bool true) ∧ Below w.heap.size w w' := by
  have d1 : decide ((600 : Int) < (as1.length : Int)) = false := decide_eq_false (by omega)
  have d2 : decide ((600 : Int) < (as2.length : Int)) = false := decide_eq_false (by omega)
  go_enter Try.func11, Try.ntmps11
  go_wp2_with fail
  refine (awake26_any w).mono ?_
  rintro e w1 ⟨rfl, hb1⟩
  go_wp2_with fail
  refine (few_any xs _ rfl A c _ (by simp only [maxLen] at hm; omega) w1 (by have := hb1.size; omega) (hr.below hb1 hB) (fun x hx => by have := hrx x hx; simp only [maxLen] at this; omega)).mono ?_
  rintro e w2 ⟨r, rfl, hfew, hb2⟩
  have hlo := below_then hb1 (Nat.le_refl _) hb2
  clear hb1 hb2
  cases r
  · go_wp2_with fail
    go_ret
    exact ⟨rfl, hlo⟩
  obtain ⟨h12, h60⟩ := hfew rfl
  have H60 := Lib.hid h60
  clear hfew h12 h60
  go_wp2_with fail
  clear d1 d2
  refine (made_any xs _ rfl A c _ (by simp only [maxLen] at hm; omega) w2 (by have := hlo.size; omega) (hr.below hlo hB) H60.out (fun x hx => (hrx x hx).2.2.below hlo hB)).mono ?_
  rintro e w3 ⟨gc, bc, vc, sc, rfl, hC, hac, h5c, h6c, hb3⟩
  have hlo3 := below_then hlo (Nat.le_refl _) hb3
  have HLC := Lib.hid (show w.heap.size ≤ w2.heap.size from hlo.size)
  generalize w2.heap.size = lc at hC HLC
  clear hb3 hlo
  go_wp2_with fail
  refine (made_any xs _ rfl A c _ (by simp only [maxLen] at hm; omega) w3 (by have := hlo3.size; omega) (hr.below hlo3 hB) H60.out (fun x hx => (hrx x hx).2.2.below hlo3 hB)).mono ?_
  rintro e w4 ⟨gd, bd, vd, sd, rfl, hD, had, h5d, h6d, hb4⟩
  have hCC : CC w lc gc bc w3.heap.size gd bd (mkF (xs.map SL.l)).1 vc vd sc sd noLf noLf 0 0 w4 :=
    ⟨hC.next hb4, hD, below_then hlo3 (Nat.le_refl _) hb4, by have := hC.blk.lt; have := hD.l1; have := hD.l2; omega, by have := hC.mp.lt; have := hD.l1; omega, HLC.out, hlo3.size⟩
  have HAB := Lib.hid (show absS sc = absS sd from hac.trans had.symm)
  have H5 := Lib.hid (show (sc.length ≤ 5 ∧ ∀ s ∈ sc, s.l.length ≤ 60) ∧ (sd.length ≤ 5 ∧ ∀ s ∈ sd, s.l.length ≤ 60) from ⟨⟨h5c, h6c⟩, ⟨h5d, h6d⟩⟩)
  generalize (mkF (xs.map SL.l)).1 = sn at hCC
  generalize w3.heap.size = ld at hCC
  clear hC hD hb4 hlo3 hac had h5c h6c h5d h6d HLC H60 hr hrx hc hm
  go_wp2_with fail
  refine (open_any w4 _ _ _ _ _ _ _ _ _ hCC.c (by omega) (by omega)).mono ?_
  rintro e w5 ⟨rfl, hO, hF⟩
  replace hCC := hCC.stepC hO hF
  clear hO hF
  go_wp2_with fail
  refine (open_any w5 _ _ _ _ _ _ _ _ _ hCC.d (by omega) (by omega)).mono ?_
  rintro e w6 ⟨rfl, hO, hF⟩
  replace hCC := hCC.stepD hO hF
  clear hO hF
  go_wp2_with fail
  refine (open_any w6 _ _ _ _ _ _ _ _ _ hCC.c (by omega) (by omega)).mono ?_
  rintro e w7 ⟨rfl, hO, hF⟩
  replace hCC := hCC.stepC hO hF
  clear hO hF
  go_wp2_with fail
  refine (open_any w7 _ _ _ _ _ _ _ _ _ hCC.d (by omega) (by omega)).mono ?_
  rintro e w8 ⟨rfl, hO, hF⟩
  replace hCC := hCC.stepD hO hF
  clear hO hF
  go_wp2_with fail
  refine (feed_any 0 as1 _ rfl A1 c1 _ (by omega) w8 _ _ _ _ _ _ _ _ _ hCC.c (by have := H5.out.1.1; omega) (fun s hs => by have := H5.out.1.2 s hs; omega) ⟨none, 0, []⟩ rfl (by simp) (by have := hCC.lo.size; omega) (hr1.below hCC.lo hB) (feedF_len 7 sc [] as1 H5.out.1.2 (by simp; omega))).mono ?_
  rintro e w9 ⟨A9, c9, x9, rfl, _, _, hO, hF⟩
  replace hCC := hCC.stepC hO (Fr2.of' hF)
  clear hO hF
  go_wp2_with fail
  refine (feed_any 1 as2 _ rfl A2 c2 _ (by omega) w9 _ _ _ _ _ _ _ _ _ hCC.c (by have := H5.out.1.1; omega) (fun s hs => by have := H5.out.1.2 s hs; omega) ⟨none, 0, []⟩ rfl (by simp) (by have := hCC.lo.size; omega) (hr2.below hCC.lo hB) (feedF_len 7 sc [] as2 H5.out.1.2 (by simp; omega))).mono ?_
  rintro e w10 ⟨Ax, cx, x10, rfl, hox, _, hO, hF⟩
  replace hCC := hCC.stepC hO (Fr2.of' hF)
  clear hO hF
  go_wp2_with fail
  refine (feed_any 1 as2 _ rfl A2 c2 _ (by omega) w10 _ _ _ _ _ _ _ _ _ hCC.d (by have := H5.out.2.1; omega) (fun s hs => by have := H5.out.2.2 s hs; omega) ⟨none, 0, []⟩ rfl (by simp) (by have := hCC.lo.size; omega) (hr2.below hCC.lo hB) (feedF_len 7 sd [] as2 H5.out.2.2 (by simp; omega))).mono ?_
  rintro e w11 ⟨Ay, cy, x11, rfl, hoy, _, hO, hF⟩
  replace hox := own_maps (f' := fun _ => none) hCC.d.mp hF hox
  replace hCC := hCC.stepD hO (Fr2.of' hF)
  rw [← feedF_abs 7 HAB.out] at hoy ⊢
  clear hO hF hr1 hr2
  generalize (feedF 7 sc [] as2).1 = out at hox hoy ⊢
  go_wp2_with fail
  refine (now_any w11 _ _ _ _ _ _ _ _ _ hCC.c (by have := H5.out.1.1; omega) (fun s hs => by have := H5.out.1.2 s hs; omega)).mono ?_
  rintro e w12 ⟨hN, hb12⟩
  obtain ⟨v12, rfl⟩ := now_g hN
  replace hCC := hCC.next hb12
  replace hox := own_below hox hb12
  replace hoy := own_below hoy hb12
  clear hN hb12
  go_wp2_with fail
  refine (now_any w12 _ _ _ _ _ _ _ _ _ hCC.d (by have := H5.out.2.1; omega) (fun s hs => by have := H5.out.2.2 s hs; omega)).mono ?_
  rintro e w13 ⟨hN, hb13⟩
  obtain ⟨v13, rfl⟩ := now_g hN
  rw [← HAB.out]
  replace hCC := hCC.next hb13
  replace hox := own_below hox hb13
  replace hoy := own_below hoy hb13
  clear hN hb13
  generalize nowG (absS sc) = nw
  have hsx := (Reads.of_own hox).str cx
  have hsy := (Reads.of_own hoy).str cy
  go_wp2_with fail
  refine (close_any 0 w13 _ _ _ _ _ _ _ _ _ hCC.d).mono ?_
  rintro e w14 ⟨rfl, hO, hF⟩
  have hfin := (hCC.stepD hO (Fr2.of' hF)).lo
  clear hO hF hCC hox hoy hsx hsy
  go_wp2_with fail
  go_ret
  exact ⟨rfl, hfin⟩
theorem alone_any (w : World) (xs : List SL) (A : Option Addr) (c B : Nat) (hc : xs.length ≤ c) (hm : c ≤ maxLen) (hr : Reads w B 1 A xs.length (xs.map SL.val)) (hrx : ∀ x ∈ xs, x.l.length ≤ x.c ∧ x.c ≤ maxLen ∧ Reads w B 20 x.A x.l.length (x.l.flatMap Vrp.cells))
    (as1 : List UInt8) (A1 : Option Addr) (c1 B1 : Nat) (hc1 : as1.length ≤ c1) (hr1 : Reads w B1 1 A1 as1.length (as1.map bv)) (as2 : List UInt8) (A2 : Option Addr) (c2 B2 : Nat) (hc2 : as2.length ≤ c2) (hr2 : Reads w B2 1 A2 as2.length (as2.map bv)) (hB : B ≤ w.heap.size) (hB1 : B1 ≤ w.heap.size) (hB2 : B2 ≤ w.heap.size) :
    Calls Try.prog 11 #[.slice A xs.length c, .slice A1 as1.length c1, .slice A2 as2.length c2] w fun e w' => e = .returned (.bool true) ∧ Below w.heap.size w w' := by
  have hrx' : ∀ x ∈ xs, x.l.length ≤ x.c ∧ x.c ≤ maxLen ∧ Reads w w.heap.size 20 x.A x.l.length (x.l.flatMap Vrp.cells) := fun x hx => ⟨(hrx x hx).1, (hrx x hx).2.1, (hrx x hx).2.2.more hB⟩
  by_cases h : as1.length ≤ 600 ∧ as2.length ≤ 600
  · exact alone_near w xs A c w.heap.size hc hm (hr.more hB) hrx' as1 A1 c1 (hr1.more hB1) as2 A2 c2 (hr2.more hB2) (Nat.le_refl _) h.1 h.2
  · exact alone_far w xs A c w.heap.size hc hm (hr.more hB) hrx' as1 A1 c1 as2 A2 c2 (Nat.le_refl _) h
end Go.Proofs.Ytmoldmnhijcckaa
