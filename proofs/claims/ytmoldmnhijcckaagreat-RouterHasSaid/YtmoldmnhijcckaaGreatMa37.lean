/- lanyardlaw26.few, made: a cache that had some rows. -/
import Derived.Test.YtmoldmnhijcckaaGreatMa36
import Derived.Test.YtmoldmnhijcckaaGreatMa28
import Derived.Test.YtmoldmnhijcckaaGreatMa27
set_option linter.unusedVariables false
set_option linter.unusedSectionVars false
set_option linter.unusedSimpArgs false
namespace Go.Proofs.YtmoldmnhijcckaaGreat
open Go.RowKit
/-- A row that came in as an element of a list. -/
structure SL where
  A : Option Addr
  c : Nat
  l : List Vrp
def SL.val (x : SL) : Value := .slice x.A x.l.length x.c
instance : Inhabited SL := ⟨⟨none, 0, []⟩⟩
theorem sl_at {w W : World} {xs : List SL} {n B : Nat} {ad : Addr} (h : Reads w B 1 (some ad) n (xs.map SL.val)) (hB : B ≤ w.heap.size) (hn : xs.length = n) (hb : Below B w W) {k : Nat} (hk : k < xs.length) : W.cell? (ad.add k) = some (.slice xs[k].A xs[k].l.length xs[k].c) := by
  have h2 := h.below hb (Nat.le_refl _)
  obtain ⟨ad', e, _, hc⟩ := h2.2 (by omega)
  cases e
  exact hc k _ (by rw [List.getElem?_map, List.getElem?_eq_getElem hk]; rfl)
/-- A cache's serial and its sets behind another row. -/
def mkStep (st : UInt32 × List (List Vrp × UInt32)) (xs : List Vrp) : UInt32 × List (List Vrp × UInt32) :=
  if st.2.getLast?.map Prod.fst = some (rowOf xs) then st else (st.1 + 1, updS (st.2 ++ [(rowOf xs, st.1 + 1)]))
def mkF (xss : List (List Vrp)) : UInt32 × List (List Vrp × UInt32) := xss.foldl mkStep (9, [])
theorem absS_last (ss : List SetV) : (absS ss).getLast?.map Prod.fst = ss.getLast?.map SetV.l := by
  unfold absS
  rw [List.getLast?_map, Option.map_map]
  rfl
theorem updS_len (l : List (List Vrp × UInt32)) (h : l.length ≤ 6) : (updS l).length ≤ 5 := by
  unfold updS
  split
  · rw [List.length_drop]; omega
  · omega
theorem updS_mem {l : List (List Vrp × UInt32)} {x} (h : x ∈ updS l) : x ∈ l := by
  unfold updS at h
  split at h
  · exact List.mem_of_mem_drop h
  · exact h
theorem mkStep_ok (st : UInt32 × List (List Vrp × UInt32)) (xs : List Vrp) (M : Nat) (h5 : st.2.length ≤ 5) (hm : ∀ x ∈ st.2, x.1.length ≤ M) (hx : xs.length ≤ M) : (mkStep st xs).2.length ≤ 5 ∧ ∀ x ∈ (mkStep st xs).2, x.1.length ≤ M := by
  unfold mkStep
  split
  · exact ⟨h5, hm⟩
  · refine ⟨updS_len _ (by simp; omega), fun x hx2 => ?_⟩
    rcases List.mem_append.1 (updS_mem hx2) with h | h
    · exact hm x h
    · rw [List.mem_singleton] at h
      subst h
      exact Nat.le_trans (rowOf_len xs) hx
theorem upd_step {w w' : World} {lo g b : Nat} {sess : Int} {serial : UInt32} {v : Value} {ss : List SetV} {many : Int} {xs : List Vrp} {e : Ending} (h : UpdPost w lo g b sess serial v ss many (rowOf xs) e w') :
    ∃ r v' ss', e = .returned (.tuple #[.bool r, .int .i64 0]) ∧ CA w' lo g b sess (mkStep (serial, absS ss) xs).1 v' ss' noLf many ∧ absS ss' = (mkStep (serial, absS ss) xs).2 ∧ r = decide ((absS ss).getLast?.map Prod.fst ≠ some (rowOf xs)) ∧ Below lo w w' := by
  obtain ⟨h1, hb⟩ := h
  rcases h1 with ⟨he, rfl, hC⟩ | ⟨he, rfl, v', ss', hs, hC⟩
  · have e2 : (absS ss).getLast?.map Prod.fst = some (rowOf xs) := (absS_last ss).trans he
    refine ⟨_, v, ss, rfl, ?_, ?_, ?_, hb⟩
    · unfold mkStep; rw [if_pos e2]; exact hC
    · unfold mkStep; rw [if_pos e2]
    · simp [e2]
  · have e2 : ¬ (absS ss).getLast?.map Prod.fst = some (rowOf xs) := by rw [absS_last ss]; exact he
    refine ⟨_, v', ss', rfl, ?_, ?_, ?_, hb⟩
    · unfold mkStep; rw [if_neg e2]; exact hC
    · unfold mkStep; rw [if_neg e2]; exact hs
    · simp [e2]
theorem mkF_snoc (xs : List SL) (k : Nat) (h : k < xs.length) : mkF ((xs.take (k + 1)).map SL.l) = mkStep (mkF ((xs.take k).map SL.l)) xs[k].l := by
  unfold mkF
  rw [List.take_succ_eq_append_getElem h, List.map_append, List.foldl_append]
  rfl
def MadePost (w : World) (st : UInt32 × List (List Vrp × UInt32)) (e : Ending) (w' : World) : Prop :=
  ∃ g b v ss, e = .returned (.pointer (some ⟨g, 0, none⟩)) ∧ CA w' w.heap.size g b 7 st.1 v ss noLf 0 ∧ absS ss = st.2 ∧ ss.length ≤ 5 ∧ (∀ s ∈ ss, s.l.length ≤ 60) ∧ Below w.heap.size w w'
theorem absS_ok {ss : List SetV} {l : List (List Vrp × UInt32)} (h : absS ss = l) (h5 : l.length ≤ 5) {M : Nat} (hm : ∀ x ∈ l, x.1.length ≤ M) : ss.length ≤ 5 ∧ ∀ s ∈ ss, s.l.length ≤ M := by
  subst h
  rw [absS_len] at h5
  exact ⟨h5, fun s hs => hm (s.l, s.sn) (List.mem_map.2 ⟨s, hs, rfl⟩)⟩
end Go.Proofs.YtmoldmnhijcckaaGreat
/- lanyardlaw26.ten, awake. -/
set_option linter.unusedVariables false
set_option linter.unusedSectionVars false
set_option linter.unusedSimpArgs false
namespace Go.Proofs.YtmoldmnhijcckaaGreat
open Go.RowKit
def tenV : Vrp := ⟨1, ⟨false, ⟨[10, 0, 0, 0, 0, 0, 0, 0, 0, 0, 0, 0, 0, 0, 0, 0], rfl⟩, 8⟩, 24⟩
set_option maxRecDepth 100000 in
set_option maxHeartbeats 1000000 in
theorem ten_any (w : World) : Calls Tryz.prog 43 #[.int .u32 1] w fun e w' => e = .returned (.agg tenV.cells.toArray) ∧ Below w.heap.size w w' := by
  have hz0 : Blk (w.alloc (.cells zV.toArray 67)) w.heap.size 67 zV := Blk.new _ _ _
  have hb0 : Below w.heap.size w ((w.alloc (.cells zV.toArray 67)).setCells w.heap.size 0 tenV.cells) := Below.setCells (Nat.le_refl _) _ _ ((Below.refl _ _).alloc (Nat.le_refl _) _)
  have hz1 := hz0.setCells_all (vs := tenV.cells) (Vrp.cells_length _)
  go_enter Tryz.func43, Tryz.ntmps43
  go_wp2_with (refine wpList_store_at rfl 67 _ _ rfl w.heap.size 0 20 67 tenV.cells zV rfl rfl hz0 (Vrp.cells_length _) (by decide) info_vrp1 (Vrp.one _) ?_)
  exact bodyPost_ret (results_cell1 rfl _ w.heap.size 0 20 tenV.cells _ rfl hz1.range (Vrp.cells_length _) Tryz.underlying67 rfl info_vrp1) rfl ⟨rfl, hb0⟩
theorem ten_ok : vrpOk tenV = true := by kernel_rfl
theorem row_one {x : Vrp} (h : vrpOk x = true) : rowOf [x] = [x] := by
  unfold rowOf
  rw [show [x].filter vrpOk = [x] by simp [h]]
  simp [dedF, addD]
/-- What awake is told. -/
def awP : List Pdu := [pdS 3 7 0 0, pdOf tenV true, pdS 7 7 0 0]
theorem awP_ok : ∀ p ∈ awP, pduOk p = true := by
  intro p hp
  simp only [awP, List.mem_cons, List.not_mem_nil, or_false] at hp
  rcases hp with rfl | rfl | rfl <;> kernel_rfl
theorem wrD_ok {p : Pdu} (h : pduOk p = true) : wrD p = wrB p := by unfold wrD; rw [if_pos h]
theorem more_nil {x : Vrp} (h : vrpOk x = true) : moreOf [x] [] = [] ∧ moreOf [] [x] = [x] := by
  unfold moreOf lessF
  rw [row_one h, rowOf_nil]
  simp
theorem aw_since (s : SetV) (hl : s.l = [tenV]) (hn : s.sn = 0) : sinceB 7 s [] = awP.flatMap wrB := by
  unfold sinceB
  rw [hl, hn, (more_nil ten_ok).1, (more_nil ten_ok).2]
  have h1 := wrD_ok (awP_ok (pdS 3 7 0 0) (by simp [awP]))
  have h2 := wrD_ok (awP_ok (pdOf tenV true) (by simp [awP]))
  have h3 := wrD_ok (awP_ok (pdS 7 7 0 0) (by simp [awP]))
  simp only [tellAll, awP, List.flatMap_cons, List.flatMap_nil, h1, h2, h3, List.nil_append, List.append_nil]
theorem aw_feed (s : SetV) (hl : s.l = [tenV]) (hn : s.sn = 0) : feedF 7 [s] [] [1, 2, 0, 0, 0, 0, 0, 8] = (awP.flatMap wrB, some []) := by
  have ha : allOf ([] ++ [1, 2, 0, 0, 0, 0, 0, 8]) = ([bareP 2], [], 0, 0) := by
    have h := all_flat [bareP 2] (fun p hp => by rw [List.mem_singleton] at hp; subst hp; exact ok2)
    rw [List.flatMap_cons, List.flatMap_nil, wr2] at h
    exact h
  have ht : takeF 7 [s] (bareP 2) = (sinceB 7 s [], true) := by
    unfold takeF
    rw [if_neg (by decide), if_pos (.inl rfl)]
    rfl
  unfold feedF
  rw [ha]
  simp only [goF, ht, if_true, List.append_nil, aw_since s hl hn]
theorem aw_step : mkStep (4294967295, []) [tenV] = (0, [([tenV], 0)]) := by
  unfold mkStep
  rw [if_neg (by simp), row_one ten_ok]
  rfl
theorem pd_range {W : World} {base g c n : Nat} {ps : List Pdu} (h : W.ownsRow base 69 26 (.slice (some ⟨g, 0, none⟩) n c) n (ps.flatMap Pdu.cells)) (k : Nat) (hk : k < ps.length) (hn : ps.length = n) : W.rangeAt g (k * 26 + 4) ps[k].v.cells := by
  have hat := (Reads.of_own h).elem Pdu.cells_length hk hn
  intro j v hv
  have hj : j < 20 := by have := (List.getElem?_eq_some_iff.1 hv).1; rwa [Vrp.cells_length] at this
  have h2 := hat (j + 4) v (by rw [Pdu.cv _ _ hj]; exact hv)
  rw [add_plain', add_plain'] at h2
  rw [← h2]
  congr 2
  omega
theorem absS_one {ss : List SetV} {l : List Vrp} {n : UInt32} (h : absS ss = [(l, n)]) : ∃ s, ss = [s] ∧ s.l = l ∧ s.sn = n := by
  unfold absS at h
  cases ss with
  | nil => simp at h
  | cons s r =>
    cases r with
    | nil => simp at h; exact ⟨s, rfl, h.1, h.2⟩
    | cons _ _ => simp at h
structure AwS (w : World) (ga c : Nat) (ps : List Pdu) (W : World) : Prop where
  lo : Below w.heap.size w W
  row : W.ownsRow w.heap.size 69 26 (.slice (some ⟨ga, 0, none⟩) 3 c) 3 (ps.flatMap Pdu.cells)
theorem AwS.next {w : World} {ga c : Nat} {ps : List Pdu} {W W' : World} (h : AwS w ga c ps W) (hb : Below W.heap.size W W') : AwS w ga c ps W' := ⟨below_then h.lo (Nat.le_refl _) hb, own_below h.row hb⟩
set_option maxRecDepth 100000 in
set_option maxHeartbeats 4000000 in
theorem awake26_any (w : World) : Calls Tryz.prog 15 #[] w fun e w' => e = .returned (.bool true) ∧ Below w.heap.size w w' := by
  obtain ⟨x, hx⟩ : ∃ x, x = tenV := ⟨_, rfl⟩
  have hten : ∀ W, Calls Tryz.prog 43 #[.int .u32 1] W fun e w' => e = .returned (.agg x.cells.toArray) ∧ Below W.heap.size W w' := fun W => by rw [hx]; exact ten_any W
  have HX := Lib.hid hx
  clear hx
  go_enter Tryz.func15, Tryz.ntmps15
  go_wp2_with fail
  refine (snew_any 7 4294967295 (by omega) (by omega) w).mono ?_
  rintro e w1 ⟨g, b, rfl, hC, hlo⟩
  go_wp2_with fail
  refine (hten _).mono ?_
  rintro e w2 ⟨rfl, hb2⟩
  have hC2 := hC.next hb2
  have hlo2 := below_then hlo (Nat.le_refl _) hb2
  clear hC hlo hb2
  go_wp2_with (refine wpList_build1 rfl 27 67 _ rfl x.cells 20 rfl (Vrp.cells_length _) Tryz.underlying27 (by kernel_rfl) (by kernel_rfl) (by omega) (by omega) ?_)
  have hrx : Reads (w2.alloc (.cells x.cells.toArray 67)) (w2.heap.size + 1) 20 (some ⟨w2.heap.size, 0, none⟩) 1 ([x].flatMap Vrp.cells) := by
    have := rowV_reads (xs := [x]) (sp := []) (g := w2.heap.size) (w := w2.alloc (.cells x.cells.toArray 67)) (t := 67) (by simpa using Blk.new w2 67 x.cells)
    exact this
  refine (update_any [x] 1 rfl _ 1 _ (by omega) _ w.heap.size g b 7 4294967295 _ [] 0 (hC2.next ((Below.refl _ _).alloc (Nat.le_refl _) _)) (by simp) (fun s hs => absurd hs (by simp)) (by simp) hrx).mono ?_
  rintro e w3 hU
  obtain ⟨r, v3, ss, rfl, hC3, ha, hrr, hb3⟩ := upd_step hU
  have hlo3 := (hlo2.alloc hlo2.size (.cells x.cells.toArray 67)).trans hb3
  obtain rfl : r = true := hrr.trans (by simp [absS])
  rw [show absS [] = [] from rfl, HX.out, aw_step] at ha hC3
  obtain ⟨s, rfl, hsl, hsn⟩ := absS_one ha
  have HSL := Lib.hid hsl
  have HSN := Lib.hid hsn
  have hsl1 : s.l.length = 1 := by rw [hsl]; rfl
  have HL1 := Lib.hid hsl1
  clear hU ha hrr hb3 hlo2 hC2 hrx hsl hsn hsl1
  go_wp2_with fail
  refine (now_any w3 w.heap.size g b 7 0 v3 [s] noLf 0 hC3 (by simp) (fun t ht => by rw [List.mem_singleton] at ht; subst ht; rw [HL1.out]; omega)).mono ?_
  rintro e w4 ⟨hN, hb4⟩
  obtain ⟨A4, c4, rfl⟩ : ∃ A4 c4, e = .returned (.tuple #[.slice A4 s.l.length c4, .int .u32 0, .bool true]) := by
    rcases hN with ⟨h, _⟩ | ⟨t, A, c, ht, he, _⟩
    · cases h
    · obtain rfl : t = s := (Option.some.inj ht).symm
      rw [HSN.out] at he
      exact ⟨A, c, he⟩
  have hC4 := hC3.next hb4
  have hlo4 := below_then hlo3 (Nat.le_refl _) hb4
  clear hN hb4 hC3 hlo3
  go_wp2_with fail
  refine (open_any w4 w.heap.size g b 7 0 v3 [s] noLf 0 hC4 (by omega) (by omega)).mono ?_
  rintro e w5 ⟨rfl, hC5, hF5⟩
  have hgb : w.heap.size ≤ b ∧ b < g := ⟨hC5.l1, hC5.l2⟩
  have hlo5 : Below w.heap.size w w5 := hlo4.trans ⟨hF5.os, hF5.tape, hF5.output, hF5.size, fun k hk => hF5.block k (by have := hlo4.size; omega) (by omega) (by omega)⟩
  clear hC4 hlo4 hF5
  go_wp2_with fail
  refine (write_2 w5).mono ?_
  rintro e w6 ⟨A6, c6, rfl, ho6, hb6⟩
  have hC6 := hC5.next hb6
  have hlo6 := below_then hlo5 (Nat.le_refl _) hb6
  clear hC5 hlo5 hb6
  have hfd := aw_feed s HSL.out HSN.out
  have hfl : (awP.flatMap wrB).length = 52 := by kernel_rfl
  have hfeed := feed_any 0 [1, 2, 0, 0, 0, 0, 0, 8] 8 rfl A6 c6 _ (by omega) w6 w.heap.size g b 7 0 v3 [s] _ _ hC6 (by simp) (fun t ht => by rw [List.mem_singleton] at ht; subst ht; rw [HL1.out]; omega) ⟨none, 0, []⟩ rfl (by simp) (Nat.le_refl _) (Reads.of_own ho6) (by rw [hfd, hfl]; omega)
  rw [hfd] at hfeed
  simp only at hfeed
  have HFL := Lib.hid hfl
  clear hfd hfl
  obtain ⟨out, ho⟩ : ∃ out, out = awP.flatMap wrB := ⟨_, rfl⟩
  rw [← ho] at hfeed
  have HO := Lib.hid ho
  clear ho
  go_wp2_with fail
  refine hfeed.mono ?_
  clear hfeed
  rintro e w7 ⟨A7, c7, x7, rfl, ho7, _, hC7, hg7⟩
  have hlo7 : Below w.heap.size w w7 := hlo6.trans ⟨hg7.os, hg7.tape, hg7.output, hg7.size, fun k hk => hg7.block k (by have := hlo6.size; omega) (by simp; omega)⟩
  have hol := own_capV ho7
  have hout : out.length = 52 := by rw [HO.out]; exact HFL.out
  have HL := Lib.hid hout
  clear ho6 hC6 hlo6 hg7 hC7 hout
  go_wp2_with fail
  refine (all_any out A7 c7 _ hol (by rw [HL.out]; omega) w7 (Nat.le_refl _) (Reads.of_own ho7)).mono ?_
  rintro e w8 ⟨vp, A8, n8, c8, rfl, _, _, _, hop, hb8⟩
  have hal : allOf out = (awP, [], 0, 0) := by rw [HO.out]; exact all_flat awP awP_ok
  rw [hal] at hop ⊢
  simp only at hop ⊢
  have hlo8 := below_then hlo7 (Nat.le_refl _) hb8
  replace hop := own_base_mono hop hlo7.size
  clear hlo7 hol ho7 hb8 hal
  obtain ⟨ps, hps⟩ : ∃ ps, ps = awP := ⟨_, rfl⟩
  have hpl : ps.length = 3 := by rw [hps]; rfl
  have hp1 : ps[1].v = x := by subst hps; exact HX.out.symm
  rw [← hps, hpl] at hop
  obtain ⟨g8, c9, rfl⟩ : ∃ g8 c9, vp = .slice (some ⟨g8, 0, none⟩) 3 c9 := by
    rcases hop.2 with ⟨_, hz⟩ | ⟨g', cap, _, rfl, _⟩
    · omega
    · exact ⟨g', cap, rfl⟩
  have hA : AwS w g8 c9 ps w8 := ⟨hlo8, hop⟩
  have hrg : ∀ W, AwS w g8 c9 ps W → W.rangeAt g8 30 x.cells := fun W hW => by
    have := pd_range hW.row 1 (by omega) hpl
    rw [hp1] at this
    exact this
  clear hlo8 hop hps hp1 hpl
  go_upto_region 10 with fail
  have hqq : ∀ W : World, (Go.binOp .eql 67 (.agg x.cells.toArray) (.agg x.cells.toArray)).run Tryz.prog W = .ok (.bool true) W := fun W => by rw [eq_vrp]; simp
  refine reg_sch2 27 [(true, 0), (true, 1), (true, 2), (true, 3), (true, 4), (true, 5), (true, 6), (true, 7), (true, 8), (true, 9), (true, 10), (true, 11), (true, 12), (true, 13), (true, 14), (true, 15), (true, 16), (true, 17), (true, 18), (true, 19), (true, 20), (true, 21), (true, 22), (false, 23), (true, 24), (true, 25), (true, 26)] (by kernel_rfl) (by kernel_rfl) (AwS w g8 c9 ps) (AwS w g8 c9 ps) ?_ ?_ ?_
  · exact hA.next (Below.refl _ _).drew
  · exact fun _ h => h
  intro W hSW
  simp only [List.map_cons, List.map_nil, List.getD_cons_zero, List.getD_cons_succ, List.drop_succ_cons, List.drop_zero]
  refine hd_pure (v := ?_) (by rfl) (fun W' hS' => ?_) ?_ -- 0
  rotate_left
  · clear hS'; (go_simp; first | with_reducible rfl | rfl)
  try simp only [Act.put, List.setIfInBounds_toArray, List.set_cons_zero, List.set_cons_succ]
  refine hd_pure (v := ?_) (by rfl) (fun W' hS' => ?_) ?_ -- 1
  rotate_left
  · clear hS'; (go_simp; first | with_reducible rfl | rfl)
  try simp only [Act.put, List.setIfInBounds_toArray, List.set_cons_zero, List.set_cons_succ]
  refine hd_pure (v := ?_) (by rfl) (fun W' hS' => ?_) ?_ -- 2
  rotate_left
  · clear hS'; (go_simp; first | with_reducible rfl | rfl)
  try simp only [Act.put, List.setIfInBounds_toArray, List.set_cons_zero, List.set_cons_succ]
  refine hd_pure (v := ?_) (by rfl) (fun W' hS' => ?_) ?_ -- 3
  rotate_left
  · clear hS'; (go_simp; first | with_reducible rfl | rfl)
  try simp only [Act.put, List.setIfInBounds_toArray, List.set_cons_zero, List.set_cons_succ]
  refine hd_pure (v := ?_) (by rfl) (fun W' hS' => ?_) ?_ -- 4
  rotate_left
  · clear hS'; (go_simp; first | with_reducible rfl | rfl)
  try simp only [Act.put, List.setIfInBounds_toArray, List.set_cons_zero, List.set_cons_succ]
  refine hd_pure (v := ?_) (by rfl) (fun W' hS' => ?_) ?_ -- 5
  rotate_left
  · clear hS'; (go_simp; first | with_reducible rfl | rfl)
  try simp only [Act.put, List.setIfInBounds_toArray, List.set_cons_zero, List.set_cons_succ]
  refine hd_pure (v := ?_) (by rfl) (fun W' hS' => ?_) ?_ -- 6
  rotate_left
  · clear hS'; (go_simp; first | with_reducible rfl | rfl)
  try simp only [Act.put, List.setIfInBounds_toArray, List.set_cons_zero, List.set_cons_succ]
  refine hd_pure (v := ?_) (by rfl) (fun W' hS' => ?_) ?_ -- 7
  rotate_left
  · clear hS'; (go_simp; first | with_reducible rfl | rfl)
  try simp only [Act.put, List.setIfInBounds_toArray, List.set_cons_zero, List.set_cons_succ]
  refine hd_pure (v := ?_) (by rfl) (fun W' hS' => ?_) ?_ -- 8
  rotate_left
  · clear hS'; (go_simp; first | with_reducible rfl | rfl)
  try simp only [Act.put, List.setIfInBounds_toArray, List.set_cons_zero, List.set_cons_succ]
  refine hd_pure (v := ?_) (by rfl) (fun W' hS' => ?_) ?_ -- 9
  rotate_left
  · clear hS'; (go_simp; first | with_reducible rfl | rfl)
  try simp only [Act.put, List.setIfInBounds_toArray, List.set_cons_zero, List.set_cons_succ]
  refine hd_pure (v := ?_) (by rfl) (fun W' hS' => ?_) ?_ -- 10
  rotate_left
  · clear hS'; (go_simp; first | with_reducible rfl | rfl)
  try simp only [Act.put, List.setIfInBounds_toArray, List.set_cons_zero, List.set_cons_succ]
  refine hd_pure (v := ?_) (by rfl) (fun W' hS' => ?_) ?_ -- 11
  rotate_left
  · clear hS'; (go_simp; first | with_reducible rfl | rfl)
  try simp only [Act.put, List.setIfInBounds_toArray, List.set_cons_zero, List.set_cons_succ]
  refine hd_pure (v := ?_) (by rfl) (fun W' hS' => ?_) ?_ -- 12
  rotate_left
  · clear hS'; (go_simp; first | with_reducible rfl | rfl)
  try simp only [Act.put, List.setIfInBounds_toArray, List.set_cons_zero, List.set_cons_succ]
  refine hd_pure (v := ?_) (by rfl) (fun W' hS' => ?_) ?_ -- 13
  rotate_left
  · clear hS'; (go_simp; first | with_reducible rfl | rfl)
  try simp only [Act.put, List.setIfInBounds_toArray, List.set_cons_zero, List.set_cons_succ]
  refine hd_pure (v := ?_) (by rfl) (fun W' hS' => ?_) ?_ -- 14
  rotate_left
  · clear hS'; (go_simp; first | with_reducible rfl | rfl)
  try simp only [Act.put, List.setIfInBounds_toArray, List.set_cons_zero, List.set_cons_succ]
  refine hd_pure (v := ?_) (by rfl) (fun W' hS' => ?_) ?_ -- 15
  rotate_left
  · clear hS'; (go_simp; first | with_reducible rfl | rfl)
  try simp only [Act.put, List.setIfInBounds_toArray, List.set_cons_zero, List.set_cons_succ]
  refine hd_pure (v := ?_) (by rfl) (fun W' hS' => ?_) ?_ -- 16
  rotate_left
  · clear hS'; (go_simp; first | with_reducible rfl | rfl)
  try simp only [Act.put, List.setIfInBounds_toArray, List.set_cons_zero, List.set_cons_succ]
  refine hd_pure (v := ?_) (by rfl) (fun W' hS' => ?_) ?_ -- 17
  rotate_left
  · clear hS'; (go_simp; first | with_reducible rfl | rfl)
  try simp only [Act.put, List.setIfInBounds_toArray, List.set_cons_zero, List.set_cons_succ]
  refine hd_pure (v := ?_) (by rfl) (fun W' hS' => ?_) ?_ -- 18
  rotate_left
  · clear hS'; (go_simp; first | with_reducible rfl | rfl)
  try simp only [Act.put, List.setIfInBounds_toArray, List.set_cons_zero, List.set_cons_succ]
  refine hd_pure (v := ?_) (by rfl) (fun W' hS' => ?_) ?_ -- 19
  rotate_left
  · clear hS'; (go_simp; first | with_reducible rfl | rfl)
  try simp only [Act.put, List.setIfInBounds_toArray, List.set_cons_zero, List.set_cons_succ]
  refine hd_pure (v := ?_) (by rfl) (fun W' hS' => ?_) ?_ -- 20
  rotate_left
  · clear hS'; (go_simp; first | with_reducible rfl | rfl)
  try simp only [Act.put, List.setIfInBounds_toArray, List.set_cons_zero, List.set_cons_succ]
  refine hd_pure (v := ?_) (by rfl) (fun W' hS' => ?_) ?_ -- 21
  rotate_left
  · clear hS'; (go_simp; first | with_reducible rfl | rfl)
  try simp only [Act.put, List.setIfInBounds_toArray, List.set_cons_zero, List.set_cons_succ]
  refine hd_pure (v := .agg x.cells.toArray) (by rfl) (fun W' hS' => exec_load_at 67 _ (by rfl) g8 30 20 (by rfl) _ _ (hrg _ hS') (Vrp.cells_length _) Tryz.underlying67 rfl info_vrp1) ?_ -- 22
  try simp only [Act.put, List.setIfInBounds_toArray, List.set_cons_zero, List.set_cons_succ]
  refine hd_sole (by rfl) (fun K hK => ?_) -- 23
  go_simp
  refine (hten _).mono ?_; rintro e w' ⟨rfl, hb⟩
  refine hK _ _ (hSW.next hb) ?_
  clear hK K hSW
  intro hSW
  clear hb
  try simp only [Act.put, List.setIfInBounds_toArray, List.set_cons_zero, List.set_cons_succ]
  refine hd_pure (v := ?_) (by rfl) (fun W' hS' => ?_) ?_ -- 24
  rotate_left
  · clear hS'; (go_simp; first | with_reducible rfl | rfl)
  try simp only [Act.put, List.setIfInBounds_toArray, List.set_cons_zero, List.set_cons_succ]
  refine hd_pure (v := ?_) (by rfl) (fun W' hS' => ?_) ?_ -- 25
  rotate_left
  · clear hS'; (go_simp; first | with_reducible rfl | rfl)
  try simp only [Act.put, List.setIfInBounds_toArray, List.set_cons_zero, List.set_cons_succ]
  refine hd_pure (v := ?_) (by rfl) (fun W' hS' => ?_) ?_ -- 26
  rotate_left
  · clear hS'; (go_simp; first | with_reducible rfl | rfl)
  try simp only [Act.put, List.setIfInBounds_toArray, List.set_cons_zero, List.set_cons_succ]
  refine hd_nil ?_
  replace hA := hSW; clear hSW
  refine wpList_nil (NoPanic.normal ?_)
  go_wp2
  go_ret
  exact ⟨rfl, hA.lo⟩
end Go.Proofs.YtmoldmnhijcckaaGreat
