/- Routers beside what was there, one and two of them; lanyardlaw27.awake. -/
import Derived.Test.YtmoldmnhijcckaaGreatMa47
set_option linter.unusedVariables false
set_option linter.unusedSectionVars false
set_option linter.unusedSimpArgs false
namespace Go.Proofs.YtmoldmnhijcckaaGreat
open Go.RowKit
def RoT.tab (r : RoT) (t : TbV) : Prop := r.h = some t ∨ r.nx = some t
structure QS (w : World) (g : Nat) (r : RoT) (W : World) : Prop where
  a : RtA W g r
  f : Below w.heap.size w W
  hg : w.heap.size ≤ g
  ht : ∀ t, r.tab t → w.heap.size ≤ t.m
theorem QS.step {w W W' : World} {g : Nat} {r r' : RoT} (h : QS w g r W) (hA : RtA W' g r') (hF : RFr W W' g r r') : QS w g r' W' :=
  ⟨hA, RFr.lo h.f hF h.hg (fun t ht => h.ht t (.inr ht)) h.f.size, h.hg, fun t ht => by
    rcases hF.tabs t ht with ⟨t0, h0, e⟩ | hle
    · rw [← e]; exact h.ht t0 h0
    · exact Nat.le_trans h.f.size hle⟩
theorem QS.next {w W W' : World} {g : Nat} {r : RoT} (h : QS w g r W) (hb : Below W.heap.size W W') : QS w g r W' := h.step (h.a.next hb) (.below hb)
theorem Reads.off2 {W W' : World} {B n : Nat} {A : Option Addr} {bs : List UInt8} (h : Reads W B 1 A n (bs.map bv)) {g : Nat} {t : TypeId} {cs : List Value} (hB : Blk W g t cs) (hcs : ∀ v ∈ cs, ∀ x : UInt8, v ≠ bv x) {m : Nat} {ks : List Vrp} (hM : MapV W m ks)
    (hk : ∀ k, k < B → k ≠ g → k ≠ m → W'.heap[k]? = W.heap[k]?) : Reads W' B 1 A n (bs.map bv) := by
  refine ⟨h.1, fun hn => ?_⟩
  obtain ⟨ad, e, hb, hc⟩ := h.2 hn
  have hl : 0 < bs.length := by have := h.1; rw [List.length_map] at this; omega
  have h0 := hc 0 (bv bs[0]) (by simp [hl])
  have hne : ad.block ≠ g := fun e2 => by
    have h2 : ∀ u, W.cell? (ad.add 0) = some u → u ∈ cs := fun u hu => by
      unfold World.cell? at hu
      have e3 : (ad.add 0).block = g := e2
      rw [e3] at hu
      unfold Blk at hB
      rw [hB] at hu
      simp at hu
      first | exact List.mem_of_getElem? hu | exact List.mem_of_getElem? hu.2
    exact hcs _ (h2 _ h0) _ rfl
  have hnm : ad.block ≠ m := fun e2 => by
    obtain ⟨l, nn, hh, _⟩ := hM
    have h2 : W.cell? (ad.add 0) = none := by
      unfold World.cell?
      have e3 : (ad.add 0).block = m := e2
      rw [e3, hh]
    rw [h0] at h2
    cases h2
  exact ⟨ad, e, hb, fun j u hu => (World.cell?_of_block (a := ad.add j) (hk (ad.add j).block (by rw [blkAdd]; exact hb) (by rw [blkAdd]; exact hne) (by rw [blkAdd]; exact hnm))).trans (hc j u hu)⟩
/-- A router is kept while another one goes on. -/
theorem RtA.other {W W' : World} {gx gy : Nat} {rx rx' ry : RoT} (h : RtA W gy ry) (hx : RtA W gx rx) (hF : RFr W W' gx rx rx') (hne : gy ≠ gx) (hm : ∀ t t', rx.tab t → ry.tab t' → t.m ≠ t'.m) : RtA W' gy ry := by
  have hk : ∀ k, k < W.heap.size → k ≠ gx → (∀ t, rx.nx = some t → k ≠ t.m) → W'.heap[k]? = W.heap[k]? := hF.keep
  have hT : ∀ t', ry.tab t' → TbAt W t' → TbAt W' t' := fun t' hy ht =>
    ht.kept (hk _ ht.b.lt (blk_typ_ne ht.b hx.blk (by decide)) (fun t h1 e => blk_map_ne ht.b (hx.nxt t h1).m e.symm)) (hk _ ht.m.lt (blk_map_ne hx.blk ht.m) (fun t h1 e => hm t t' (.inr h1) hy e.symm))
  refine ⟨⟨(hk gy h.blk.lt hne (fun t h1 e => blk_map_ne h.blk (hx.nxt t h1).m e.symm)).trans h.blk, fun t ht => hT t (.inl ht) (h.has t ht), fun t ht => hT t (.inr ht) (h.nxt t ht), ?_, h.left.2⟩, h.ne⟩
  cases hn : rx.nx with
  | none => exact (h.left.1.offBlk hx.blk rx.cells_bv fun k h1 h2 => hk k h1 h2 (fun t h3 => by rw [hn] at h3; cases h3)).more hF.size
  | some t => exact (h.left.1.off2 hx.blk rx.cells_bv (hx.nxt t hn).m fun k h1 h2 h3 => hk k h1 h2 (fun t' h4 => by rw [hn] at h4; cases h4; exact h3)).more hF.size
theorem reads_blk {W : World} {g size n : Nat} {t : TypeId} {cs : List Value} (hB : Blk W g t cs) (hl : cs.length = n * size) : Reads W (g + 1) size (some ⟨g, 0, none⟩) n cs := by
  refine ⟨hl, fun _ => ⟨_, rfl, by simp, fun j u hu => ?_⟩⟩
  rw [add_plain', Nat.zero_add, hB.cell]
  exact hu
def awPs (x : Vrp) : List Pdu := [pdS 3 7 0 0, pdOf x true, pdS 7 7 5 0]
theorem awPs_ok : ∀ p ∈ awPs tenV, pduOk p = true := by
  intro p hp
  simp only [awPs, List.mem_cons, List.not_mem_nil, or_false] at hp
  rcases hp with rfl | rfl | rfl
  · exact okBegin
  · exact ok_pdOf ten_ok true
  · exact okEnd 5
theorem wrAll_ok {ps : List Pdu} (h : ∀ p ∈ ps, pduOk p = true) : wrAll ps = ps.flatMap wrB := by
  unfold wrAll
  induction ps with
  | nil => rfl
  | cons p ps ih => rw [List.flatMap_cons, List.flatMap_cons, ih (fun x hx => h x (by simp [hx])), wrD_ok (h p (by simp))]
theorem awR_ask : askQ RoT.zero.q = (⟨⟨none, 0, none, true, 2⟩, [], false⟩, wrB (pdS 2 0 0 0)) := by
  unfold askQ
  rw [if_neg (by decide)]
  show (_, wrD (pdS 2 0 0 0)) = _
  rw [wrD_ok (show pduOk (pdS 2 0 0 0) = true from by kernel_rfl)]
  rfl
theorem awR_take : takeQ ⟨⟨none, 0, none, true, 2⟩, [], false⟩ (wrAll (awPs tenV)) = (⟨⟨some (7, [tenV]), 5, none, false, 2⟩, [], false⟩, 0) := by
  have e := wrAll_ok awPs_ok
  have hg : goR ⟨none, 0, none, true, 2⟩ (awPs tenV) = (⟨some (7, [tenV]), 5, none, false, 2⟩, 0) := by kernel_rfl
  rw [e]
  unfold takeQ thruR
  rw [if_neg (by decide), List.nil_append, all_flat _ awPs_ok]
  simp [hg]
theorem awR_ask2 : askQ ⟨⟨some (7, [tenV]), 5, none, false, 2⟩, [], false⟩ = (⟨⟨some (7, [tenV]), 5, none, true, 1⟩, [], false⟩, wrB (pdS 1 7 5 0)) := by
  unfold askQ
  rw [if_neg (by decide)]
  show (_, wrD (pdS 1 7 5 0)) = _
  rw [wrD_ok (okAsk 5)]
theorem awR_len : (wrB (pdS 2 0 0 0)).length = 8 ∧ (wrB (pdS 1 7 5 0)).length = 12 := by constructor <;> kernel_rfl
structure AwRS (w : World) (g A8 c8 : Nat) (x : Vrp) (q : RoQ) (W : World) : Prop where
  f : Below w.heap.size w W
  ro : W.ownsRow w.heap.size 67 20 (.slice (some ⟨A8, 0, none⟩) 1 c8) 1 x.cells
  r : ∃ r, QS w g r W ∧ r.q = q
theorem AwRS.next {w W W' : World} {g A8 c8 : Nat} {x : Vrp} {q : RoQ} (h : AwRS w g A8 c8 x q W) (hb : Below W.heap.size W W') : AwRS w g A8 c8 x q W' := by
  obtain ⟨r, hQ, hq⟩ := h.r
  exact ⟨below_then h.f (Nat.le_refl _) hb, own_below h.ro hb, r, hQ.next hb, hq⟩
theorem AwRS.rg {w W : World} {g A8 c8 : Nat} {x : Vrp} {q : RoQ} (h : AwRS w g A8 c8 x q W) : W.rangeAt A8 0 x.cells := fun j v hv => by
  obtain ⟨ad, e, _, hc⟩ := (Reads.of_own h.ro).2 (by omega)
  cases e
  have := hc j v hv
  rw [add_plain'] at this
  exact this
set_option maxRecDepth 100000 in
set_option maxHeartbeats 4000000 in
theorem awake27_any (w : World) : Calls Tryz.prog 6 #[] w fun e w' => e = .returned (.bool true) ∧ Below w.heap.size w w' := by
  obtain ⟨x, hx⟩ : ∃ x, x = tenV := ⟨_, rfl⟩
  have hten : ∀ W, Calls Tryz.prog 33 #[.int .u32 1] W fun e w' => e = .returned (.agg x.cells.toArray) ∧ Below W.heap.size W w' := fun W => by rw [hx]; exact ten27_any W
  have hpd := pd_build x true 4 (by rw [hx]; rfl)
  have ht1 := awR_take
  have hk2 := awR_ask2
  rw [← hx] at ht1 hk2
  have hxl := Vrp.cells_length x
  have HT1 := Lib.hid ht1
  have HK2 := Lib.hid hk2
  have HX := Lib.hid hx
  clear hx ht1 hk2
  go_enter Tryz.func6, Tryz.ntmps6
  go_wp2_with fail
  refine (rnew_any w).mono ?_
  rintro e w1 ⟨rfl, hA, hb1⟩
  have hQ : QS w w.heap.size RoT.zero w1 := ⟨hA, hb1, Nat.le_refl _, fun t ht => by rcases ht with h | h <;> cases h⟩
  clear hA hb1
  obtain ⟨g, hg⟩ : ∃ g, g = w.heap.size := ⟨_, rfl⟩
  rw [← hg] at hQ ⊢
  clear hg
  go_wp2_with fail
  refine (rask_any w1 g RoT.zero hQ.a).mono ?_
  rintro e w2 ⟨A2, c2, r2, rfl, _, hA, hq, hF⟩
  rw [awR_ask] at hq ⊢
  simp only [awR_len.1] at hq ⊢
  replace hQ := hQ.step hA hF
  have HQ2 := Lib.hid hq
  clear hA hF hq
  go_wp2_with fail
  refine (hten _).mono ?_
  rintro e w3 ⟨rfl, hb3⟩
  replace hQ := hQ.next hb3
  clear hb3
  go_wp2_with (refine wpList_build3 rfl 71 69 _ _ _ rfl (pdS 3 7 0 0).cells (pdOf x true).cells (pdS 7 7 5 0).cells 26 rfl (by first | rfl | exact congrArg Value.agg hpd) rfl (Pdu.cells_length _) (Pdu.cells_length _) (Pdu.cells_length _) Tryz.underlying71 (by kernel_rfl) (by kernel_rfl) (by omega) (by omega) ?_)
  have hBps : Blk (w3.alloc (.cells ((pdS 3 7 0 0).cells ++ ((pdOf x true).cells ++ (pdS 7 7 5 0).cells)).toArray 69)) w3.heap.size 69 ((pdS 3 7 0 0).cells ++ ((pdOf x true).cells ++ (pdS 7 7 5 0).cells)) := Blk.new w3 _ _
  have hfl : (awPs x).flatMap Pdu.cells = (pdS 3 7 0 0).cells ++ ((pdOf x true).cells ++ (pdS 7 7 5 0).cells) := by simp [awPs]
  have hrd : Reads (w3.alloc (.cells ((pdS 3 7 0 0).cells ++ ((pdOf x true).cells ++ (pdS 7 7 5 0).cells)).toArray 69)) (w3.heap.size + 1) 26 (some ⟨w3.heap.size, 0, none⟩) 3 ((awPs x).flatMap Pdu.cells) := by
    rw [hfl]
    exact reads_blk hBps (by simp only [List.length_append, Pdu.cells_length])
  replace hQ := hQ.next ((Below.refl w3.heap.size w3).alloc (Nat.le_refl _) (.cells ((pdS 3 7 0 0).cells ++ ((pdOf x true).cells ++ (pdS 7 7 5 0).cells)).toArray 69))
  refine (bytes27_any (awPs x) 3 rfl (by omega) _ 3 _ _ (by simp) hrd).mono ?_
  rintro e w4 ⟨A4, c4, rfl, ho4, hb4⟩
  replace hQ := hQ.next hb4
  have hwl : (wrAll (awPs x)).length ≤ 696 := wrAll_len (awPs x)
  have hok2 : r2.abs.ok := by have h := congrArg RoQ.s HQ2.out; change r2.abs = _ at h; rw [h]; exact fun _ h2 => by cases h2
  have hlf2 : r2.lf.bs.length ≤ 1000000 := by have h := congrArg RoQ.l HQ2.out; change r2.lf.bs = [] at h; rw [h]; simp
  clear hBps hfl hrd hb4
  go_wp2_with fail
  refine (rTake_any (wrAll (awPs x)) _ rfl A4 c4 _ (by omega) w4 g r2 hQ.a hok2 hlf2 (Nat.le_refl _) (Reads.of_own ho4)).mono ?_
  rintro e w5 ⟨r5, rfl, hA, hq, hF⟩
  rw [HQ2.out, HT1.out] at hq ⊢
  simp only at hq ⊢
  replace hQ := hQ.step hA hF
  have HQ5 := Lib.hid hq
  clear hA hF hq ho4 hok2 hlf2 hwl
  have hh5 : r5.abs.h = some (7, [x]) ∧ r5.abs.sn = 5 := by have h := congrArg RoQ.s HQ5.out; change r5.abs = _ at h; rw [h]; exact ⟨rfl, rfl⟩
  have hk5 : ∀ t, r5.h = some t → t.ks.length ≤ 1000000 := fun t ht => by
    have h := hh5.1
    unfold RoT.abs at h
    rw [ht] at h
    have h2 : TbV.abs t = (7, [x]) := Option.some.inj h
    have h3 : t.ks = [x] := congrArg Prod.snd h2
    rw [h3]
    simp
  have hro := row_one (x := x) (by rw [HX.out]; exact ten_ok)
  have HH5 := Lib.hid hh5
  have HRO := Lib.hid hro
  clear hh5 hro
  go_wp2_with fail
  refine (rhas_any w5 g r5 hQ.a hk5).mono ?_
  rintro e w6 hP
  rw [HH5.out.1, HH5.out.2] at hP
  obtain ⟨A6, c6, rfl, ho6, hb6⟩ := hP
  simp only [HRO.out, List.length_singleton, List.flatMap_cons, List.flatMap_nil, List.append_nil] at ho6 ⊢
  have hlo := hQ.f.size
  replace hQ := hQ.next hb6
  obtain ⟨g8, rfl⟩ : ∃ g8, A6 = some ⟨g8, 0, none⟩ := by
    rcases ho6.2 with ⟨_, hz⟩ | ⟨g', cap, _, e, _⟩
    · omega
    · injection e with e _ _
      exact ⟨g', e⟩
  have hS0 : AwRS w g g8 c6 x ⟨⟨some (7, [x]), 5, none, false, 2⟩, [], false⟩ w6 := ⟨hQ.f, own_base_mono ho6 hlo, r5, hQ, HQ5.out⟩
  clear hQ ho6 hb6 hlo hk5
  have hqq : ∀ W : World, (Go.binOp .eql 67 (.agg x.cells.toArray) (.agg x.cells.toArray)).run Tryz.prog W = .ok (.bool true) W := fun W => by rw [eq_vrp]; simp
  go_upto_region 7 with fail
  refine reg_sch2 33 [(true, 0), (true, 1), (true, 2), (true, 3), (true, 4), (true, 5), (true, 6), (true, 7), (true, 8), (true, 9), (true, 10), (true, 11), (true, 12), (true, 13), (true, 14), (true, 15), (false, 16), (true, 17), (true, 18), (true, 19), (true, 20), (true, 21), (true, 22), (true, 23), (true, 24), (true, 25), (true, 26), (true, 27), (false, 28), (true, 29), (true, 30), (true, 31), (true, 32)] (by kernel_rfl) (by kernel_rfl) (fun W => ∃ q, AwRS w g g8 c6 x q W) (AwRS w g g8 c6 x ⟨⟨some (7, [x]), 5, none, false, 2⟩, [], false⟩) ?_ ?_ ?_
  · exact hS0.next (Below.refl _ _).drew
  · exact fun W h => ⟨_, h⟩
  intro W hSW
  simp only [List.map_cons, List.map_nil, List.getD_cons_zero, List.getD_cons_succ, List.drop_succ_cons, List.drop_zero]
  refine hd_pure (v := ?_) (by rfl) (fun W' hS' => ?_) ?_ -- 0
  rotate_left
  · clear hS'; (go_simp; first | with_reducible rfl | rfl)
  try simp only [Act.put, List.setIfInBounds_toArray, List.set_cons_zero, List.set_cons_succ]
  refine hd_pure (v := ?_) (by rfl) (fun W' hS' => ?_) ?_ -- 1
  rotate_left
  · clear hS'; (go_simp; first | with_reducible rfl | rfl)
  try simp only [Act.put, List.setIfInBounds_toArray, List.set_cons_zero, List.set_cons_succ]
  refine hd_pure (v := ?_) (by rfl) (fun W' hS' => ?_) ?_ -- 2
  rotate_left
  · clear hS'; (go_simp; first | with_reducible rfl | rfl)
  try simp only [Act.put, List.setIfInBounds_toArray, List.set_cons_zero, List.set_cons_succ]
  refine hd_pure (v := ?_) (by rfl) (fun W' hS' => ?_) ?_ -- 3
  rotate_left
  · clear hS'; (go_simp; first | with_reducible rfl | rfl)
  try simp only [Act.put, List.setIfInBounds_toArray, List.set_cons_zero, List.set_cons_succ]
  refine hd_pure (v := ?_) (by rfl) (fun W' hS' => ?_) ?_ -- 4
  rotate_left
  · clear hS'; (go_simp; first | with_reducible rfl | rfl)
  try simp only [Act.put, List.setIfInBounds_toArray, List.set_cons_zero, List.set_cons_succ]
  refine hd_pure (v := ?_) (by rfl) (fun W' hS' => ?_) ?_ -- 5
  rotate_left
  · clear hS'; (go_simp; first | with_reducible rfl | rfl)
  try simp only [Act.put, List.setIfInBounds_toArray, List.set_cons_zero, List.set_cons_succ]
  refine hd_pure (v := ?_) (by rfl) (fun W' hS' => ?_) ?_ -- 6
  rotate_left
  · clear hS'; (go_simp; first | with_reducible rfl | rfl)
  try simp only [Act.put, List.setIfInBounds_toArray, List.set_cons_zero, List.set_cons_succ]
  refine hd_pure (v := ?_) (by rfl) (fun W' hS' => ?_) ?_ -- 7
  rotate_left
  · clear hS'; (go_simp; first | with_reducible rfl | rfl)
  try simp only [Act.put, List.setIfInBounds_toArray, List.set_cons_zero, List.set_cons_succ]
  refine hd_pure (v := ?_) (by rfl) (fun W' hS' => ?_) ?_ -- 8
  rotate_left
  · clear hS'; (go_simp; first | with_reducible rfl | rfl)
  try simp only [Act.put, List.setIfInBounds_toArray, List.set_cons_zero, List.set_cons_succ]
  refine hd_pure (v := ?_) (by rfl) (fun W' hS' => ?_) ?_ -- 9
  rotate_left
  · clear hS'; (go_simp; first | with_reducible rfl | rfl)
  try simp only [Act.put, List.setIfInBounds_toArray, List.set_cons_zero, List.set_cons_succ]
  refine hd_pure (v := ?_) (by rfl) (fun W' hS' => ?_) ?_ -- 10
  rotate_left
  · clear hS'; (go_simp; first | with_reducible rfl | rfl)
  try simp only [Act.put, List.setIfInBounds_toArray, List.set_cons_zero, List.set_cons_succ]
  refine hd_pure (v := ?_) (by rfl) (fun W' hS' => ?_) ?_ -- 11
  rotate_left
  · clear hS'; (go_simp; first | with_reducible rfl | rfl)
  try simp only [Act.put, List.setIfInBounds_toArray, List.set_cons_zero, List.set_cons_succ]
  refine hd_pure (v := ?_) (by rfl) (fun W' hS' => ?_) ?_ -- 12
  rotate_left
  · clear hS'; (go_simp; first | with_reducible rfl | rfl)
  try simp only [Act.put, List.setIfInBounds_toArray, List.set_cons_zero, List.set_cons_succ]
  refine hd_pure (v := ?_) (by rfl) (fun W' hS' => ?_) ?_ -- 13
  rotate_left
  · clear hS'; (go_simp; first | with_reducible rfl | rfl)
  try simp only [Act.put, List.setIfInBounds_toArray, List.set_cons_zero, List.set_cons_succ]
  refine hd_pure (v := ?_) (by rfl) (fun W' hS' => ?_) ?_ -- 14
  rotate_left
  · clear hS'; (go_simp; first | with_reducible rfl | rfl)
  try simp only [Act.put, List.setIfInBounds_toArray, List.set_cons_zero, List.set_cons_succ]
  refine hd_pure (v := .agg x.cells.toArray) (by rfl) (fun W' hS' => exec_load_at 67 _ (by rfl) g8 0 20 (by rfl) _ _ (by obtain ⟨q, h⟩ := hS'; exact h.rg) (Vrp.cells_length _) Tryz.underlying67 rfl info_vrp1) ?_ -- 15
  try simp only [Act.put, List.setIfInBounds_toArray, List.set_cons_zero, List.set_cons_succ]
  refine hd_sole (by rfl) (fun K hK => ?_) -- 16
  go_simp
  refine (hten _).mono ?_; rintro e w7 ⟨rfl, hb⟩
  have hS16 := hSW.next hb
  refine hK _ _ (⟨_, hS16⟩) ?_
  clear hK K hSW
  intro hSW
  try simp only [Act.put, List.setIfInBounds_toArray, List.set_cons_zero, List.set_cons_succ]
  refine hd_pure (v := ?_) (by rfl) (fun W' hS' => ?_) ?_ -- 17
  rotate_left
  · clear hS'; (go_simp; first | with_reducible rfl | rfl)
  try simp only [Act.put, List.setIfInBounds_toArray, List.set_cons_zero, List.set_cons_succ]
  refine hd_pure (v := ?_) (by rfl) (fun W' hS' => ?_) ?_ -- 18
  rotate_left
  · clear hS'; (go_simp; first | with_reducible rfl | rfl)
  try simp only [Act.put, List.setIfInBounds_toArray, List.set_cons_zero, List.set_cons_succ]
  refine hd_pure (v := ?_) (by rfl) (fun W' hS' => ?_) ?_ -- 19
  rotate_left
  · clear hS'; (go_simp; first | with_reducible rfl | rfl)
  try simp only [Act.put, List.setIfInBounds_toArray, List.set_cons_zero, List.set_cons_succ]
  refine hd_pure (v := ?_) (by rfl) (fun W' hS' => ?_) ?_ -- 20
  rotate_left
  · clear hS'; (go_simp; first | with_reducible rfl | rfl)
  try simp only [Act.put, List.setIfInBounds_toArray, List.set_cons_zero, List.set_cons_succ]
  refine hd_pure (v := ?_) (by rfl) (fun W' hS' => ?_) ?_ -- 21
  rotate_left
  · clear hS'; (go_simp; first | with_reducible rfl | rfl)
  try simp only [Act.put, List.setIfInBounds_toArray, List.set_cons_zero, List.set_cons_succ]
  refine hd_pure (v := ?_) (by rfl) (fun W' hS' => ?_) ?_ -- 22
  rotate_left
  · clear hS'; (go_simp; first | with_reducible rfl | rfl)
  try simp only [Act.put, List.setIfInBounds_toArray, List.set_cons_zero, List.set_cons_succ]
  refine hd_pure (v := ?_) (by rfl) (fun W' hS' => ?_) ?_ -- 23
  rotate_left
  · clear hS'; (go_simp; first | with_reducible rfl | rfl)
  try simp only [Act.put, List.setIfInBounds_toArray, List.set_cons_zero, List.set_cons_succ]
  refine hd_pure (v := ?_) (by rfl) (fun W' hS' => ?_) ?_ -- 24
  rotate_left
  · clear hS'; (go_simp; first | with_reducible rfl | rfl)
  try simp only [Act.put, List.setIfInBounds_toArray, List.set_cons_zero, List.set_cons_succ]
  refine hd_pure (v := ?_) (by rfl) (fun W' hS' => ?_) ?_ -- 25
  rotate_left
  · clear hS'; (go_simp; first | with_reducible rfl | rfl)
  try simp only [Act.put, List.setIfInBounds_toArray, List.set_cons_zero, List.set_cons_succ]
  refine hd_pure (v := ?_) (by rfl) (fun W' hS' => ?_) ?_ -- 26
  rotate_left
  · clear hS'; (go_simp; first | with_reducible rfl | rfl)
  try simp only [Act.put, List.setIfInBounds_toArray, List.set_cons_zero, List.set_cons_succ]
  refine hd_pure (v := ?_) (by rfl) (fun W' hS' => ?_) ?_ -- 27
  rotate_left
  · clear hS'; (go_simp; first | with_reducible rfl | rfl)
  try simp only [Act.put, List.setIfInBounds_toArray, List.set_cons_zero, List.set_cons_succ]
  refine hd_sole (by rfl) (fun K hK => ?_) -- 28
  go_simp
  obtain ⟨r6, hQ6, hq6⟩ := hS16.r
  refine (rask_any w7 g r6 hQ6.a).mono ?_
  rintro e w9 ⟨A9, c99, r9, rfl, _, hA9, hq9, hF9⟩
  rw [hq6, HK2.out]
  simp only [awR_len.2]
  have hQ9 := hQ6.step hA9 hF9
  have hro9 := hF9.row hQ6.a hS16.ro (by decide)
  refine hK _ _ (⟨_, hQ9.f, hro9, r9, hQ9, rfl⟩) ?_
  clear hK K hSW
  intro hSW
  try simp only [Act.put, List.setIfInBounds_toArray, List.set_cons_zero, List.set_cons_succ]
  refine hd_pure (v := ?_) (by rfl) (fun W' hS' => ?_) ?_ -- 29
  rotate_left
  · clear hS'; (go_simp; first | with_reducible rfl | rfl)
  try simp only [Act.put, List.setIfInBounds_toArray, List.set_cons_zero, List.set_cons_succ]
  refine hd_pure (v := ?_) (by rfl) (fun W' hS' => ?_) ?_ -- 30
  rotate_left
  · clear hS'; (go_simp; first | with_reducible rfl | rfl)
  try simp only [Act.put, List.setIfInBounds_toArray, List.set_cons_zero, List.set_cons_succ]
  refine hd_pure (v := ?_) (by rfl) (fun W' hS' => ?_) ?_ -- 31
  rotate_left
  · clear hS'; (go_simp; first | with_reducible rfl | rfl)
  try simp only [Act.put, List.setIfInBounds_toArray, List.set_cons_zero, List.set_cons_succ]
  refine hd_pure (v := ?_) (by rfl) (fun W' hS' => ?_) ?_ -- 32
  rotate_left
  · clear hS'; (go_simp; first | with_reducible rfl | rfl)
  try simp only [Act.put, List.setIfInBounds_toArray, List.set_cons_zero, List.set_cons_succ]
  refine hd_nil ?_
  clear hSW
  refine wpList_nil (NoPanic.normal ?_)
  have hfin := hQ9.f
  go_wp2_with fail
  go_ret
  exact ⟨rfl, hfin⟩
end Go.Proofs.YtmoldmnhijcckaaGreat
