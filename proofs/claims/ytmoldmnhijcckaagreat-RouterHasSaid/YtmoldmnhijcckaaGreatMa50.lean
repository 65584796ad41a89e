/- The walk of lanyardlaw26.SessionAlone: it returns true. -/
import Derived.Test.YtmoldmnhijcckaaGreatMa38
import Derived.Test.YtmoldmnhijcckaaGreatMa48
import Derived.Test.YtmoldmnhijcckaaGreatMa49
import Derived.Test.YtmoldmnhijcckaaGreatMa41
set_option linter.unusedVariables false
set_option linter.unusedSectionVars false
set_option linter.unusedSimpArgs false
namespace Go.Proofs.YtmoldmnhijcckaaGreat
open Go.RowKit
def nowG (l : List (List Vrp × UInt32)) : Int × Bool := match l.getLast? with
  | none => (0, false)
  | some s => (s.2.toNat, true)
theorem now_g {w w' : World} {ss : List SetV} {e : Ending} (h : NowPost w ss e w') : ∃ v, e = .returned (.tuple #[v, .int .u32 (nowG (absS ss)).1, .bool (nowG (absS ss)).2]) := by
  rcases h with ⟨rfl, rfl⟩ | ⟨s, A, c, hs, rfl, _⟩
  · exact ⟨_, rfl⟩
  · refine ⟨.slice A s.l.length c, ?_⟩
    have : (absS ss).getLast? = some (s.l, s.sn) := by unfold absS; rw [List.getLast?_map, hs]; rfl
    unfold nowG
    rw [this]
/-- Two caches, apart. -/
structure CC (w : World) (lc gc bc ld gd bd : Nat) (sn : UInt32) (vc vd : Value) (sc sd : List SetV) (fc fd : Int → Option Lf) (mc md : Int) (W : World) : Prop where
  c : CA W lc gc bc 7 sn vc sc fc mc
  d : CA W ld gd bd 7 sn vd sd fd md
  lo : Below w.heap.size w W
  hg : gc ≠ gd
  hb : bc ≠ bd
  l1 : w.heap.size ≤ lc
  l2 : w.heap.size ≤ ld
section
variable {w W W' : World} {lc gc bc ld gd bd : Nat} {sn : UInt32} {vc vd : Value} {sc sd : List SetV} {fc fd f' : Int → Option Lf} {mc md m' : Int}
theorem fr2_lo {w W W' : World} {lo g b : Nat} (h : Below w.heap.size w W) (h1 : w.heap.size ≤ lo) (h2 : lo ≤ b) (h3 : b < g) (hF : Fr2 W W' g b) : Below w.heap.size w W' :=
  h.trans ⟨hF.os, hF.tape, hF.output, hF.size, fun k hk => hF.block k (by have := h.size; omega) (by omega) (by omega)⟩
theorem CC.stepC (h : CC w lc gc bc ld gd bd sn vc vd sc sd fc fd mc md W) (hC : CA W' lc gc bc 7 sn vc sc f' m') (hF : Fr2 W W' gc bc) : CC w lc gc bc ld gd bd sn vc vd sc sd f' fd m' md W' :=
  ⟨hC, h.d.other h.c (fun e => h.hg e.symm) (fun e => h.hb e.symm) hF, fr2_lo h.lo h.l1 h.c.l1 h.c.l2 hF, h.hg, h.hb, h.l1, h.l2⟩
theorem CC.stepD (h : CC w lc gc bc ld gd bd sn vc vd sc sd fc fd mc md W) (hD : CA W' ld gd bd 7 sn vd sd f' m') (hF : Fr2 W W' gd bd) : CC w lc gc bc ld gd bd sn vc vd sc sd fc f' mc m' W' :=
  ⟨h.c.other h.d h.hg h.hb hF, hD, fr2_lo h.lo h.l2 h.d.l1 h.d.l2 hF, h.hg, h.hb, h.l1, h.l2⟩
theorem CC.next (h : CC w lc gc bc ld gd bd sn vc vd sc sd fc fd mc md W) (hb : Below W.heap.size W W') : CC w lc gc bc ld gd bd sn vc vd sc sd fc fd mc md W' :=
  ⟨h.c.next hb, h.d.next hb, below_then h.lo (Nat.le_refl _) hb, h.hg, h.hb, h.l1, h.l2⟩
end
end Go.Proofs.YtmoldmnhijcckaaGreat
/- The walk of lanyardlaw26.SessionParts: it returns true. -/
set_option linter.unusedVariables false
set_option linter.unusedSectionVars false
set_option linter.unusedSimpArgs false
namespace Go.Proofs.YtmoldmnhijcckaaGreat
open Go.RowKit
/-- The rest of a row of bytes. -/
theorem cut_tail (A : Option Addr) (c n k : Nat) (h1 : k ≤ n) (hc : n ≤ c) : ∃ A2 : Option Addr, (∀ W, (Instr.sliceAt 29 (.slice A n c) (some (.int .i64 (k : Int))) none none).run Tryz.prog W = .ok (.slice A2 (n - k) (c - k)) W) ∧
    ∀ (W : World) (B : Nat) (bs : List UInt8), Reads W B 1 A n (bs.map bv) → Reads W B 1 A2 (n - k) ((bs.drop k).map bv) := by
  have ht : Tryz.prog.underlying 29 = some (.slice (Tryz.prog.elem 29)) := by kernel_rfl
  have he : Tryz.prog.elem 29 = 5 := by kernel_rfl
  refine ⟨(if c = k then A else A.map (·.add (k * 1))), fun W => ?_, fun W B bs h => ?_⟩
  · rw [run_sliceAt_slice _ _ _ _ _ _ ht, run_slice_l _ _ _ _ _ ht _ _ (by omega) (by omega), he, Tryz.sizeOf5]
    simp [Result.andThen, sliced]
  · have := cutR h h1 hc
    rw [Nat.mul_one]
    exact this
/-- One cache behind what was there. -/
structure C1 (w : World) (lc gc bc : Nat) (sn : UInt32) (vc : Value) (sc : List SetV) (fc : Int → Option Lf) (mc : Int) (W : World) : Prop where
  c : CA W lc gc bc 7 sn vc sc fc mc
  lo : Below w.heap.size w W
  l1 : w.heap.size ≤ lc
section
variable {w W W' : World} {lc gc bc : Nat} {sn : UInt32} {vc : Value} {sc : List SetV} {fc f' : Int → Option Lf} {mc m' : Int}
theorem C1.step (h : C1 w lc gc bc sn vc sc fc mc W) (hC : CA W' lc gc bc 7 sn vc sc f' m') (hF : Fr2 W W' gc bc) : C1 w lc gc bc sn vc sc f' m' W' :=
  ⟨hC, fr2_lo h.lo h.l1 h.c.l1 h.c.l2 hF, h.l1⟩
theorem C1.next (h : C1 w lc gc bc sn vc sc fc mc W) (hb : Below W.heap.size W W') : C1 w lc gc bc sn vc sc fc mc W' :=
  ⟨h.c.next hb, below_then h.lo (Nat.le_refl _) hb, h.l1⟩
end
end Go.Proofs.YtmoldmnhijcckaaGreat
/- The walk of lanyardlaw27.RouterParts: it returns true. -/
set_option linter.unusedVariables false
set_option linter.unusedSectionVars false
set_option linter.unusedSimpArgs false
namespace Go.Proofs.YtmoldmnhijcckaaGreat
open Go.RowKit
/-- How many prefixes a router holds at most. -/
def RoS.big (s : RoS) (N : Nat) : Prop := (∀ t, s.h = some t → t.2.length ≤ N) ∧ (∀ t, s.nx = some t → t.2.length ≤ N)
theorem RoS.big.mono {s : RoS} {N M : Nat} (h : s.big N) (hNM : N ≤ M) : s.big M := ⟨fun t ht => Nat.le_trans (h.1 t ht) hNM, fun t ht => Nat.le_trans (h.2 t ht) hNM⟩
theorem big_take {s : RoS} {N : Nat} (h : s.big N) (p : Pdu) : (takeR s p).1.big (N + 1) := by
  have h1 := h.mono (Nat.le_succ N)
  have hb : (beginR s p).1.big (N + 1) := by
    unfold beginR
    split
    · exact h1
    split
    · split
      · exact h1
      · rename_i t ht
        split
        · exact h1
        · exact ⟨h1.1, fun t' ht' => by cases ht'; exact h1.1 t ht⟩
    · exact ⟨h1.1, fun t' ht' => by cases ht'; simp⟩
  have hc : (changeR s p).1.big (N + 1) := by
    unfold changeR
    split
    · exact h1
    · rename_i t ht
      split
      · split
        · exact h1
        · exact ⟨h1.1, fun t' ht' => by cases ht'; simp only [List.length_append, List.length_singleton]; have := h.2 t ht; omega⟩
      · split
        · exact ⟨h1.1, fun t' ht' => by cases ht'; exact Nat.le_trans (List.length_filter_le _ _) (h1.2 t ht)⟩
        · exact h1
  have he : (endR s p).1.big (N + 1) := by
    unfold endR
    split
    · exact h1
    · rename_i t ht
      split
      · exact h1
      · exact ⟨fun t' ht' => by cases ht'; exact h1.2 t ht, fun t' ht' => by cases ht'⟩
  unfold takeR
  split
  · exact h1
  split
  · exact hb
  split
  · exact hc
  split
  · exact he
  split
  · split
    · exact h1
    · exact ⟨fun t' ht' => (by cases ht'), h1.2⟩
  split
  · split
    · exact h1
    · exact h1
  · exact h1
theorem big_go : ∀ (ps : List Pdu) {s : RoS} {N : Nat}, s.big N → (goR s ps).1.big (N + ps.length)
  | [], _, _, h => h
  | p :: ps, s, N, h => by
    unfold goR
    rw [List.length_cons]
    split
    · exact (big_go ps (big_take h p)).mono (by omega)
    · exact (big_take h p).mono (by omega)
theorem big_takeQ {q : RoQ} {N : Nat} (h : q.s.big N) (bb : List UInt8) : (takeQ q bb).1.s.big (N + (q.l.length + bb.length)) ∧ (takeQ q bb).1.l.length ≤ q.l.length + bb.length := by
  unfold takeQ
  split
  · exact ⟨h.mono (by omega), Nat.le_add_right _ _⟩
  · have hl := allOf_len (q.l ++ bb)
    have h3 := (allOf_app (q.l ++ bb) []).2.2
    rw [List.length_append] at hl h3
    exact ⟨(big_go _ h).mono (by omega), h3⟩
theorem big_ask {q : RoQ} {N : Nat} (h : q.s.big N) : (askQ q).1.s.big N ∧ (askQ q).1.l.length ≤ q.l.length := by
  unfold askQ
  split
  · exact ⟨h, Nat.le_refl _⟩
  · split
    · rename_i hn
      exact ⟨⟨h.1, fun t' ht' => by cases ht'⟩, Nat.zero_le _⟩
    · rename_i t ht
      exact ⟨⟨h.1, fun t' ht' => by cases ht'⟩, Nat.zero_le _⟩
/-- What Has tells. -/
def hasF (h : Option (Int × List Vrp)) (sn : UInt32) : List Vrp × Int × Bool := match h with
  | none => ([], 0, false)
  | some t => (rowOf t.2, sn.toNat, true)
theorem has_g {w w' : World} {h : Option (Int × List Vrp)} {sn : UInt32} {e : Ending} (hP : HasPost w h sn e w') : ∃ A c, e = .returned (.tuple #[.slice A (hasF h sn).1.length c, .int .u32 (hasF h sn).2.1, .bool (hasF h sn).2.2]) ∧
    w'.ownsRow w.heap.size 67 20 (.slice A (hasF h sn).1.length c) (hasF h sn).1.length ((hasF h sn).1.flatMap Vrp.cells) ∧ Below w.heap.size w w' := by
  cases h with
  | none => exact ⟨none, 0, hP.1, World.ownsRow_nil _ _ _ _, hP.2⟩
  | some t => exact hP
theorem q_ok {r : RoT} {q : RoQ} (h : r.q = q) (hq : q.s.ok) : r.abs.ok := by subst h; exact hq
theorem q_lf {r : RoT} {q : RoQ} (h : r.q = q) {N : Nat} (hq : q.l.length ≤ N) : r.lf.bs.length ≤ N := by subst h; exact hq
theorem q_big {r : RoT} {s : RoS} (h : r.abs = s) {N : Nat} (hq : s.big N) : ∀ t, r.h = some t → t.ks.length ≤ N := fun t ht => by
  subst h
  have := hq.1 t.abs (by unfold RoT.abs; rw [ht]; rfl)
  exact this
theorem zero_ok : RoT.zero.q.s.ok := fun h => by cases h
theorem zero_big : RoT.zero.q.s.big 0 := ⟨fun t ht => (by cases ht), fun t ht => (by cases ht)⟩
/-- Two routers, apart. -/
structure Q2 (w : World) (gx : Nat) (rx : RoT) (gy : Nat) (ry : RoT) (W : World) : Prop where
  x : QS w gx rx W
  y : QS w gy ry W
  hne : gx ≠ gy
  hm : ∀ t t', rx.tab t → ry.tab t' → t.m ≠ t'.m
theorem tab_lt {W : World} {g : Nat} {r : RoT} (h : RtA W g r) {t : TbV} (ht : r.tab t) : t.m < W.heap.size := by
  rcases ht with ht | ht
  · exact (h.has t ht).m.lt
  · exact (h.nxt t ht).m.lt
theorem Q2.swap {w W : World} {gx gy : Nat} {rx ry : RoT} (h : Q2 w gx rx gy ry W) : Q2 w gy ry gx rx W := ⟨h.y, h.x, fun e => h.hne e.symm, fun t t' h1 h2 e => h.hm t' t h2 h1 e.symm⟩
theorem Q2.stepX {w W W' : World} {gx gy : Nat} {rx rx' ry : RoT} (h : Q2 w gx rx gy ry W) (hA : RtA W' gx rx') (hF : RFr W W' gx rx rx') : Q2 w gx rx' gy ry W' :=
  ⟨h.x.step hA hF, ⟨h.y.a.other h.x.a hF (fun e => h.hne e.symm) h.hm, (h.x.step hA hF).f, h.y.hg, h.y.ht⟩, h.hne, fun t t' h1 h2 => by
    rcases hF.tabs t h1 with ⟨t0, h0, e⟩ | hle
    · rw [← e]; exact h.hm t0 t' h0 h2
    · have := tab_lt h.y.a h2; omega⟩
theorem Q2.stepY {w W W' : World} {gx gy : Nat} {rx ry ry' : RoT} (h : Q2 w gx rx gy ry W) (hA : RtA W' gy ry') (hF : RFr W W' gy ry ry') : Q2 w gx rx gy ry' W' := (h.swap.stepX hA hF).swap
theorem Q2.next {w W W' : World} {gx gy : Nat} {rx ry : RoT} (h : Q2 w gx rx gy ry W) (hb : Below W.heap.size W W') : Q2 w gx rx gy ry W' := h.stepX (h.x.a.next hb) (.below hb)
end Go.Proofs.YtmoldmnhijcckaaGreat
/- A cache and a router, apart, in one memory. -/
set_option linter.unusedVariables false
set_option linter.unusedSectionVars false
set_option linter.unusedSimpArgs false
namespace Go.Proofs.YtmoldmnhijcckaaGreat
open Go.RowKit
theorem mapI_blk_ne {W : World} {g b : Nat} {t : TypeId} {cs : List Value} {f : Int → Option Value} (h : Blk W g t cs) (h' : MapI W b f) : b ≠ g := by
  rintro rfl
  obtain ⟨es, n, hh, _⟩ := h'
  unfold Blk at h
  rw [hh] at h
  cases h
/-- A router is kept where what it lies in is. -/
theorem RtA.keep {W W' : World} {g : Nat} {r : RoT} (h : RtA W g r) (hl : r.lf.bs = []) (hs : W.heap.size ≤ W'.heap.size) (hg : W'.heap[g]? = W.heap[g]?) (ht : ∀ t, r.tab t → TbAt W t → W'.heap[t.s]? = W.heap[t.s]? ∧ W'.heap[t.m]? = W.heap[t.m]?) : RtA W' g r := by
  refine ⟨⟨hg.trans h.blk, fun t h1 => (h.has t h1).kept (ht t (.inl h1) (h.has t h1)).1 (ht t (.inl h1) (h.has t h1)).2, fun t h1 => (h.nxt t h1).kept (ht t (.inr h1) (h.nxt t h1)).1 (ht t (.inr h1) (h.nxt t h1)).2, ?_, h.left.2⟩, h.ne⟩
  rw [hl]
  exact ⟨rfl, fun hn => absurd hn (by simp)⟩
structure CR (w : World) (lc gc bc : Nat) (sn : UInt32) (vc : Value) (sc : List SetV) (f : Int → Option Lf) (mc : Int) (gr : Nat) (r : RoT) (W : World) : Prop where
  c : CA W lc gc bc 7 sn vc sc f mc
  rt : RtA W gr r
  f : Below w.heap.size w W
  hl : w.heap.size ≤ lc
  hg : w.heap.size ≤ gr
  ht : ∀ t, r.tab t → bc < t.m
section
variable {w W W' : World} {lc gc bc : Nat} {sn sn' : UInt32} {vc vc' : Value} {sc sc' : List SetV} {f f' : Int → Option Lf} {mc mc' : Int} {gr : Nat} {r r' : RoT}
/-- The router goes on. -/
theorem CR.stepR (h : CR w lc gc bc sn vc sc f mc gr r W) (hf : E0 f) (hA : RtA W' gr r') (hF : RFr W W' gr r r') : CR w lc gc bc sn vc sc f mc gr r' W' := by
  have hb : bc < W.heap.size := h.c.mp.lt
  have hbk : W'.heap[bc]? = W.heap[bc]? := hF.keep bc hb (mapI_blk_ne h.rt.blk h.c.mp) (fun t ht e => by have := h.ht t (.inr ht); omega)
  refine ⟨⟨(hF.keep gc h.c.blk.lt (blk_typ_ne h.c.blk h.rt.blk (by decide)) (fun t ht e => blk_map_ne h.c.blk (h.rt.nxt t ht).m e.symm)).trans h.c.blk, hF.row h.rt h.c.row (by decide), fun s hs => hF.row h.rt (h.c.sets s hs) (by decide), h.c.mp.kept hbk, fun k x hx => hf.reads hx _ (h.c.left k x hx).2, h.c.l1, h.c.l2⟩, hA,
    RFr.lo h.f hF h.hg (fun t ht => by have := h.ht t (.inr ht); have := h.c.l1; have := h.hl; omega) h.f.size, h.hl, h.hg, fun t ht => ?_⟩
  rcases hF.tabs t ht with ⟨t0, h0, e⟩ | hle
  · rw [← e]; exact h.ht t0 h0
  · omega
/-- The cache goes on, by blocks of its own. -/
theorem CR.stepC (h : CR w lc gc bc sn vc sc f mc gr r W) (hl : r.lf.bs = []) (hC : CA W' lc gc bc 7 sn vc sc f' mc') (hF : Fr2 W W' gc bc) : CR w lc gc bc sn vc sc f' mc' gr r W' :=
  ⟨hC, h.rt.keep hl hF.size (hF.block gr h.rt.blk.lt (blk_typ_ne h.rt.blk h.c.blk (by decide)) (fun e => mapI_blk_ne h.rt.blk h.c.mp e.symm)) (fun t ht hb => ⟨hF.block t.s hb.b.lt (blk_typ_ne hb.b h.c.blk (by decide)) (fun e => mapI_blk_ne hb.b h.c.mp e.symm), hF.block t.m hb.m.lt (blk_map_ne h.c.blk hb.m) (fun e => by have := h.ht t ht; omega)⟩),
    fr2_lo h.f h.hl h.c.l1 h.c.l2 hF, h.hl, h.hg, h.ht⟩
/-- The cache has another row. -/
theorem CR.stepU (h : CR w lc gc bc sn vc sc f mc gr r W) (hl : r.lf.bs = []) (hC : CA W' lc gc bc 7 sn' vc' sc' f mc) (hF : LoS lc gc W W') : CR w lc gc bc sn' vc' sc' f mc gr r W' := by
  have hk : ∀ {g : Nat} {t : TypeId} {cs : List Value}, Blk W g t cs → t ≠ 100 → t ≠ 92 → W'.heap[g]? = W.heap[g]? := fun hB h1 h2 =>
    hF.kp.2 _ hB.lt (blk_typ_ne hB h.c.blk h2) (fun cs hb => blk_typ_ne hB hb h1 rfl)
  refine ⟨hC, h.rt.keep hl hF.kp.1 (hk h.rt.blk (by decide) (by decide)) (fun t ht hb => ⟨hk hb.b (by decide) (by decide), hF.kp.2 t.m hb.m.lt (blk_map_ne h.c.blk hb.m) (fun cs hb2 => blk_map_ne hb2 hb.m rfl)⟩), h.f.trans (hF.lo.mono h.hl), h.hl, h.hg, h.ht⟩
theorem CR.next (h : CR w lc gc bc sn vc sc f mc gr r W) (hb : Below W.heap.size W W') : CR w lc gc bc sn vc sc f mc gr r W' :=
  ⟨h.c.next hb, h.rt.next hb, below_then h.f (Nat.le_refl _) hb, h.hl, h.hg, h.ht⟩
end
end Go.Proofs.YtmoldmnhijcckaaGreat
/- A router asks a cache: lanyardlaw27.sync. -/
set_option linter.unusedVariables false
set_option linter.unusedSectionVars false
set_option linter.unusedSimpArgs false
namespace Go.Proofs.YtmoldmnhijcckaaGreat
open Go.RowKit
/-- What a cache answers to one question. -/
theorem feed_one {ss : List SetV} {L : List (List Vrp × UInt32)} (ha : absS ss = L) {p : Pdu} {ps : List Pdu} (hp : pduOk p = true) (ht : takeG 7 L p = (ps.flatMap wrB, true)) (h60 : ∀ s ∈ ss, s.l.length ≤ 60) :
    feedF 7 ss [] (wrB p) = (ps.flatMap wrB, some []) ∧ (ps.flatMap wrB).length ≤ 30000 := by
  have h4 := all_flat [p] (fun x hx => by rw [List.mem_singleton] at hx; subst hx; exact hp)
  rw [List.flatMap_cons, List.flatMap_nil, List.append_nil] at h4
  have h5 := takeF_len 7 ss p 60 h60
  rw [takeG_eq, ha, ht] at h5
  refine ⟨?_, Nat.le_trans h5 (by decide)⟩
  unfold feedF
  rw [List.nil_append, h4]
  simp only [goF, takeG_eq, ha, ht, if_true, List.append_nil]
/-- A part of what goes well goes well. -/
theorem take_part {q q2 : RoQ} {X Y : List UInt8} (h : takeQ q (X ++ Y) = (q2, 0)) : (takeQ q X).2 = 0 ∧ takeQ (takeQ q X).1 Y = (q2, 0) := by
  obtain ⟨h1, h2⟩ := takeQ_parts q X Y
  by_cases h0 : (takeQ q X).2 = 0
  · exact ⟨h0, by rw [← h1 h0, h]⟩
  · have := (h2 h0).1
    rw [h] at this
    exact absurd this.symm h0
theorem takeQ_left (q : RoQ) (bb : List UInt8) : (takeQ q bb).1.l.length ≤ q.l.length + bb.length := by
  unfold takeQ
  split
  · exact Nat.le_add_right _ _
  · have h3 := (allOf_app (q.l ++ bb) []).2.2
    rw [List.length_append] at h3
    exact h3
set_option maxRecDepth 100000 in
set_option maxHeartbeats 4000000 in
theorem sync_any (w W : World) (lc gc bc : Nat) (sn : UInt32) (vc : Value) (sc : List SetV) (f : Int → Option Lf) (mc : Int) (gr : Nat) (r : RoT) (n : Nat) (h : CR w lc gc bc sn vc sc f mc gr r W) (hE : E0 f) (x : Lf) (hx : f 0 = some x)
    (q1 q2 : RoQ) (bs out : List UInt8) (N nb : Nat) (hN : out.length = N) (hnb : bs.length = nb) (hask : askQ r.q = (q1, bs)) (hbs : nb ≤ 232) (h1l : q1.l = []) (h1k : q1.s.ok) (hfd : feedF 7 sc [] bs = (out, some [])) (hout : N ≤ 30000) (htk : takeQ q1 out = (q2, 0)) (h5 : sc.length ≤ 5) (h6 : ∀ s ∈ sc, s.l.length ≤ 60) :
    Calls Tryz.prog 31 #[.pointer (some ⟨gc, 0, none⟩), .int .i64 0, .pointer (some ⟨gr, 0, none⟩), .int .i64 n] W fun e W' => ∃ f' r', e = .returned (.bool true) ∧ CR w lc gc bc sn vc sc f' mc gr r' W' ∧ E0 f' ∧ (∃ x', f' 0 = some x') ∧ r'.q = q2 := by
  have HN := Lib.hid hN
  have HNB := Lib.hid hnb
  have HTK := Lib.hid htk
  have HFD := Lib.hid hfd
  have HASK := Lib.hid hask
  have H1L := Lib.hid h1l
  have HX := Lib.hid hx
  clear hN hnb htk hfd hask h1l hx
  go_enter Tryz.func31, Tryz.ntmps31
  go_wp2_with fail
  refine (rask_any W gr r h.rt).mono ?_
  rintro e W1 ⟨A1, c1, r1, rfl, hra, hA, hq1, hF⟩
  rw [HASK.out] at hra hq1 ⊢
  simp only at hra hq1 ⊢
  rw [HNB.out] at hra ⊢
  have HQ1 := Lib.hid hq1
  have hlf : r1.lf.bs = [] := by have h0 := H1L.out; rw [← HQ1.out] at h0; exact h0
  have HLF := Lib.hid hlf
  have hC1 := h.stepR hE hA hF
  clear h hA hF hq1 hlf
  have hfeed := feed_any 0 bs nb HNB.out A1 c1 W1.heap.size (by omega) W1 lc gc bc 7 sn vc sc f mc hC1.c (by omega) (fun s hs => by have := h6 s hs; omega) x HX.out (by rw [hE 0 x HX.out]; simp) (Nat.le_refl _) hra
  rw [hE 0 x HX.out, HFD.out] at hfeed
  simp only at hfeed
  replace hfeed := hfeed (by rw [HN.out]; omega)
  go_wp2_with fail
  refine hfeed.mono ?_
  clear hfeed hra
  rintro e W2 ⟨A2, c2, x2, rfl, ho2, hx2, hO, hF⟩
  rw [HN.out] at ho2 ⊢
  obtain ⟨y, rfl, hy⟩ : ∃ y, x2 = some y ∧ y.bs = [] := by
    cases x2 with
    | none => cases hx2
    | some y => exact ⟨y, rfl, Option.some.inj hx2⟩
  have hE2 : E0 (fun k => if k = 0 then some y else f k) := fun k z hz => by
    dsimp only at hz
    split at hz
    · cases hz; exact hy
    · exact hE k z hz
  have hC2 := hC1.stepC HLF.out hO (Fr2.of' hF)
  have hc2 := own_capV ho2
  have hr2 := Reads.of_own ho2
  have HX2 := Lib.hid (show ∃ x', (fun k => if k = 0 then some y else f k) (0 : Int) = some x' from ⟨y, rfl⟩)
  generalize (fun k : Int => if k = 0 then some y else f k) = f2 at hE2 hC2 HX2
  clear hC1 hO hF hx2 hy HLF hE
  have hmN : n % (N + 1) ≤ N := by have := Nat.mod_lt n (show 0 < N + 1 by omega); omega
  have e1 : (n : Int) % ((N : Int) + 1) = ((n % (N + 1) : Nat) : Int) := by rw [Int.natCast_emod, Int.natCast_add]; rfl
  have e2 : Int.tmod (n : Int) ((N : Int) + 1) = ((n % (N + 1) : Nat) : Int) := rfl
  have hN0 : ((N : Int) + 1 == 0) = false := beq_eq_false_iff_ne.2 (by omega)
  generalize n % (N + 1) = m at hmN e1 e2
  have hmi : (m : Int) ≤ (c2 : Int) := by omega
  have hmi' : m ≤ c2 := by omega
  have hmN' : (m : Int) ≤ (N : Int) := by omega
  have hm0 : (0 : Int) ≤ (m : Int) := by omega
  obtain ⟨t1, t2⟩ := take_part (X := out.take m) (Y := out.drop m) (q := q1) (q2 := q2) (by rw [List.take_append_drop]; exact HTK.out)
  have T1 := Lib.hid t1
  have T2 := Lib.hid t2
  have O1 := Lib.hid (ok_takeQ h1k (out.take m))
  have L1 := Lib.hid (show (takeQ q1 (out.take m)).1.l.length ≤ 100000 by have h4 := takeQ_left q1 (out.take m); rw [List.length_take, H1L.out] at h4; simp only [List.length_nil] at h4; omega)
  clear t1 t2
  go_wp2_with fail
  refine (rTake_any (out.take m) m (by rw [List.length_take, HN.out]; omega) A2 c2 _ (by omega) W2 gr r1 hC2.rt (q_ok HQ1.out h1k) (q_lf HQ1.out (Nat.le_trans (by rw [H1L.out]; exact Nat.zero_le _) (Nat.le_refl 1000000))) (Nat.le_refl _) (hr2.take1 hmN)).mono ?_
  rintro e W3 ⟨r3, rfl, hA, hq3, hF⟩
  rw [HQ1.out] at hq3 ⊢
  rw [T1.out]
  have HQ3 := Lib.hid hq3
  have hC3 := hC2.stepR hE2 hA hF
  have hr3 : Reads W3 W3.heap.size 1 A2 N (out.map bv) := Reads.of_own (hF.row hC2.rt ho2 (by decide))
  have hs3 := hF.size
  obtain ⟨A3, hcut, hrc⟩ := cut_tail A2 c2 N m hmN hc2
  clear hA hF hq3 hC2 hr2 ho2 e1 e2 hN0 T1 HQ1 H1L HTK
  go_wp2_with fail
  refine (rTake_any (out.drop m) (N - m) (by rw [List.length_drop, HN.out]) A3 (c2 - m) _ (by omega) W3 gr r3 hC3.rt (q_ok HQ3.out O1.out) (q_lf HQ3.out (Nat.le_trans L1.out (by omega))) (Nat.le_refl _) (hrc _ _ _ hr3)).mono ?_
  rintro e W4 ⟨r4, rfl, hA, hq4, hF⟩
  rw [HQ3.out, T2.out] at hq4 ⊢
  have HQ4 := Lib.hid hq4
  have hC4 := hC3.stepR hE2 hA hF
  clear hA hF hq4 hC3 hr3 hcut hrc
  simp only
  go_wp2_with fail
  go_ret
  exact ⟨rfl, f2, r4, hC4, hE2, HX2.out, HQ4.out⟩
end Go.Proofs.YtmoldmnhijcckaaGreat
