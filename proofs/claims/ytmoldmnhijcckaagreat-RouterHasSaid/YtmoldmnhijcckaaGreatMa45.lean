/- router's through, Take. -/
import Derived.Test.YtmoldmnhijcckaaGreatMa44
import Derived.Test.YtmoldmnhijcckaaGreatMa30
set_option linter.unusedVariables false
set_option linter.unusedSectionVars false
set_option linter.unusedSimpArgs false
namespace Go.Proofs.YtmoldmnhijcckaaGreat
open Go.RowKit
theorem goR_step {s0 s : RoS} {ps : List Pdu} {k : Nat} (hk : k < ps.length) (h : goR s0 ps = goR s (ps.drop k)) :
    ((takeR s ps[k]).2 = 0 → goR s0 ps = goR (takeR s ps[k]).1 (ps.drop (k + 1))) ∧ ((takeR s ps[k]).2 ≠ 0 → goR s0 ps = takeR s ps[k]) := by
  rw [List.drop_eq_getElem_cons hk, goR] at h
  exact ⟨fun h0 => by rw [h, if_pos h0], fun h0 => by rw [h, if_neg h0]⟩
def ThruPost (w : World) (g : Nat) (r : RoT) (t : RoS × List UInt8 × Int) (e : Ending) (w' : World) : Prop := ∃ r', e = .returned (.int .i64 t.2.2) ∧ RtA w' g r' ∧ r'.abs = t.1 ∧ r'.lf.bs = t.2.1 ∧ r'.broken = r.broken ∧ RFr w w' g r r'
set_option maxRecDepth 100000 in
set_option maxHeartbeats 8000000 in
theorem rthru_any (bb : List UInt8) (nb : Nat) (hnb : bb.length = nb) (A : Option Addr) (c B : Nat) (hb6 : nb ≤ 100000000) (w : World) (g : Nat) (r : RoT) (h : RtA w g r) (hok : r.abs.ok) (hl6 : r.lf.bs.length ≤ 1000000) (hB : B ≤ w.heap.size) (hr : Reads w B 1 A nb (bb.map bv)) :
    Calls Tryz.prog 36 #[.pointer (some ⟨g, 0, none⟩), .slice A nb c] w (ThruPost w g r (thruR r.abs r.lf.bs bb)) := by
  have c5 := h.blk.cell 5
  simp only [RoT.cells, Lf.val, List.getElem?_cons_zero, List.getElem?_cons_succ] at c5
  obtain ⟨i0, hi0, hz0, hz1, hz2⟩ := info_parts info5b
  go_enter Tryz.func36, Tryz.ntmps36
  go_wp2_with fail
  refine (cloneU_any r.lf.bs _ rfl r.lf.A r.lf.c _ (by omega) w (Nat.le_refl _) h.left.1).mono ?_
  rintro e w1 ⟨A1, c1, rfl, ho1, hb1⟩
  have hw1 := hb1.size
  clear c5
  go_wp2_with (at_builtin; go_must (refine wpList_append_any _ rfl _ _ 29 rfl w.heap.size 5 i0 _ 1 1 Tryz.underlying29 hi0 hz0 hz1 hz2 rfl (by omega) _ r.lf.bs.length _ rfl ho1 B A nb c _ rfl (hr.below hb1 hB) (bv_one _) (by simp only [maxLen]; omega) (by omega) hw1 ?_; intro v2 w2 ho2 hg2 _; obtain ⟨A2, c2, rfl⟩ := own_slice' ho2; rw [← List.map_append] at ho2; have hb2 : Below w.heap.size w w2 := Below.grown hb1 hg2 hw1 (fun k hk => (own_base_le ho1 k hk).1); clear hg2))
  have hlen2 : (r.lf.bs ++ bb).length = r.lf.bs.length + nb := by rw [List.length_append, hnb]
  refine (all_n (r.lf.bs ++ bb) _ hlen2 A2 c2 _ (own_capV ho2) (by omega) w2 (Nat.le_refl _) (Reads.of_own ho2)).mono ?_
  rintro e w3 ⟨vp, Ar, nr, cr, rfl, hnr, hcr, hrr, hop, hb3⟩
  obtain ⟨⟨ps, rest, kc, ke⟩, hal⟩ : ∃ q, allOf (r.lf.bs ++ bb) = q := ⟨_, rfl⟩
  rw [hal] at hnr hrr hop ⊢
  simp only at hnr hrr hop ⊢
  have HF := Lib.hid (show thruR r.abs r.lf.bs bb = ((goR r.abs ps).1, rest, if (goR r.abs ps).2 = 0 then ke else (goR r.abs ps).2) by unfold thruR; rw [hal])
  subst hnr
  obtain ⟨Ap, cp, rfl⟩ := own_slice' hop
  have hb03 : Below w.heap.size w w3 := below_then hb2 (Nat.le_refl _) hb3
  have hC3 := h.next hb03
  have c5 := hC3.blk.cell 5
  have f5 := hC3.blk.frozen 5
  simp only [RoT.cells, List.getElem?_cons_zero, List.getElem?_cons_succ] at c5
  have hC4 := hC3.setLeft ⟨Ar, cr, rest⟩ ⟨hrr, hcr⟩
  have hF4 : RFr w (w3.setCell ⟨g, 5, none⟩ (Lf.val ⟨Ar, cr, rest⟩)) g r { r with lf := ⟨Ar, cr, rest⟩ } := (RFr.below (r := r) (g := g) hb03).trans (RFr.same (r' := { r with lf := ⟨Ar, cr, rest⟩ }) (W := w3) (g := g) (r := r) (i := 5) (u := Lf.val ⟨Ar, cr, rest⟩) rfl rfl)
  have hop4 : (w3.setCell ⟨g, 5, none⟩ (Lf.val ⟨Ar, cr, rest⟩)).ownsRow w2.heap.size 69 26 (.slice Ap ps.length cp) ps.length (ps.flatMap Pdu.cells) := (RFr.same (r' := { r with lf := ⟨Ar, cr, rest⟩ }) (W := w3) (g := g) (r := r) (i := 5) (u := Lf.val ⟨Ar, cr, rest⟩) rfl rfl).row hC3 hop (by decide)
  have hpl : ps.length ≤ 9223372036854775807 := by
    rcases hop.2 with ⟨_, hz⟩ | ⟨_, cap, _, _, _, _, q1, q2, _⟩
    · omega
    · simp only [maxLen] at q2; omega
  clear ho1 ho2 hb1 hb2 hb3 hrr hop hal hlen2 hr hC3 hb03
  have hv : Lf.val ⟨Ar, cr, rest⟩ = .slice Ar rest.length cr := rfl
  go_upto_region 3 with fail
  refine wp_gen (fun W => (RtA W g { r with lf := ⟨Ar, cr, rest⟩ } ∧ RFr w W g r { r with lf := ⟨Ar, cr, rest⟩ }) ∧ W.ownsRow w2.heap.size 69 26 (.slice Ap ps.length cp) ps.length (ps.flatMap Pdu.cells)) ⟨⟨hC4, hF4⟩, hop4⟩ ?_
  clear hC4 hF4 hop4 c5 f5 hv
  rintro W0 ⟨⟨hA0, hF0⟩, hop0⟩
  have HOK := Lib.hid hok
  go_wp2_with fail
  go_loopw [31] (fun i W => ∃ (k : Nat) (r1 : RoT), k ≤ ps.length ∧ i = .int .i64 k ∧ RtA W g r1 ∧ RFr w W g r r1 ∧ W.ownsRow w2.heap.size 69 26 (.slice Ap ps.length cp) ps.length (ps.flatMap Pdu.cells) ∧ Hid (goR r.abs ps = goR r1.abs (ps.drop k) ∧ r1.abs.ok ∧ r1.lf = ⟨Ar, cr, rest⟩ ∧ r1.broken = r.broken)) (fun i _ => ps.length - (intOf i).toNat)
  case atStart => exact ⟨0, { r with lf := ⟨Ar, cr, rest⟩ }, by omega, rfl, hA0, hF0, hop0, Lib.hid ⟨rfl, HOK.out, rfl, rfl⟩⟩
  case round =>
    clear hA0 hF0 hop0
    obtain ⟨k, r1, hk, rfl, hA, hF, hop, HG⟩ := hrel
    by_cases hlt : k < ps.length
    · have hk0 : (0 : Int) ≤ (k : Int) := by omega
      have hk1 : (k : Int) < (ps.length : Int) := by omega
      obtain ⟨ad, rfl, _, _⟩ := (Reads.of_own hop).2 (by omega)
      have hat : AtAdr wr (ad.add (k * 26)) ps[k].cells := (Reads.of_own hop).elem Pdu.cells_length hlt rfl
      obtain ⟨hs1, hs2⟩ := goR_step hlt HG.out.1
      have HS1 := Lib.hid hs1
      have HS2 := Lib.hid hs2
      have HG2 := Lib.hid HG.out.2
      clear hs1 hs2 HG
      generalize ps[k] = p at hat HS1 HS2
      have hbx := Below.setCells (Nat.le_refl wr.heap.size) p.cells 0 ((Below.refl wr.heap.size wr).alloc (Nat.le_refl _) (.cells (bareL 0).toArray 69))
      have hSb : ((RtA ((wr.alloc (.cells (bareL 0).toArray 69)).setCells wr.heap.size 0 p.cells) g r1 ∧ RFr w ((wr.alloc (.cells (bareL 0).toArray 69)).setCells wr.heap.size 0 p.cells) g r r1) ∧ ((wr.alloc (.cells (bareL 0).toArray 69)).setCells wr.heap.size 0 p.cells).ownsRow w2.heap.size 69 26 (.slice (some ad) ps.length cp) ps.length (ps.flatMap Pdu.cells)) ∧ Blk ((wr.alloc (.cells (bareL 0).toArray 69)).setCells wr.heap.size 0 p.cells) wr.heap.size 69 p.cells :=
        ⟨⟨⟨hA.next hbx, hF.then hbx⟩, own_below hop hbx⟩, (Blk.new _ _ _).setCells_all (Pdu.cells_length _)⟩
      go_upto_region 6 with (first | (refine wpList_load_adr (by rfl) 69 _ rfl (ad.add (k * 26)) 26 (by rfl) _ _ hat (Pdu.cells_length _) Tryz.underlying69 rfl info_pdu ?_) | (refine wpList_store_at rfl 69 _ _ rfl wr.heap.size 0 26 69 p.cells (bareL 0) rfl rfl (Blk.new _ _ _) (Pdu.cells_length _) (by decide) info_pdu (Pdu.one _) ?_))
      refine wp_gen (fun W => ((RtA W g r1 ∧ RFr w W g r r1) ∧ W.ownsRow w2.heap.size 69 26 (.slice (some ad) ps.length cp) ps.length (ps.flatMap Pdu.cells)) ∧ Blk W wr.heap.size 69 p.cells) hSb ?_
      clear hSb hbx hA hF hop hat
      generalize wr.heap.size = bx
      rintro W ⟨⟨⟨hA, hF⟩, hop⟩, hX⟩
      have hxr := hX.range
      go_wp2_with (refine wpList_load_at rfl 69 _ rfl bx 0 26 rfl _ _ hxr (Pdu.cells_length _) Tryz.underlying69 rfl info_pdu ?_)
      refine (rtake_any p W g r1 hA HG2.out.1).mono ?_
      rintro e w6 ⟨r2, rfl, hA6, ha6, hl6', hb6', hF6⟩
      have hF7 := hF.trans hF6
      have hop7 := hF6.row hA hop (by decide)
      have HA6 := Lib.hid (show r2.abs = (takeR r1.abs p).1 ∧ r2.lf = r1.lf ∧ r2.broken = r1.broken from ⟨ha6, hl6', hb6'⟩)
      clear hX hxr hA hF hop hF6 ha6 hl6' hb6'
      by_cases h0 : (takeR r1.abs p).2 = 0
      · have HN := Lib.hid (HS1.out h0)
        have b0 : ((takeR r1.abs p).2 != 0) = false := by simp [h0]
        have HOK2 := Lib.hid (ok_take HG2.out.1 p)
        clear h0 HS1 HS2
        go_wp2_with fail
        go_roundw
        case rel => exact ⟨k + 1, r2, by omega, by go_num, hA6, hF7, hop7, Lib.hid ⟨by rw [HA6.out.1]; exact HN.out, by rw [HA6.out.1]; exact HOK2.out, HA6.out.2.1.trans HG2.out.2.1, HA6.out.2.2.trans HG2.out.2.2⟩⟩
        case measure => simp [intOf]; omega
      · have HN := Lib.hid (HS2.out h0)
        have b0 : ((takeR r1.abs p).2 != 0) = true := bne_iff_ne.2 h0
        have HOUT := Lib.hid (show thruR r.abs r.lf.bs bb = ((takeR r1.abs p).1, rest, (takeR r1.abs p).2) by rw [HF.out, HN.out, if_neg h0])
        clear h0 HS1 HS2 HN
        go_wp2_with fail
        go_ret
        rw [HOUT.out]
        exact ⟨r2, rfl, hA6, HA6.out.1, by rw [HA6.out.2.1, HG2.out.2.1], HA6.out.2.2.trans HG2.out.2.2, hF7⟩
    · have hkk : k = ps.length := by omega
      subst hkk
      have HG2 := Lib.hid (show goR r.abs ps = (r1.abs, 0) by have := HG.out.1; rw [List.drop_length] at this; rw [this]; rfl)
      have HOUT := Lib.hid (show thruR r.abs r.lf.bs bb = (r1.abs, rest, ke) by rw [HF.out, HG2.out, if_pos rfl])
      clear hlt hk HG2
      go_wp2_with fail
      go_ret
      rw [HOUT.out]
      exact ⟨r1, rfl, hA, rfl, by rw [HG.out.2.2.1], HG.out.2.2.2, hF⟩
def TakeQPost (w : World) (g : Nat) (r : RoT) (t : RoQ × Int) (e : Ending) (w' : World) : Prop := ∃ r', e = .returned (.int .i64 t.2) ∧ RtA w' g r' ∧ r'.q = t.1 ∧ RFr w w' g r r'
set_option maxRecDepth 100000 in
set_option maxHeartbeats 2000000 in
theorem rTake_any (bb : List UInt8) (nb : Nat) (hnb : bb.length = nb) (A : Option Addr) (c B : Nat) (hb6 : nb ≤ 100000000) (w : World) (g : Nat) (r : RoT) (h : RtA w g r) (hok : r.abs.ok) (hl6 : r.lf.bs.length ≤ 1000000) (hB : B ≤ w.heap.size) (hr : Reads w B 1 A nb (bb.map bv)) :
    Calls Tryz.prog 10 #[.pointer (some ⟨g, 0, none⟩), .slice A nb c] w (TakeQPost w g r (takeQ r.q bb)) := by
  have c6 := h.blk.cell 6
  simp only [RoT.cells, List.getElem?_cons_zero, List.getElem?_cons_succ] at c6
  cases hb : r.broken
  · have HQ := Lib.hid (show takeQ r.q bb = (⟨(thruR r.abs r.lf.bs bb).1, (thruR r.abs r.lf.bs bb).2.1, !decide ((thruR r.abs r.lf.bs bb).2.2 = 0)⟩, (thruR r.abs r.lf.bs bb).2.2) by unfold takeQ; rw [if_neg (show ¬ r.q.b = true by show ¬ r.broken = true; rw [hb]; decide)]; rfl)
    rw [hb] at c6
    have HB := Lib.hid hb
    clear hb
    go_enter Tryz.func10, Tryz.ntmps10
    go_wp2_with fail
    refine (rthru_any bb nb hnb A c B hb6 w g r h hok hl6 hB hr).mono ?_
    rintro e w1 ⟨r1, rfl, hA1, ha1, hl1, hb1, hF1⟩
    have d6 := hA1.blk.cell 6
    have f6 := hA1.blk.frozen 6
    simp only [RoT.cells, List.getElem?_cons_zero, List.getElem?_cons_succ] at d6
    generalize thruR r.abs r.lf.bs bb = t at HQ ha1 hl1 ⊢
    have HA := Lib.hid (show r1.abs = t.1 ∧ r1.lf.bs = t.2.1 from ⟨ha1, hl1⟩)
    have hA2 := hA1.setBroken (t.2.2 != 0)
    have hF2 : RFr w (w1.setCell ⟨g, 6, none⟩ (.bool (t.2.2 != 0))) g r { r1 with broken := t.2.2 != 0 } := hF1.trans (RFr.same (r' := { r1 with broken := t.2.2 != 0 }) (W := w1) (g := g) (r := r1) (i := 6) (u := .bool (t.2.2 != 0)) rfl rfl)
    clear ha1 hl1 hb1 c6
    go_wp2_with fail
    go_ret
    rw [HQ.out]
    refine ⟨_, rfl, hA2, ?_, hF2⟩
    have he : (t.2.2 != 0) = !decide (t.2.2 = 0) := by by_cases h0 : t.2.2 = 0 <;> simp [h0]
    unfold RoT.q
    rw [he]
    show RoQ.mk r1.abs r1.lf.bs _ = _
    rw [HA.out.1, HA.out.2]
  · have HQ := Lib.hid (show takeQ r.q bb = (r.q, 2) by unfold takeQ; rw [if_pos (show r.q.b = true from hb)])
    rw [hb] at c6
    go_enter Tryz.func10, Tryz.ntmps10
    go_wp2_with fail
    go_ret
    rw [HQ.out]
    exact ⟨r, rfl, h, rfl, .refl _ _ _⟩
end Go.Proofs.YtmoldmnhijcckaaGreat
