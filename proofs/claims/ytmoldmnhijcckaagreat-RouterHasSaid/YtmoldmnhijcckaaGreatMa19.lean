/- The contract of pdu.Write for prefixes. -/
import Derived.Test.YtmoldmnhijcckaaGreatMa16
import Derived.Deep.DeepCutAuto
import Derived.LoopN
set_option linter.unusedVariables false
set_option linter.unusedSectionVars false
set_option linter.unusedSimpArgs false
namespace Go.Proofs.YtmoldmnhijcckaaGreat
open Go.RowKit
attribute [local go_sem high] run_imax run_imin
theorem vrpOk_bd {v : Vrp} (h : vrpOk v = true) : 0 ≤ v.p.len ∧ v.p.len ≤ 128 ∧ 0 ≤ v.mx ∧ v.mx ≤ 128 := by
  unfold vrpOk pfxOk at h
  simp only [Bool.and_eq_true, decide_eq_true_eq] at h
  obtain ⟨h1, h2, h3⟩ := h
  have h4 : clampOf v.p.v6 v.p.len = v.p.len := congrArg Pfx.len h1
  have h5 := clampOf_bd v.p.v6 v.p.len
  have h6 : mostOf v.p.v6 ≤ 128 := by unfold mostOf; split <;> omega
  omega
theorem Pdu.reads_addr {W : World} {g : Nat} {t : TypeId} {p : Pdu} (hB : Blk W g t p.cells) (m : Nat) (hm : m ≤ 16) : Reads W (g + 1) 1 (some ⟨g, 6, none⟩) m ((p.v.p.a.l.take m).map bv) := by
  have hl := p.v.p.a.h
  refine ⟨by simp; omega, fun _ => ⟨_, rfl, by simp, fun j u hu => ?_⟩⟩
  rw [add_plain', hB.cell]
  have hj : j < 16 := by
    have := (List.getElem?_eq_some_iff.1 hu).1
    simp at this; omega
  have e1 : p.cells[6 + j]? = p.v.cells[2 + j]? := by
    have := p.cv (2 + j) (by omega)
    rwa [show 2 + j + 4 = 6 + j by omega] at this
  have e2 : p.v.cells[2 + j]? = p.v.p.cells[1 + j]? := by
    rw [show 2 + j = (1 + j) + 1 by omega]
    simp only [Vrp.cells, List.getElem?_cons_succ]
    rw [List.getElem?_append_left (by rw [Pfx.cells_length]; omega)]
  rw [e1, e2, Pfx.cells_at _ hj, ← hu]
  have hlt : j < m := by
    have := (List.getElem?_eq_some_iff.1 hu).1
    simp at this; omega
  simp [A16.at, List.getElem?_take, hlt, hl, hj, List.getD_eq_getElem?_getD]
set_option maxRecDepth 100000 in
set_option maxHeartbeats 4000000 in
theorem write_k4t (p : Pdu) (w : World) (h : pduOk p = true) (hke : p.kind = 4) (hadd : p.add = true) : Calls Tryz.prog 34 #[p.val] w (WrPost p w) := by
  have HA := Lib.hid hadd
  clear hadd
  simp only [Pdu.val]
  obtain ⟨hk, hn, hmin, hmax, htx, hv⟩ := ok_parts h
  obtain ⟨hk0, hk1⟩ := kind_bd hk
  have H := Lib.hid h
  have HKE := Lib.hid hke
  clear h hn hke hk
  have hX := Bx.new w p
  have hkw : IntKind.u8.wrap p.kind = p.kind := by rw [IntKind.wrap_u8]; omega
  have hkb : Value.int .u8 p.kind = bv (UInt8.ofNat p.kind.toNat) := by
    unfold bv; rw [UInt8.toNat_ofNat']; congr 1; omega
  obtain ⟨hlb0, hlb1⟩ := lenOf_bd p.kind
  have hadd : IntKind.i64.wrap (lenOf p.kind + (p.text.size : Int)) = lenOf p.kind + (p.text.size : Int) := IntWalk.i64_in _ (by omega)
  have HKB := Lib.hid hkb
  have HADD := Lib.hid hadd
  clear hkb hadd
  go_enter Tryz.func34, Tryz.ntmps34
  go_upto_region 5 with (first | (refine wpList_load_at rfl 69 _ rfl w.heap.size 0 26 rfl _ _ hX.1.range (Pdu.cells_length _) Tryz.underlying69 rfl info_pdu ?_) | (go_at_call 55; refine (right_any p _).mono ?_; rintro e w1 ⟨rfl, hb1⟩; replace hX := hX.next hb1; rw [H.out]; clear hb1; have c0 := (hX.1.cell 0).trans p.c0))
  refine wp_gen (WS w p (w1.heap.size + 1) w1.heap.size [1, UInt8.ofNat p.kind.toNat]) (ws_start hX 1 _ _ _ rfl HKB.out _ rfl) ?_
  clear c0 hX hkw HKB
  generalize w1.heap.size + 1 = bo
  generalize w1.heap.size = base
  intro W hW
  have c1 := (hW.bx.1.cell 1).trans p.c1
  have c24 := (hW.bx.1.cell 24).trans p.c24
  go_wp2_with fail
  refine (layI_2 (imax p.session p.code) bo base _ _ (by rw [imax_eq]; rw [imin_eq] at hmin; omega) (by omega) hW.out hW.le hW.sz (by simp)).mono ?_
  rintro e w2 ⟨rfl, ho2, hb2, hst⟩
  replace hW := hW.lay ho2 hb2
  clear hst ho2 hb2 c1 c24
  go_wp2_with fail
  refine reg_sch2 9 [(true, 0), (true, 2), (true, 3), (true, 5), (true, 6), (true, 7), (false, 1), (false, 4), (true, 8)] (by kernel_rfl) (by kernel_rfl) (WS w p bo base ([1, UInt8.ofNat p.kind.toNat] ++ beB (imax p.session p.code).toNat 2)) (WS w p bo base ([1, UInt8.ofNat p.kind.toNat] ++ beB (imax p.session p.code).toNat 2)) ?_ ?_ ?_
  · exact hW.drew
  · exact fun _ h => h
  intro W hSW
  simp only [List.map_cons, List.map_nil, List.getD_cons_zero, List.getD_cons_succ, List.drop_succ_cons, List.drop_zero]
  refine hd_pure (v := ?_) (by rfl) (fun W' hS' => ?_) ?_ -- 0
  rotate_left
  · have c0 := (hS'.bx.1.cell 0).trans p.c0; have c25 := (hS'.bx.1.cell 25).trans p.c25; have hadd := HADD.out; clear hS'; (go_simp; first | with_reducible rfl | rfl)
  try simp only [Act.put, List.setIfInBounds_toArray, List.set_cons_zero, List.set_cons_succ]
  refine hd_pure (v := ?_) (by rfl) (fun W' hS' => ?_) ?_ -- 2
  rotate_left
  · have c0 := (hS'.bx.1.cell 0).trans p.c0; have c25 := (hS'.bx.1.cell 25).trans p.c25; have hadd := HADD.out; clear hS'; (go_simp; first | with_reducible rfl | rfl)
  try simp only [Act.put, List.setIfInBounds_toArray, List.set_cons_zero, List.set_cons_succ]
  refine hd_pure (v := ?_) (by rfl) (fun W' hS' => ?_) ?_ -- 3
  rotate_left
  · have c0 := (hS'.bx.1.cell 0).trans p.c0; have c25 := (hS'.bx.1.cell 25).trans p.c25; have hadd := HADD.out; clear hS'; (go_simp; first | with_reducible rfl | rfl)
  try simp only [Act.put, List.setIfInBounds_toArray, List.set_cons_zero, List.set_cons_succ]
  refine hd_pure (v := ?_) (by rfl) (fun W' hS' => ?_) ?_ -- 5
  rotate_left
  · have c0 := (hS'.bx.1.cell 0).trans p.c0; have c25 := (hS'.bx.1.cell 25).trans p.c25; have hadd := HADD.out; clear hS'; (go_simp; first | with_reducible rfl | rfl)
  try simp only [Act.put, List.setIfInBounds_toArray, List.set_cons_zero, List.set_cons_succ]
  refine hd_pure (v := ?_) (by rfl) (fun W' hS' => ?_) ?_ -- 6
  rotate_left
  · have c0 := (hS'.bx.1.cell 0).trans p.c0; have c25 := (hS'.bx.1.cell 25).trans p.c25; have hadd := HADD.out; clear hS'; (go_simp; first | with_reducible rfl | rfl)
  try simp only [Act.put, List.setIfInBounds_toArray, List.set_cons_zero, List.set_cons_succ]
  refine hd_pure (v := ?_) (by rfl) (fun W' hS' => ?_) ?_ -- 7
  rotate_left
  · have c0 := (hS'.bx.1.cell 0).trans p.c0; have c25 := (hS'.bx.1.cell 25).trans p.c25; have hadd := HADD.out; clear hS'; (go_simp; first | with_reducible rfl | rfl)
  try simp only [Act.put, List.setIfInBounds_toArray, List.set_cons_zero, List.set_cons_succ]
  refine hd_sole (by rfl) (fun K hK => ?_) -- 1
  go_simp
  refine (lengths_any _).mono ?_; rintro e w' ⟨b, rfl, hm, hb⟩
  refine hK _ _ (hSW.below hb) ?_
  clear hK K hSW
  intro hSW
  clear hb; have hl := run_len _ b hm p.kind false; simp only [Bool.false_eq_true, if_false] at hl
  try simp only [Act.put, List.setIfInBounds_toArray, List.set_cons_zero, List.set_cons_succ]
  refine hd_sole (by rfl) (fun K hK => ?_) -- 4
  go_simp
  refine hK _ _ (hSW) ?_
  clear hK K hSW
  intro hSW
  clear hl hm
  try simp only [Act.put, List.setIfInBounds_toArray, List.set_cons_zero, List.set_cons_succ]
  refine hd_pure (v := ?_) (by rfl) (fun W' hS' => ?_) ?_ -- 8
  rotate_left
  · have c0 := (hS'.bx.1.cell 0).trans p.c0; have c25 := (hS'.bx.1.cell 25).trans p.c25; have hadd := HADD.out; clear hS'; (go_simp; first | with_reducible rfl | rfl)
  try simp only [Act.put, List.setIfInBounds_toArray, List.set_cons_zero, List.set_cons_succ]
  refine hd_nil ?_
  replace hW := hSW; clear hSW
  go_wp2_with (go_at_call 56; refine (layI_4 (lenOf p.kind + (p.text.size : Int)) bo base _ _ (by omega) (by omega) hW.out hW.le hW.sz (by simp [beB_length])).mono ?_; rintro e w3 ⟨rfl, ho2, hb2, hst⟩; replace hW := hW.lay ho2 hb2; clear hst ho2 hb2)
  refine NoPanic.normal ?_
  refine exit_gen (WS w p bo base (wrHead p)) (by unfold wrHead; exact hW) ?_
  clear hW HADD
  intro W5 hE
  have c0 := (hE.bx.1.cell 0).trans p.c0
  have hhl : (wrHead p).length = 8 := by simp [wrHead, beB_length]
  have HHL := Lib.hid hhl
  clear hhl
  have hke := HKE.out
  clear HKE hk0 hk1 hlb0 hlb1
  have HB := Lib.hid (show wrBody p = beB (if p.add then 1 else 0) 1 ++ beB p.v.p.len.toNat 1 ++ beB p.v.mx.toNat 1 ++ beB 0 1 ++ p.v.p.a.l.take 4 ++ beB p.v.asn.toNat 4 by simp [wrBody, hke, widthOf])
  obtain ⟨hvo, _⟩ := hv (by omega)
  obtain ⟨hl0, hl1, hm0, hm1⟩ := vrpOk_bd hvo
  clear hv hvo
  have c3 := (hE.bx.1.cell 3).trans p.c3
  rw [HA.out] at c3
  have c22 := (hE.bx.1.cell 22).trans p.c22
  have c23 := (hE.bx.1.cell 23).trans p.c23
  go_wp2_with fail
  have hgi : W5.heap.size ≠ bo := by obtain ⟨v, hbv, _⟩ := hE.out; have := hbv.lt; omega
  refine wp_gen (fun W => WS w p bo base (wrHead p) W ∧ Blk W W5.heap.size 3 [.int .i64 1, .int .i64 p.v.p.len, .int .i64 p.v.mx, .int .i64 0]) ⟨hE.below ((Below.refl _ _).alloc (Nat.le_refl _) _), blk_new' _ _ [.int .i64 1, .int .i64 p.v.p.len, .int .i64 p.v.mx, .int .i64 0] _ rfl⟩ ?_
  clear hE c3 c22 c23 c0
  generalize W5.heap.size = gi at hgi
  rintro W6 ⟨hE, hI⟩
  refine wp_loop_rounds 5 ?_
  rw [rounds_succ]
  have ci := hI.cell 0
  simp only [List.getElem?_cons_zero, List.getElem?_cons_succ] at ci
  go_wp2_with fail
  refine (layI_1 (1) bo base _ _ (by omega) (by omega) hE.out hE.le hE.sz (by simp only [List.length_append, HHL.out, beB_length]; omega)).mono ?_
  rintro e w7 ⟨rfl, ho2, hb2, hst⟩
  replace hE := hE.lay ho2 hb2
  replace hI := hst _ _ _ (by decide) hgi hI
  clear hst ho2 hb2 ci
  go_wp2_with fail
  rw [rounds_succ]
  have ci := hI.cell 1
  simp only [List.getElem?_cons_zero, List.getElem?_cons_succ] at ci
  go_wp2_with fail
  refine (layI_1 (p.v.p.len) bo base _ _ (by omega) (by omega) hE.out hE.le hE.sz (by simp only [List.length_append, HHL.out, beB_length]; omega)).mono ?_
  rintro e w7 ⟨rfl, ho2, hb2, hst⟩
  replace hE := hE.lay ho2 hb2
  replace hI := hst _ _ _ (by decide) hgi hI
  clear hst ho2 hb2 ci
  go_wp2_with fail
  rw [rounds_succ]
  have ci := hI.cell 2
  simp only [List.getElem?_cons_zero, List.getElem?_cons_succ] at ci
  go_wp2_with fail
  refine (layI_1 (p.v.mx) bo base _ _ (by omega) (by omega) hE.out hE.le hE.sz (by simp only [List.length_append, HHL.out, beB_length]; omega)).mono ?_
  rintro e w7 ⟨rfl, ho2, hb2, hst⟩
  replace hE := hE.lay ho2 hb2
  replace hI := hst _ _ _ (by decide) hgi hI
  clear hst ho2 hb2 ci
  go_wp2_with fail
  rw [rounds_succ]
  have ci := hI.cell 3
  simp only [List.getElem?_cons_zero, List.getElem?_cons_succ] at ci
  go_wp2_with fail
  refine (layI_1 (0) bo base _ _ (by omega) (by omega) hE.out hE.le hE.sz (by simp only [List.length_append, HHL.out, beB_length]; omega)).mono ?_
  rintro e w7 ⟨rfl, ho2, hb2, hst⟩
  replace hE := hE.lay ho2 hb2
  replace hI := hst _ _ _ (by decide) hgi hI
  clear hst ho2 hb2 ci
  go_wp2_with fail
  rw [rounds_succ]
  clear hI
  go_wp2_with fail
  generalize hxs : wrHead p ++ beB (Int.toNat 1) 1 ++ beB p.v.p.len.toNat 1 ++ beB p.v.mx.toNat 1 ++ beB (Int.toNat 0) 1 = xs at hE
  have HXS := Lib.hid hxs
  have HXL := Lib.hid (show xs.length = 12 by rw [← hxs]; simp only [List.length_append, HHL.out, beB_length])
  clear hxs
  obtain ⟨i0, hi0, hz0, hz1, hz2⟩ := info_parts info5b
  obtain ⟨v, hbv, hov⟩ := hE.out
  rw [HXL.out] at hov
  obtain ⟨A, c, rfl⟩ := own_slice' hov
  have Hov := Lib.hid hov
  clear hov
  have cv := hbv.cell 0
  rw [List.getElem?_cons_zero] at cv
  refine reg_sch2 9 [(true, 0), (true, 1), (true, 2), (true, 3), (true, 4), (true, 5), (false, 6), (true, 7), (false, 8)] (by kernel_rfl) (by kernel_rfl) (fun W => Bx w p W ∧ Blk W bo 29 [Value.slice A 12 c]) (fun W => (WS w p bo base xs W ∧ Blk W bo 29 [Value.slice A 12 c]) ∧ W.ownsRow base 5 1 (Value.slice A 12 c) 12 (xs.map bv)) ?_ ?_ ?_
  · exact ⟨⟨hE.drew, hbv.drew⟩, own_below Hov.out (Below.refl _ _).drew⟩
  · exact fun _ h => ⟨h.1.1.bx, h.1.2⟩
  intro W hSW
  simp only [List.map_cons, List.map_nil, List.getD_cons_zero, List.getD_cons_succ, List.drop_succ_cons, List.drop_zero]
  refine hd_pure (v := ?_) (by rfl) (fun W' hS' => ?_) ?_ -- 0
  rotate_left
  · have c0 := (hS'.1.1.cell 0).trans p.c0; have cb := hS'.2.cell 0; rw [List.getElem?_cons_zero] at cb; rw [hke] at c0; clear hS'; (go_simp; first | with_reducible rfl | rfl)
  try simp only [Act.put, List.setIfInBounds_toArray, List.set_cons_zero, List.set_cons_succ]
  refine hd_pure (v := ?_) (by rfl) (fun W' hS' => ?_) ?_ -- 1
  rotate_left
  · have c0 := (hS'.1.1.cell 0).trans p.c0; have cb := hS'.2.cell 0; rw [List.getElem?_cons_zero] at cb; rw [hke] at c0; clear hS'; (go_simp; first | with_reducible rfl | rfl)
  try simp only [Act.put, List.setIfInBounds_toArray, List.set_cons_zero, List.set_cons_succ]
  refine hd_pure (v := ?_) (by rfl) (fun W' hS' => ?_) ?_ -- 2
  rotate_left
  · have c0 := (hS'.1.1.cell 0).trans p.c0; have cb := hS'.2.cell 0; rw [List.getElem?_cons_zero] at cb; rw [hke] at c0; clear hS'; (go_simp; first | with_reducible rfl | rfl)
  try simp only [Act.put, List.setIfInBounds_toArray, List.set_cons_zero, List.set_cons_succ]
  refine hd_pure (v := ?_) (by rfl) (fun W' hS' => ?_) ?_ -- 3
  rotate_left
  · have c0 := (hS'.1.1.cell 0).trans p.c0; have cb := hS'.2.cell 0; rw [List.getElem?_cons_zero] at cb; rw [hke] at c0; clear hS'; (go_simp; first | with_reducible rfl | rfl)
  try simp only [Act.put, List.setIfInBounds_toArray, List.set_cons_zero, List.set_cons_succ]
  refine hd_pure (v := ?_) (by rfl) (fun W' hS' => ?_) ?_ -- 4
  rotate_left
  · have c0 := (hS'.1.1.cell 0).trans p.c0; have cb := hS'.2.cell 0; rw [List.getElem?_cons_zero] at cb; rw [hke] at c0; clear hS'; (go_simp; first | with_reducible rfl | rfl)
  try simp only [Act.put, List.setIfInBounds_toArray, List.set_cons_zero, List.set_cons_succ]
  refine hd_pure (v := ?_) (by rfl) (fun W' hS' => ?_) ?_ -- 5
  rotate_left
  · have c0 := (hS'.1.1.cell 0).trans p.c0; have cb := hS'.2.cell 0; rw [List.getElem?_cons_zero] at cb; rw [hke] at c0; clear hS'; (go_simp; first | with_reducible rfl | rfl)
  try simp only [Act.put, List.setIfInBounds_toArray, List.set_cons_zero, List.set_cons_succ]
  refine hd_sole (by rfl) (fun K hK => ?_) -- 6
  go_simp
  refine (width_any _ _).mono ?_; rintro e w' ⟨rfl, rfl⟩
  refine hK _ _ (⟨hSW.1.1.bx, hSW.1.2⟩) ?_
  clear hK K
  intro hSW6
  clear hSW6; rw [show widthOf 4 = 4 from rfl]
  try simp only [Act.put, List.setIfInBounds_toArray, List.set_cons_zero, List.set_cons_succ]
  refine hd_pure (v := ?_) (by rfl) (fun W' hS' => ?_) ?_ -- 7
  rotate_left
  · have c0 := (hS'.1.1.cell 0).trans p.c0; have cb := hS'.2.cell 0; rw [List.getElem?_cons_zero] at cb; rw [hke] at c0; clear hS'; (go_simp; first | with_reducible rfl | rfl)
  try simp only [Act.put, List.setIfInBounds_toArray, List.set_cons_zero, List.set_cons_succ]
  refine hd_sole (by rfl) (fun K hK => ?_) -- 8
  refine wp_append_any _ _ _ 29 rfl base 5 i0 _ 1 1 Tryz.underlying29 hi0 hz0 hz1 hz2 rfl (by omega) _ 12 _ rfl hSW.2 (w.heap.size + 1) (some ⟨w.heap.size, 6, none⟩) 4 16 _ rfl (Pdu.reads_addr hSW.1.1.bx.1 4 (by omega)) (bv_one _) (by simp only [maxLen]; omega) (by omega) hSW.1.1.sz ?_
  intro v2 w2 ho2 hg2 _
  obtain ⟨A2, c2, rfl⟩ := own_slice' ho2
  have hbx2 := hSW.1.2.grown hg2 (fun e => own_blk_ne hSW.2 hSW.1.2 (by decide) e.symm)
  refine hK _ _ (⟨⟨hSW.1.1.bx.1.grown hg2 (fun e => own_blk_ne hSW.2 hSW.1.1.bx.1 (by decide) e.symm), hSW.1.1.bx.2.grown hg2 hSW.1.1.bx.2.size (fun k hk => by have := (own_base_le hSW.2 k hk).1; have := hSW.1.1.lt; omega)⟩, hbx2⟩) ?_
  clear hK K
  intro hSW8
  try simp only [Act.put, List.setIfInBounds_toArray, List.set_cons_zero, List.set_cons_succ]
  refine hd_nil ?_
  clear hSW8; have cb2 := hbx2.cell 0; have fb2 := hbx2.frozen 0; rw [List.getElem?_cons_zero] at cb2
  go_wp2_with fail
  refine NoPanic.normal ?_
  have hy : xs.map bv ++ (p.v.p.a.l.take 4).map bv = (xs ++ p.v.p.a.l.take 4).map bv := by simp
  have hyl : 12 + 4 = (xs ++ p.v.p.a.l.take 4).length := by simp [HXL.out, p.v.p.a.h]
  rw [hy] at ho2
  have hf := OutV.store (ys := xs ++ p.v.p.a.l.take 4) (xs := xs) hSW.1.2 (by rw [HXL.out]; exact hSW.2) hE.le hSW.1.1.sz hg2 (by rw [← hyl]; exact ho2)
  refine exit_gen (WS w p bo base (xs ++ p.v.p.a.l.take 4)) (hSW.1.1.lay hf.1 hf.2) ?_
  have Hyl := Lib.hid hyl
  clear hE hf hyl hy ho2 hbx2 cb2 fb2 hg2 hSW hbv cv Hov hi0 hz0 hz1 hz2
  intro W8 hE
  have c4 := (hE.bx.1.cell 4).trans p.c4
  have hsl := p.v.asn.toNat_lt
  have hsw : IntKind.i64.wrap (p.v.asn.toNat : Int) = p.v.asn.toNat := IntWalk.i64_in _ (by omega)
  clear hsl
  go_wp2_with fail
  refine (lay_4 p.v.asn.toNat bo base _ _ (by have := p.v.asn.toNat_lt; omega) hE.out hE.le hE.sz (by rw [← Hyl.out]; omega)).mono ?_
  rintro e w9 ⟨rfl, ho2, hb2, hst⟩
  replace hE := hE.lay ho2 hb2
  clear hst ho2 hb2 c4 hsw
  have hfin : xs ++ p.v.p.a.l.take 4 ++ beB p.v.asn.toNat 4 = wrHead p ++ (beB (if p.add then 1 else 0) 1 ++ beB p.v.p.len.toNat 1 ++ beB p.v.mx.toNat 1 ++ beB 0 1 ++ p.v.p.a.l.take 4 ++ beB p.v.asn.toNat 4) := by
    rw [← HXS.out, HA.out]; simp
  rw [hfin] at hE
  clear hfin
  have hEw := hE.cast (show _ = wrB p by have e : wrB p = wrHead p ++ wrBody p := rfl; rw [e, HB.out]; all_goals simp)
  clear hE
  obtain ⟨v, hbv, hov⟩ := hEw.out
  have cv := hbv.cell 0
  rw [List.getElem?_cons_zero] at cv
  obtain ⟨A, c, rfl⟩ := own_slice' hov
  go_wp2
  go_ret2
  exact ⟨fun _ => ⟨_, rfl, own_base_mono hov (Nat.le_of_lt hEw.lt)⟩, fun h => (by rw [H.out] at h; cases h), hEw.bx.2⟩
set_option maxRecDepth 100000 in
set_option maxHeartbeats 4000000 in
theorem write_k4f (p : Pdu) (w : World) (h : pduOk p = true) (hke : p.kind = 4) (hadd : p.add = false) : Calls Tryz.prog 34 #[p.val] w (WrPost p w) := by
  have HA := Lib.hid hadd
  clear hadd
  simp only [Pdu.val]
  obtain ⟨hk, hn, hmin, hmax, htx, hv⟩ := ok_parts h
  obtain ⟨hk0, hk1⟩ := kind_bd hk
  have H := Lib.hid h
  have HKE := Lib.hid hke
  clear h hn hke hk
  have hX := Bx.new w p
  have hkw : IntKind.u8.wrap p.kind = p.kind := by rw [IntKind.wrap_u8]; omega
  have hkb : Value.int .u8 p.kind = bv (UInt8.ofNat p.kind.toNat) := by
    unfold bv; rw [UInt8.toNat_ofNat']; congr 1; omega
  obtain ⟨hlb0, hlb1⟩ := lenOf_bd p.kind
  have hadd : IntKind.i64.wrap (lenOf p.kind + (p.text.size : Int)) = lenOf p.kind + (p.text.size : Int) := IntWalk.i64_in _ (by omega)
  have HKB := Lib.hid hkb
  have HADD := Lib.hid hadd
  clear hkb hadd
  go_enter Tryz.func34, Tryz.ntmps34
  go_upto_region 5 with (first | (refine wpList_load_at rfl 69 _ rfl w.heap.size 0 26 rfl _ _ hX.1.range (Pdu.cells_length _) Tryz.underlying69 rfl info_pdu ?_) | (go_at_call 55; refine (right_any p _).mono ?_; rintro e w1 ⟨rfl, hb1⟩; replace hX := hX.next hb1; rw [H.out]; clear hb1; have c0 := (hX.1.cell 0).trans p.c0))
  refine wp_gen (WS w p (w1.heap.size + 1) w1.heap.size [1, UInt8.ofNat p.kind.toNat]) (ws_start hX 1 _ _ _ rfl HKB.out _ rfl) ?_
  clear c0 hX hkw HKB
  generalize w1.heap.size + 1 = bo
  generalize w1.heap.size = base
  intro W hW
  have c1 := (hW.bx.1.cell 1).trans p.c1
  have c24 := (hW.bx.1.cell 24).trans p.c24
  go_wp2_with fail
  refine (layI_2 (imax p.session p.code) bo base _ _ (by rw [imax_eq]; rw [imin_eq] at hmin; omega) (by omega) hW.out hW.le hW.sz (by simp)).mono ?_
  rintro e w2 ⟨rfl, ho2, hb2, hst⟩
  replace hW := hW.lay ho2 hb2
  clear hst ho2 hb2 c1 c24
  go_wp2_with fail
  refine reg_sch2 9 [(true, 0), (true, 2), (true, 3), (true, 5), (true, 6), (true, 7), (false, 1), (false, 4), (true, 8)] (by kernel_rfl) (by kernel_rfl) (WS w p bo base ([1, UInt8.ofNat p.kind.toNat] ++ beB (imax p.session p.code).toNat 2)) (WS w p bo base ([1, UInt8.ofNat p.kind.toNat] ++ beB (imax p.session p.code).toNat 2)) ?_ ?_ ?_
  · exact hW.drew
  · exact fun _ h => h
  intro W hSW
  simp only [List.map_cons, List.map_nil, List.getD_cons_zero, List.getD_cons_succ, List.drop_succ_cons, List.drop_zero]
  refine hd_pure (v := ?_) (by rfl) (fun W' hS' => ?_) ?_ -- 0
  rotate_left
  · have c0 := (hS'.bx.1.cell 0).trans p.c0; have c25 := (hS'.bx.1.cell 25).trans p.c25; have hadd := HADD.out; clear hS'; (go_simp; first | with_reducible rfl | rfl)
  try simp only [Act.put, List.setIfInBounds_toArray, List.set_cons_zero, List.set_cons_succ]
  refine hd_pure (v := ?_) (by rfl) (fun W' hS' => ?_) ?_ -- 2
  rotate_left
  · have c0 := (hS'.bx.1.cell 0).trans p.c0; have c25 := (hS'.bx.1.cell 25).trans p.c25; have hadd := HADD.out; clear hS'; (go_simp; first | with_reducible rfl | rfl)
  try simp only [Act.put, List.setIfInBounds_toArray, List.set_cons_zero, List.set_cons_succ]
  refine hd_pure (v := ?_) (by rfl) (fun W' hS' => ?_) ?_ -- 3
  rotate_left
  · have c0 := (hS'.bx.1.cell 0).trans p.c0; have c25 := (hS'.bx.1.cell 25).trans p.c25; have hadd := HADD.out; clear hS'; (go_simp; first | with_reducible rfl | rfl)
  try simp only [Act.put, List.setIfInBounds_toArray, List.set_cons_zero, List.set_cons_succ]
  refine hd_pure (v := ?_) (by rfl) (fun W' hS' => ?_) ?_ -- 5
  rotate_left
  · have c0 := (hS'.bx.1.cell 0).trans p.c0; have c25 := (hS'.bx.1.cell 25).trans p.c25; have hadd := HADD.out; clear hS'; (go_simp; first | with_reducible rfl | rfl)
  try simp only [Act.put, List.setIfInBounds_toArray, List.set_cons_zero, List.set_cons_succ]
  refine hd_pure (v := ?_) (by rfl) (fun W' hS' => ?_) ?_ -- 6
  rotate_left
  · have c0 := (hS'.bx.1.cell 0).trans p.c0; have c25 := (hS'.bx.1.cell 25).trans p.c25; have hadd := HADD.out; clear hS'; (go_simp; first | with_reducible rfl | rfl)
  try simp only [Act.put, List.setIfInBounds_toArray, List.set_cons_zero, List.set_cons_succ]
  refine hd_pure (v := ?_) (by rfl) (fun W' hS' => ?_) ?_ -- 7
  rotate_left
  · have c0 := (hS'.bx.1.cell 0).trans p.c0; have c25 := (hS'.bx.1.cell 25).trans p.c25; have hadd := HADD.out; clear hS'; (go_simp; first | with_reducible rfl | rfl)
  try simp only [Act.put, List.setIfInBounds_toArray, List.set_cons_zero, List.set_cons_succ]
  refine hd_sole (by rfl) (fun K hK => ?_) -- 1
  go_simp
  refine (lengths_any _).mono ?_; rintro e w' ⟨b, rfl, hm, hb⟩
  refine hK _ _ (hSW.below hb) ?_
  clear hK K hSW
  intro hSW
  clear hb; have hl := run_len _ b hm p.kind false; simp only [Bool.false_eq_true, if_false] at hl
  try simp only [Act.put, List.setIfInBounds_toArray, List.set_cons_zero, List.set_cons_succ]
  refine hd_sole (by rfl) (fun K hK => ?_) -- 4
  go_simp
  refine hK _ _ (hSW) ?_
  clear hK K hSW
  intro hSW
  clear hl hm
  try simp only [Act.put, List.setIfInBounds_toArray, List.set_cons_zero, List.set_cons_succ]
  refine hd_pure (v := ?_) (by rfl) (fun W' hS' => ?_) ?_ -- 8
  rotate_left
  · have c0 := (hS'.bx.1.cell 0).trans p.c0; have c25 := (hS'.bx.1.cell 25).trans p.c25; have hadd := HADD.out; clear hS'; (go_simp; first | with_reducible rfl | rfl)
  try simp only [Act.put, List.setIfInBounds_toArray, List.set_cons_zero, List.set_cons_succ]
  refine hd_nil ?_
  replace hW := hSW; clear hSW
  go_wp2_with (go_at_call 56; refine (layI_4 (lenOf p.kind + (p.text.size : Int)) bo base _ _ (by omega) (by omega) hW.out hW.le hW.sz (by simp [beB_length])).mono ?_; rintro e w3 ⟨rfl, ho2, hb2, hst⟩; replace hW := hW.lay ho2 hb2; clear hst ho2 hb2)
  refine NoPanic.normal ?_
  refine exit_gen (WS w p bo base (wrHead p)) (by unfold wrHead; exact hW) ?_
  clear hW HADD
  intro W5 hE
  have c0 := (hE.bx.1.cell 0).trans p.c0
  have hhl : (wrHead p).length = 8 := by simp [wrHead, beB_length]
  have HHL := Lib.hid hhl
  clear hhl
  have hke := HKE.out
  clear HKE hk0 hk1 hlb0 hlb1
  have HB := Lib.hid (show wrBody p = beB (if p.add then 1 else 0) 1 ++ beB p.v.p.len.toNat 1 ++ beB p.v.mx.toNat 1 ++ beB 0 1 ++ p.v.p.a.l.take 4 ++ beB p.v.asn.toNat 4 by simp [wrBody, hke, widthOf])
  obtain ⟨hvo, _⟩ := hv (by omega)
  obtain ⟨hl0, hl1, hm0, hm1⟩ := vrpOk_bd hvo
  clear hv hvo
  have c3 := (hE.bx.1.cell 3).trans p.c3
  rw [HA.out] at c3
  have c22 := (hE.bx.1.cell 22).trans p.c22
  have c23 := (hE.bx.1.cell 23).trans p.c23
  go_wp2_with fail
  have hgi : W5.heap.size ≠ bo := by obtain ⟨v, hbv, _⟩ := hE.out; have := hbv.lt; omega
  refine wp_gen (fun W => WS w p bo base (wrHead p) W ∧ Blk W W5.heap.size 3 [.int .i64 0, .int .i64 p.v.p.len, .int .i64 p.v.mx, .int .i64 0]) ⟨hE.below ((Below.refl _ _).alloc (Nat.le_refl _) _), blk_new' _ _ [.int .i64 0, .int .i64 p.v.p.len, .int .i64 p.v.mx, .int .i64 0] _ rfl⟩ ?_
  clear hE c3 c22 c23 c0
  generalize W5.heap.size = gi at hgi
  rintro W6 ⟨hE, hI⟩
  refine wp_loop_rounds 5 ?_
  rw [rounds_succ]
  have ci := hI.cell 0
  simp only [List.getElem?_cons_zero, List.getElem?_cons_succ] at ci
  go_wp2_with fail
  refine (layI_1 (0) bo base _ _ (by omega) (by omega) hE.out hE.le hE.sz (by simp only [List.length_append, HHL.out, beB_length]; omega)).mono ?_
  rintro e w7 ⟨rfl, ho2, hb2, hst⟩
  replace hE := hE.lay ho2 hb2
  replace hI := hst _ _ _ (by decide) hgi hI
  clear hst ho2 hb2 ci
  go_wp2_with fail
  rw [rounds_succ]
  have ci := hI.cell 1
  simp only [List.getElem?_cons_zero, List.getElem?_cons_succ] at ci
  go_wp2_with fail
  refine (layI_1 (p.v.p.len) bo base _ _ (by omega) (by omega) hE.out hE.le hE.sz (by simp only [List.length_append, HHL.out, beB_length]; omega)).mono ?_
  rintro e w7 ⟨rfl, ho2, hb2, hst⟩
  replace hE := hE.lay ho2 hb2
  replace hI := hst _ _ _ (by decide) hgi hI
  clear hst ho2 hb2 ci
  go_wp2_with fail
  rw [rounds_succ]
  have ci := hI.cell 2
  simp only [List.getElem?_cons_zero, List.getElem?_cons_succ] at ci
  go_wp2_with fail
  refine (layI_1 (p.v.mx) bo base _ _ (by omega) (by omega) hE.out hE.le hE.sz (by simp only [List.length_append, HHL.out, beB_length]; omega)).mono ?_
  rintro e w7 ⟨rfl, ho2, hb2, hst⟩
  replace hE := hE.lay ho2 hb2
  replace hI := hst _ _ _ (by decide) hgi hI
  clear hst ho2 hb2 ci
  go_wp2_with fail
  rw [rounds_succ]
  have ci := hI.cell 3
  simp only [List.getElem?_cons_zero, List.getElem?_cons_succ] at ci
  go_wp2_with fail
  refine (layI_1 (0) bo base _ _ (by omega) (by omega) hE.out hE.le hE.sz (by simp only [List.length_append, HHL.out, beB_length]; omega)).mono ?_
  rintro e w7 ⟨rfl, ho2, hb2, hst⟩
  replace hE := hE.lay ho2 hb2
  replace hI := hst _ _ _ (by decide) hgi hI
  clear hst ho2 hb2 ci
  go_wp2_with fail
  rw [rounds_succ]
  clear hI
  go_wp2_with fail
  generalize hxs : wrHead p ++ beB (Int.toNat 0) 1 ++ beB p.v.p.len.toNat 1 ++ beB p.v.mx.toNat 1 ++ beB (Int.toNat 0) 1 = xs at hE
  have HXS := Lib.hid hxs
  have HXL := Lib.hid (show xs.length = 12 by rw [← hxs]; simp only [List.length_append, HHL.out, beB_length])
  clear hxs
  obtain ⟨i0, hi0, hz0, hz1, hz2⟩ := info_parts info5b
  obtain ⟨v, hbv, hov⟩ := hE.out
  rw [HXL.out] at hov
  obtain ⟨A, c, rfl⟩ := own_slice' hov
  have Hov := Lib.hid hov
  clear hov
  have cv := hbv.cell 0
  rw [List.getElem?_cons_zero] at cv
  refine reg_sch2 9 [(true, 0), (true, 1), (true, 2), (true, 3), (true, 4), (true, 5), (false, 6), (true, 7), (false, 8)] (by kernel_rfl) (by kernel_rfl) (fun W => Bx w p W ∧ Blk W bo 29 [Value.slice A 12 c]) (fun W => (WS w p bo base xs W ∧ Blk W bo 29 [Value.slice A 12 c]) ∧ W.ownsRow base 5 1 (Value.slice A 12 c) 12 (xs.map bv)) ?_ ?_ ?_
  · exact ⟨⟨hE.drew, hbv.drew⟩, own_below Hov.out (Below.refl _ _).drew⟩
  · exact fun _ h => ⟨h.1.1.bx, h.1.2⟩
  intro W hSW
  simp only [List.map_cons, List.map_nil, List.getD_cons_zero, List.getD_cons_succ, List.drop_succ_cons, List.drop_zero]
  refine hd_pure (v := ?_) (by rfl) (fun W' hS' => ?_) ?_ -- 0
  rotate_left
  · have c0 := (hS'.1.1.cell 0).trans p.c0; have cb := hS'.2.cell 0; rw [List.getElem?_cons_zero] at cb; rw [hke] at c0; clear hS'; (go_simp; first | with_reducible rfl | rfl)
  try simp only [Act.put, List.setIfInBounds_toArray, List.set_cons_zero, List.set_cons_succ]
  refine hd_pure (v := ?_) (by rfl) (fun W' hS' => ?_) ?_ -- 1
  rotate_left
  · have c0 := (hS'.1.1.cell 0).trans p.c0; have cb := hS'.2.cell 0; rw [List.getElem?_cons_zero] at cb; rw [hke] at c0; clear hS'; (go_simp; first | with_reducible rfl | rfl)
  try simp only [Act.put, List.setIfInBounds_toArray, List.set_cons_zero, List.set_cons_succ]
  refine hd_pure (v := ?_) (by rfl) (fun W' hS' => ?_) ?_ -- 2
  rotate_left
  · have c0 := (hS'.1.1.cell 0).trans p.c0; have cb := hS'.2.cell 0; rw [List.getElem?_cons_zero] at cb; rw [hke] at c0; clear hS'; (go_simp; first | with_reducible rfl | rfl)
  try simp only [Act.put, List.setIfInBounds_toArray, List.set_cons_zero, List.set_cons_succ]
  refine hd_pure (v := ?_) (by rfl) (fun W' hS' => ?_) ?_ -- 3
  rotate_left
  · have c0 := (hS'.1.1.cell 0).trans p.c0; have cb := hS'.2.cell 0; rw [List.getElem?_cons_zero] at cb; rw [hke] at c0; clear hS'; (go_simp; first | with_reducible rfl | rfl)
  try simp only [Act.put, List.setIfInBounds_toArray, List.set_cons_zero, List.set_cons_succ]
  refine hd_pure (v := ?_) (by rfl) (fun W' hS' => ?_) ?_ -- 4
  rotate_left
  · have c0 := (hS'.1.1.cell 0).trans p.c0; have cb := hS'.2.cell 0; rw [List.getElem?_cons_zero] at cb; rw [hke] at c0; clear hS'; (go_simp; first | with_reducible rfl | rfl)
  try simp only [Act.put, List.setIfInBounds_toArray, List.set_cons_zero, List.set_cons_succ]
  refine hd_pure (v := ?_) (by rfl) (fun W' hS' => ?_) ?_ -- 5
  rotate_left
  · have c0 := (hS'.1.1.cell 0).trans p.c0; have cb := hS'.2.cell 0; rw [List.getElem?_cons_zero] at cb; rw [hke] at c0; clear hS'; (go_simp; first | with_reducible rfl | rfl)
  try simp only [Act.put, List.setIfInBounds_toArray, List.set_cons_zero, List.set_cons_succ]
  refine hd_sole (by rfl) (fun K hK => ?_) -- 6
  go_simp
  refine (width_any _ _).mono ?_; rintro e w' ⟨rfl, rfl⟩
  refine hK _ _ (⟨hSW.1.1.bx, hSW.1.2⟩) ?_
  clear hK K
  intro hSW6
  clear hSW6; rw [show widthOf 4 = 4 from rfl]
  try simp only [Act.put, List.setIfInBounds_toArray, List.set_cons_zero, List.set_cons_succ]
  refine hd_pure (v := ?_) (by rfl) (fun W' hS' => ?_) ?_ -- 7
  rotate_left
  · have c0 := (hS'.1.1.cell 0).trans p.c0; have cb := hS'.2.cell 0; rw [List.getElem?_cons_zero] at cb; rw [hke] at c0; clear hS'; (go_simp; first | with_reducible rfl | rfl)
  try simp only [Act.put, List.setIfInBounds_toArray, List.set_cons_zero, List.set_cons_succ]
  refine hd_sole (by rfl) (fun K hK => ?_) -- 8
  refine wp_append_any _ _ _ 29 rfl base 5 i0 _ 1 1 Tryz.underlying29 hi0 hz0 hz1 hz2 rfl (by omega) _ 12 _ rfl hSW.2 (w.heap.size + 1) (some ⟨w.heap.size, 6, none⟩) 4 16 _ rfl (Pdu.reads_addr hSW.1.1.bx.1 4 (by omega)) (bv_one _) (by simp only [maxLen]; omega) (by omega) hSW.1.1.sz ?_
  intro v2 w2 ho2 hg2 _
  obtain ⟨A2, c2, rfl⟩ := own_slice' ho2
  have hbx2 := hSW.1.2.grown hg2 (fun e => own_blk_ne hSW.2 hSW.1.2 (by decide) e.symm)
  refine hK _ _ (⟨⟨hSW.1.1.bx.1.grown hg2 (fun e => own_blk_ne hSW.2 hSW.1.1.bx.1 (by decide) e.symm), hSW.1.1.bx.2.grown hg2 hSW.1.1.bx.2.size (fun k hk => by have := (own_base_le hSW.2 k hk).1; have := hSW.1.1.lt; omega)⟩, hbx2⟩) ?_
  clear hK K
  intro hSW8
  try simp only [Act.put, List.setIfInBounds_toArray, List.set_cons_zero, List.set_cons_succ]
  refine hd_nil ?_
  clear hSW8; have cb2 := hbx2.cell 0; have fb2 := hbx2.frozen 0; rw [List.getElem?_cons_zero] at cb2
  go_wp2_with fail
  refine NoPanic.normal ?_
  have hy : xs.map bv ++ (p.v.p.a.l.take 4).map bv = (xs ++ p.v.p.a.l.take 4).map bv := by simp
  have hyl : 12 + 4 = (xs ++ p.v.p.a.l.take 4).length := by simp [HXL.out, p.v.p.a.h]
  rw [hy] at ho2
  have hf := OutV.store (ys := xs ++ p.v.p.a.l.take 4) (xs := xs) hSW.1.2 (by rw [HXL.out]; exact hSW.2) hE.le hSW.1.1.sz hg2 (by rw [← hyl]; exact ho2)
  refine exit_gen (WS w p bo base (xs ++ p.v.p.a.l.take 4)) (hSW.1.1.lay hf.1 hf.2) ?_
  have Hyl := Lib.hid hyl
  clear hE hf hyl hy ho2 hbx2 cb2 fb2 hg2 hSW hbv cv Hov hi0 hz0 hz1 hz2
  intro W8 hE
  have c4 := (hE.bx.1.cell 4).trans p.c4
  have hsl := p.v.asn.toNat_lt
  have hsw : IntKind.i64.wrap (p.v.asn.toNat : Int) = p.v.asn.toNat := IntWalk.i64_in _ (by omega)
  clear hsl
  go_wp2_with fail
  refine (lay_4 p.v.asn.toNat bo base _ _ (by have := p.v.asn.toNat_lt; omega) hE.out hE.le hE.sz (by rw [← Hyl.out]; omega)).mono ?_
  rintro e w9 ⟨rfl, ho2, hb2, hst⟩
  replace hE := hE.lay ho2 hb2
  clear hst ho2 hb2 c4 hsw
  have hfin : xs ++ p.v.p.a.l.take 4 ++ beB p.v.asn.toNat 4 = wrHead p ++ (beB (if p.add then 1 else 0) 1 ++ beB p.v.p.len.toNat 1 ++ beB p.v.mx.toNat 1 ++ beB 0 1 ++ p.v.p.a.l.take 4 ++ beB p.v.asn.toNat 4) := by
    rw [← HXS.out, HA.out]; simp
  rw [hfin] at hE
  clear hfin
  have hEw := hE.cast (show _ = wrB p by have e : wrB p = wrHead p ++ wrBody p := rfl; rw [e, HB.out]; all_goals simp)
  clear hE
  obtain ⟨v, hbv, hov⟩ := hEw.out
  have cv := hbv.cell 0
  rw [List.getElem?_cons_zero] at cv
  obtain ⟨A, c, rfl⟩ := own_slice' hov
  go_wp2
  go_ret2
  exact ⟨fun _ => ⟨_, rfl, own_base_mono hov (Nat.le_of_lt hEw.lt)⟩, fun h => (by rw [H.out] at h; cases h), hEw.bx.2⟩
set_option maxRecDepth 100000 in
set_option maxHeartbeats 4000000 in
theorem write_k6t (p : Pdu) (w : World) (h : pduOk p = true) (hke : p.kind = 6) (hadd : p.add = true) : Calls Tryz.prog 34 #[p.val] w (WrPost p w) := by
  have HA := Lib.hid hadd
  clear hadd
  simp only [Pdu.val]
  obtain ⟨hk, hn, hmin, hmax, htx, hv⟩ := ok_parts h
  obtain ⟨hk0, hk1⟩ := kind_bd hk
  have H := Lib.hid h
  have HKE := Lib.hid hke
  clear h hn hke hk
  have hX := Bx.new w p
  have hkw : IntKind.u8.wrap p.kind = p.kind := by rw [IntKind.wrap_u8]; omega
  have hkb : Value.int .u8 p.kind = bv (UInt8.ofNat p.kind.toNat) := by
    unfold bv; rw [UInt8.toNat_ofNat']; congr 1; omega
  obtain ⟨hlb0, hlb1⟩ := lenOf_bd p.kind
  have hadd : IntKind.i64.wrap (lenOf p.kind + (p.text.size : Int)) = lenOf p.kind + (p.text.size : Int) := IntWalk.i64_in _ (by omega)
  have HKB := Lib.hid hkb
  have HADD := Lib.hid hadd
  clear hkb hadd
  go_enter Tryz.func34, Tryz.ntmps34
  go_upto_region 5 with (first | (refine wpList_load_at rfl 69 _ rfl w.heap.size 0 26 rfl _ _ hX.1.range (Pdu.cells_length _) Tryz.underlying69 rfl info_pdu ?_) | (go_at_call 55; refine (right_any p _).mono ?_; rintro e w1 ⟨rfl, hb1⟩; replace hX := hX.next hb1; rw [H.out]; clear hb1; have c0 := (hX.1.cell 0).trans p.c0))
  refine wp_gen (WS w p (w1.heap.size + 1) w1.heap.size [1, UInt8.ofNat p.kind.toNat]) (ws_start hX 1 _ _ _ rfl HKB.out _ rfl) ?_
  clear c0 hX hkw HKB
  generalize w1.heap.size + 1 = bo
  generalize w1.heap.size = base
  intro W hW
  have c1 := (hW.bx.1.cell 1).trans p.c1
  have c24 := (hW.bx.1.cell 24).trans p.c24
  go_wp2_with fail
  refine (layI_2 (imax p.session p.code) bo base _ _ (by rw [imax_eq]; rw [imin_eq] at hmin; omega) (by omega) hW.out hW.le hW.sz (by simp)).mono ?_
  rintro e w2 ⟨rfl, ho2, hb2, hst⟩
  replace hW := hW.lay ho2 hb2
  clear hst ho2 hb2 c1 c24
  go_wp2_with fail
  refine reg_sch2 9 [(true, 0), (true, 2), (true, 3), (true, 5), (true, 6), (true, 7), (false, 1), (false, 4), (true, 8)] (by kernel_rfl) (by kernel_rfl) (WS w p bo base ([1, UInt8.ofNat p.kind.toNat] ++ beB (imax p.session p.code).toNat 2)) (WS w p bo base ([1, UInt8.ofNat p.kind.toNat] ++ beB (imax p.session p.code).toNat 2)) ?_ ?_ ?_
  · exact hW.drew
  · exact fun _ h => h
  intro W hSW
  simp only [List.map_cons, List.map_nil, List.getD_cons_zero, List.getD_cons_succ, List.drop_succ_cons, List.drop_zero]
  refine hd_pure (v := ?_) (by rfl) (fun W' hS' => ?_) ?_ -- 0
  rotate_left
  · have c0 := (hS'.bx.1.cell 0).trans p.c0; have c25 := (hS'.bx.1.cell 25).trans p.c25; have hadd := HADD.out; clear hS'; (go_simp; first | with_reducible rfl | rfl)
  try simp only [Act.put, List.setIfInBounds_toArray, List.set_cons_zero, List.set_cons_succ]
  refine hd_pure (v := ?_) (by rfl) (fun W' hS' => ?_) ?_ -- 2
  rotate_left
  · have c0 := (hS'.bx.1.cell 0).trans p.c0; have c25 := (hS'.bx.1.cell 25).trans p.c25; have hadd := HADD.out; clear hS'; (go_simp; first | with_reducible rfl | rfl)
  try simp only [Act.put, List.setIfInBounds_toArray, List.set_cons_zero, List.set_cons_succ]
  refine hd_pure (v := ?_) (by rfl) (fun W' hS' => ?_) ?_ -- 3
  rotate_left
  · have c0 := (hS'.bx.1.cell 0).trans p.c0; have c25 := (hS'.bx.1.cell 25).trans p.c25; have hadd := HADD.out; clear hS'; (go_simp; first | with_reducible rfl | rfl)
  try simp only [Act.put, List.setIfInBounds_toArray, List.set_cons_zero, List.set_cons_succ]
  refine hd_pure (v := ?_) (by rfl) (fun W' hS' => ?_) ?_ -- 5
  rotate_left
  · have c0 := (hS'.bx.1.cell 0).trans p.c0; have c25 := (hS'.bx.1.cell 25).trans p.c25; have hadd := HADD.out; clear hS'; (go_simp; first | with_reducible rfl | rfl)
  try simp only [Act.put, List.setIfInBounds_toArray, List.set_cons_zero, List.set_cons_succ]
  refine hd_pure (v := ?_) (by rfl) (fun W' hS' => ?_) ?_ -- 6
  rotate_left
  · have c0 := (hS'.bx.1.cell 0).trans p.c0; have c25 := (hS'.bx.1.cell 25).trans p.c25; have hadd := HADD.out; clear hS'; (go_simp; first | with_reducible rfl | rfl)
  try simp only [Act.put, List.setIfInBounds_toArray, List.set_cons_zero, List.set_cons_succ]
  refine hd_pure (v := ?_) (by rfl) (fun W' hS' => ?_) ?_ -- 7
  rotate_left
  · have c0 := (hS'.bx.1.cell 0).trans p.c0; have c25 := (hS'.bx.1.cell 25).trans p.c25; have hadd := HADD.out; clear hS'; (go_simp; first | with_reducible rfl | rfl)
  try simp only [Act.put, List.setIfInBounds_toArray, List.set_cons_zero, List.set_cons_succ]
  refine hd_sole (by rfl) (fun K hK => ?_) -- 1
  go_simp
  refine (lengths_any _).mono ?_; rintro e w' ⟨b, rfl, hm, hb⟩
  refine hK _ _ (hSW.below hb) ?_
  clear hK K hSW
  intro hSW
  clear hb; have hl := run_len _ b hm p.kind false; simp only [Bool.false_eq_true, if_false] at hl
  try simp only [Act.put, List.setIfInBounds_toArray, List.set_cons_zero, List.set_cons_succ]
  refine hd_sole (by rfl) (fun K hK => ?_) -- 4
  go_simp
  refine hK _ _ (hSW) ?_
  clear hK K hSW
  intro hSW
  clear hl hm
  try simp only [Act.put, List.setIfInBounds_toArray, List.set_cons_zero, List.set_cons_succ]
  refine hd_pure (v := ?_) (by rfl) (fun W' hS' => ?_) ?_ -- 8
  rotate_left
  · have c0 := (hS'.bx.1.cell 0).trans p.c0; have c25 := (hS'.bx.1.cell 25).trans p.c25; have hadd := HADD.out; clear hS'; (go_simp; first | with_reducible rfl | rfl)
  try simp only [Act.put, List.setIfInBounds_toArray, List.set_cons_zero, List.set_cons_succ]
  refine hd_nil ?_
  replace hW := hSW; clear hSW
  go_wp2_with (go_at_call 56; refine (layI_4 (lenOf p.kind + (p.text.size : Int)) bo base _ _ (by omega) (by omega) hW.out hW.le hW.sz (by simp [beB_length])).mono ?_; rintro e w3 ⟨rfl, ho2, hb2, hst⟩; replace hW := hW.lay ho2 hb2; clear hst ho2 hb2)
  refine NoPanic.normal ?_
  refine exit_gen (WS w p bo base (wrHead p)) (by unfold wrHead; exact hW) ?_
  clear hW HADD
  intro W5 hE
  have c0 := (hE.bx.1.cell 0).trans p.c0
  have hhl : (wrHead p).length = 8 := by simp [wrHead, beB_length]
  have HHL := Lib.hid hhl
  clear hhl
  have hke := HKE.out
  clear HKE hk0 hk1 hlb0 hlb1
  have HB := Lib.hid (show wrBody p = beB (if p.add then 1 else 0) 1 ++ beB p.v.p.len.toNat 1 ++ beB p.v.mx.toNat 1 ++ beB 0 1 ++ p.v.p.a.l.take 16 ++ beB p.v.asn.toNat 4 by simp [wrBody, hke, widthOf])
  obtain ⟨hvo, _⟩ := hv (by omega)
  obtain ⟨hl0, hl1, hm0, hm1⟩ := vrpOk_bd hvo
  clear hv hvo
  have c3 := (hE.bx.1.cell 3).trans p.c3
  rw [HA.out] at c3
  have c22 := (hE.bx.1.cell 22).trans p.c22
  have c23 := (hE.bx.1.cell 23).trans p.c23
  go_wp2_with fail
  have hgi : W5.heap.size ≠ bo := by obtain ⟨v, hbv, _⟩ := hE.out; have := hbv.lt; omega
  refine wp_gen (fun W => WS w p bo base (wrHead p) W ∧ Blk W W5.heap.size 3 [.int .i64 1, .int .i64 p.v.p.len, .int .i64 p.v.mx, .int .i64 0]) ⟨hE.below ((Below.refl _ _).alloc (Nat.le_refl _) _), blk_new' _ _ [.int .i64 1, .int .i64 p.v.p.len, .int .i64 p.v.mx, .int .i64 0] _ rfl⟩ ?_
  clear hE c3 c22 c23 c0
  generalize W5.heap.size = gi at hgi
  rintro W6 ⟨hE, hI⟩
  refine wp_loop_rounds 5 ?_
  rw [rounds_succ]
  have ci := hI.cell 0
  simp only [List.getElem?_cons_zero, List.getElem?_cons_succ] at ci
  go_wp2_with fail
  refine (layI_1 (1) bo base _ _ (by omega) (by omega) hE.out hE.le hE.sz (by simp only [List.length_append, HHL.out, beB_length]; omega)).mono ?_
  rintro e w7 ⟨rfl, ho2, hb2, hst⟩
  replace hE := hE.lay ho2 hb2
  replace hI := hst _ _ _ (by decide) hgi hI
  clear hst ho2 hb2 ci
  go_wp2_with fail
  rw [rounds_succ]
  have ci := hI.cell 1
  simp only [List.getElem?_cons_zero, List.getElem?_cons_succ] at ci
  go_wp2_with fail
  refine (layI_1 (p.v.p.len) bo base _ _ (by omega) (by omega) hE.out hE.le hE.sz (by simp only [List.length_append, HHL.out, beB_length]; omega)).mono ?_
  rintro e w7 ⟨rfl, ho2, hb2, hst⟩
  replace hE := hE.lay ho2 hb2
  replace hI := hst _ _ _ (by decide) hgi hI
  clear hst ho2 hb2 ci
  go_wp2_with fail
  rw [rounds_succ]
  have ci := hI.cell 2
  simp only [List.getElem?_cons_zero, List.getElem?_cons_succ] at ci
  go_wp2_with fail
  refine (layI_1 (p.v.mx) bo base _ _ (by omega) (by omega) hE.out hE.le hE.sz (by simp only [List.length_append, HHL.out, beB_length]; omega)).mono ?_
  rintro e w7 ⟨rfl, ho2, hb2, hst⟩
  replace hE := hE.lay ho2 hb2
  replace hI := hst _ _ _ (by decide) hgi hI
  clear hst ho2 hb2 ci
  go_wp2_with fail
  rw [rounds_succ]
  have ci := hI.cell 3
  simp only [List.getElem?_cons_zero, List.getElem?_cons_succ] at ci
  go_wp2_with fail
  refine (layI_1 (0) bo base _ _ (by omega) (by omega) hE.out hE.le hE.sz (by simp only [List.length_append, HHL.out, beB_length]; omega)).mono ?_
  rintro e w7 ⟨rfl, ho2, hb2, hst⟩
  replace hE := hE.lay ho2 hb2
  replace hI := hst _ _ _ (by decide) hgi hI
  clear hst ho2 hb2 ci
  go_wp2_with fail
  rw [rounds_succ]
  clear hI
  go_wp2_with fail
  generalize hxs : wrHead p ++ beB (Int.toNat 1) 1 ++ beB p.v.p.len.toNat 1 ++ beB p.v.mx.toNat 1 ++ beB (Int.toNat 0) 1 = xs at hE
  have HXS := Lib.hid hxs
  have HXL := Lib.hid (show xs.length = 12 by rw [← hxs]; simp only [List.length_append, HHL.out, beB_length])
  clear hxs
  obtain ⟨i0, hi0, hz0, hz1, hz2⟩ := info_parts info5b
  obtain ⟨v, hbv, hov⟩ := hE.out
  rw [HXL.out] at hov
  obtain ⟨A, c, rfl⟩ := own_slice' hov
  have Hov := Lib.hid hov
  clear hov
  have cv := hbv.cell 0
  rw [List.getElem?_cons_zero] at cv
  refine reg_sch2 9 [(true, 0), (true, 1), (true, 2), (true, 3), (true, 4), (true, 5), (false, 6), (true, 7), (false, 8)] (by kernel_rfl) (by kernel_rfl) (fun W => Bx w p W ∧ Blk W bo 29 [Value.slice A 12 c]) (fun W => (WS w p bo base xs W ∧ Blk W bo 29 [Value.slice A 12 c]) ∧ W.ownsRow base 5 1 (Value.slice A 12 c) 12 (xs.map bv)) ?_ ?_ ?_
  · exact ⟨⟨hE.drew, hbv.drew⟩, own_below Hov.out (Below.refl _ _).drew⟩
  · exact fun _ h => ⟨h.1.1.bx, h.1.2⟩
  intro W hSW
  simp only [List.map_cons, List.map_nil, List.getD_cons_zero, List.getD_cons_succ, List.drop_succ_cons, List.drop_zero]
  refine hd_pure (v := ?_) (by rfl) (fun W' hS' => ?_) ?_ -- 0
  rotate_left
  · have c0 := (hS'.1.1.cell 0).trans p.c0; have cb := hS'.2.cell 0; rw [List.getElem?_cons_zero] at cb; rw [hke] at c0; clear hS'; (go_simp; first | with_reducible rfl | rfl)
  try simp only [Act.put, List.setIfInBounds_toArray, List.set_cons_zero, List.set_cons_succ]
  refine hd_pure (v := ?_) (by rfl) (fun W' hS' => ?_) ?_ -- 1
  rotate_left
  · have c0 := (hS'.1.1.cell 0).trans p.c0; have cb := hS'.2.cell 0; rw [List.getElem?_cons_zero] at cb; rw [hke] at c0; clear hS'; (go_simp; first | with_reducible rfl | rfl)
  try simp only [Act.put, List.setIfInBounds_toArray, List.set_cons_zero, List.set_cons_succ]
  refine hd_pure (v := ?_) (by rfl) (fun W' hS' => ?_) ?_ -- 2
  rotate_left
  · have c0 := (hS'.1.1.cell 0).trans p.c0; have cb := hS'.2.cell 0; rw [List.getElem?_cons_zero] at cb; rw [hke] at c0; clear hS'; (go_simp; first | with_reducible rfl | rfl)
  try simp only [Act.put, List.setIfInBounds_toArray, List.set_cons_zero, List.set_cons_succ]
  refine hd_pure (v := ?_) (by rfl) (fun W' hS' => ?_) ?_ -- 3
  rotate_left
  · have c0 := (hS'.1.1.cell 0).trans p.c0; have cb := hS'.2.cell 0; rw [List.getElem?_cons_zero] at cb; rw [hke] at c0; clear hS'; (go_simp; first | with_reducible rfl | rfl)
  try simp only [Act.put, List.setIfInBounds_toArray, List.set_cons_zero, List.set_cons_succ]
  refine hd_pure (v := ?_) (by rfl) (fun W' hS' => ?_) ?_ -- 4
  rotate_left
  · have c0 := (hS'.1.1.cell 0).trans p.c0; have cb := hS'.2.cell 0; rw [List.getElem?_cons_zero] at cb; rw [hke] at c0; clear hS'; (go_simp; first | with_reducible rfl | rfl)
  try simp only [Act.put, List.setIfInBounds_toArray, List.set_cons_zero, List.set_cons_succ]
  refine hd_pure (v := ?_) (by rfl) (fun W' hS' => ?_) ?_ -- 5
  rotate_left
  · have c0 := (hS'.1.1.cell 0).trans p.c0; have cb := hS'.2.cell 0; rw [List.getElem?_cons_zero] at cb; rw [hke] at c0; clear hS'; (go_simp; first | with_reducible rfl | rfl)
  try simp only [Act.put, List.setIfInBounds_toArray, List.set_cons_zero, List.set_cons_succ]
  refine hd_sole (by rfl) (fun K hK => ?_) -- 6
  go_simp
  refine (width_any _ _).mono ?_; rintro e w' ⟨rfl, rfl⟩
  refine hK _ _ (⟨hSW.1.1.bx, hSW.1.2⟩) ?_
  clear hK K
  intro hSW6
  clear hSW6; rw [show widthOf 6 = 16 from rfl]
  try simp only [Act.put, List.setIfInBounds_toArray, List.set_cons_zero, List.set_cons_succ]
  refine hd_pure (v := ?_) (by rfl) (fun W' hS' => ?_) ?_ -- 7
  rotate_left
  · have c0 := (hS'.1.1.cell 0).trans p.c0; have cb := hS'.2.cell 0; rw [List.getElem?_cons_zero] at cb; rw [hke] at c0; clear hS'; (go_simp; first | with_reducible rfl | rfl)
  try simp only [Act.put, List.setIfInBounds_toArray, List.set_cons_zero, List.set_cons_succ]
  refine hd_sole (by rfl) (fun K hK => ?_) -- 8
  refine wp_append_any _ _ _ 29 rfl base 5 i0 _ 1 1 Tryz.underlying29 hi0 hz0 hz1 hz2 rfl (by omega) _ 12 _ rfl hSW.2 (w.heap.size + 1) (some ⟨w.heap.size, 6, none⟩) 16 16 _ rfl (Pdu.reads_addr hSW.1.1.bx.1 16 (by omega)) (bv_one _) (by simp only [maxLen]; omega) (by omega) hSW.1.1.sz ?_
  intro v2 w2 ho2 hg2 _
  obtain ⟨A2, c2, rfl⟩ := own_slice' ho2
  have hbx2 := hSW.1.2.grown hg2 (fun e => own_blk_ne hSW.2 hSW.1.2 (by decide) e.symm)
  refine hK _ _ (⟨⟨hSW.1.1.bx.1.grown hg2 (fun e => own_blk_ne hSW.2 hSW.1.1.bx.1 (by decide) e.symm), hSW.1.1.bx.2.grown hg2 hSW.1.1.bx.2.size (fun k hk => by have := (own_base_le hSW.2 k hk).1; have := hSW.1.1.lt; omega)⟩, hbx2⟩) ?_
  clear hK K
  intro hSW8
  try simp only [Act.put, List.setIfInBounds_toArray, List.set_cons_zero, List.set_cons_succ]
  refine hd_nil ?_
  clear hSW8; have cb2 := hbx2.cell 0; have fb2 := hbx2.frozen 0; rw [List.getElem?_cons_zero] at cb2
  go_wp2_with fail
  refine NoPanic.normal ?_
  have hy : xs.map bv ++ (p.v.p.a.l.take 16).map bv = (xs ++ p.v.p.a.l.take 16).map bv := by simp
  have hyl : 12 + 16 = (xs ++ p.v.p.a.l.take 16).length := by simp [HXL.out, p.v.p.a.h]
  rw [hy] at ho2
  have hf := OutV.store (ys := xs ++ p.v.p.a.l.take 16) (xs := xs) hSW.1.2 (by rw [HXL.out]; exact hSW.2) hE.le hSW.1.1.sz hg2 (by rw [← hyl]; exact ho2)
  refine exit_gen (WS w p bo base (xs ++ p.v.p.a.l.take 16)) (hSW.1.1.lay hf.1 hf.2) ?_
  have Hyl := Lib.hid hyl
  clear hE hf hyl hy ho2 hbx2 cb2 fb2 hg2 hSW hbv cv Hov hi0 hz0 hz1 hz2
  intro W8 hE
  have c4 := (hE.bx.1.cell 4).trans p.c4
  have hsl := p.v.asn.toNat_lt
  have hsw : IntKind.i64.wrap (p.v.asn.toNat : Int) = p.v.asn.toNat := IntWalk.i64_in _ (by omega)
  clear hsl
  go_wp2_with fail
  refine (lay_4 p.v.asn.toNat bo base _ _ (by have := p.v.asn.toNat_lt; omega) hE.out hE.le hE.sz (by rw [← Hyl.out]; omega)).mono ?_
  rintro e w9 ⟨rfl, ho2, hb2, hst⟩
  replace hE := hE.lay ho2 hb2
  clear hst ho2 hb2 c4 hsw
  have hfin : xs ++ p.v.p.a.l.take 16 ++ beB p.v.asn.toNat 4 = wrHead p ++ (beB (if p.add then 1 else 0) 1 ++ beB p.v.p.len.toNat 1 ++ beB p.v.mx.toNat 1 ++ beB 0 1 ++ p.v.p.a.l.take 16 ++ beB p.v.asn.toNat 4) := by
    rw [← HXS.out, HA.out]; simp
  rw [hfin] at hE
  clear hfin
  have hEw := hE.cast (show _ = wrB p by have e : wrB p = wrHead p ++ wrBody p := rfl; rw [e, HB.out]; all_goals simp)
  clear hE
  obtain ⟨v, hbv, hov⟩ := hEw.out
  have cv := hbv.cell 0
  rw [List.getElem?_cons_zero] at cv
  obtain ⟨A, c, rfl⟩ := own_slice' hov
  go_wp2
  go_ret2
  exact ⟨fun _ => ⟨_, rfl, own_base_mono hov (Nat.le_of_lt hEw.lt)⟩, fun h => (by rw [H.out] at h; cases h), hEw.bx.2⟩
set_option maxRecDepth 100000 in
set_option maxHeartbeats 4000000 in
theorem write_k6f (p : Pdu) (w : World) (h : pduOk p = true) (hke : p.kind = 6) (hadd : p.add = false) : Calls Tryz.prog 34 #[p.val] w (WrPost p w) := by
  have HA := Lib.hid hadd
  clear hadd
  simp only [Pdu.val]
  obtain ⟨hk, hn, hmin, hmax, htx, hv⟩ := ok_parts h
  obtain ⟨hk0, hk1⟩ := kind_bd hk
  have H := Lib.hid h
  have HKE := Lib.hid hke
  clear h hn hke hk
  have hX := Bx.new w p
  have hkw : IntKind.u8.wrap p.kind = p.kind := by rw [IntKind.wrap_u8]; omega
  have hkb : Value.int .u8 p.kind = bv (UInt8.ofNat p.kind.toNat) := by
    unfold bv; rw [UInt8.toNat_ofNat']; congr 1; omega
  obtain ⟨hlb0, hlb1⟩ := lenOf_bd p.kind
  have hadd : IntKind.i64.wrap (lenOf p.kind + (p.text.size : Int)) = lenOf p.kind + (p.text.size : Int) := IntWalk.i64_in _ (by omega)
  have HKB := Lib.hid hkb
  have HADD := Lib.hid hadd
  clear hkb hadd
  go_enter Tryz.func34, Tryz.ntmps34
  go_upto_region 5 with (first | (refine wpList_load_at rfl 69 _ rfl w.heap.size 0 26 rfl _ _ hX.1.range (Pdu.cells_length _) Tryz.underlying69 rfl info_pdu ?_) | (go_at_call 55; refine (right_any p _).mono ?_; rintro e w1 ⟨rfl, hb1⟩; replace hX := hX.next hb1; rw [H.out]; clear hb1; have c0 := (hX.1.cell 0).trans p.c0))
  refine wp_gen (WS w p (w1.heap.size + 1) w1.heap.size [1, UInt8.ofNat p.kind.toNat]) (ws_start hX 1 _ _ _ rfl HKB.out _ rfl) ?_
  clear c0 hX hkw HKB
  generalize w1.heap.size + 1 = bo
  generalize w1.heap.size = base
  intro W hW
  have c1 := (hW.bx.1.cell 1).trans p.c1
  have c24 := (hW.bx.1.cell 24).trans p.c24
  go_wp2_with fail
  refine (layI_2 (imax p.session p.code) bo base _ _ (by rw [imax_eq]; rw [imin_eq] at hmin; omega) (by omega) hW.out hW.le hW.sz (by simp)).mono ?_
  rintro e w2 ⟨rfl, ho2, hb2, hst⟩
  replace hW := hW.lay ho2 hb2
  clear hst ho2 hb2 c1 c24
  go_wp2_with fail
  refine reg_sch2 9 [(true, 0), (true, 2), (true, 3), (true, 5), (true, 6), (true, 7), (false, 1), (false, 4), (true, 8)] (by kernel_rfl) (by kernel_rfl) (WS w p bo base ([1, UInt8.ofNat p.kind.toNat] ++ beB (imax p.session p.code).toNat 2)) (WS w p bo base ([1, UInt8.ofNat p.kind.toNat] ++ beB (imax p.session p.code).toNat 2)) ?_ ?_ ?_
  · exact hW.drew
  · exact fun _ h => h
  intro W hSW
  simp only [List.map_cons, List.map_nil, List.getD_cons_zero, List.getD_cons_succ, List.drop_succ_cons, List.drop_zero]
  refine hd_pure (v := ?_) (by rfl) (fun W' hS' => ?_) ?_ -- 0
  rotate_left
  · have c0 := (hS'.bx.1.cell 0).trans p.c0; have c25 := (hS'.bx.1.cell 25).trans p.c25; have hadd := HADD.out; clear hS'; (go_simp; first | with_reducible rfl | rfl)
  try simp only [Act.put, List.setIfInBounds_toArray, List.set_cons_zero, List.set_cons_succ]
  refine hd_pure (v := ?_) (by rfl) (fun W' hS' => ?_) ?_ -- 2
  rotate_left
  · have c0 := (hS'.bx.1.cell 0).trans p.c0; have c25 := (hS'.bx.1.cell 25).trans p.c25; have hadd := HADD.out; clear hS'; (go_simp; first | with_reducible rfl | rfl)
  try simp only [Act.put, List.setIfInBounds_toArray, List.set_cons_zero, List.set_cons_succ]
  refine hd_pure (v := ?_) (by rfl) (fun W' hS' => ?_) ?_ -- 3
  rotate_left
  · have c0 := (hS'.bx.1.cell 0).trans p.c0; have c25 := (hS'.bx.1.cell 25).trans p.c25; have hadd := HADD.out; clear hS'; (go_simp; first | with_reducible rfl | rfl)
  try simp only [Act.put, List.setIfInBounds_toArray, List.set_cons_zero, List.set_cons_succ]
  refine hd_pure (v := ?_) (by rfl) (fun W' hS' => ?_) ?_ -- 5
  rotate_left
  · have c0 := (hS'.bx.1.cell 0).trans p.c0; have c25 := (hS'.bx.1.cell 25).trans p.c25; have hadd := HADD.out; clear hS'; (go_simp; first | with_reducible rfl | rfl)
  try simp only [Act.put, List.setIfInBounds_toArray, List.set_cons_zero, List.set_cons_succ]
  refine hd_pure (v := ?_) (by rfl) (fun W' hS' => ?_) ?_ -- 6
  rotate_left
  · have c0 := (hS'.bx.1.cell 0).trans p.c0; have c25 := (hS'.bx.1.cell 25).trans p.c25; have hadd := HADD.out; clear hS'; (go_simp; first | with_reducible rfl | rfl)
  try simp only [Act.put, List.setIfInBounds_toArray, List.set_cons_zero, List.set_cons_succ]
  refine hd_pure (v := ?_) (by rfl) (fun W' hS' => ?_) ?_ -- 7
  rotate_left
  · have c0 := (hS'.bx.1.cell 0).trans p.c0; have c25 := (hS'.bx.1.cell 25).trans p.c25; have hadd := HADD.out; clear hS'; (go_simp; first | with_reducible rfl | rfl)
  try simp only [Act.put, List.setIfInBounds_toArray, List.set_cons_zero, List.set_cons_succ]
  refine hd_sole (by rfl) (fun K hK => ?_) -- 1
  go_simp
  refine (lengths_any _).mono ?_; rintro e w' ⟨b, rfl, hm, hb⟩
  refine hK _ _ (hSW.below hb) ?_
  clear hK K hSW
  intro hSW
  clear hb; have hl := run_len _ b hm p.kind false; simp only [Bool.false_eq_true, if_false] at hl
  try simp only [Act.put, List.setIfInBounds_toArray, List.set_cons_zero, List.set_cons_succ]
  refine hd_sole (by rfl) (fun K hK => ?_) -- 4
  go_simp
  refine hK _ _ (hSW) ?_
  clear hK K hSW
  intro hSW
  clear hl hm
  try simp only [Act.put, List.setIfInBounds_toArray, List.set_cons_zero, List.set_cons_succ]
  refine hd_pure (v := ?_) (by rfl) (fun W' hS' => ?_) ?_ -- 8
  rotate_left
  · have c0 := (hS'.bx.1.cell 0).trans p.c0; have c25 := (hS'.bx.1.cell 25).trans p.c25; have hadd := HADD.out; clear hS'; (go_simp; first | with_reducible rfl | rfl)
  try simp only [Act.put, List.setIfInBounds_toArray, List.set_cons_zero, List.set_cons_succ]
  refine hd_nil ?_
  replace hW := hSW; clear hSW
  go_wp2_with (go_at_call 56; refine (layI_4 (lenOf p.kind + (p.text.size : Int)) bo base _ _ (by omega) (by omega) hW.out hW.le hW.sz (by simp [beB_length])).mono ?_; rintro e w3 ⟨rfl, ho2, hb2, hst⟩; replace hW := hW.lay ho2 hb2; clear hst ho2 hb2)
  refine NoPanic.normal ?_
  refine exit_gen (WS w p bo base (wrHead p)) (by unfold wrHead; exact hW) ?_
  clear hW HADD
  intro W5 hE
  have c0 := (hE.bx.1.cell 0).trans p.c0
  have hhl : (wrHead p).length = 8 := by simp [wrHead, beB_length]
  have HHL := Lib.hid hhl
  clear hhl
  have hke := HKE.out
  clear HKE hk0 hk1 hlb0 hlb1
  have HB := Lib.hid (show wrBody p = beB (if p.add then 1 else 0) 1 ++ beB p.v.p.len.toNat 1 ++ beB p.v.mx.toNat 1 ++ beB 0 1 ++ p.v.p.a.l.take 16 ++ beB p.v.asn.toNat 4 by simp [wrBody, hke, widthOf])
  obtain ⟨hvo, _⟩ := hv (by omega)
  obtain ⟨hl0, hl1, hm0, hm1⟩ := vrpOk_bd hvo
  clear hv hvo
  have c3 := (hE.bx.1.cell 3).trans p.c3
  rw [HA.out] at c3
  have c22 := (hE.bx.1.cell 22).trans p.c22
  have c23 := (hE.bx.1.cell 23).trans p.c23
  go_wp2_with fail
  have hgi : W5.heap.size ≠ bo := by obtain ⟨v, hbv, _⟩ := hE.out; have := hbv.lt; omega
  refine wp_gen (fun W => WS w p bo base (wrHead p) W ∧ Blk W W5.heap.size 3 [.int .i64 0, .int .i64 p.v.p.len, .int .i64 p.v.mx, .int .i64 0]) ⟨hE.below ((Below.refl _ _).alloc (Nat.le_refl _) _), blk_new' _ _ [.int .i64 0, .int .i64 p.v.p.len, .int .i64 p.v.mx, .int .i64 0] _ rfl⟩ ?_
  clear hE c3 c22 c23 c0
  generalize W5.heap.size = gi at hgi
  rintro W6 ⟨hE, hI⟩
  refine wp_loop_rounds 5 ?_
  rw [rounds_succ]
  have ci := hI.cell 0
  simp only [List.getElem?_cons_zero, List.getElem?_cons_succ] at ci
  go_wp2_with fail
  refine (layI_1 (0) bo base _ _ (by omega) (by omega) hE.out hE.le hE.sz (by simp only [List.length_append, HHL.out, beB_length]; omega)).mono ?_
  rintro e w7 ⟨rfl, ho2, hb2, hst⟩
  replace hE := hE.lay ho2 hb2
  replace hI := hst _ _ _ (by decide) hgi hI
  clear hst ho2 hb2 ci
  go_wp2_with fail
  rw [rounds_succ]
  have ci := hI.cell 1
  simp only [List.getElem?_cons_zero, List.getElem?_cons_succ] at ci
  go_wp2_with fail
  refine (layI_1 (p.v.p.len) bo base _ _ (by omega) (by omega) hE.out hE.le hE.sz (by simp only [List.length_append, HHL.out, beB_length]; omega)).mono ?_
  rintro e w7 ⟨rfl, ho2, hb2, hst⟩
  replace hE := hE.lay ho2 hb2
  replace hI := hst _ _ _ (by decide) hgi hI
  clear hst ho2 hb2 ci
  go_wp2_with fail
  rw [rounds_succ]
  have ci := hI.cell 2
  simp only [List.getElem?_cons_zero, List.getElem?_cons_succ] at ci
  go_wp2_with fail
  refine (layI_1 (p.v.mx) bo base _ _ (by omega) (by omega) hE.out hE.le hE.sz (by simp only [List.length_append, HHL.out, beB_length]; omega)).mono ?_
  rintro e w7 ⟨rfl, ho2, hb2, hst⟩
  replace hE := hE.lay ho2 hb2
  replace hI := hst _ _ _ (by decide) hgi hI
  clear hst ho2 hb2 ci
  go_wp2_with fail
  rw [rounds_succ]
  have ci := hI.cell 3
  simp only [List.getElem?_cons_zero, List.getElem?_cons_succ] at ci
  go_wp2_with fail
  refine (layI_1 (0) bo base _ _ (by omega) (by omega) hE.out hE.le hE.sz (by simp only [List.length_append, HHL.out, beB_length]; omega)).mono ?_
  rintro e w7 ⟨rfl, ho2, hb2, hst⟩
  replace hE := hE.lay ho2 hb2
  replace hI := hst _ _ _ (by decide) hgi hI
  clear hst ho2 hb2 ci
  go_wp2_with fail
  rw [rounds_succ]
  clear hI
  go_wp2_with fail
  generalize hxs : wrHead p ++ beB (Int.toNat 0) 1 ++ beB p.v.p.len.toNat 1 ++ beB p.v.mx.toNat 1 ++ beB (Int.toNat 0) 1 = xs at hE
  have HXS := Lib.hid hxs
  have HXL := Lib.hid (show xs.length = 12 by rw [← hxs]; simp only [List.length_append, HHL.out, beB_length])
  clear hxs
  obtain ⟨i0, hi0, hz0, hz1, hz2⟩ := info_parts info5b
  obtain ⟨v, hbv, hov⟩ := hE.out
  rw [HXL.out] at hov
  obtain ⟨A, c, rfl⟩ := own_slice' hov
  have Hov := Lib.hid hov
  clear hov
  have cv := hbv.cell 0
  rw [List.getElem?_cons_zero] at cv
  refine reg_sch2 9 [(true, 0), (true, 1), (true, 2), (true, 3), (true, 4), (true, 5), (false, 6), (true, 7), (false, 8)] (by kernel_rfl) (by kernel_rfl) (fun W => Bx w p W ∧ Blk W bo 29 [Value.slice A 12 c]) (fun W => (WS w p bo base xs W ∧ Blk W bo 29 [Value.slice A 12 c]) ∧ W.ownsRow base 5 1 (Value.slice A 12 c) 12 (xs.map bv)) ?_ ?_ ?_
  · exact ⟨⟨hE.drew, hbv.drew⟩, own_below Hov.out (Below.refl _ _).drew⟩
  · exact fun _ h => ⟨h.1.1.bx, h.1.2⟩
  intro W hSW
  simp only [List.map_cons, List.map_nil, List.getD_cons_zero, List.getD_cons_succ, List.drop_succ_cons, List.drop_zero]
  refine hd_pure (v := ?_) (by rfl) (fun W' hS' => ?_) ?_ -- 0
  rotate_left
  · have c0 := (hS'.1.1.cell 0).trans p.c0; have cb := hS'.2.cell 0; rw [List.getElem?_cons_zero] at cb; rw [hke] at c0; clear hS'; (go_simp; first | with_reducible rfl | rfl)
  try simp only [Act.put, List.setIfInBounds_toArray, List.set_cons_zero, List.set_cons_succ]
  refine hd_pure (v := ?_) (by rfl) (fun W' hS' => ?_) ?_ -- 1
  rotate_left
  · have c0 := (hS'.1.1.cell 0).trans p.c0; have cb := hS'.2.cell 0; rw [List.getElem?_cons_zero] at cb; rw [hke] at c0; clear hS'; (go_simp; first | with_reducible rfl | rfl)
  try simp only [Act.put, List.setIfInBounds_toArray, List.set_cons_zero, List.set_cons_succ]
  refine hd_pure (v := ?_) (by rfl) (fun W' hS' => ?_) ?_ -- 2
  rotate_left
  · have c0 := (hS'.1.1.cell 0).trans p.c0; have cb := hS'.2.cell 0; rw [List.getElem?_cons_zero] at cb; rw [hke] at c0; clear hS'; (go_simp; first | with_reducible rfl | rfl)
  try simp only [Act.put, List.setIfInBounds_toArray, List.set_cons_zero, List.set_cons_succ]
  refine hd_pure (v := ?_) (by rfl) (fun W' hS' => ?_) ?_ -- 3
  rotate_left
  · have c0 := (hS'.1.1.cell 0).trans p.c0; have cb := hS'.2.cell 0; rw [List.getElem?_cons_zero] at cb; rw [hke] at c0; clear hS'; (go_simp; first | with_reducible rfl | rfl)
  try simp only [Act.put, List.setIfInBounds_toArray, List.set_cons_zero, List.set_cons_succ]
  refine hd_pure (v := ?_) (by rfl) (fun W' hS' => ?_) ?_ -- 4
  rotate_left
  · have c0 := (hS'.1.1.cell 0).trans p.c0; have cb := hS'.2.cell 0; rw [List.getElem?_cons_zero] at cb; rw [hke] at c0; clear hS'; (go_simp; first | with_reducible rfl | rfl)
  try simp only [Act.put, List.setIfInBounds_toArray, List.set_cons_zero, List.set_cons_succ]
  refine hd_pure (v := ?_) (by rfl) (fun W' hS' => ?_) ?_ -- 5
  rotate_left
  · have c0 := (hS'.1.1.cell 0).trans p.c0; have cb := hS'.2.cell 0; rw [List.getElem?_cons_zero] at cb; rw [hke] at c0; clear hS'; (go_simp; first | with_reducible rfl | rfl)
  try simp only [Act.put, List.setIfInBounds_toArray, List.set_cons_zero, List.set_cons_succ]
  refine hd_sole (by rfl) (fun K hK => ?_) -- 6
  go_simp
  refine (width_any _ _).mono ?_; rintro e w' ⟨rfl, rfl⟩
  refine hK _ _ (⟨hSW.1.1.bx, hSW.1.2⟩) ?_
  clear hK K
  intro hSW6
  clear hSW6; rw [show widthOf 6 = 16 from rfl]
  try simp only [Act.put, List.setIfInBounds_toArray, List.set_cons_zero, List.set_cons_succ]
  refine hd_pure (v := ?_) (by rfl) (fun W' hS' => ?_) ?_ -- 7
  rotate_left
  · have c0 := (hS'.1.1.cell 0).trans p.c0; have cb := hS'.2.cell 0; rw [List.getElem?_cons_zero] at cb; rw [hke] at c0; clear hS'; (go_simp; first | with_reducible rfl | rfl)
  try simp only [Act.put, List.setIfInBounds_toArray, List.set_cons_zero, List.set_cons_succ]
  refine hd_sole (by rfl) (fun K hK => ?_) -- 8
  refine wp_append_any _ _ _ 29 rfl base 5 i0 _ 1 1 Tryz.underlying29 hi0 hz0 hz1 hz2 rfl (by omega) _ 12 _ rfl hSW.2 (w.heap.size + 1) (some ⟨w.heap.size, 6, none⟩) 16 16 _ rfl (Pdu.reads_addr hSW.1.1.bx.1 16 (by omega)) (bv_one _) (by simp only [maxLen]; omega) (by omega) hSW.1.1.sz ?_
  intro v2 w2 ho2 hg2 _
  obtain ⟨A2, c2, rfl⟩ := own_slice' ho2
  have hbx2 := hSW.1.2.grown hg2 (fun e => own_blk_ne hSW.2 hSW.1.2 (by decide) e.symm)
  refine hK _ _ (⟨⟨hSW.1.1.bx.1.grown hg2 (fun e => own_blk_ne hSW.2 hSW.1.1.bx.1 (by decide) e.symm), hSW.1.1.bx.2.grown hg2 hSW.1.1.bx.2.size (fun k hk => by have := (own_base_le hSW.2 k hk).1; have := hSW.1.1.lt; omega)⟩, hbx2⟩) ?_
  clear hK K
  intro hSW8
  try simp only [Act.put, List.setIfInBounds_toArray, List.set_cons_zero, List.set_cons_succ]
  refine hd_nil ?_
  clear hSW8; have cb2 := hbx2.cell 0; have fb2 := hbx2.frozen 0; rw [List.getElem?_cons_zero] at cb2
  go_wp2_with fail
  refine NoPanic.normal ?_
  have hy : xs.map bv ++ (p.v.p.a.l.take 16).map bv = (xs ++ p.v.p.a.l.take 16).map bv := by simp
  have hyl : 12 + 16 = (xs ++ p.v.p.a.l.take 16).length := by simp [HXL.out, p.v.p.a.h]
  rw [hy] at ho2
  have hf := OutV.store (ys := xs ++ p.v.p.a.l.take 16) (xs := xs) hSW.1.2 (by rw [HXL.out]; exact hSW.2) hE.le hSW.1.1.sz hg2 (by rw [← hyl]; exact ho2)
  refine exit_gen (WS w p bo base (xs ++ p.v.p.a.l.take 16)) (hSW.1.1.lay hf.1 hf.2) ?_
  have Hyl := Lib.hid hyl
  clear hE hf hyl hy ho2 hbx2 cb2 fb2 hg2 hSW hbv cv Hov hi0 hz0 hz1 hz2
  intro W8 hE
  have c4 := (hE.bx.1.cell 4).trans p.c4
  have hsl := p.v.asn.toNat_lt
  have hsw : IntKind.i64.wrap (p.v.asn.toNat : Int) = p.v.asn.toNat := IntWalk.i64_in _ (by omega)
  clear hsl
  go_wp2_with fail
  refine (lay_4 p.v.asn.toNat bo base _ _ (by have := p.v.asn.toNat_lt; omega) hE.out hE.le hE.sz (by rw [← Hyl.out]; omega)).mono ?_
  rintro e w9 ⟨rfl, ho2, hb2, hst⟩
  replace hE := hE.lay ho2 hb2
  clear hst ho2 hb2 c4 hsw
  have hfin : xs ++ p.v.p.a.l.take 16 ++ beB p.v.asn.toNat 4 = wrHead p ++ (beB (if p.add then 1 else 0) 1 ++ beB p.v.p.len.toNat 1 ++ beB p.v.mx.toNat 1 ++ beB 0 1 ++ p.v.p.a.l.take 16 ++ beB p.v.asn.toNat 4) := by
    rw [← HXS.out, HA.out]; simp
  rw [hfin] at hE
  clear hfin
  have hEw := hE.cast (show _ = wrB p by have e : wrB p = wrHead p ++ wrBody p := rfl; rw [e, HB.out]; all_goals simp)
  clear hE
  obtain ⟨v, hbv, hov⟩ := hEw.out
  have cv := hbv.cell 0
  rw [List.getElem?_cons_zero] at cv
  obtain ⟨A, c, rfl⟩ := own_slice' hov
  go_wp2
  go_ret2
  exact ⟨fun _ => ⟨_, rfl, own_base_mono hov (Nat.le_of_lt hEw.lt)⟩, fun h => (by rw [H.out] at h; cases h), hEw.bx.2⟩
end Go.Proofs.YtmoldmnhijcckaaGreat
