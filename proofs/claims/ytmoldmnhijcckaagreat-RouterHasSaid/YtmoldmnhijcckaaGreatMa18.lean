/- The contract of pdu.Write for errors. -/
import Derived.Test.YtmoldmnhijcckaaGreatMa16
import Derived.Deep.DeepCutAuto
import Derived.Lib.AppendStr
import Derived.LoopN
set_option linter.unusedVariables false
set_option linter.unusedSectionVars false
set_option linter.unusedSimpArgs false
namespace Go.Proofs.YtmoldmnhijcckaaGreat
open Go.RowKit
attribute [local go_sem high] run_imax run_imin
set_option maxRecDepth 100000 in
set_option maxHeartbeats 2000000 in
theorem write_k10 (p : Pdu) (w : World) (h : pduOk p = true) (hke : p.kind = 10) : Calls Tryz.prog 34 #[p.val] w (WrPost p w) := by
  simp only [Pdu.val]
  obtain ⟨hk, hn, hmin, hmax, htx, hv⟩ := ok_parts h
  obtain ⟨hk0, hk1⟩ := kind_bd hk
  have H := Lib.hid h
  have HKE := Lib.hid hke
  clear h hn hke hk
  have hX := Bx.new w p
  have hkw : IntKind.u8.wrap p.kind = p.kind := by rw [IntKind.wrap_u8]; omega
  have hkb : Value.int .u8 p.kind = bv (UInt8.ofNat p.kind.toNat) := by
    unfold bv; rw [UInt8.toNat_ofNat']; congr 1; omega
  obtain ⟨hlb0, hlb1⟩ := lenOf_bd p.kind
  have hadd : IntKind.i64.wrap (lenOf p.kind + (p.text.size : Int)) = lenOf p.kind + (p.text.size : Int) := IntWalk.i64_in _ (by omega)
  have HKB := Lib.hid hkb
  have HADD := Lib.hid hadd
  clear hkb hadd
  go_enter Tryz.func34, Tryz.ntmps34
  go_upto_region 5 with (first | (refine wpList_load_at rfl 69 _ rfl w.heap.size 0 26 rfl _ _ hX.1.range (Pdu.cells_length _) Tryz.underlying69 rfl info_pdu ?_) | (go_at_call 55; refine (right_any p _).mono ?_; rintro e w1 ⟨rfl, hb1⟩; replace hX := hX.next hb1; rw [H.out]; clear hb1; have c0 := (hX.1.cell 0).trans p.c0))
  refine wp_gen (WS w p (w1.heap.size + 1) w1.heap.size [1, UInt8.ofNat p.kind.toNat]) (ws_start hX 1 _ _ _ rfl HKB.out _ rfl) ?_
  clear c0 hX hkw HKB
  generalize w1.heap.size + 1 = bo
  generalize w1.heap.size = base
  intro W hW
  have c1 := (hW.bx.1.cell 1).trans p.c1
  have c24 := (hW.bx.1.cell 24).trans p.c24
  go_wp2_with fail
  refine (layI_2 (imax p.session p.code) bo base _ _ (by rw [imax_eq]; rw [imin_eq] at hmin; omega) (by omega) hW.out hW.le hW.sz (by simp)).mono ?_
  rintro e w2 ⟨rfl, ho2, hb2, hst⟩
  replace hW := hW.lay ho2 hb2
  clear hst ho2 hb2 c1 c24
  go_wp2_with fail
  refine reg_sch2 9 [(true, 0), (true, 2), (true, 3), (true, 5), (true, 6), (true, 7), (false, 1), (false, 4), (true, 8)] (by kernel_rfl) (by kernel_rfl) (WS w p bo base ([1, UInt8.ofNat p.kind.toNat] ++ beB (imax p.session p.code).toNat 2)) (WS w p bo base ([1, UInt8.ofNat p.kind.toNat] ++ beB (imax p.session p.code).toNat 2)) ?_ ?_ ?_
  · exact hW.drew
  · exact fun _ h => h
  intro W hSW
  simp only [List.map_cons, List.map_nil, List.getD_cons_zero, List.getD_cons_succ, List.drop_succ_cons, List.drop_zero]
  refine hd_pure (v := ?_) (by rfl) (fun W' hS' => ?_) ?_ -- 0
  rotate_left
  · have c0 := (hS'.bx.1.cell 0).trans p.c0; have c25 := (hS'.bx.1.cell 25).trans p.c25; have hadd := HADD.out; clear hS'; (go_simp; first | with_reducible rfl | rfl)
  try simp only [Act.put, List.setIfInBounds_toArray, List.set_cons_zero, List.set_cons_succ]
  refine hd_pure (v := ?_) (by rfl) (fun W' hS' => ?_) ?_ -- 2
  rotate_left
  · have c0 := (hS'.bx.1.cell 0).trans p.c0; have c25 := (hS'.bx.1.cell 25).trans p.c25; have hadd := HADD.out; clear hS'; (go_simp; first | with_reducible rfl | rfl)
  try simp only [Act.put, List.setIfInBounds_toArray, List.set_cons_zero, List.set_cons_succ]
  refine hd_pure (v := ?_) (by rfl) (fun W' hS' => ?_) ?_ -- 3
  rotate_left
  · have c0 := (hS'.bx.1.cell 0).trans p.c0; have c25 := (hS'.bx.1.cell 25).trans p.c25; have hadd := HADD.out; clear hS'; (go_simp; first | with_reducible rfl | rfl)
  try simp only [Act.put, List.setIfInBounds_toArray, List.set_cons_zero, List.set_cons_succ]
  refine hd_pure (v := ?_) (by rfl) (fun W' hS' => ?_) ?_ -- 5
  rotate_left
  · have c0 := (hS'.bx.1.cell 0).trans p.c0; have c25 := (hS'.bx.1.cell 25).trans p.c25; have hadd := HADD.out; clear hS'; (go_simp; first | with_reducible rfl | rfl)
  try simp only [Act.put, List.setIfInBounds_toArray, List.set_cons_zero, List.set_cons_succ]
  refine hd_pure (v := ?_) (by rfl) (fun W' hS' => ?_) ?_ -- 6
  rotate_left
  · have c0 := (hS'.bx.1.cell 0).trans p.c0; have c25 := (hS'.bx.1.cell 25).trans p.c25; have hadd := HADD.out; clear hS'; (go_simp; first | with_reducible rfl | rfl)
  try simp only [Act.put, List.setIfInBounds_toArray, List.set_cons_zero, List.set_cons_succ]
  refine hd_pure (v := ?_) (by rfl) (fun W' hS' => ?_) ?_ -- 7
  rotate_left
  · have c0 := (hS'.bx.1.cell 0).trans p.c0; have c25 := (hS'.bx.1.cell 25).trans p.c25; have hadd := HADD.out; clear hS'; (go_simp; first | with_reducible rfl | rfl)
  try simp only [Act.put, List.setIfInBounds_toArray, List.set_cons_zero, List.set_cons_succ]
  refine hd_sole (by rfl) (fun K hK => ?_) -- 1
  go_simp
  refine (lengths_any _).mono ?_; rintro e w' ⟨b, rfl, hm, hb⟩
  refine hK _ _ (hSW.below hb) ?_
  clear hK K hSW
  intro hSW
  clear hb; have hl := run_len _ b hm p.kind false; simp only [Bool.false_eq_true, if_false] at hl
  try simp only [Act.put, List.setIfInBounds_toArray, List.set_cons_zero, List.set_cons_succ]
  refine hd_sole (by rfl) (fun K hK => ?_) -- 4
  go_simp
  refine hK _ _ (hSW) ?_
  clear hK K hSW
  intro hSW
  clear hl hm
  try simp only [Act.put, List.setIfInBounds_toArray, List.set_cons_zero, List.set_cons_succ]
  refine hd_pure (v := ?_) (by rfl) (fun W' hS' => ?_) ?_ -- 8
  rotate_left
  · have c0 := (hS'.bx.1.cell 0).trans p.c0; have c25 := (hS'.bx.1.cell 25).trans p.c25; have hadd := HADD.out; clear hS'; (go_simp; first | with_reducible rfl | rfl)
  try simp only [Act.put, List.setIfInBounds_toArray, List.set_cons_zero, List.set_cons_succ]
  refine hd_nil ?_
  replace hW := hSW; clear hSW
  go_wp2_with (go_at_call 56; refine (layI_4 (lenOf p.kind + (p.text.size : Int)) bo base _ _ (by omega) (by omega) hW.out hW.le hW.sz (by simp [beB_length])).mono ?_; rintro e w3 ⟨rfl, ho2, hb2, hst⟩; replace hW := hW.lay ho2 hb2; clear hst ho2 hb2)
  refine NoPanic.normal ?_
  refine exit_gen (WS w p bo base (wrHead p)) (by unfold wrHead; exact hW) ?_
  clear hW HADD
  intro W5 hE
  have c0 := (hE.bx.1.cell 0).trans p.c0
  have hhl : (wrHead p).length = 8 := by simp [wrHead, beB_length]
  have HHL := Lib.hid hhl
  clear hhl
  have hke := HKE.out
  clear HKE hk0 hk1 hlb0 hlb1
  have HB := Lib.hid (show wrBody p = beB 0 4 ++ beB p.text.size 4 ++ p.text.data.toList by simp [wrBody, hke])
  have c25 := (hE.bx.1.cell 25).trans p.c25
  go_wp2_with fail
  refine (lay_4 0 bo base _ _ (by omega) hE.out hE.le hE.sz (by rw [HHL.out]; omega)).mono ?_
  rintro e w6 ⟨rfl, ho2, hb2, hst⟩
  replace hE := hE.lay ho2 hb2
  clear hst ho2 hb2 c0 c25
  have c25 := (hE.bx.1.cell 25).trans p.c25
  go_wp2_with fail
  refine (lay_4 p.text.size bo base _ _ (by omega) hE.out hE.le hE.sz (by simp only [List.length_append, HHL.out, beB_length]; omega)).mono ?_
  rintro e w7 ⟨rfl, ho2, hb2, hst⟩
  replace hE := hE.lay ho2 hb2
  clear hst ho2 hb2 c25
  have c25 := (hE.bx.1.cell 25).trans p.c25
  obtain ⟨i0, hi0, hz0, hz1, hz2⟩ := info_parts info5b
  obtain ⟨v, hbv, hov⟩ := hE.out
  have cv := hbv.cell 0
  rw [List.getElem?_cons_zero] at cv
  have hX16 : (wrHead p ++ beB 0 4 ++ beB p.text.size 4).length = 16 := by simp [HHL.out, beB_length]
  rw [hX16] at hov
  clear hX16
  obtain ⟨A, c, rfl⟩ := own_slice' hov
  have Hov := Lib.hid hov
  clear hov
  go_upto_region 33 with (at_builtin; refine Lib.wpList_append_own_string _ rfl _ _ 29 9 rfl base 5 i0 Tryz.underlying29 Tryz.underlying9 hi0 hz0 hz1 hz2 _ _ _ rfl Hov.out p.text rfl (by simp only [maxLen]; omega) (by omega) hE.sz ?_; intro v2 w2 ho2 hg2 _; obtain ⟨A2, c2, rfl⟩ := own_slice' ho2; have hbx2 := hbv.grown hg2 (fun e => own_blk_ne Hov.out hbv (by decide) e.symm); have cb2 := hbx2.cell 0; have fb2 := hbx2.frozen 0; rw [List.getElem?_cons_zero] at cb2)
  have hy : (wrHead p ++ beB 0 4 ++ beB p.text.size 4).map bv ++ Lib.strCells p.text = (wrHead p ++ beB 0 4 ++ beB p.text.size 4 ++ p.text.data.toList).map bv := by simp [Lib.strCells, bv]
  have hyl : 16 + p.text.size = (wrHead p ++ beB 0 4 ++ beB p.text.size 4 ++ p.text.data.toList).length := by simp [HHL.out, beB_length]; omega
  rw [hy] at ho2
  have hX16 : (wrHead p ++ beB 0 4 ++ beB p.text.size 4).length = 16 := by simp [HHL.out, beB_length]
  have hf := OutV.store (ys := wrHead p ++ beB 0 4 ++ beB p.text.size 4 ++ p.text.data.toList) hbv (xs := wrHead p ++ beB 0 4 ++ beB p.text.size 4) (by rw [hX16]; exact Hov.out) hE.le hE.sz hg2 (by rw [← hyl]; exact ho2)
  replace hE := hE.lay hf.1 hf.2
  clear hf hX16 hyl hy ho2 hbx2 cb2 fb2 hg2 hbv cv Hov c25
  rw [show wrHead p ++ beB 0 4 ++ beB p.text.size 4 ++ p.text.data.toList = wrHead p ++ (beB 0 4 ++ beB p.text.size 4 ++ p.text.data.toList) by simp] at hE
  refine wp_gen (WS w p bo base _) hE ?_
  clear hE
  intro W9 hE
  have hEw := hE.cast (show _ = wrB p by have e : wrB p = wrHead p ++ wrBody p := rfl; rw [e, HB.out]; all_goals simp)
  clear hE
  obtain ⟨v, hbv, hov⟩ := hEw.out
  have cv := hbv.cell 0
  rw [List.getElem?_cons_zero] at cv
  obtain ⟨A, c, rfl⟩ := own_slice' hov
  go_wp2
  go_ret2
  exact ⟨fun _ => ⟨_, rfl, own_base_mono hov (Nat.le_of_lt hEw.lt)⟩, fun h => (by rw [H.out] at h; cases h), hEw.bx.2⟩
end Go.Proofs.YtmoldmnhijcckaaGreat
/- The contract of pdu.Write for ends. -/
set_option linter.unusedVariables false
set_option linter.unusedSectionVars false
set_option linter.unusedSimpArgs false
namespace Go.Proofs.YtmoldmnhijcckaaGreat
open Go.RowKit
attribute [local go_sem high] run_imax run_imin
set_option maxRecDepth 100000 in
set_option maxHeartbeats 4000000 in
theorem write_k7 (p : Pdu) (w : World) (h : pduOk p = true) (hke : p.kind = 7) : Calls Tryz.prog 34 #[p.val] w (WrPost p w) := by
  simp only [Pdu.val]
  obtain ⟨hk, hn, hmin, hmax, htx, hv⟩ := ok_parts h
  obtain ⟨hk0, hk1⟩ := kind_bd hk
  have H := Lib.hid h
  have HKE := Lib.hid hke
  clear h hn hke hk
  have hX := Bx.new w p
  have hkw : IntKind.u8.wrap p.kind = p.kind := by rw [IntKind.wrap_u8]; omega
  have hkb : Value.int .u8 p.kind = bv (UInt8.ofNat p.kind.toNat) := by
    unfold bv; rw [UInt8.toNat_ofNat']; congr 1; omega
  obtain ⟨hlb0, hlb1⟩ := lenOf_bd p.kind
  have hadd : IntKind.i64.wrap (lenOf p.kind + (p.text.size : Int)) = lenOf p.kind + (p.text.size : Int) := IntWalk.i64_in _ (by omega)
  have HKB := Lib.hid hkb
  have HADD := Lib.hid hadd
  clear hkb hadd
  go_enter Tryz.func34, Tryz.ntmps34
  go_upto_region 5 with (first | (refine wpList_load_at rfl 69 _ rfl w.heap.size 0 26 rfl _ _ hX.1.range (Pdu.cells_length _) Tryz.underlying69 rfl info_pdu ?_) | (go_at_call 55; refine (right_any p _).mono ?_; rintro e w1 ⟨rfl, hb1⟩; replace hX := hX.next hb1; rw [H.out]; clear hb1; have c0 := (hX.1.cell 0).trans p.c0))
  refine wp_gen (WS w p (w1.heap.size + 1) w1.heap.size [1, UInt8.ofNat p.kind.toNat]) (ws_start hX 1 _ _ _ rfl HKB.out _ rfl) ?_
  clear c0 hX hkw HKB
  generalize w1.heap.size + 1 = bo
  generalize w1.heap.size = base
  intro W hW
  have c1 := (hW.bx.1.cell 1).trans p.c1
  have c24 := (hW.bx.1.cell 24).trans p.c24
  go_wp2_with fail
  refine (layI_2 (imax p.session p.code) bo base _ _ (by rw [imax_eq]; rw [imin_eq] at hmin; omega) (by omega) hW.out hW.le hW.sz (by simp)).mono ?_
  rintro e w2 ⟨rfl, ho2, hb2, hst⟩
  replace hW := hW.lay ho2 hb2
  clear hst ho2 hb2 c1 c24
  go_wp2_with fail
  refine reg_sch2 9 [(true, 0), (true, 2), (true, 3), (true, 5), (true, 6), (true, 7), (false, 1), (false, 4), (true, 8)] (by kernel_rfl) (by kernel_rfl) (WS w p bo base ([1, UInt8.ofNat p.kind.toNat] ++ beB (imax p.session p.code).toNat 2)) (WS w p bo base ([1, UInt8.ofNat p.kind.toNat] ++ beB (imax p.session p.code).toNat 2)) ?_ ?_ ?_
  · exact hW.drew
  · exact fun _ h => h
  intro W hSW
  simp only [List.map_cons, List.map_nil, List.getD_cons_zero, List.getD_cons_succ, List.drop_succ_cons, List.drop_zero]
  refine hd_pure (v := ?_) (by rfl) (fun W' hS' => ?_) ?_ -- 0
  rotate_left
  · have c0 := (hS'.bx.1.cell 0).trans p.c0; have c25 := (hS'.bx.1.cell 25).trans p.c25; have hadd := HADD.out; clear hS'; (go_simp; first | with_reducible rfl | rfl)
  try simp only [Act.put, List.setIfInBounds_toArray, List.set_cons_zero, List.set_cons_succ]
  refine hd_pure (v := ?_) (by rfl) (fun W' hS' => ?_) ?_ -- 2
  rotate_left
  · have c0 := (hS'.bx.1.cell 0).trans p.c0; have c25 := (hS'.bx.1.cell 25).trans p.c25; have hadd := HADD.out; clear hS'; (go_simp; first | with_reducible rfl | rfl)
  try simp only [Act.put, List.setIfInBounds_toArray, List.set_cons_zero, List.set_cons_succ]
  refine hd_pure (v := ?_) (by rfl) (fun W' hS' => ?_) ?_ -- 3
  rotate_left
  · have c0 := (hS'.bx.1.cell 0).trans p.c0; have c25 := (hS'.bx.1.cell 25).trans p.c25; have hadd := HADD.out; clear hS'; (go_simp; first | with_reducible rfl | rfl)
  try simp only [Act.put, List.setIfInBounds_toArray, List.set_cons_zero, List.set_cons_succ]
  refine hd_pure (v := ?_) (by rfl) (fun W' hS' => ?_) ?_ -- 5
  rotate_left
  · have c0 := (hS'.bx.1.cell 0).trans p.c0; have c25 := (hS'.bx.1.cell 25).trans p.c25; have hadd := HADD.out; clear hS'; (go_simp; first | with_reducible rfl | rfl)
  try simp only [Act.put, List.setIfInBounds_toArray, List.set_cons_zero, List.set_cons_succ]
  refine hd_pure (v := ?_) (by rfl) (fun W' hS' => ?_) ?_ -- 6
  rotate_left
  · have c0 := (hS'.bx.1.cell 0).trans p.c0; have c25 := (hS'.bx.1.cell 25).trans p.c25; have hadd := HADD.out; clear hS'; (go_simp; first | with_reducible rfl | rfl)
  try simp only [Act.put, List.setIfInBounds_toArray, List.set_cons_zero, List.set_cons_succ]
  refine hd_pure (v := ?_) (by rfl) (fun W' hS' => ?_) ?_ -- 7
  rotate_left
  · have c0 := (hS'.bx.1.cell 0).trans p.c0; have c25 := (hS'.bx.1.cell 25).trans p.c25; have hadd := HADD.out; clear hS'; (go_simp; first | with_reducible rfl | rfl)
  try simp only [Act.put, List.setIfInBounds_toArray, List.set_cons_zero, List.set_cons_succ]
  refine hd_sole (by rfl) (fun K hK => ?_) -- 1
  go_simp
  refine (lengths_any _).mono ?_; rintro e w' ⟨b, rfl, hm, hb⟩
  refine hK _ _ (hSW.below hb) ?_
  clear hK K hSW
  intro hSW
  clear hb; have hl := run_len _ b hm p.kind false; simp only [Bool.false_eq_true, if_false] at hl
  try simp only [Act.put, List.setIfInBounds_toArray, List.set_cons_zero, List.set_cons_succ]
  refine hd_sole (by rfl) (fun K hK => ?_) -- 4
  go_simp
  refine hK _ _ (hSW) ?_
  clear hK K hSW
  intro hSW
  clear hl hm
  try simp only [Act.put, List.setIfInBounds_toArray, List.set_cons_zero, List.set_cons_succ]
  refine hd_pure (v := ?_) (by rfl) (fun W' hS' => ?_) ?_ -- 8
  rotate_left
  · have c0 := (hS'.bx.1.cell 0).trans p.c0; have c25 := (hS'.bx.1.cell 25).trans p.c25; have hadd := HADD.out; clear hS'; (go_simp; first | with_reducible rfl | rfl)
  try simp only [Act.put, List.setIfInBounds_toArray, List.set_cons_zero, List.set_cons_succ]
  refine hd_nil ?_
  replace hW := hSW; clear hSW
  go_wp2_with (go_at_call 56; refine (layI_4 (lenOf p.kind + (p.text.size : Int)) bo base _ _ (by omega) (by omega) hW.out hW.le hW.sz (by simp [beB_length])).mono ?_; rintro e w3 ⟨rfl, ho2, hb2, hst⟩; replace hW := hW.lay ho2 hb2; clear hst ho2 hb2)
  refine NoPanic.normal ?_
  refine exit_gen (WS w p bo base (wrHead p)) (by unfold wrHead; exact hW) ?_
  clear hW HADD
  intro W5 hE
  have c0 := (hE.bx.1.cell 0).trans p.c0
  have hhl : (wrHead p).length = 8 := by simp [wrHead, beB_length]
  have HHL := Lib.hid hhl
  clear hhl
  have hke := HKE.out
  clear HKE hk0 hk1 hlb0 hlb1
  have HB := Lib.hid (show wrBody p = beB p.serial.toNat 4 ++ beB 3600 4 ++ beB 600 4 ++ beB 7200 4 by simp [wrBody, hke])
  have c2 := (hE.bx.1.cell 2).trans p.c2
  have hsl := p.serial.toNat_lt
  have hsw : IntKind.i64.wrap (p.serial.toNat : Int) = p.serial.toNat := IntWalk.i64_in _ (by omega)
  clear hsl
  go_wp2_with fail
  have hgi : W5.heap.size ≠ bo := by obtain ⟨v, hbv, _⟩ := hE.out; have := hbv.lt; omega
  refine wp_gen (fun W => WS w p bo base (wrHead p) W ∧ Blk W W5.heap.size 3 [.int .i64 p.serial.toNat, .int .i64 3600, .int .i64 600, .int .i64 7200]) ⟨hE.below ((Below.refl _ _).alloc (Nat.le_refl _) _), blk_new' _ _ [.int .i64 p.serial.toNat, .int .i64 3600, .int .i64 600, .int .i64 7200] _ rfl⟩ ?_
  clear hE c2 c0 hsw
  generalize W5.heap.size = gi at hgi
  rintro W6 ⟨hE, hI⟩
  refine wp_loop_rounds 5 ?_
  rw [rounds_succ]
  have ci := hI.cell 0
  simp only [List.getElem?_cons_zero, List.getElem?_cons_succ] at ci
  go_wp2_with fail
  refine (lay_4 p.serial.toNat bo base _ _ (by have := p.serial.toNat_lt; omega) hE.out hE.le hE.sz (by simp only [List.length_append, HHL.out, beB_length]; omega)).mono ?_
  rintro e w7 ⟨rfl, ho2, hb2, hst⟩
  replace hE := hE.lay ho2 hb2
  replace hI := hst _ _ _ (by decide) hgi hI
  clear hst ho2 hb2 ci
  go_wp2_with fail
  rw [rounds_succ]
  have ci := hI.cell 1
  simp only [List.getElem?_cons_zero, List.getElem?_cons_succ] at ci
  go_wp2_with fail
  refine (lay_4 3600 bo base _ _ (by have := p.serial.toNat_lt; omega) hE.out hE.le hE.sz (by simp only [List.length_append, HHL.out, beB_length]; omega)).mono ?_
  rintro e w7 ⟨rfl, ho2, hb2, hst⟩
  replace hE := hE.lay ho2 hb2
  replace hI := hst _ _ _ (by decide) hgi hI
  clear hst ho2 hb2 ci
  go_wp2_with fail
  rw [rounds_succ]
  have ci := hI.cell 2
  simp only [List.getElem?_cons_zero, List.getElem?_cons_succ] at ci
  go_wp2_with fail
  refine (lay_4 600 bo base _ _ (by have := p.serial.toNat_lt; omega) hE.out hE.le hE.sz (by simp only [List.length_append, HHL.out, beB_length]; omega)).mono ?_
  rintro e w7 ⟨rfl, ho2, hb2, hst⟩
  replace hE := hE.lay ho2 hb2
  replace hI := hst _ _ _ (by decide) hgi hI
  clear hst ho2 hb2 ci
  go_wp2_with fail
  rw [rounds_succ]
  have ci := hI.cell 3
  simp only [List.getElem?_cons_zero, List.getElem?_cons_succ] at ci
  go_wp2_with fail
  refine (lay_4 7200 bo base _ _ (by have := p.serial.toNat_lt; omega) hE.out hE.le hE.sz (by simp only [List.length_append, HHL.out, beB_length]; omega)).mono ?_
  rintro e w7 ⟨rfl, ho2, hb2, hst⟩
  replace hE := hE.lay ho2 hb2
  replace hI := hst _ _ _ (by decide) hgi hI
  clear hst ho2 hb2 ci
  go_wp2_with fail
  rw [rounds_succ]
  clear hI
  have hlen : wrHead p ++ beB p.serial.toNat 4 ++ beB 3600 4 ++ beB 600 4 ++ beB 7200 4 = wrHead p ++ (beB p.serial.toNat 4 ++ beB 3600 4 ++ beB 600 4 ++ beB 7200 4) := by simp
  rw [hlen] at hE
  clear hlen
  have hEw := hE.cast (show _ = wrB p by have e : wrB p = wrHead p ++ wrBody p := rfl; rw [e, HB.out]; all_goals simp)
  clear hE
  obtain ⟨v, hbv, hov⟩ := hEw.out
  have cv := hbv.cell 0
  rw [List.getElem?_cons_zero] at cv
  obtain ⟨A, c, rfl⟩ := own_slice' hov
  go_wp2
  go_ret2
  exact ⟨fun _ => ⟨_, rfl, own_base_mono hov (Nat.le_of_lt hEw.lt)⟩, fun h => (by rw [H.out] at h; cases h), hEw.bx.2⟩
end Go.Proofs.YtmoldmnhijcckaaGreat
