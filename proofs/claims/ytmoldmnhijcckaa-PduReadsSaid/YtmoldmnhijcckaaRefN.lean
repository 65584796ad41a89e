/- The contracts of lanyardref25.bare and lanyardref25.kind. -/
import Derived.Test.YtmoldmnhijcckaaNamed
import Derived.Test.YtmoldmnhijcckaaLen
import Derived.Deep.DeepMust
import Derived.Deep.DeepCutAuto
set_option linter.unusedVariables false
set_option linter.unusedSectionVars false
set_option linter.unusedSimpArgs false
namespace Go.Proofs.Ytmoldmnhijcckaa
open Go.RowKit
set_option maxHeartbeats 1000000 in
theorem rkind_any (n : Int) (w : World) : Calls Try.prog 46 #[.int .i64 n] w fun e w' => e = .returned (.bool (isKind n)) ∧ w = w' := by
  by_cases h : 0 ≤ n ∧ n ≤ 10
  · obtain ⟨h1, h2⟩ := h
    obtain rfl | rfl | rfl | rfl | rfl | rfl | rfl | rfl | rfl | rfl | rfl : n = 0 ∨ n = 1 ∨ n = 2 ∨ n = 3 ∨ n = 4 ∨ n = 5 ∨ n = 6 ∨ n = 7 ∨ n = 8 ∨ n = 9 ∨ n = 10 := by omega
    all_goals
      clear h1 h2
      go_enter Try.func46, Try.ntmps46
      go_wp2
      go_ret
      exact ⟨rfl, rfl⟩
  · have H := Lib.hid (show isKind n = false by unfold isKind; simp; omega)
    by_cases h0 : n < 0
    · have d0 : decide (0 ≤ n) = false := decide_eq_false (by omega)
      have d6 : decide (6 ≤ n) = false := decide_eq_false (by omega)
      have e10 : (n == 10) = false := beq_eq_false_iff_ne.2 (by omega)
      clear h h0
      go_enter Try.func46, Try.ntmps46
      go_wp2
      go_ret
      exact ⟨by rw [H.out]; rfl, rfl⟩
    · have d0 : decide (0 ≤ n) = true := decide_eq_true (by omega)
      have d4 : decide (n ≤ 4) = false := decide_eq_false (by omega)
      have d6 : decide (6 ≤ n) = true := decide_eq_true (by omega)
      have d8 : decide (n ≤ 8) = false := decide_eq_false (by omega)
      have e10 : (n == 10) = false := beq_eq_false_iff_ne.2 (by omega)
      clear h h0
      go_enter Try.func46, Try.ntmps46
      go_wp2
      go_ret
      exact ⟨by rw [H.out]; rfl, rfl⟩
set_option maxRecDepth 100000 in
set_option maxHeartbeats 2000000 in
theorem bare_any (p : Pdu) (w : World) (hki : isKind p.kind = true) : Calls Try.prog 51 #[p.val] w fun e w' => e = .returned (namedOf p).val ∧ Below w.heap.size w w' := by
  obtain ⟨kind, session, serial, add, v, code, text⟩ := p
  have h : kind = 0 ∨ kind = 1 ∨ kind = 2 ∨ kind = 3 ∨ kind = 4 ∨ kind = 6 ∨ kind = 7 ∨ kind = 8 ∨ kind = 10 := by simpa [isKind] using hki
  clear hki
  simp only [Pdu.val]
  have c0 := Pdu.c0 ⟨kind, session, serial, add, v, code, text⟩
  go_enter Try.func51, Try.ntmps51
  go_upto_region 2 with (refine wpList_store_at rfl 29 _ _ rfl (w.heap.size + 2) 0 26 29 (bareL kind) (bareL 0) rfl rfl (blk_new' _ _ _ _ (by simp)) rfl (by decide) info_pdu (by rw [bareL_eq]; exact Pdu.one _) ?_)
  refine wp_gen (Nmd w w.heap.size ⟨kind, session, serial, add, v, code, text⟩ (bareP kind)) (nmd_start ⟨kind, session, serial, add, v, code, text⟩ w) ?_
  clear c0
  intro W hW
  have k0 := (hW.1.cell 0).trans (Pdu.c0 _)
  rcases h with rfl | rfl | rfl | rfl | rfl | rfl | rfl | rfl | rfl
  · have HR := Lib.hid (show namedOf ⟨0, session, serial, add, v, code, text⟩ = { bareP 0 with session := session, serial := serial } from by simp [namedOf])
    have k1 := (hW.1.cell 1).trans (Pdu.c1 _)
    have e1 := (hW.2.2.1.cell 1).trans (Pdu.c1 _)
    have f1 := hW.2.2.1.frozen 1
    go_upto_region 7 with fail
    refine wp_gen (Nmd w w.heap.size ⟨0, session, serial, add, v, code, text⟩ ({ bareP 0 with session := session })) (hW.set (set_session _ _ session _ _ _ _ _)) ?_
    clear k0 k1 e1 f1 hW
    intro W1 hW
    have k2 := (hW.1.cell 2).trans (Pdu.c2 _)
    have e2 := (hW.2.2.1.cell 2).trans (Pdu.c2 _)
    have f2 := hW.2.2.1.frozen 2
    go_upto_region 17 with fail
    refine wp_gen (Nmd w w.heap.size ⟨0, session, serial, add, v, code, text⟩ ({ bareP 0 with session := session, serial := serial })) (hW.set (set_serial _ _ _ serial _ _ _ _)) ?_
    clear k2 e2 f2 hW
    intro W2 hE
    go_wp2_with (first | (refine wpList_load_at rfl 29 _ rfl (w.heap.size + 2) 0 26 rfl _ _ hE.2.2.1.range (Pdu.cells_length _) Try.underlying29 rfl info_pdu ?_) | (refine wpList_store_at rfl 29 _ _ rfl (w.heap.size + 1) 0 26 29 _ _ rfl rfl hE.2.1 (Pdu.cells_length _) (by rw [Pdu.cells_length]; omega) info_pdu (Pdu.one _) ?_))
    obtain ⟨hr, hb⟩ := named_end hE
    exact bodyPost_ret (results_cell1 rfl _ (w.heap.size + 1) 0 26 _ _ rfl hr.range (Pdu.cells_length _) Try.underlying29 rfl info_pdu) rfl ⟨by rw [HR.out], hb⟩
  · have HR := Lib.hid (show namedOf ⟨1, session, serial, add, v, code, text⟩ = { bareP 1 with session := session, serial := serial } from by simp [namedOf])
    have k1 := (hW.1.cell 1).trans (Pdu.c1 _)
    have e1 := (hW.2.2.1.cell 1).trans (Pdu.c1 _)
    have f1 := hW.2.2.1.frozen 1
    go_upto_region 7 with fail
    refine wp_gen (Nmd w w.heap.size ⟨1, session, serial, add, v, code, text⟩ ({ bareP 1 with session := session })) (hW.set (set_session _ _ session _ _ _ _ _)) ?_
    clear k0 k1 e1 f1 hW
    intro W1 hW
    have k2 := (hW.1.cell 2).trans (Pdu.c2 _)
    have e2 := (hW.2.2.1.cell 2).trans (Pdu.c2 _)
    have f2 := hW.2.2.1.frozen 2
    go_upto_region 17 with fail
    refine wp_gen (Nmd w w.heap.size ⟨1, session, serial, add, v, code, text⟩ ({ bareP 1 with session := session, serial := serial })) (hW.set (set_serial _ _ _ serial _ _ _ _)) ?_
    clear k2 e2 f2 hW
    intro W2 hE
    go_wp2_with (first | (refine wpList_load_at rfl 29 _ rfl (w.heap.size + 2) 0 26 rfl _ _ hE.2.2.1.range (Pdu.cells_length _) Try.underlying29 rfl info_pdu ?_) | (refine wpList_store_at rfl 29 _ _ rfl (w.heap.size + 1) 0 26 29 _ _ rfl rfl hE.2.1 (Pdu.cells_length _) (by rw [Pdu.cells_length]; omega) info_pdu (Pdu.one _) ?_))
    obtain ⟨hr, hb⟩ := named_end hE
    exact bodyPost_ret (results_cell1 rfl _ (w.heap.size + 1) 0 26 _ _ rfl hr.range (Pdu.cells_length _) Try.underlying29 rfl info_pdu) rfl ⟨by rw [HR.out], hb⟩
  · have HR := Lib.hid (show namedOf ⟨2, session, serial, add, v, code, text⟩ = bareP 2 from by simp [namedOf])
    have hE := hW
    clear hW
    go_wp2_with (first | (refine wpList_load_at rfl 29 _ rfl (w.heap.size + 2) 0 26 rfl _ _ hE.2.2.1.range (Pdu.cells_length _) Try.underlying29 rfl info_pdu ?_) | (refine wpList_store_at rfl 29 _ _ rfl (w.heap.size + 1) 0 26 29 _ _ rfl rfl hE.2.1 (Pdu.cells_length _) (by rw [Pdu.cells_length]; omega) info_pdu (Pdu.one _) ?_))
    obtain ⟨hr, hb⟩ := named_end hE
    exact bodyPost_ret (results_cell1 rfl _ (w.heap.size + 1) 0 26 _ _ rfl hr.range (Pdu.cells_length _) Try.underlying29 rfl info_pdu) rfl ⟨by rw [HR.out], hb⟩
  · have HR := Lib.hid (show namedOf ⟨3, session, serial, add, v, code, text⟩ = { bareP 3 with session := session } from by simp [namedOf])
    have k1 := (hW.1.cell 1).trans (Pdu.c1 _)
    have e1 := (hW.2.2.1.cell 1).trans (Pdu.c1 _)
    have f1 := hW.2.2.1.frozen 1
    go_upto_region 17 with fail
    refine wp_gen (Nmd w w.heap.size ⟨3, session, serial, add, v, code, text⟩ ({ bareP 3 with session := session })) (hW.set (set_session _ _ session _ _ _ _ _)) ?_
    clear k0 k1 e1 f1 hW
    intro W2 hE
    go_wp2_with (first | (refine wpList_load_at rfl 29 _ rfl (w.heap.size + 2) 0 26 rfl _ _ hE.2.2.1.range (Pdu.cells_length _) Try.underlying29 rfl info_pdu ?_) | (refine wpList_store_at rfl 29 _ _ rfl (w.heap.size + 1) 0 26 29 _ _ rfl rfl hE.2.1 (Pdu.cells_length _) (by rw [Pdu.cells_length]; omega) info_pdu (Pdu.one _) ?_))
    obtain ⟨hr, hb⟩ := named_end hE
    exact bodyPost_ret (results_cell1 rfl _ (w.heap.size + 1) 0 26 _ _ rfl hr.range (Pdu.cells_length _) Try.underlying29 rfl info_pdu) rfl ⟨by rw [HR.out], hb⟩
  · have HR := Lib.hid (show namedOf ⟨4, session, serial, add, v, code, text⟩ = { bareP 4 with add := add, v := v } from by simp [namedOf])
    have k3 := (hW.1.cell 3).trans (Pdu.c3 _)
    have e3 := (hW.2.2.1.cell 3).trans (Pdu.c3 _)
    have f3 := hW.2.2.1.frozen 3
    go_upto_region 13 with fail
    refine wp_gen (Nmd w w.heap.size ⟨4, session, serial, add, v, code, text⟩ ({ bareP 4 with add := add })) (hW.set (set_add _ _ _ _ add _ _ _)) ?_
    clear k0 k3 e3 f3 hW
    intro W1 hW
    go_upto_region 17 with (first | (refine wpList_load_at rfl 27 _ rfl w.heap.size 4 20 rfl _ _ hW.1.pdu_vrp (Vrp.cells_length _) Try.underlying27 rfl info_vrp ?_) | (refine wpList_store_at rfl 27 _ _ rfl (w.heap.size + 2) 4 20 29 v.cells _ rfl rfl hW.2.2.1 (Vrp.cells_length _) (by rw [Pdu.cells_length]; omega) info_vrp (Vrp.one _) ?_))
    refine wp_gen (Nmd w w.heap.size ⟨4, session, serial, add, v, code, text⟩ ({ bareP 4 with add := add, v := v })) (hW.setv v) ?_
    clear hW
    intro W2 hE
    go_wp2_with (first | (refine wpList_load_at rfl 29 _ rfl (w.heap.size + 2) 0 26 rfl _ _ hE.2.2.1.range (Pdu.cells_length _) Try.underlying29 rfl info_pdu ?_) | (refine wpList_store_at rfl 29 _ _ rfl (w.heap.size + 1) 0 26 29 _ _ rfl rfl hE.2.1 (Pdu.cells_length _) (by rw [Pdu.cells_length]; omega) info_pdu (Pdu.one _) ?_))
    obtain ⟨hr, hb⟩ := named_end hE
    exact bodyPost_ret (results_cell1 rfl _ (w.heap.size + 1) 0 26 _ _ rfl hr.range (Pdu.cells_length _) Try.underlying29 rfl info_pdu) rfl ⟨by rw [HR.out], hb⟩
  · have HR := Lib.hid (show namedOf ⟨6, session, serial, add, v, code, text⟩ = { bareP 6 with add := add, v := v } from by simp [namedOf])
    have k3 := (hW.1.cell 3).trans (Pdu.c3 _)
    have e3 := (hW.2.2.1.cell 3).trans (Pdu.c3 _)
    have f3 := hW.2.2.1.frozen 3
    go_upto_region 13 with fail
    refine wp_gen (Nmd w w.heap.size ⟨6, session, serial, add, v, code, text⟩ ({ bareP 6 with add := add })) (hW.set (set_add _ _ _ _ add _ _ _)) ?_
    clear k0 k3 e3 f3 hW
    intro W1 hW
    go_upto_region 17 with (first | (refine wpList_load_at rfl 27 _ rfl w.heap.size 4 20 rfl _ _ hW.1.pdu_vrp (Vrp.cells_length _) Try.underlying27 rfl info_vrp ?_) | (refine wpList_store_at rfl 27 _ _ rfl (w.heap.size + 2) 4 20 29 v.cells _ rfl rfl hW.2.2.1 (Vrp.cells_length _) (by rw [Pdu.cells_length]; omega) info_vrp (Vrp.one _) ?_))
    refine wp_gen (Nmd w w.heap.size ⟨6, session, serial, add, v, code, text⟩ ({ bareP 6 with add := add, v := v })) (hW.setv v) ?_
    clear hW
    intro W2 hE
    go_wp2_with (first | (refine wpList_load_at rfl 29 _ rfl (w.heap.size + 2) 0 26 rfl _ _ hE.2.2.1.range (Pdu.cells_length _) Try.underlying29 rfl info_pdu ?_) | (refine wpList_store_at rfl 29 _ _ rfl (w.heap.size + 1) 0 26 29 _ _ rfl rfl hE.2.1 (Pdu.cells_length _) (by rw [Pdu.cells_length]; omega) info_pdu (Pdu.one _) ?_))
    obtain ⟨hr, hb⟩ := named_end hE
    exact bodyPost_ret (results_cell1 rfl _ (w.heap.size + 1) 0 26 _ _ rfl hr.range (Pdu.cells_length _) Try.underlying29 rfl info_pdu) rfl ⟨by rw [HR.out], hb⟩
  · have HR := Lib.hid (show namedOf ⟨7, session, serial, add, v, code, text⟩ = { bareP 7 with session := session, serial := serial } from by simp [namedOf])
    have k1 := (hW.1.cell 1).trans (Pdu.c1 _)
    have e1 := (hW.2.2.1.cell 1).trans (Pdu.c1 _)
    have f1 := hW.2.2.1.frozen 1
    go_upto_region 7 with fail
    refine wp_gen (Nmd w w.heap.size ⟨7, session, serial, add, v, code, text⟩ ({ bareP 7 with session := session })) (hW.set (set_session _ _ session _ _ _ _ _)) ?_
    clear k0 k1 e1 f1 hW
    intro W1 hW
    have k2 := (hW.1.cell 2).trans (Pdu.c2 _)
    have e2 := (hW.2.2.1.cell 2).trans (Pdu.c2 _)
    have f2 := hW.2.2.1.frozen 2
    go_upto_region 17 with fail
    refine wp_gen (Nmd w w.heap.size ⟨7, session, serial, add, v, code, text⟩ ({ bareP 7 with session := session, serial := serial })) (hW.set (set_serial _ _ _ serial _ _ _ _)) ?_
    clear k2 e2 f2 hW
    intro W2 hE
    go_wp2_with (first | (refine wpList_load_at rfl 29 _ rfl (w.heap.size + 2) 0 26 rfl _ _ hE.2.2.1.range (Pdu.cells_length _) Try.underlying29 rfl info_pdu ?_) | (refine wpList_store_at rfl 29 _ _ rfl (w.heap.size + 1) 0 26 29 _ _ rfl rfl hE.2.1 (Pdu.cells_length _) (by rw [Pdu.cells_length]; omega) info_pdu (Pdu.one _) ?_))
    obtain ⟨hr, hb⟩ := named_end hE
    exact bodyPost_ret (results_cell1 rfl _ (w.heap.size + 1) 0 26 _ _ rfl hr.range (Pdu.cells_length _) Try.underlying29 rfl info_pdu) rfl ⟨by rw [HR.out], hb⟩
  · have HR := Lib.hid (show namedOf ⟨8, session, serial, add, v, code, text⟩ = bareP 8 from by simp [namedOf])
    have hE := hW
    clear hW
    go_wp2_with (first | (refine wpList_load_at rfl 29 _ rfl (w.heap.size + 2) 0 26 rfl _ _ hE.2.2.1.range (Pdu.cells_length _) Try.underlying29 rfl info_pdu ?_) | (refine wpList_store_at rfl 29 _ _ rfl (w.heap.size + 1) 0 26 29 _ _ rfl rfl hE.2.1 (Pdu.cells_length _) (by rw [Pdu.cells_length]; omega) info_pdu (Pdu.one _) ?_))
    obtain ⟨hr, hb⟩ := named_end hE
    exact bodyPost_ret (results_cell1 rfl _ (w.heap.size + 1) 0 26 _ _ rfl hr.range (Pdu.cells_length _) Try.underlying29 rfl info_pdu) rfl ⟨by rw [HR.out], hb⟩
  · have HR := Lib.hid (show namedOf ⟨10, session, serial, add, v, code, text⟩ = { bareP 10 with code := code, text := text } from by simp [namedOf])
    have k1 := (hW.1.cell 24).trans (Pdu.c24 _)
    have e1 := (hW.2.2.1.cell 24).trans (Pdu.c24 _)
    have f1 := hW.2.2.1.frozen 24
    go_upto_region 16 with fail
    refine wp_gen (Nmd w w.heap.size ⟨10, session, serial, add, v, code, text⟩ ({ bareP 10 with code := code })) (hW.set (set_code _ _ _ _ _ _ code _)) ?_
    clear k0 k1 e1 f1 hW
    intro W1 hW
    have k2 := (hW.1.cell 25).trans (Pdu.c25 _)
    have e2 := (hW.2.2.1.cell 25).trans (Pdu.c25 _)
    have f2 := hW.2.2.1.frozen 25
    go_upto_region 17 with fail
    refine wp_gen (Nmd w w.heap.size ⟨10, session, serial, add, v, code, text⟩ ({ bareP 10 with code := code, text := text })) (hW.set (set_text _ _ _ _ _ _ _ text)) ?_
    clear k2 e2 f2 hW
    intro W2 hE
    go_wp2_with (first | (refine wpList_load_at rfl 29 _ rfl (w.heap.size + 2) 0 26 rfl _ _ hE.2.2.1.range (Pdu.cells_length _) Try.underlying29 rfl info_pdu ?_) | (refine wpList_store_at rfl 29 _ _ rfl (w.heap.size + 1) 0 26 29 _ _ rfl rfl hE.2.1 (Pdu.cells_length _) (by rw [Pdu.cells_length]; omega) info_pdu (Pdu.one _) ?_))
    obtain ⟨hr, hb⟩ := named_end hE
    exact bodyPost_ret (results_cell1 rfl _ (w.heap.size + 1) 0 26 _ _ rfl hr.range (Pdu.cells_length _) Try.underlying29 rfl info_pdu) rfl ⟨by rw [HR.out], hb⟩
end Go.Proofs.Ytmoldmnhijcckaa
