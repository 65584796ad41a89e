/- The contract of lanyardref25.Read. Condition: a length that memory allows. -/
import Derived.Test.YtmoldmnhijcckaaRefCan
import Derived.Test.YtmoldmnhijcckaaRefOf
import Derived.Test.YtmoldmnhijcckaaAwake
set_option linter.unusedVariables false
set_option linter.unusedSectionVars false
set_option linter.unusedSimpArgs false
namespace Go.Proofs.Ytmoldmnhijcckaa
open Go.RowKit
theorem of_any (bs : List UInt8) (h8 : 8 ≤ bs.length) (hki : isKind (kd bs) = true) (hl : lenOf (kd bs) ≤ bs.length) (hx : kd bs ≠ 10 → (bs.length : Int) = lenOf (kd bs)) (hu : bs.length ≤ 1000000) (A : Option Addr) (c B : Nat) (hc : bs.length ≤ c) (w : World) (hB : B ≤ w.heap.size) (hr : Reads w B 1 A bs.length (bs.map bv)) :
    Calls Try.prog 49 #[.slice A bs.length c] w fun e w' => e = .returned (parseOf bs).val ∧ Below w.heap.size w w' := by
  rcases kind_cases hki with h | h | h | h | h | h | h | h | h <;> rw [h] at hl hx
  · exact of_0 bs (by simp [lenOf] at hl; omega) hu A c B hc w hB hr h
  · exact of_1 bs (by simp [lenOf] at hl; omega) hu A c B hc w hB hr h
  · exact of_28 bs h8 A c B hc w hB hr (.inl h)
  · exact of_3 bs h8 A c B hc w hB hr h
  · exact of_4 bs _ rfl (by have := hx (by decide); simp [lenOf] at this; omega) A c B hc w hB hr h
  · exact of_6 bs _ rfl (by have := hx (by decide); simp [lenOf] at this; omega) A c B hc w hB hr h
  · exact of_7 bs (by simp [lenOf] at hl; omega) hu A c B hc w hB hr h
  · exact of_28 bs h8 A c B hc w hB hr (.inr h)
  · exact of_10 bs (by simp [lenOf] at hl; omega) A c B hc w hB hr h
theorem of_n (bs : List UInt8) (n : Nat) (hn : bs.length = n) (h8 : 8 ≤ n) (hki : isKind (kd bs) = true) (hl : lenOf (kd bs) ≤ n) (hx : kd bs ≠ 10 → (n : Int) = lenOf (kd bs)) (hu : n ≤ 1000000) (A : Option Addr) (c B : Nat) (hc : n ≤ c) (w : World) (hB : B ≤ w.heap.size) (hr : Reads w B 1 A n (bs.map bv)) :
    Calls Try.prog 49 #[.slice A n c] w fun e w' => e = .returned (parseOf bs).val ∧ Below w.heap.size w w' := by
  subst hn
  exact of_any bs h8 hki hl hx hu A c B hc w hB hr
theorem canOf_long (bs : List UInt8) : canOf (kd bs) (longOf bs) = longOk bs := by
  unfold canOf longOk kd
  by_cases h : at8 bs 1 = 10
  · rw [if_pos (by omega), if_pos h]
  · rw [if_neg (by omega), if_neg h]
theorem rat_long (bs : List UInt8) (h8 : 8 ≤ bs.length) (hb : bs.length ≤ 140737488355000) (A : Option Addr) (c B : Nat) (hc : bs.length ≤ c) (w : World) (hr : Reads w B 1 A bs.length (bs.map bv)) :
    Calls Try.prog 47 #[.slice A bs.length c, .int .i64 4] w fun e w' => e = .returned (.int .u32 (longOf bs)) ∧ w = w' := rat_any bs bs.length rfl 4 (by omega) (by omega) hb A c B hc w hr
set_option maxRecDepth 100000 in
set_option maxHeartbeats 1000000 in
theorem rread_short (bs : List UInt8) (h : bs.length < 8) (A : Option Addr) (c B : Nat) (hc : bs.length ≤ c) (w : World) (hB : B ≤ w.heap.size) (hr : Reads w B 1 A bs.length (bs.map bv)) :
    Calls Try.prog 17 #[.slice A bs.length c] w (RdPost w bs) := by
  have HR := Lib.hid (show readOf bs = (bareP 0, 0, 0, 3) by simp [readOf, h])
  have d8 : decide ((bs.length : Int) < 8) = true := by simp; omega
  have d8' : decide (bs.length < 8) = true := by simp; omega
  clear h
  go_enter Try.func17, Try.ntmps17
  go_upto_region 1 with fail
  refine wp_gen (RS w B (A) bs) (rs_start hB hr) ?_
  intro W hW
  go_wp2_with (refine wpList_store_at rfl 29 _ _ rfl w.heap.size 0 26 29 (bareL 0) _ rfl rfl hW.z rfl (by rw [Pdu.cells_length]; omega) info_pdu (by rw [bareL_eq]; exact Pdu.one _) ?_)
  obtain ⟨hr, hb⟩ := rs_end hW (bareP 0)
  exact bodyPost_ret (results_cell_tmp3 rfl _ w.heap.size 0 26 _ _ rfl hr.range (Pdu.cells_length _) Try.underlying29 rfl info_pdu) rfl ⟨by rw [HR.out]; rfl, hb⟩
set_option maxRecDepth 100000 in
set_option maxHeartbeats 1000000 in
theorem rread_ver (bs : List UInt8) (h8 : 8 ≤ bs.length) (h : at8 bs 0 ≠ 1) (A : Option Addr) (c B : Nat) (hc : bs.length ≤ c) (w : World) (hB : B ≤ w.heap.size) (hr : Reads w B 1 A bs.length (bs.map bv)) :
    Calls Try.prog 17 #[.slice A bs.length c] w (RdPost w bs) := by
  have HR := Lib.hid (show readOf bs = (bareP 0, 0, 4, 2) by simp [readOf, show ¬ bs.length < 8 by omega, h])
  have b0 : ((at8 bs 0 : Int) == 1) = false := by simp; omega
  have b0' : ((at8 bs 0 : Int) != 1) = true := by simp; omega
  clear h
  obtain ⟨ad, rfl, hb, hcell⟩ := hr.2 (by omega)
  have d8 : decide ((bs.length : Int) < 8) = false := by simp; omega
  have d8' : decide (bs.length < 8) = false := by simp; omega
  have f0 : (0 : Int) < (bs.length : Int) := by omega
  have f1 : (1 : Int) < (bs.length : Int) := by omega
  clear hcell hb
  go_enter Try.func17, Try.ntmps17
  go_upto_region 1 with fail
  refine wp_gen (RS w B (some ad) bs) (rs_start hB hr) ?_
  intro W hW
  have e0 : W.cell? ad = some (.int .u8 (at8 bs 0)) := by
    obtain ⟨ad', e, _, hc'⟩ := hW.rd.2 (by omega)
    cases e
    have := hc' 0 (bv (bs.getD 0 0)) (by rw [List.getElem?_map, List.getElem?_eq_getElem (by omega)]; simp [List.getD_eq_getElem?_getD, List.getElem?_eq_getElem (show 0 < bs.length by omega)])
    simpa [Addr.add, bv, at8] using this
  go_wp2_with (refine wpList_store_at rfl 29 _ _ rfl w.heap.size 0 26 29 (bareL 0) _ rfl rfl hW.z rfl (by rw [Pdu.cells_length]; omega) info_pdu (by rw [bareL_eq]; exact Pdu.one _) ?_)
  obtain ⟨hr, hb⟩ := rs_end hW (bareP 0)
  exact bodyPost_ret (results_cell_tmp3 rfl _ w.heap.size 0 26 _ _ rfl hr.range (Pdu.cells_length _) Try.underlying29 rfl info_pdu) rfl ⟨by rw [HR.out]; rfl, hb⟩
set_option maxRecDepth 100000 in
set_option maxHeartbeats 1000000 in
theorem rread_kind (bs : List UInt8) (h8 : 8 ≤ bs.length) (h1 : at8 bs 0 = 1) (hk : isKind (kd bs) = false) (A : Option Addr) (c B : Nat) (hc : bs.length ≤ c) (w : World) (hB : B ≤ w.heap.size) (hr : Reads w B 1 A bs.length (bs.map bv)) :
    Calls Try.prog 17 #[.slice A bs.length c] w (RdPost w bs) := by
  have HR := Lib.hid (show readOf bs = (bareP 0, 0, 5, 2) by simp [readOf, show ¬ bs.length < 8 by omega, h1, hk])
  have HK := Lib.hid hk
  clear hk
  have b0 : ((at8 bs 0 : Int) == 1) = true := by simp; omega
  have b0' : ((at8 bs 0 : Int) != 1) = false := by simp; omega
  have hw1 : IntKind.i64.wrap (at8 bs 1 : Int) = kd bs := wrap_at8 bs 1
  clear h1
  obtain ⟨ad, rfl, hb, hcell⟩ := hr.2 (by omega)
  have d8 : decide ((bs.length : Int) < 8) = false := by simp; omega
  have d8' : decide (bs.length < 8) = false := by simp; omega
  have f0 : (0 : Int) < (bs.length : Int) := by omega
  have f1 : (1 : Int) < (bs.length : Int) := by omega
  clear hcell hb
  go_enter Try.func17, Try.ntmps17
  go_upto_region 1 with fail
  refine wp_gen (RS w B (some ad) bs) (rs_start hB hr) ?_
  intro W hW
  have e0 : W.cell? ad = some (.int .u8 (at8 bs 0)) := by
    obtain ⟨ad', e, _, hc'⟩ := hW.rd.2 (by omega)
    cases e
    have := hc' 0 (bv (bs.getD 0 0)) (by rw [List.getElem?_map, List.getElem?_eq_getElem (by omega)]; simp [List.getD_eq_getElem?_getD, List.getElem?_eq_getElem (show 0 < bs.length by omega)])
    simpa [Addr.add, bv, at8] using this
  go_upto_region 5 with fail
  clear e0
  have e1 := hW.rd.byte (k := 1) (by omega) (by omega)
  go_wp2_with fail
  refine (rkind_any _ _).mono ?_
  rintro e w1 ⟨rfl, rfl⟩
  rw [HK.out]
  go_wp2_with (refine wpList_store_at rfl 29 _ _ rfl w.heap.size 0 26 29 (bareL 0) _ rfl rfl hW.z rfl (by rw [Pdu.cells_length]; omega) info_pdu (by rw [bareL_eq]; exact Pdu.one _) ?_)
  obtain ⟨hr, hb⟩ := rs_end hW (bareP 0)
  exact bodyPost_ret (results_cell_tmp3 rfl _ w.heap.size 0 26 _ _ rfl hr.range (Pdu.cells_length _) Try.underlying29 rfl info_pdu) rfl ⟨by rw [HR.out]; rfl, hb⟩
set_option maxRecDepth 100000 in
set_option maxHeartbeats 1000000 in
theorem rread_long (bs : List UInt8) (h8 : 8 ≤ bs.length) (hu : bs.length ≤ 1000000) (h1 : at8 bs 0 = 1) (hk : isKind (kd bs) = true) (hl0 : longOk bs = false) (A : Option Addr) (c B : Nat) (hc : bs.length ≤ c) (w : World) (hB : B ≤ w.heap.size) (hr : Reads w B 1 A bs.length (bs.map bv)) :
    Calls Try.prog 17 #[.slice A bs.length c] w (RdPost w bs) := by
  have HR := Lib.hid (show readOf bs = (bareP 0, 0, 0, 2) by simp [readOf, show ¬ bs.length < 8 by omega, h1, hk, hl0])
  have HK := Lib.hid hk
  have HLO := Lib.hid hl0
  clear hk hl0
  have hlt32 : longOf bs < 4294967296 := wordOf_lt _
  have hwu : IntKind.u64.wrap (longOf bs : Int) = longOf bs := by rw [IntKind.wrap_u64]; omega
  have hwl : IntKind.u64.wrap (bs.length : Int) = bs.length := by rw [IntKind.wrap_u64]; omega
  have b0 : ((at8 bs 0 : Int) == 1) = true := by simp; omega
  have b0' : ((at8 bs 0 : Int) != 1) = false := by simp; omega
  have hw1 : IntKind.i64.wrap (at8 bs 1 : Int) = kd bs := wrap_at8 bs 1
  clear h1
  obtain ⟨ad, rfl, hb, hcell⟩ := hr.2 (by omega)
  have d8 : decide ((bs.length : Int) < 8) = false := by simp; omega
  have d8' : decide (bs.length < 8) = false := by simp; omega
  have f0 : (0 : Int) < (bs.length : Int) := by omega
  have f1 : (1 : Int) < (bs.length : Int) := by omega
  clear hcell hb
  go_enter Try.func17, Try.ntmps17
  go_upto_region 1 with fail
  refine wp_gen (RS w B (some ad) bs) (rs_start hB hr) ?_
  intro W hW
  have e0 : W.cell? ad = some (.int .u8 (at8 bs 0)) := by
    obtain ⟨ad', e, _, hc'⟩ := hW.rd.2 (by omega)
    cases e
    have := hc' 0 (bv (bs.getD 0 0)) (by rw [List.getElem?_map, List.getElem?_eq_getElem (by omega)]; simp [List.getD_eq_getElem?_getD, List.getElem?_eq_getElem (show 0 < bs.length by omega)])
    simpa [Addr.add, bv, at8] using this
  go_upto_region 5 with fail
  clear e0
  have e1 := hW.rd.byte (k := 1) (by omega) (by omega)
  go_wp2_with fail
  refine (rkind_any _ _).mono ?_
  rintro e w1 ⟨rfl, rfl⟩
  rw [HK.out]
  go_wp2_with fail
  refine (rat_long bs h8 (by omega) _ c B hc _ hW.rd).mono ?_
  rintro e w2 ⟨rfl, rfl⟩
  go_wp2_with fail
  refine (can_any (kd bs) HK.out (longOf bs) hlt32 _).mono ?_
  rintro e w3 ⟨rfl, hb3⟩
  rw [canOf_long, HLO.out]
  replace hW := hW.next hB hb3
  clear hb3 e1
  go_wp2_with (refine wpList_store_at rfl 29 _ _ rfl w.heap.size 0 26 29 (bareL 0) _ rfl rfl hW.z rfl (by rw [Pdu.cells_length]; omega) info_pdu (by rw [bareL_eq]; exact Pdu.one _) ?_)
  obtain ⟨hr, hb⟩ := rs_end hW (bareP 0)
  exact bodyPost_ret (results_cell_tmp3 rfl _ w.heap.size 0 26 _ _ rfl hr.range (Pdu.cells_length _) Try.underlying29 rfl info_pdu) rfl ⟨by rw [HR.out]; rfl, hb⟩
set_option maxRecDepth 100000 in
set_option maxHeartbeats 1000000 in
theorem rread_cut (bs : List UInt8) (h8 : 8 ≤ bs.length) (hu : bs.length ≤ 1000000) (h1 : at8 bs 0 = 1) (hk : isKind (kd bs) = true) (hl0 : longOk bs = true) (hlt : bs.length < longOf bs) (A : Option Addr) (c B : Nat) (hc : bs.length ≤ c) (w : World) (hB : B ≤ w.heap.size) (hr : Reads w B 1 A bs.length (bs.map bv)) :
    Calls Try.prog 17 #[.slice A bs.length c] w (RdPost w bs) := by
  have HR := Lib.hid (show readOf bs = (bareP 0, 0, 0, 3) by simp [readOf, show ¬ bs.length < 8 by omega, h1, hk, hl0, hlt])
  have HK := Lib.hid hk
  have HLO := Lib.hid hl0
  have dl : decide ((bs.length : Int) < (longOf bs : Int)) = true := by simpa using hlt
  have dl' : decide (bs.length < longOf bs) = true := by simpa using hlt
  clear hk hl0 hlt
  have hlt32 : longOf bs < 4294967296 := wordOf_lt _
  have hwu : IntKind.u64.wrap (longOf bs : Int) = longOf bs := by rw [IntKind.wrap_u64]; omega
  have hwl : IntKind.u64.wrap (bs.length : Int) = bs.length := by rw [IntKind.wrap_u64]; omega
  have b0 : ((at8 bs 0 : Int) == 1) = true := by simp; omega
  have b0' : ((at8 bs 0 : Int) != 1) = false := by simp; omega
  have hw1 : IntKind.i64.wrap (at8 bs 1 : Int) = kd bs := wrap_at8 bs 1
  clear h1
  obtain ⟨ad, rfl, hb, hcell⟩ := hr.2 (by omega)
  have d8 : decide ((bs.length : Int) < 8) = false := by simp; omega
  have d8' : decide (bs.length < 8) = false := by simp; omega
  have f0 : (0 : Int) < (bs.length : Int) := by omega
  have f1 : (1 : Int) < (bs.length : Int) := by omega
  clear hcell hb
  go_enter Try.func17, Try.ntmps17
  go_upto_region 1 with fail
  refine wp_gen (RS w B (some ad) bs) (rs_start hB hr) ?_
  intro W hW
  have e0 : W.cell? ad = some (.int .u8 (at8 bs 0)) := by
    obtain ⟨ad', e, _, hc'⟩ := hW.rd.2 (by omega)
    cases e
    have := hc' 0 (bv (bs.getD 0 0)) (by rw [List.getElem?_map, List.getElem?_eq_getElem (by omega)]; simp [List.getD_eq_getElem?_getD, List.getElem?_eq_getElem (show 0 < bs.length by omega)])
    simpa [Addr.add, bv, at8] using this
  go_upto_region 5 with fail
  clear e0
  have e1 := hW.rd.byte (k := 1) (by omega) (by omega)
  go_wp2_with fail
  refine (rkind_any _ _).mono ?_
  rintro e w1 ⟨rfl, rfl⟩
  rw [HK.out]
  go_wp2_with fail
  refine (rat_long bs h8 (by omega) _ c B hc _ hW.rd).mono ?_
  rintro e w2 ⟨rfl, rfl⟩
  go_wp2_with fail
  refine (can_any (kd bs) HK.out (longOf bs) hlt32 _).mono ?_
  rintro e w3 ⟨rfl, hb3⟩
  rw [canOf_long, HLO.out]
  replace hW := hW.next hB hb3
  clear hb3 e1
  go_wp2_with (refine wpList_store_at rfl 29 _ _ rfl w.heap.size 0 26 29 (bareL 0) _ rfl rfl hW.z rfl (by rw [Pdu.cells_length]; omega) info_pdu (by rw [bareL_eq]; exact Pdu.one _) ?_)
  obtain ⟨hr, hb⟩ := rs_end hW (bareP 0)
  exact bodyPost_ret (results_cell_tmp3 rfl _ w.heap.size 0 26 _ _ rfl hr.range (Pdu.cells_length _) Try.underlying29 rfl info_pdu) rfl ⟨by rw [HR.out]; rfl, hb⟩
set_option maxRecDepth 100000 in
set_option maxHeartbeats 1000000 in
theorem rread_bad (bs : List UInt8) (h8 : 8 ≤ bs.length) (hu : bs.length ≤ 1000000) (h1 : at8 bs 0 = 1) (hk : isKind (kd bs) = true) (hl0 : longOk bs = true) (hge : longOf bs ≤ bs.length) (hq : pduOk (parseOf (bs.take (longOf bs))) = false) (A : Option Addr) (c B : Nat) (hc : bs.length ≤ c) (w : World) (hB : B ≤ w.heap.size) (hr : Reads w B 1 A bs.length (bs.map bv)) :
    Calls Try.prog 17 #[.slice A bs.length c] w (RdPost w bs) := by
  have HR := Lib.hid (show readOf bs = (bareP 0, 0, 0, 2) by simp [readOf, show ¬ bs.length < 8 by omega, h1, hk, hl0, show ¬ bs.length < longOf bs by omega, hq])
  have HK := Lib.hid hk
  have HLO := Lib.hid hl0
  have HQ := Lib.hid hq
  clear hq
  have dl : decide ((bs.length : Int) < (longOf bs : Int)) = false := by simpa using hge
  have dl' : decide (bs.length < longOf bs) = false := by simpa using hge
  have HL := Lib.hid (long_ge hk hl0)
  have HLx := Lib.hid (show kd bs ≠ 10 → (longOf bs : Int) = lenOf (kd bs) from fun hne => by
    have h := hl0
    unfold longOk at h
    rw [if_neg (by unfold kd at hne; omega)] at h
    exact of_decide_eq_true h)
  have fl : (longOf bs : Int) ≤ (c : Int) := by omega
  have fl' : longOf bs ≤ c := by omega
  have hwi : IntKind.i64.wrap (longOf bs : Int) = longOf bs := wrap_word _
  clear hk hl0
  have hlt32 : longOf bs < 4294967296 := wordOf_lt _
  have hwu : IntKind.u64.wrap (longOf bs : Int) = longOf bs := by rw [IntKind.wrap_u64]; omega
  have hwl : IntKind.u64.wrap (bs.length : Int) = bs.length := by rw [IntKind.wrap_u64]; omega
  have b0 : ((at8 bs 0 : Int) == 1) = true := by simp; omega
  have b0' : ((at8 bs 0 : Int) != 1) = false := by simp; omega
  have hw1 : IntKind.i64.wrap (at8 bs 1 : Int) = kd bs := wrap_at8 bs 1
  clear h1
  obtain ⟨ad, rfl, hb, hcell⟩ := hr.2 (by omega)
  have d8 : decide ((bs.length : Int) < 8) = false := by simp; omega
  have d8' : decide (bs.length < 8) = false := by simp; omega
  have f0 : (0 : Int) < (bs.length : Int) := by omega
  have f1 : (1 : Int) < (bs.length : Int) := by omega
  clear hcell hb
  go_enter Try.func17, Try.ntmps17
  go_upto_region 1 with fail
  refine wp_gen (RS w B (some ad) bs) (rs_start hB hr) ?_
  intro W hW
  have e0 : W.cell? ad = some (.int .u8 (at8 bs 0)) := by
    obtain ⟨ad', e, _, hc'⟩ := hW.rd.2 (by omega)
    cases e
    have := hc' 0 (bv (bs.getD 0 0)) (by rw [List.getElem?_map, List.getElem?_eq_getElem (by omega)]; simp [List.getD_eq_getElem?_getD, List.getElem?_eq_getElem (show 0 < bs.length by omega)])
    simpa [Addr.add, bv, at8] using this
  go_upto_region 5 with fail
  clear e0
  have e1 := hW.rd.byte (k := 1) (by omega) (by omega)
  go_wp2_with fail
  refine (rkind_any _ _).mono ?_
  rintro e w1 ⟨rfl, rfl⟩
  rw [HK.out]
  go_wp2_with fail
  refine (rat_long bs h8 (by omega) _ c B hc _ hW.rd).mono ?_
  rintro e w2 ⟨rfl, rfl⟩
  go_wp2_with fail
  refine (can_any (kd bs) HK.out (longOf bs) hlt32 _).mono ?_
  rintro e w3 ⟨rfl, hb3⟩
  rw [canOf_long, HLO.out]
  replace hW := hW.next hB hb3
  clear hb3 e1
  go_upto_region 13 with fail
  refine wp_gen (RS w B (some ad) bs) hW ?_
  clear hW
  intro W2 hW
  go_wp2_with fail
  refine (of_n (bs.take (longOf bs)) (longOf bs) (by rw [List.length_take]; omega) (by have := HL.out; omega) (by rw [kd_take (by have := HL.out; omega)]; exact HK.out) (by rw [kd_take (by have := HL.out; omega)]; exact HL.out.1) (by rw [kd_take (by have := HL.out; omega)]; exact HLx.out) (by omega) _ c B (by omega) _ (by have := hW.b.size; omega) (hW.rd.take1 hge)).mono ?_
  rintro e w4 ⟨rfl, hb4⟩
  replace hW := hW.next hB hb4
  clear hb4
  simp only [Pdu.val]
  go_upto_region 14 with (refine wpList_store_at rfl 29 _ _ rfl _ 0 26 29 (parseOf (bs.take (longOf bs))).cells (bareL 0) rfl rfl (blk_new' _ _ _ _ rfl) (Pdu.cells_length _) (by decide) info_pdu (Pdu.one _) ?_)
  refine wp_gen (RS2 w B (some ad) bs w4.heap.size (parseOf (bs.take (longOf bs)))) (rs2_start hW hB _) ?_
  clear hW
  generalize w4.heap.size = g2
  generalize parseOf (bs.take (longOf bs)) = q at *
  intro W3 hW
  refine reg_sch2 11 [(true, 0), (false, 1), (true, 2), (true, 3), (true, 4), (true, 7), (true, 8), (false, 5), (false, 6), (true, 9), (true, 10)] (by kernel_rfl) (by kernel_rfl) (RS2 w B (some ad) bs g2 q) (RS2 w B (some ad) bs g2 q) ?_ ?_ ?_
  · exact ⟨hW.rs.drew, hW.q.drew, hW.lt⟩
  · exact fun _ h => h
  intro W hSW
  simp only [List.map_cons, List.map_nil, List.getD_cons_zero, List.getD_cons_succ, List.drop_succ_cons, List.drop_zero]
  refine hd_pure (v := .agg q.cells.toArray) (by rfl) (fun W' hS' => exec_load_at 29 _ (by rfl) g2 0 26 (by rfl) _ _ hS'.q.range (Pdu.cells_length _) Try.underlying29 rfl info_pdu) ?_ -- 0
  try simp only [Act.put, List.setIfInBounds_toArray, List.set_cons_zero, List.set_cons_succ]
  refine hd_sole (by rfl) (fun K hK => ?_) -- 1
  go_simp
  refine (rright25_any q _).mono ?_; rintro e w' ⟨rfl, hb⟩
  rw [HQ.out]
  refine hK _ _ (hSW.next hB hb) ?_
  clear hK K hSW
  intro hSW
  clear hb
  try simp only [Act.put, List.setIfInBounds_toArray, List.set_cons_zero, List.set_cons_succ]
  refine hd_pure (v := ?_) (by rfl) (fun W' hS' => ?_) ?_ -- 2
  rotate_left
  · (go_simp; first | with_reducible rfl | rfl)
  try simp only [Act.put, List.setIfInBounds_toArray, List.set_cons_zero, List.set_cons_succ]
  refine hd_pure (v := ?_) (by rfl) (fun W' hS' => ?_) ?_ -- 3
  rotate_left
  · (go_simp; first | with_reducible rfl | rfl)
  try simp only [Act.put, List.setIfInBounds_toArray, List.set_cons_zero, List.set_cons_succ]
  refine hd_skip (by rfl) ?_
  try simp only [Act.put, List.setIfInBounds_toArray, List.set_cons_zero, List.set_cons_succ]
  refine hd_skip (by rfl) ?_
  try simp only [Act.put, List.setIfInBounds_toArray, List.set_cons_zero, List.set_cons_succ]
  refine hd_skip (by rfl) ?_
  try simp only [Act.put, List.setIfInBounds_toArray, List.set_cons_zero, List.set_cons_succ]
  refine hd_sole_skip (by rfl) ?_
  try simp only [Act.put, List.setIfInBounds_toArray, List.set_cons_zero, List.set_cons_succ]
  refine hd_sole_skip (by rfl) ?_
  try simp only [Act.put, List.setIfInBounds_toArray, List.set_cons_zero, List.set_cons_succ]
  refine hd_skip (by rfl) ?_
  try simp only [Act.put, List.setIfInBounds_toArray, List.set_cons_zero, List.set_cons_succ]
  refine hd_pure (v := ?_) (by rfl) (fun W' hS' => ?_) ?_ -- 10
  rotate_left
  · (go_simp; first | with_reducible rfl | rfl)
  try simp only [Act.put, List.setIfInBounds_toArray, List.set_cons_zero, List.set_cons_succ]
  refine hd_nil ?_
  replace hW := hSW; clear hSW
  refine wpList_nil (NoPanic.normal ?_)
  replace hW := hW.rs
  go_wp2_with (refine wpList_store_at rfl 29 _ _ rfl w.heap.size 0 26 29 (bareL 0) _ rfl rfl hW.z rfl (by rw [Pdu.cells_length]; omega) info_pdu (by rw [bareL_eq]; exact Pdu.one _) ?_)
  obtain ⟨hr, hb⟩ := rs_end hW (bareP 0)
  exact bodyPost_ret (results_cell_tmp3 rfl _ w.heap.size 0 26 _ _ rfl hr.range (Pdu.cells_length _) Try.underlying29 rfl info_pdu) rfl ⟨by rw [HR.out]; rfl, hb⟩
set_option maxRecDepth 100000 in
set_option maxHeartbeats 1000000 in
theorem rread_other (bs : List UInt8) (h8 : 8 ≤ bs.length) (hu : bs.length ≤ 1000000) (h1 : at8 bs 0 = 1) (hk : isKind (kd bs) = true) (hl0 : longOk bs = true) (hge : longOf bs ≤ bs.length) (hq : pduOk (parseOf (bs.take (longOf bs))) = true) (he : decide (wrB (parseOf (bs.take (longOf bs))) = bs.take (longOf bs)) = false) (A : Option Addr) (c B : Nat) (hc : bs.length ≤ c) (w : World) (hB : B ≤ w.heap.size) (hr : Reads w B 1 A bs.length (bs.map bv)) :
    Calls Try.prog 17 #[.slice A bs.length c] w (RdPost w bs) := by
  have HR := Lib.hid (show readOf bs = (bareP 0, 0, 0, 2) by unfold readOf; simp only [hq, he, h1, hk, hl0, show ¬ bs.length < 8 by omega, show ¬ bs.length < longOf bs by omega]; rfl)
  have HK := Lib.hid hk
  have HLO := Lib.hid hl0
  have HQ := Lib.hid hq
  have HE := Lib.hid (show (wrB (parseOf (bs.take (longOf bs))) == bs.take (longOf bs)) = false ∧ ((⟨(wrB (parseOf (bs.take (longOf bs)))).toArray⟩ : ByteArray).toList == (⟨(bs.take (longOf bs)).toArray⟩ : ByteArray).toList) = false from ⟨by rw [← he, Bool.eq_iff_iff]; simp, by rw [beq_strs, he]⟩)
  clear hq he
  have dl : decide ((bs.length : Int) < (longOf bs : Int)) = false := by simpa using hge
  have dl' : decide (bs.length < longOf bs) = false := by simpa using hge
  have HL := Lib.hid (long_ge hk hl0)
  have HLx := Lib.hid (show kd bs ≠ 10 → (longOf bs : Int) = lenOf (kd bs) from fun hne => by
    have h := hl0
    unfold longOk at h
    rw [if_neg (by unfold kd at hne; omega)] at h
    exact of_decide_eq_true h)
  have fl : (longOf bs : Int) ≤ (c : Int) := by omega
  have fl' : longOf bs ≤ c := by omega
  have hwi : IntKind.i64.wrap (longOf bs : Int) = longOf bs := wrap_word _
  clear hk hl0
  have hlt32 : longOf bs < 4294967296 := wordOf_lt _
  have hwu : IntKind.u64.wrap (longOf bs : Int) = longOf bs := by rw [IntKind.wrap_u64]; omega
  have hwl : IntKind.u64.wrap (bs.length : Int) = bs.length := by rw [IntKind.wrap_u64]; omega
  have b0 : ((at8 bs 0 : Int) == 1) = true := by simp; omega
  have b0' : ((at8 bs 0 : Int) != 1) = false := by simp; omega
  have hw1 : IntKind.i64.wrap (at8 bs 1 : Int) = kd bs := wrap_at8 bs 1
  clear h1
  obtain ⟨ad, rfl, hb, hcell⟩ := hr.2 (by omega)
  have d8 : decide ((bs.length : Int) < 8) = false := by simp; omega
  have d8' : decide (bs.length < 8) = false := by simp; omega
  have f0 : (0 : Int) < (bs.length : Int) := by omega
  have f1 : (1 : Int) < (bs.length : Int) := by omega
  clear hcell hb
  go_enter Try.func17, Try.ntmps17
  go_upto_region 1 with fail
  refine wp_gen (RS w B (some ad) bs) (rs_start hB hr) ?_
  intro W hW
  have e0 : W.cell? ad = some (.int .u8 (at8 bs 0)) := by
    obtain ⟨ad', e, _, hc'⟩ := hW.rd.2 (by omega)
    cases e
    have := hc' 0 (bv (bs.getD 0 0)) (by rw [List.getElem?_map, List.getElem?_eq_getElem (by omega)]; simp [List.getD_eq_getElem?_getD, List.getElem?_eq_getElem (show 0 < bs.length by omega)])
    simpa [Addr.add, bv, at8] using this
  go_upto_region 5 with fail
  clear e0
  have e1 := hW.rd.byte (k := 1) (by omega) (by omega)
  go_wp2_with fail
  refine (rkind_any _ _).mono ?_
  rintro e w1 ⟨rfl, rfl⟩
  rw [HK.out]
  go_wp2_with fail
  refine (rat_long bs h8 (by omega) _ c B hc _ hW.rd).mono ?_
  rintro e w2 ⟨rfl, rfl⟩
  go_wp2_with fail
  refine (can_any (kd bs) HK.out (longOf bs) hlt32 _).mono ?_
  rintro e w3 ⟨rfl, hb3⟩
  rw [canOf_long, HLO.out]
  replace hW := hW.next hB hb3
  clear hb3 e1
  go_upto_region 13 with fail
  refine wp_gen (RS w B (some ad) bs) hW ?_
  clear hW
  intro W2 hW
  go_wp2_with fail
  refine (of_n (bs.take (longOf bs)) (longOf bs) (by rw [List.length_take]; omega) (by have := HL.out; omega) (by rw [kd_take (by have := HL.out; omega)]; exact HK.out) (by rw [kd_take (by have := HL.out; omega)]; exact HL.out.1) (by rw [kd_take (by have := HL.out; omega)]; exact HLx.out) (by omega) _ c B (by omega) _ (by have := hW.b.size; omega) (hW.rd.take1 hge)).mono ?_
  rintro e w4 ⟨rfl, hb4⟩
  replace hW := hW.next hB hb4
  clear hb4
  simp only [Pdu.val]
  go_upto_region 14 with (refine wpList_store_at rfl 29 _ _ rfl _ 0 26 29 (parseOf (bs.take (longOf bs))).cells (bareL 0) rfl rfl (blk_new' _ _ _ _ rfl) (Pdu.cells_length _) (by decide) info_pdu (Pdu.one _) ?_)
  refine wp_gen (RS2 w B (some ad) bs w4.heap.size (parseOf (bs.take (longOf bs)))) (rs2_start hW hB _) ?_
  clear hW
  generalize w4.heap.size = g2
  generalize parseOf (bs.take (longOf bs)) = q at *
  intro W3 hW
  refine reg_sch2 11 [(true, 0), (false, 1), (true, 2), (true, 3), (true, 4), (true, 7), (true, 8), (false, 5), (false, 6), (true, 9), (true, 10)] (by kernel_rfl) (by kernel_rfl) (RS2 w B (some ad) bs g2 q) (RS2 w B (some ad) bs g2 q) ?_ ?_ ?_
  · exact ⟨hW.rs.drew, hW.q.drew, hW.lt⟩
  · exact fun _ h => h
  intro W hSW
  simp only [List.map_cons, List.map_nil, List.getD_cons_zero, List.getD_cons_succ, List.drop_succ_cons, List.drop_zero]
  refine hd_pure (v := .agg q.cells.toArray) (by rfl) (fun W' hS' => exec_load_at 29 _ (by rfl) g2 0 26 (by rfl) _ _ hS'.q.range (Pdu.cells_length _) Try.underlying29 rfl info_pdu) ?_ -- 0
  try simp only [Act.put, List.setIfInBounds_toArray, List.set_cons_zero, List.set_cons_succ]
  refine hd_sole (by rfl) (fun K hK => ?_) -- 1
  go_simp
  refine (rright25_any q _).mono ?_; rintro e w' ⟨rfl, hb⟩
  rw [HQ.out]
  refine hK _ _ (hSW.next hB hb) ?_
  clear hK K hSW
  intro hSW
  clear hb
  try simp only [Act.put, List.setIfInBounds_toArray, List.set_cons_zero, List.set_cons_succ]
  refine hd_pure (v := ?_) (by rfl) (fun W' hS' => ?_) ?_ -- 2
  rotate_left
  · have hs2 := (hS'.rs.rd.take1 hge).str c; clear hS'; (go_simp; first | with_reducible rfl | rfl)
  try simp only [Act.put, List.setIfInBounds_toArray, List.set_cons_zero, List.set_cons_succ]
  refine hd_pure (v := ?_) (by rfl) (fun W' hS' => ?_) ?_ -- 3
  rotate_left
  · have hs2 := (hS'.rs.rd.take1 hge).str c; clear hS'; (go_simp; first | with_reducible rfl | rfl)
  try simp only [Act.put, List.setIfInBounds_toArray, List.set_cons_zero, List.set_cons_succ]
  refine hd_pure (v := .agg q.cells.toArray) (by rfl) (fun W' hS' => exec_load_at 29 _ (by rfl) g2 0 26 (by rfl) _ _ hS'.q.range (Pdu.cells_length _) Try.underlying29 rfl info_pdu) ?_ -- 4
  try simp only [Act.put, List.setIfInBounds_toArray, List.set_cons_zero, List.set_cons_succ]
  refine hd_pure (v := ?_) (by rfl) (fun W' hS' => ?_) ?_ -- 7
  rotate_left
  · have hs2 := (hS'.rs.rd.take1 hge).str c; clear hS'; (go_simp; first | with_reducible rfl | rfl)
  try simp only [Act.put, List.setIfInBounds_toArray, List.set_cons_zero, List.set_cons_succ]
  refine hd_pure (v := ?_) (by rfl) (fun W' hS' => ?_) ?_ -- 8
  rotate_left
  · have hs2 := (hS'.rs.rd.take1 hge).str c; clear hS'; (go_simp; first | with_reducible rfl | rfl)
  try simp only [Act.put, List.setIfInBounds_toArray, List.set_cons_zero, List.set_cons_succ]
  refine hd_sole (by rfl) (fun K hK => ?_) -- 5
  go_simp
  refine (lay_ok HQ.out _).mono ?_; rintro e w' ⟨A3, n3, c3, rfl, hn3, hc3, hr3, hb⟩; subst hn3
  refine hK _ _ (hSW.next hB hb) ?_
  clear hK K hSW
  intro hSW
  clear hb
  try simp only [Act.put, List.setIfInBounds_toArray, List.set_cons_zero, List.set_cons_succ]
  refine hd_sole (by rfl) (fun K hK => ?_) -- 6
  have hs1 := hr3.str c3
  go_simp
  refine hK _ _ (hSW) ?_
  clear hK K hSW
  intro hSW
  clear hs1 hr3
  try simp only [Act.put, List.setIfInBounds_toArray, List.set_cons_zero, List.set_cons_succ]
  refine hd_pure (v := ?_) (by rfl) (fun W' hS' => ?_) ?_ -- 9
  rotate_left
  · (obtain ⟨hq1, hq2⟩ := HE.out; clear hS'; go_simp; first | with_reducible rfl | rfl)
  try simp only [Act.put, List.setIfInBounds_toArray, List.set_cons_zero, List.set_cons_succ]
  refine hd_pure (v := ?_) (by rfl) (fun W' hS' => ?_) ?_ -- 10
  rotate_left
  · have hs2 := (hS'.rs.rd.take1 hge).str c; clear hS'; (go_simp; first | with_reducible rfl | rfl)
  try simp only [Act.put, List.setIfInBounds_toArray, List.set_cons_zero, List.set_cons_succ]
  refine hd_nil ?_
  replace hW := hSW; clear hSW
  refine wpList_nil (NoPanic.normal ?_)
  replace hW := hW.rs
  go_wp2_with (refine wpList_store_at rfl 29 _ _ rfl w.heap.size 0 26 29 (bareL 0) _ rfl rfl hW.z rfl (by rw [Pdu.cells_length]; omega) info_pdu (by rw [bareL_eq]; exact Pdu.one _) ?_)
  obtain ⟨hr, hb⟩ := rs_end hW (bareP 0)
  exact bodyPost_ret (results_cell_tmp3 rfl _ w.heap.size 0 26 _ _ rfl hr.range (Pdu.cells_length _) Try.underlying29 rfl info_pdu) rfl ⟨by rw [HR.out]; rfl, hb⟩
set_option maxRecDepth 100000 in
set_option maxHeartbeats 1000000 in
theorem rread_good (bs : List UInt8) (h8 : 8 ≤ bs.length) (hu : bs.length ≤ 1000000) (h1 : at8 bs 0 = 1) (hk : isKind (kd bs) = true) (hl0 : longOk bs = true) (hge : longOf bs ≤ bs.length) (hq : pduOk (parseOf (bs.take (longOf bs))) = true) (he : decide (wrB (parseOf (bs.take (longOf bs))) = bs.take (longOf bs)) = true) (A : Option Addr) (c B : Nat) (hc : bs.length ≤ c) (w : World) (hB : B ≤ w.heap.size) (hr : Reads w B 1 A bs.length (bs.map bv)) :
    Calls Try.prog 17 #[.slice A bs.length c] w (RdPost w bs) := by
  have HR := Lib.hid (show readOf bs = (parseOf (bs.take (longOf bs)), (longOf bs : Int), 0, 0) by unfold readOf; simp only [hq, he, h1, hk, hl0, show ¬ bs.length < 8 by omega, show ¬ bs.length < longOf bs by omega]; rfl)
  have HK := Lib.hid hk
  have HLO := Lib.hid hl0
  have HQ := Lib.hid hq
  have HE := Lib.hid (show (wrB (parseOf (bs.take (longOf bs))) == bs.take (longOf bs)) = true ∧ ((⟨(wrB (parseOf (bs.take (longOf bs)))).toArray⟩ : ByteArray).toList == (⟨(bs.take (longOf bs)).toArray⟩ : ByteArray).toList) = true from ⟨by rw [← he, Bool.eq_iff_iff]; simp, by rw [beq_strs, he]⟩)
  clear hq he
  have dl : decide ((bs.length : Int) < (longOf bs : Int)) = false := by simpa using hge
  have dl' : decide (bs.length < longOf bs) = false := by simpa using hge
  have HL := Lib.hid (long_ge hk hl0)
  have HLx := Lib.hid (show kd bs ≠ 10 → (longOf bs : Int) = lenOf (kd bs) from fun hne => by
    have h := hl0
    unfold longOk at h
    rw [if_neg (by unfold kd at hne; omega)] at h
    exact of_decide_eq_true h)
  have fl : (longOf bs : Int) ≤ (c : Int) := by omega
  have fl' : longOf bs ≤ c := by omega
  have hwi : IntKind.i64.wrap (longOf bs : Int) = longOf bs := wrap_word _
  clear hk hl0
  have hlt32 : longOf bs < 4294967296 := wordOf_lt _
  have hwu : IntKind.u64.wrap (longOf bs : Int) = longOf bs := by rw [IntKind.wrap_u64]; omega
  have hwl : IntKind.u64.wrap (bs.length : Int) = bs.length := by rw [IntKind.wrap_u64]; omega
  have b0 : ((at8 bs 0 : Int) == 1) = true := by simp; omega
  have b0' : ((at8 bs 0 : Int) != 1) = false := by simp; omega
  have hw1 : IntKind.i64.wrap (at8 bs 1 : Int) = kd bs := wrap_at8 bs 1
  clear h1
  obtain ⟨ad, rfl, hb, hcell⟩ := hr.2 (by omega)
  have d8 : decide ((bs.length : Int) < 8) = false := by simp; omega
  have d8' : decide (bs.length < 8) = false := by simp; omega
  have f0 : (0 : Int) < (bs.length : Int) := by omega
  have f1 : (1 : Int) < (bs.length : Int) := by omega
  clear hcell hb
  go_enter Try.func17, Try.ntmps17
  go_upto_region 1 with fail
  refine wp_gen (RS w B (some ad) bs) (rs_start hB hr) ?_
  intro W hW
  have e0 : W.cell? ad = some (.int .u8 (at8 bs 0)) := by
    obtain ⟨ad', e, _, hc'⟩ := hW.rd.2 (by omega)
    cases e
    have := hc' 0 (bv (bs.getD 0 0)) (by rw [List.getElem?_map, List.getElem?_eq_getElem (by omega)]; simp [List.getD_eq_getElem?_getD, List.getElem?_eq_getElem (show 0 < bs.length by omega)])
    simpa [Addr.add, bv, at8] using this
  go_upto_region 5 with fail
  clear e0
  have e1 := hW.rd.byte (k := 1) (by omega) (by omega)
  go_wp2_with fail
  refine (rkind_any _ _).mono ?_
  rintro e w1 ⟨rfl, rfl⟩
  rw [HK.out]
  go_wp2_with fail
  refine (rat_long bs h8 (by omega) _ c B hc _ hW.rd).mono ?_
  rintro e w2 ⟨rfl, rfl⟩
  go_wp2_with fail
  refine (can_any (kd bs) HK.out (longOf bs) hlt32 _).mono ?_
  rintro e w3 ⟨rfl, hb3⟩
  rw [canOf_long, HLO.out]
  replace hW := hW.next hB hb3
  clear hb3 e1
  go_upto_region 13 with fail
  refine wp_gen (RS w B (some ad) bs) hW ?_
  clear hW
  intro W2 hW
  go_wp2_with fail
  refine (of_n (bs.take (longOf bs)) (longOf bs) (by rw [List.length_take]; omega) (by have := HL.out; omega) (by rw [kd_take (by have := HL.out; omega)]; exact HK.out) (by rw [kd_take (by have := HL.out; omega)]; exact HL.out.1) (by rw [kd_take (by have := HL.out; omega)]; exact HLx.out) (by omega) _ c B (by omega) _ (by have := hW.b.size; omega) (hW.rd.take1 hge)).mono ?_
  rintro e w4 ⟨rfl, hb4⟩
  replace hW := hW.next hB hb4
  clear hb4
  simp only [Pdu.val]
  go_upto_region 14 with (refine wpList_store_at rfl 29 _ _ rfl _ 0 26 29 (parseOf (bs.take (longOf bs))).cells (bareL 0) rfl rfl (blk_new' _ _ _ _ rfl) (Pdu.cells_length _) (by decide) info_pdu (Pdu.one _) ?_)
  refine wp_gen (RS2 w B (some ad) bs w4.heap.size (parseOf (bs.take (longOf bs)))) (rs2_start hW hB _) ?_
  clear hW
  generalize w4.heap.size = g2
  generalize parseOf (bs.take (longOf bs)) = q at *
  intro W3 hW
  refine reg_sch2 11 [(true, 0), (false, 1), (true, 2), (true, 3), (true, 4), (true, 7), (true, 8), (false, 5), (false, 6), (true, 9), (true, 10)] (by kernel_rfl) (by kernel_rfl) (RS2 w B (some ad) bs g2 q) (RS2 w B (some ad) bs g2 q) ?_ ?_ ?_
  · exact ⟨hW.rs.drew, hW.q.drew, hW.lt⟩
  · exact fun _ h => h
  intro W hSW
  simp only [List.map_cons, List.map_nil, List.getD_cons_zero, List.getD_cons_succ, List.drop_succ_cons, List.drop_zero]
  refine hd_pure (v := .agg q.cells.toArray) (by rfl) (fun W' hS' => exec_load_at 29 _ (by rfl) g2 0 26 (by rfl) _ _ hS'.q.range (Pdu.cells_length _) Try.underlying29 rfl info_pdu) ?_ -- 0
  try simp only [Act.put, List.setIfInBounds_toArray, List.set_cons_zero, List.set_cons_succ]
  refine hd_sole (by rfl) (fun K hK => ?_) -- 1
  go_simp
  refine (rright25_any q _).mono ?_; rintro e w' ⟨rfl, hb⟩
  rw [HQ.out]
  refine hK _ _ (hSW.next hB hb) ?_
  clear hK K hSW
  intro hSW
  clear hb
  try simp only [Act.put, List.setIfInBounds_toArray, List.set_cons_zero, List.set_cons_succ]
  refine hd_pure (v := ?_) (by rfl) (fun W' hS' => ?_) ?_ -- 2
  rotate_left
  · have hs2 := (hS'.rs.rd.take1 hge).str c; clear hS'; (go_simp; first | with_reducible rfl | rfl)
  try simp only [Act.put, List.setIfInBounds_toArray, List.set_cons_zero, List.set_cons_succ]
  refine hd_pure (v := ?_) (by rfl) (fun W' hS' => ?_) ?_ -- 3
  rotate_left
  · have hs2 := (hS'.rs.rd.take1 hge).str c; clear hS'; (go_simp; first | with_reducible rfl | rfl)
  try simp only [Act.put, List.setIfInBounds_toArray, List.set_cons_zero, List.set_cons_succ]
  refine hd_pure (v := .agg q.cells.toArray) (by rfl) (fun W' hS' => exec_load_at 29 _ (by rfl) g2 0 26 (by rfl) _ _ hS'.q.range (Pdu.cells_length _) Try.underlying29 rfl info_pdu) ?_ -- 4
  try simp only [Act.put, List.setIfInBounds_toArray, List.set_cons_zero, List.set_cons_succ]
  refine hd_pure (v := ?_) (by rfl) (fun W' hS' => ?_) ?_ -- 7
  rotate_left
  · have hs2 := (hS'.rs.rd.take1 hge).str c; clear hS'; (go_simp; first | with_reducible rfl | rfl)
  try simp only [Act.put, List.setIfInBounds_toArray, List.set_cons_zero, List.set_cons_succ]
  refine hd_pure (v := ?_) (by rfl) (fun W' hS' => ?_) ?_ -- 8
  rotate_left
  · have hs2 := (hS'.rs.rd.take1 hge).str c; clear hS'; (go_simp; first | with_reducible rfl | rfl)
  try simp only [Act.put, List.setIfInBounds_toArray, List.set_cons_zero, List.set_cons_succ]
  refine hd_sole (by rfl) (fun K hK => ?_) -- 5
  go_simp
  refine (lay_ok HQ.out _).mono ?_; rintro e w' ⟨A3, n3, c3, rfl, hn3, hc3, hr3, hb⟩; subst hn3
  refine hK _ _ (hSW.next hB hb) ?_
  clear hK K hSW
  intro hSW
  clear hb
  try simp only [Act.put, List.setIfInBounds_toArray, List.set_cons_zero, List.set_cons_succ]
  refine hd_sole (by rfl) (fun K hK => ?_) -- 6
  have hs1 := hr3.str c3
  go_simp
  refine hK _ _ (hSW) ?_
  clear hK K hSW
  intro hSW
  clear hs1 hr3
  try simp only [Act.put, List.setIfInBounds_toArray, List.set_cons_zero, List.set_cons_succ]
  refine hd_pure (v := ?_) (by rfl) (fun W' hS' => ?_) ?_ -- 9
  rotate_left
  · (obtain ⟨hq1, hq2⟩ := HE.out; clear hS'; go_simp; first | with_reducible rfl | rfl)
  try simp only [Act.put, List.setIfInBounds_toArray, List.set_cons_zero, List.set_cons_succ]
  refine hd_pure (v := ?_) (by rfl) (fun W' hS' => ?_) ?_ -- 10
  rotate_left
  · have hs2 := (hS'.rs.rd.take1 hge).str c; clear hS'; (go_simp; first | with_reducible rfl | rfl)
  try simp only [Act.put, List.setIfInBounds_toArray, List.set_cons_zero, List.set_cons_succ]
  refine hd_nil ?_
  replace hW := hSW; clear hSW
  refine wpList_nil (NoPanic.normal ?_)
  go_wp2_with (first | (refine wpList_load_at rfl 29 _ rfl g2 0 26 rfl _ _ hW.q.range (Pdu.cells_length _) Try.underlying29 rfl info_pdu ?_) | (refine wpList_store_at rfl 29 _ _ rfl w.heap.size 0 26 29 _ _ rfl rfl hW.rs.z (Pdu.cells_length _) (by rw [Pdu.cells_length]; omega) info_pdu (Pdu.one _) ?_))
  obtain ⟨hr, hb⟩ := rs_end hW.rs q
  exact bodyPost_ret (results_cell_tmp3 rfl _ w.heap.size 0 26 _ _ rfl hr.range (Pdu.cells_length _) Try.underlying29 rfl info_pdu) rfl ⟨by rw [HR.out]; rfl, hb⟩
theorem rread_any (bs : List UInt8) (hu : bs.length ≤ 1000000) (A : Option Addr) (c B : Nat) (hc : bs.length ≤ c) (w : World) (hB : B ≤ w.heap.size) (hr : Reads w B 1 A bs.length (bs.map bv)) :
    Calls Try.prog 17 #[.slice A bs.length c] w (RdPost w bs) := by
  by_cases h8 : bs.length < 8
  · exact rread_short bs h8 A c B hc w hB hr
  by_cases h1 : at8 bs 0 = 1
  · cases hk : isKind (kd bs)
    · exact rread_kind bs (by omega) h1 hk A c B hc w hB hr
    · cases hl : longOk bs
      · exact rread_long bs (by omega) hu h1 hk hl A c B hc w hB hr
      · by_cases hlt : bs.length < longOf bs
        · exact rread_cut bs (by omega) hu h1 hk hl hlt A c B hc w hB hr
        · cases hq : pduOk (parseOf (bs.take (longOf bs)))
          · exact rread_bad bs (by omega) hu h1 hk hl (by omega) hq A c B hc w hB hr
          · cases he : decide (wrB (parseOf (bs.take (longOf bs))) = bs.take (longOf bs))
            · exact rread_other bs (by omega) hu h1 hk hl (by omega) hq he A c B hc w hB hr
            · exact rread_good bs (by omega) hu h1 hk hl (by omega) hq he A c B hc w hB hr
  · exact rread_ver bs (by omega) h1 A c B hc w hB hr
theorem rread_n (bs : List UInt8) (n : Nat) (hn : bs.length = n) (hu : n ≤ 1000000) (q : Pdu) (m k x : Int) (hr0 : readOf bs = (q, m, k, x)) (A : Option Addr) (c B : Nat) (hc : n ≤ c) (w : World) (hB : B ≤ w.heap.size) (hr : Reads w B 1 A n (bs.map bv)) :
    Calls Try.prog 17 #[.slice A n c] w fun e w' => e = .returned (.tuple #[.agg q.cells.toArray, .int .i64 m, .int .i64 k, .int .i64 x]) ∧ Below w.heap.size w w' := by
  subst hn
  have h := rread_any bs hu A c B hc w hB hr
  unfold RdPost at h
  rw [hr0] at h
  exact h
end Go.Proofs.Ytmoldmnhijcckaa
