
/- The contract of lanyardref25.of: the message that bytes may be. Conditions: a kind, as many bytes as it has. -/
import Derived.Test.YtmoldmnhijcckaaPrsT
import Derived.Test.YtmoldmnhijcckaaRefA
import Derived.Test.YtmoldmnhijcckaaGrd
import Derived.Deep.DeepMust
import Derived.Deep.DeepCutAuto
set_option linter.unusedVariables false
set_option linter.unusedSectionVars false
set_option linter.unusedSimpArgs false
namespace Go.Proofs.Ytmoldmnhijcckaa
open Go.RowKit
theorem cutQ {w : World} {B n c : Nat} {A : Option Addr} {bs : List UInt8} (h : Reads w B 1 A n (bs.map bv)) {k : Nat} (hk : k ≤ n) (hc : n ≤ c) : Reads w B 1 (if c = k then A else A.map (·.add k)) (n - k) ((bs.drop k).map bv) := by
  have := h.cut (k := k) (cap := c) hk hc
  rw [Nat.mul_one, ← List.map_drop] at this
  exact this
set_option maxRecDepth 100000 in
set_option maxHeartbeats 1000000 in
theorem of_3 (bs : List UInt8) (hn : 8 ≤ bs.length) (A : Option Addr) (c B : Nat) (hc : bs.length ≤ c) (w : World) (hB : B ≤ w.heap.size) (hr : Reads w B 1 A bs.length (bs.map bv)) (hk : kd bs = 3) :
    Calls Try.prog 49 #[.slice A bs.length c] w fun e w' => e = .returned (parseOf bs).val ∧ Below w.heap.size w w' := by
  have HR := Lib.hid (show parseOf bs = { bareP (kd bs) with session := midOf bs } by simp [parseOf, hk])
  have b0 : (kd bs == 0) = false := by simp; omega
  have b1 : (kd bs == 1) = false := by simp; omega
  have b3 : (kd bs == 3) = true := by simp; omega
  have b4 : (kd bs == 4) = false := by simp; omega
  have b6 : (kd bs == 6) = false := by simp; omega
  have b7 : (kd bs == 7) = false := by simp; omega
  have b10 : (kd bs == 10) = false := by simp; omega
  have hmid : IntKind.i64.wrap (IntKind.i64.wrap ((at8 bs 2 : Int) * 256) + (at8 bs 3 : Int)) = midOf bs := by
    have h2 := at8_lt bs 2
    have h3 := at8_lt bs 3
    unfold midOf
    rw [show IntKind.i64.wrap ((at8 bs 2 : Int) * 256) = (at8 bs 2 : Int) * 256 from IntWalk.i64_in _ (by omega), IntWalk.i64_in _ (by omega)]
  have hmid2 : IntKind.i64.wrap ((at8 bs 2 : Int) * 256 + (at8 bs 3 : Int)) = midOf bs := by
    have h2 := at8_lt bs 2
    have h3 := at8_lt bs 3
    unfold midOf
    rw [IntWalk.i64_in _ (by omega)]
  have HK := Lib.hid hk
  clear hk
  obtain ⟨ad, rfl, hb, hcell⟩ := hr.2 (by omega)
  clear hcell hb
  have hw1 : IntKind.i64.wrap (at8 bs 1 : Int) = kd bs := wrap_at8 bs 1
  have hw2 := wrap_at8 bs 2
  have hw3 := wrap_at8 bs 3
  have f1 : (1 : Int) < (bs.length : Int) := by omega
  have f2 : (2 : Int) < (bs.length : Int) := by omega
  have f3 : (3 : Int) < (bs.length : Int) := by omega
  go_enter Try.func49, Try.ntmps49
  go_upto_region 1 with fail
  refine wp_gen (Prs0 w B ad bs) (prs0 hB hr) ?_
  intro W0 h0
  have e1 := h0.rd.byte (k := 1) (by omega) (by omega)
  have es := h0.sz
  go_upto_region 2 with (refine wpList_store_at rfl 29 _ _ rfl (w.heap.size + 1) 0 26 29 (bareL (kd bs)) (bareL 0) rfl rfl (blk_new' _ _ _ _ es) rfl (by decide) info_pdu (by rw [bareL_eq]; exact Pdu.one _) ?_)
  try rw [es]
  refine wp_gen (Prs w B ad bs (bareP (kd bs))) (prs_start h0 hB (kd bs)) ?_
  clear e1 es h0
  intro W hW
  refine reg_sch2 11 [(true, 0), (true, 1), (true, 2), (true, 3), (true, 4), (true, 5), (true, 6), (true, 7), (true, 8), (true, 9), (true, 10)] (by kernel_rfl) (by kernel_rfl) (fun W => Reads W B 1 (some ad) bs.length (bs.map bv)) (Prs w B ad bs (bareP (kd bs))) ?_ ?_ ?_
  · exact hW.drew
  · exact fun _ h => h.rd
  intro W hSW
  simp only [List.map_cons, List.map_nil, List.getD_cons_zero, List.getD_cons_succ, List.drop_succ_cons, List.drop_zero]
  refine hd_pure (v := ?_) (by rfl) (fun W' hS' => ?_) ?_ -- 0
  rotate_left
  · have e2 := hS'.byte (k := 2) (by omega) (by omega); have e3 := hS'.byte (k := 3) (by omega) (by omega); clear hS'; (go_simp; first | with_reducible rfl | rfl)
  try simp only [Act.put, List.setIfInBounds_toArray, List.set_cons_zero, List.set_cons_succ]
  refine hd_pure (v := ?_) (by rfl) (fun W' hS' => ?_) ?_ -- 1
  rotate_left
  · have e2 := hS'.byte (k := 2) (by omega) (by omega); have e3 := hS'.byte (k := 3) (by omega) (by omega); clear hS'; (go_simp; first | with_reducible rfl | rfl)
  try simp only [Act.put, List.setIfInBounds_toArray, List.set_cons_zero, List.set_cons_succ]
  refine hd_pure (v := ?_) (by rfl) (fun W' hS' => ?_) ?_ -- 2
  rotate_left
  · have e2 := hS'.byte (k := 2) (by omega) (by omega); have e3 := hS'.byte (k := 3) (by omega) (by omega); clear hS'; (go_simp; first | with_reducible rfl | rfl)
  try simp only [Act.put, List.setIfInBounds_toArray, List.set_cons_zero, List.set_cons_succ]
  refine hd_pure (v := ?_) (by rfl) (fun W' hS' => ?_) ?_ -- 3
  rotate_left
  · have e2 := hS'.byte (k := 2) (by omega) (by omega); have e3 := hS'.byte (k := 3) (by omega) (by omega); clear hS'; (go_simp; first | with_reducible rfl | rfl)
  try simp only [Act.put, List.setIfInBounds_toArray, List.set_cons_zero, List.set_cons_succ]
  refine hd_pure (v := ?_) (by rfl) (fun W' hS' => ?_) ?_ -- 4
  rotate_left
  · have e2 := hS'.byte (k := 2) (by omega) (by omega); have e3 := hS'.byte (k := 3) (by omega) (by omega); clear hS'; (go_simp; first | with_reducible rfl | rfl)
  try simp only [Act.put, List.setIfInBounds_toArray, List.set_cons_zero, List.set_cons_succ]
  refine hd_pure (v := ?_) (by rfl) (fun W' hS' => ?_) ?_ -- 5
  rotate_left
  · have e2 := hS'.byte (k := 2) (by omega) (by omega); have e3 := hS'.byte (k := 3) (by omega) (by omega); clear hS'; (go_simp; first | with_reducible rfl | rfl)
  try simp only [Act.put, List.setIfInBounds_toArray, List.set_cons_zero, List.set_cons_succ]
  refine hd_pure (v := ?_) (by rfl) (fun W' hS' => ?_) ?_ -- 6
  rotate_left
  · have e2 := hS'.byte (k := 2) (by omega) (by omega); have e3 := hS'.byte (k := 3) (by omega) (by omega); clear hS'; (go_simp; first | with_reducible rfl | rfl)
  try simp only [Act.put, List.setIfInBounds_toArray, List.set_cons_zero, List.set_cons_succ]
  refine hd_pure (v := ?_) (by rfl) (fun W' hS' => ?_) ?_ -- 7
  rotate_left
  · have e2 := hS'.byte (k := 2) (by omega) (by omega); have e3 := hS'.byte (k := 3) (by omega) (by omega); clear hS'; (go_simp; first | with_reducible rfl | rfl)
  try simp only [Act.put, List.setIfInBounds_toArray, List.set_cons_zero, List.set_cons_succ]
  refine hd_pure (v := ?_) (by rfl) (fun W' hS' => ?_) ?_ -- 8
  rotate_left
  · have e2 := hS'.byte (k := 2) (by omega) (by omega); have e3 := hS'.byte (k := 3) (by omega) (by omega); clear hS'; (go_simp; first | with_reducible rfl | rfl)
  try simp only [Act.put, List.setIfInBounds_toArray, List.set_cons_zero, List.set_cons_succ]
  refine hd_pure (v := ?_) (by rfl) (fun W' hS' => ?_) ?_ -- 9
  rotate_left
  · have e2 := hS'.byte (k := 2) (by omega) (by omega); have e3 := hS'.byte (k := 3) (by omega) (by omega); clear hS'; (go_simp; first | with_reducible rfl | rfl)
  try simp only [Act.put, List.setIfInBounds_toArray, List.set_cons_zero, List.set_cons_succ]
  refine hd_pure (v := ?_) (by rfl) (fun W' hS' => ?_) ?_ -- 10
  rotate_left
  · have e2 := hS'.byte (k := 2) (by omega) (by omega); have e3 := hS'.byte (k := 3) (by omega) (by omega); clear hS'; (go_simp; first | with_reducible rfl | rfl)
  try simp only [Act.put, List.setIfInBounds_toArray, List.set_cons_zero, List.set_cons_succ]
  refine hd_nil ?_
  replace hW := hSW; clear hSW
  refine wpList_nil (NoPanic.normal ?_)
  have k0 : W.cell? ⟨w.heap.size + 1, 0, none⟩ = some (.int .i64 (kd bs)) := (hW.q.cell 0).trans (Pdu.c0 _)
  clear hmid hmid2 hw2 hw3
  have k1 := (hW.q.cell 1).trans (Pdu.c1 _)
  have p1 := hW.q.frozen 1
  go_upto_region 25 with fail
  refine wp_gen (Prs w B ad bs { bareP (kd bs) with session := midOf bs }) (hW.set hB (set_session _ _ _ _ _ _ _ _)) ?_
  clear k0 k1 p1 hW
  intro W2 hW
  go_wp2_with (first | (refine wpList_load_at rfl 29 _ rfl (w.heap.size + 1) 0 26 rfl _ _ hW.q.range (Pdu.cells_length _) Try.underlying29 rfl info_pdu ?_) | (refine wpList_store_at rfl 29 _ _ rfl w.heap.size 0 26 29 _ _ rfl rfl hW.z (Pdu.cells_length _) (by rw [Pdu.cells_length]; omega) info_pdu (Pdu.one _) ?_))
  obtain ⟨hr, hb⟩ := prs_end hW
  exact bodyPost_ret (results_cell1 rfl _ w.heap.size 0 26 _ _ rfl hr.range (Pdu.cells_length _) Try.underlying29 rfl info_pdu) rfl ⟨by rw [HR.out]; rfl, hb⟩
set_option maxRecDepth 100000 in
set_option maxHeartbeats 1000000 in
theorem of_28 (bs : List UInt8) (hn : 8 ≤ bs.length) (A : Option Addr) (c B : Nat) (hc : bs.length ≤ c) (w : World) (hB : B ≤ w.heap.size) (hr : Reads w B 1 A bs.length (bs.map bv)) (hk : kd bs = 2 ∨ kd bs = 8) :
    Calls Try.prog 49 #[.slice A bs.length c] w fun e w' => e = .returned (parseOf bs).val ∧ Below w.heap.size w w' := by
  have HR := Lib.hid (show parseOf bs = bareP (kd bs) by rcases hk with hk | hk <;> simp [parseOf, hk])
  have b0 : (kd bs == 0) = false := by simp; omega
  have b1 : (kd bs == 1) = false := by simp; omega
  have b3 : (kd bs == 3) = false := by simp; omega
  have b4 : (kd bs == 4) = false := by simp; omega
  have b6 : (kd bs == 6) = false := by simp; omega
  have b7 : (kd bs == 7) = false := by simp; omega
  have b10 : (kd bs == 10) = false := by simp; omega
  have hmid : IntKind.i64.wrap (IntKind.i64.wrap ((at8 bs 2 : Int) * 256) + (at8 bs 3 : Int)) = midOf bs := by
    have h2 := at8_lt bs 2
    have h3 := at8_lt bs 3
    unfold midOf
    rw [show IntKind.i64.wrap ((at8 bs 2 : Int) * 256) = (at8 bs 2 : Int) * 256 from IntWalk.i64_in _ (by omega), IntWalk.i64_in _ (by omega)]
  have hmid2 : IntKind.i64.wrap ((at8 bs 2 : Int) * 256 + (at8 bs 3 : Int)) = midOf bs := by
    have h2 := at8_lt bs 2
    have h3 := at8_lt bs 3
    unfold midOf
    rw [IntWalk.i64_in _ (by omega)]
  have HK := Lib.hid hk
  clear hk
  obtain ⟨ad, rfl, hb, hcell⟩ := hr.2 (by omega)
  clear hcell hb
  have hw1 : IntKind.i64.wrap (at8 bs 1 : Int) = kd bs := wrap_at8 bs 1
  have hw2 := wrap_at8 bs 2
  have hw3 := wrap_at8 bs 3
  have f1 : (1 : Int) < (bs.length : Int) := by omega
  have f2 : (2 : Int) < (bs.length : Int) := by omega
  have f3 : (3 : Int) < (bs.length : Int) := by omega
  go_enter Try.func49, Try.ntmps49
  go_upto_region 1 with fail
  refine wp_gen (Prs0 w B ad bs) (prs0 hB hr) ?_
  intro W0 h0
  have e1 := h0.rd.byte (k := 1) (by omega) (by omega)
  have es := h0.sz
  go_upto_region 2 with (refine wpList_store_at rfl 29 _ _ rfl (w.heap.size + 1) 0 26 29 (bareL (kd bs)) (bareL 0) rfl rfl (blk_new' _ _ _ _ es) rfl (by decide) info_pdu (by rw [bareL_eq]; exact Pdu.one _) ?_)
  try rw [es]
  refine wp_gen (Prs w B ad bs (bareP (kd bs))) (prs_start h0 hB (kd bs)) ?_
  clear e1 es h0
  intro W hW
  refine reg_sch2 11 [(true, 0), (true, 1), (true, 2), (true, 3), (true, 4), (true, 5), (true, 6), (true, 7), (true, 8), (true, 9), (true, 10)] (by kernel_rfl) (by kernel_rfl) (fun W => Reads W B 1 (some ad) bs.length (bs.map bv)) (Prs w B ad bs (bareP (kd bs))) ?_ ?_ ?_
  · exact hW.drew
  · exact fun _ h => h.rd
  intro W hSW
  simp only [List.map_cons, List.map_nil, List.getD_cons_zero, List.getD_cons_succ, List.drop_succ_cons, List.drop_zero]
  refine hd_pure (v := ?_) (by rfl) (fun W' hS' => ?_) ?_ -- 0
  rotate_left
  · have e2 := hS'.byte (k := 2) (by omega) (by omega); have e3 := hS'.byte (k := 3) (by omega) (by omega); clear hS'; (go_simp; first | with_reducible rfl | rfl)
  try simp only [Act.put, List.setIfInBounds_toArray, List.set_cons_zero, List.set_cons_succ]
  refine hd_pure (v := ?_) (by rfl) (fun W' hS' => ?_) ?_ -- 1
  rotate_left
  · have e2 := hS'.byte (k := 2) (by omega) (by omega); have e3 := hS'.byte (k := 3) (by omega) (by omega); clear hS'; (go_simp; first | with_reducible rfl | rfl)
  try simp only [Act.put, List.setIfInBounds_toArray, List.set_cons_zero, List.set_cons_succ]
  refine hd_pure (v := ?_) (by rfl) (fun W' hS' => ?_) ?_ -- 2
  rotate_left
  · have e2 := hS'.byte (k := 2) (by omega) (by omega); have e3 := hS'.byte (k := 3) (by omega) (by omega); clear hS'; (go_simp; first | with_reducible rfl | rfl)
  try simp only [Act.put, List.setIfInBounds_toArray, List.set_cons_zero, List.set_cons_succ]
  refine hd_pure (v := ?_) (by rfl) (fun W' hS' => ?_) ?_ -- 3
  rotate_left
  · have e2 := hS'.byte (k := 2) (by omega) (by omega); have e3 := hS'.byte (k := 3) (by omega) (by omega); clear hS'; (go_simp; first | with_reducible rfl | rfl)
  try simp only [Act.put, List.setIfInBounds_toArray, List.set_cons_zero, List.set_cons_succ]
  refine hd_pure (v := ?_) (by rfl) (fun W' hS' => ?_) ?_ -- 4
  rotate_left
  · have e2 := hS'.byte (k := 2) (by omega) (by omega); have e3 := hS'.byte (k := 3) (by omega) (by omega); clear hS'; (go_simp; first | with_reducible rfl | rfl)
  try simp only [Act.put, List.setIfInBounds_toArray, List.set_cons_zero, List.set_cons_succ]
  refine hd_pure (v := ?_) (by rfl) (fun W' hS' => ?_) ?_ -- 5
  rotate_left
  · have e2 := hS'.byte (k := 2) (by omega) (by omega); have e3 := hS'.byte (k := 3) (by omega) (by omega); clear hS'; (go_simp; first | with_reducible rfl | rfl)
  try simp only [Act.put, List.setIfInBounds_toArray, List.set_cons_zero, List.set_cons_succ]
  refine hd_pure (v := ?_) (by rfl) (fun W' hS' => ?_) ?_ -- 6
  rotate_left
  · have e2 := hS'.byte (k := 2) (by omega) (by omega); have e3 := hS'.byte (k := 3) (by omega) (by omega); clear hS'; (go_simp; first | with_reducible rfl | rfl)
  try simp only [Act.put, List.setIfInBounds_toArray, List.set_cons_zero, List.set_cons_succ]
  refine hd_pure (v := ?_) (by rfl) (fun W' hS' => ?_) ?_ -- 7
  rotate_left
  · have e2 := hS'.byte (k := 2) (by omega) (by omega); have e3 := hS'.byte (k := 3) (by omega) (by omega); clear hS'; (go_simp; first | with_reducible rfl | rfl)
  try simp only [Act.put, List.setIfInBounds_toArray, List.set_cons_zero, List.set_cons_succ]
  refine hd_pure (v := ?_) (by rfl) (fun W' hS' => ?_) ?_ -- 8
  rotate_left
  · have e2 := hS'.byte (k := 2) (by omega) (by omega); have e3 := hS'.byte (k := 3) (by omega) (by omega); clear hS'; (go_simp; first | with_reducible rfl | rfl)
  try simp only [Act.put, List.setIfInBounds_toArray, List.set_cons_zero, List.set_cons_succ]
  refine hd_pure (v := ?_) (by rfl) (fun W' hS' => ?_) ?_ -- 9
  rotate_left
  · have e2 := hS'.byte (k := 2) (by omega) (by omega); have e3 := hS'.byte (k := 3) (by omega) (by omega); clear hS'; (go_simp; first | with_reducible rfl | rfl)
  try simp only [Act.put, List.setIfInBounds_toArray, List.set_cons_zero, List.set_cons_succ]
  refine hd_pure (v := ?_) (by rfl) (fun W' hS' => ?_) ?_ -- 10
  rotate_left
  · have e2 := hS'.byte (k := 2) (by omega) (by omega); have e3 := hS'.byte (k := 3) (by omega) (by omega); clear hS'; (go_simp; first | with_reducible rfl | rfl)
  try simp only [Act.put, List.setIfInBounds_toArray, List.set_cons_zero, List.set_cons_succ]
  refine hd_nil ?_
  replace hW := hSW; clear hSW
  refine wpList_nil (NoPanic.normal ?_)
  have k0 : W.cell? ⟨w.heap.size + 1, 0, none⟩ = some (.int .i64 (kd bs)) := (hW.q.cell 0).trans (Pdu.c0 _)
  clear hmid hmid2 hw2 hw3
  go_upto_region 25 with fail
  go_wp2_with (first | (refine wpList_load_at rfl 29 _ rfl (w.heap.size + 1) 0 26 rfl _ _ hW.q.range (Pdu.cells_length _) Try.underlying29 rfl info_pdu ?_) | (refine wpList_store_at rfl 29 _ _ rfl w.heap.size 0 26 29 _ _ rfl rfl hW.z (Pdu.cells_length _) (by rw [Pdu.cells_length]; omega) info_pdu (Pdu.one _) ?_))
  obtain ⟨hr, hb⟩ := prs_end hW
  exact bodyPost_ret (results_cell1 rfl _ w.heap.size 0 26 _ _ rfl hr.range (Pdu.cells_length _) Try.underlying29 rfl info_pdu) rfl ⟨by rw [HR.out]; rfl, hb⟩
set_option maxRecDepth 100000 in
set_option maxHeartbeats 1000000 in
theorem of_0 (bs : List UInt8) (hn : 12 ≤ bs.length) (hx : bs.length ≤ 1000000) (A : Option Addr) (c B : Nat) (hc : bs.length ≤ c) (w : World) (hB : B ≤ w.heap.size) (hr : Reads w B 1 A bs.length (bs.map bv)) (hk : kd bs = 0) :
    Calls Try.prog 49 #[.slice A bs.length c] w fun e w' => e = .returned (parseOf bs).val ∧ Below w.heap.size w w' := by
  have HR := Lib.hid (show parseOf bs = { bareP (kd bs) with session := midOf bs, serial := UInt32.ofNat (wordOf (bs.drop 8)) } by simp [parseOf, hk])
  have b0 : (kd bs == 0) = true := by simp; omega
  have b1 : (kd bs == 1) = false := by simp; omega
  have b3 : (kd bs == 3) = false := by simp; omega
  have b4 : (kd bs == 4) = false := by simp; omega
  have b6 : (kd bs == 6) = false := by simp; omega
  have b7 : (kd bs == 7) = false := by simp; omega
  have b10 : (kd bs == 10) = false := by simp; omega
  have HU := Lib.hid (show (wordOf (bs.drop 8) : Int) = ((UInt32.ofNat (wordOf (bs.drop 8))).toNat : Int) by simp [UInt32.toNat_ofNat', Nat.mod_eq_of_lt (wordOf_lt _)])
  have hmid : IntKind.i64.wrap (IntKind.i64.wrap ((at8 bs 2 : Int) * 256) + (at8 bs 3 : Int)) = midOf bs := by
    have h2 := at8_lt bs 2
    have h3 := at8_lt bs 3
    unfold midOf
    rw [show IntKind.i64.wrap ((at8 bs 2 : Int) * 256) = (at8 bs 2 : Int) * 256 from IntWalk.i64_in _ (by omega), IntWalk.i64_in _ (by omega)]
  have hmid2 : IntKind.i64.wrap ((at8 bs 2 : Int) * 256 + (at8 bs 3 : Int)) = midOf bs := by
    have h2 := at8_lt bs 2
    have h3 := at8_lt bs 3
    unfold midOf
    rw [IntWalk.i64_in _ (by omega)]
  have HK := Lib.hid hk
  clear hk
  obtain ⟨ad, rfl, hb, hcell⟩ := hr.2 (by omega)
  clear hcell hb
  have hw1 : IntKind.i64.wrap (at8 bs 1 : Int) = kd bs := wrap_at8 bs 1
  have hw2 := wrap_at8 bs 2
  have hw3 := wrap_at8 bs 3
  have f1 : (1 : Int) < (bs.length : Int) := by omega
  have f2 : (2 : Int) < (bs.length : Int) := by omega
  have f3 : (3 : Int) < (bs.length : Int) := by omega
  go_enter Try.func49, Try.ntmps49
  go_upto_region 1 with fail
  refine wp_gen (Prs0 w B ad bs) (prs0 hB hr) ?_
  intro W0 h0
  have e1 := h0.rd.byte (k := 1) (by omega) (by omega)
  have es := h0.sz
  go_upto_region 2 with (refine wpList_store_at rfl 29 _ _ rfl (w.heap.size + 1) 0 26 29 (bareL (kd bs)) (bareL 0) rfl rfl (blk_new' _ _ _ _ es) rfl (by decide) info_pdu (by rw [bareL_eq]; exact Pdu.one _) ?_)
  try rw [es]
  refine wp_gen (Prs w B ad bs (bareP (kd bs))) (prs_start h0 hB (kd bs)) ?_
  clear e1 es h0
  intro W hW
  refine reg_sch2 11 [(true, 0), (true, 1), (true, 2), (true, 3), (true, 4), (true, 5), (true, 6), (true, 7), (true, 8), (true, 9), (true, 10)] (by kernel_rfl) (by kernel_rfl) (fun W => Reads W B 1 (some ad) bs.length (bs.map bv)) (Prs w B ad bs (bareP (kd bs))) ?_ ?_ ?_
  · exact hW.drew
  · exact fun _ h => h.rd
  intro W hSW
  simp only [List.map_cons, List.map_nil, List.getD_cons_zero, List.getD_cons_succ, List.drop_succ_cons, List.drop_zero]
  refine hd_pure (v := ?_) (by rfl) (fun W' hS' => ?_) ?_ -- 0
  rotate_left
  · have e2 := hS'.byte (k := 2) (by omega) (by omega); have e3 := hS'.byte (k := 3) (by omega) (by omega); clear hS'; (go_simp; first | with_reducible rfl | rfl)
  try simp only [Act.put, List.setIfInBounds_toArray, List.set_cons_zero, List.set_cons_succ]
  refine hd_pure (v := ?_) (by rfl) (fun W' hS' => ?_) ?_ -- 1
  rotate_left
  · have e2 := hS'.byte (k := 2) (by omega) (by omega); have e3 := hS'.byte (k := 3) (by omega) (by omega); clear hS'; (go_simp; first | with_reducible rfl | rfl)
  try simp only [Act.put, List.setIfInBounds_toArray, List.set_cons_zero, List.set_cons_succ]
  refine hd_pure (v := ?_) (by rfl) (fun W' hS' => ?_) ?_ -- 2
  rotate_left
  · have e2 := hS'.byte (k := 2) (by omega) (by omega); have e3 := hS'.byte (k := 3) (by omega) (by omega); clear hS'; (go_simp; first | with_reducible rfl | rfl)
  try simp only [Act.put, List.setIfInBounds_toArray, List.set_cons_zero, List.set_cons_succ]
  refine hd_pure (v := ?_) (by rfl) (fun W' hS' => ?_) ?_ -- 3
  rotate_left
  · have e2 := hS'.byte (k := 2) (by omega) (by omega); have e3 := hS'.byte (k := 3) (by omega) (by omega); clear hS'; (go_simp; first | with_reducible rfl | rfl)
  try simp only [Act.put, List.setIfInBounds_toArray, List.set_cons_zero, List.set_cons_succ]
  refine hd_pure (v := ?_) (by rfl) (fun W' hS' => ?_) ?_ -- 4
  rotate_left
  · have e2 := hS'.byte (k := 2) (by omega) (by omega); have e3 := hS'.byte (k := 3) (by omega) (by omega); clear hS'; (go_simp; first | with_reducible rfl | rfl)
  try simp only [Act.put, List.setIfInBounds_toArray, List.set_cons_zero, List.set_cons_succ]
  refine hd_pure (v := ?_) (by rfl) (fun W' hS' => ?_) ?_ -- 5
  rotate_left
  · have e2 := hS'.byte (k := 2) (by omega) (by omega); have e3 := hS'.byte (k := 3) (by omega) (by omega); clear hS'; (go_simp; first | with_reducible rfl | rfl)
  try simp only [Act.put, List.setIfInBounds_toArray, List.set_cons_zero, List.set_cons_succ]
  refine hd_pure (v := ?_) (by rfl) (fun W' hS' => ?_) ?_ -- 6
  rotate_left
  · have e2 := hS'.byte (k := 2) (by omega) (by omega); have e3 := hS'.byte (k := 3) (by omega) (by omega); clear hS'; (go_simp; first | with_reducible rfl | rfl)
  try simp only [Act.put, List.setIfInBounds_toArray, List.set_cons_zero, List.set_cons_succ]
  refine hd_pure (v := ?_) (by rfl) (fun W' hS' => ?_) ?_ -- 7
  rotate_left
  · have e2 := hS'.byte (k := 2) (by omega) (by omega); have e3 := hS'.byte (k := 3) (by omega) (by omega); clear hS'; (go_simp; first | with_reducible rfl | rfl)
  try simp only [Act.put, List.setIfInBounds_toArray, List.set_cons_zero, List.set_cons_succ]
  refine hd_pure (v := ?_) (by rfl) (fun W' hS' => ?_) ?_ -- 8
  rotate_left
  · have e2 := hS'.byte (k := 2) (by omega) (by omega); have e3 := hS'.byte (k := 3) (by omega) (by omega); clear hS'; (go_simp; first | with_reducible rfl | rfl)
  try simp only [Act.put, List.setIfInBounds_toArray, List.set_cons_zero, List.set_cons_succ]
  refine hd_pure (v := ?_) (by rfl) (fun W' hS' => ?_) ?_ -- 9
  rotate_left
  · have e2 := hS'.byte (k := 2) (by omega) (by omega); have e3 := hS'.byte (k := 3) (by omega) (by omega); clear hS'; (go_simp; first | with_reducible rfl | rfl)
  try simp only [Act.put, List.setIfInBounds_toArray, List.set_cons_zero, List.set_cons_succ]
  refine hd_pure (v := ?_) (by rfl) (fun W' hS' => ?_) ?_ -- 10
  rotate_left
  · have e2 := hS'.byte (k := 2) (by omega) (by omega); have e3 := hS'.byte (k := 3) (by omega) (by omega); clear hS'; (go_simp; first | with_reducible rfl | rfl)
  try simp only [Act.put, List.setIfInBounds_toArray, List.set_cons_zero, List.set_cons_succ]
  refine hd_nil ?_
  replace hW := hSW; clear hSW
  refine wpList_nil (NoPanic.normal ?_)
  have k0 : W.cell? ⟨w.heap.size + 1, 0, none⟩ = some (.int .i64 (kd bs)) := (hW.q.cell 0).trans (Pdu.c0 _)
  clear hmid hmid2 hw2 hw3
  have k1 := (hW.q.cell 1).trans (Pdu.c1 _)
  have p1 := hW.q.frozen 1
  go_upto_region 8 with fail
  refine wp_gen (Prs w B ad bs { bareP (kd bs) with session := midOf bs }) (hW.set hB (set_session _ _ _ _ _ _ _ _)) ?_
  clear k0 k1 p1 hW
  intro W1 hW
  go_upto_region 25 with (go_at_call 47; go_must (refine (rat_any bs bs.length rfl 8 (by omega) (by omega) (by omega) _ c B hc _ hW.rd).mono ?_; rintro e w' ⟨rfl, rfl⟩; rw [HU.out]; have k2 := (hW.q.cell 2).trans (Pdu.c2 _); have p2 := hW.q.frozen 2))
  refine wp_gen (Prs w B ad bs { bareP (kd bs) with session := midOf bs, serial := UInt32.ofNat (wordOf (bs.drop 8)) }) (hW.set hB (set_serial _ _ _ (UInt32.ofNat (wordOf (bs.drop 8))) _ _ _ _)) ?_
  clear k2 p2 hW
  intro W2 hW
  go_wp2_with (first | (refine wpList_load_at rfl 29 _ rfl (w.heap.size + 1) 0 26 rfl _ _ hW.q.range (Pdu.cells_length _) Try.underlying29 rfl info_pdu ?_) | (refine wpList_store_at rfl 29 _ _ rfl w.heap.size 0 26 29 _ _ rfl rfl hW.z (Pdu.cells_length _) (by rw [Pdu.cells_length]; omega) info_pdu (Pdu.one _) ?_))
  obtain ⟨hr, hb⟩ := prs_end hW
  exact bodyPost_ret (results_cell1 rfl _ w.heap.size 0 26 _ _ rfl hr.range (Pdu.cells_length _) Try.underlying29 rfl info_pdu) rfl ⟨by rw [HR.out]; rfl, hb⟩
set_option maxRecDepth 100000 in
set_option maxHeartbeats 1000000 in
theorem of_1 (bs : List UInt8) (hn : 12 ≤ bs.length) (hx : bs.length ≤ 1000000) (A : Option Addr) (c B : Nat) (hc : bs.length ≤ c) (w : World) (hB : B ≤ w.heap.size) (hr : Reads w B 1 A bs.length (bs.map bv)) (hk : kd bs = 1) :
    Calls Try.prog 49 #[.slice A bs.length c] w fun e w' => e = .returned (parseOf bs).val ∧ Below w.heap.size w w' := by
  have HR := Lib.hid (show parseOf bs = { bareP (kd bs) with session := midOf bs, serial := UInt32.ofNat (wordOf (bs.drop 8)) } by simp [parseOf, hk])
  have b0 : (kd bs == 0) = false := by simp; omega
  have b1 : (kd bs == 1) = true := by simp; omega
  have b3 : (kd bs == 3) = false := by simp; omega
  have b4 : (kd bs == 4) = false := by simp; omega
  have b6 : (kd bs == 6) = false := by simp; omega
  have b7 : (kd bs == 7) = false := by simp; omega
  have b10 : (kd bs == 10) = false := by simp; omega
  have HU := Lib.hid (show (wordOf (bs.drop 8) : Int) = ((UInt32.ofNat (wordOf (bs.drop 8))).toNat : Int) by simp [UInt32.toNat_ofNat', Nat.mod_eq_of_lt (wordOf_lt _)])
  have hmid : IntKind.i64.wrap (IntKind.i64.wrap ((at8 bs 2 : Int) * 256) + (at8 bs 3 : Int)) = midOf bs := by
    have h2 := at8_lt bs 2
    have h3 := at8_lt bs 3
    unfold midOf
    rw [show IntKind.i64.wrap ((at8 bs 2 : Int) * 256) = (at8 bs 2 : Int) * 256 from IntWalk.i64_in _ (by omega), IntWalk.i64_in _ (by omega)]
  have hmid2 : IntKind.i64.wrap ((at8 bs 2 : Int) * 256 + (at8 bs 3 : Int)) = midOf bs := by
    have h2 := at8_lt bs 2
    have h3 := at8_lt bs 3
    unfold midOf
    rw [IntWalk.i64_in _ (by omega)]
  have HK := Lib.hid hk
  clear hk
  obtain ⟨ad, rfl, hb, hcell⟩ := hr.2 (by omega)
  clear hcell hb
  have hw1 : IntKind.i64.wrap (at8 bs 1 : Int) = kd bs := wrap_at8 bs 1
  have hw2 := wrap_at8 bs 2
  have hw3 := wrap_at8 bs 3
  have f1 : (1 : Int) < (bs.length : Int) := by omega
  have f2 : (2 : Int) < (bs.length : Int) := by omega
  have f3 : (3 : Int) < (bs.length : Int) := by omega
  go_enter Try.func49, Try.ntmps49
  go_upto_region 1 with fail
  refine wp_gen (Prs0 w B ad bs) (prs0 hB hr) ?_
  intro W0 h0
  have e1 := h0.rd.byte (k := 1) (by omega) (by omega)
  have es := h0.sz
  go_upto_region 2 with (refine wpList_store_at rfl 29 _ _ rfl (w.heap.size + 1) 0 26 29 (bareL (kd bs)) (bareL 0) rfl rfl (blk_new' _ _ _ _ es) rfl (by decide) info_pdu (by rw [bareL_eq]; exact Pdu.one _) ?_)
  try rw [es]
  refine wp_gen (Prs w B ad bs (bareP (kd bs))) (prs_start h0 hB (kd bs)) ?_
  clear e1 es h0
  intro W hW
  refine reg_sch2 11 [(true, 0), (true, 1), (true, 2), (true, 3), (true, 4), (true, 5), (true, 6), (true, 7), (true, 8), (true, 9), (true, 10)] (by kernel_rfl) (by kernel_rfl) (fun W => Reads W B 1 (some ad) bs.length (bs.map bv)) (Prs w B ad bs (bareP (kd bs))) ?_ ?_ ?_
  · exact hW.drew
  · exact fun _ h => h.rd
  intro W hSW
  simp only [List.map_cons, List.map_nil, List.getD_cons_zero, List.getD_cons_succ, List.drop_succ_cons, List.drop_zero]
  refine hd_pure (v := ?_) (by rfl) (fun W' hS' => ?_) ?_ -- 0
  rotate_left
  · have e2 := hS'.byte (k := 2) (by omega) (by omega); have e3 := hS'.byte (k := 3) (by omega) (by omega); clear hS'; (go_simp; first | with_reducible rfl | rfl)
  try simp only [Act.put, List.setIfInBounds_toArray, List.set_cons_zero, List.set_cons_succ]
  refine hd_pure (v := ?_) (by rfl) (fun W' hS' => ?_) ?_ -- 1
  rotate_left
  · have e2 := hS'.byte (k := 2) (by omega) (by omega); have e3 := hS'.byte (k := 3) (by omega) (by omega); clear hS'; (go_simp; first | with_reducible rfl | rfl)
  try simp only [Act.put, List.setIfInBounds_toArray, List.set_cons_zero, List.set_cons_succ]
  refine hd_pure (v := ?_) (by rfl) (fun W' hS' => ?_) ?_ -- 2
  rotate_left
  · have e2 := hS'.byte (k := 2) (by omega) (by omega); have e3 := hS'.byte (k := 3) (by omega) (by omega); clear hS'; (go_simp; first | with_reducible rfl | rfl)
  try simp only [Act.put, List.setIfInBounds_toArray, List.set_cons_zero, List.set_cons_succ]
  refine hd_pure (v := ?_) (by rfl) (fun W' hS' => ?_) ?_ -- 3
  rotate_left
  · have e2 := hS'.byte (k := 2) (by omega) (by omega); have e3 := hS'.byte (k := 3) (by omega) (by omega); clear hS'; (go_simp; first | with_reducible rfl | rfl)
  try simp only [Act.put, List.setIfInBounds_toArray, List.set_cons_zero, List.set_cons_succ]
  refine hd_pure (v := ?_) (by rfl) (fun W' hS' => ?_) ?_ -- 4
  rotate_left
  · have e2 := hS'.byte (k := 2) (by omega) (by omega); have e3 := hS'.byte (k := 3) (by omega) (by omega); clear hS'; (go_simp; first | with_reducible rfl | rfl)
  try simp only [Act.put, List.setIfInBounds_toArray, List.set_cons_zero, List.set_cons_succ]
  refine hd_pure (v := ?_) (by rfl) (fun W' hS' => ?_) ?_ -- 5
  rotate_left
  · have e2 := hS'.byte (k := 2) (by omega) (by omega); have e3 := hS'.byte (k := 3) (by omega) (by omega); clear hS'; (go_simp; first | with_reducible rfl | rfl)
  try simp only [Act.put, List.setIfInBounds_toArray, List.set_cons_zero, List.set_cons_succ]
  refine hd_pure (v := ?_) (by rfl) (fun W' hS' => ?_) ?_ -- 6
  rotate_left
  · have e2 := hS'.byte (k := 2) (by omega) (by omega); have e3 := hS'.byte (k := 3) (by omega) (by omega); clear hS'; (go_simp; first | with_reducible rfl | rfl)
  try simp only [Act.put, List.setIfInBounds_toArray, List.set_cons_zero, List.set_cons_succ]
  refine hd_pure (v := ?_) (by rfl) (fun W' hS' => ?_) ?_ -- 7
  rotate_left
  · have e2 := hS'.byte (k := 2) (by omega) (by omega); have e3 := hS'.byte (k := 3) (by omega) (by omega); clear hS'; (go_simp; first | with_reducible rfl | rfl)
  try simp only [Act.put, List.setIfInBounds_toArray, List.set_cons_zero, List.set_cons_succ]
  refine hd_pure (v := ?_) (by rfl) (fun W' hS' => ?_) ?_ -- 8
  rotate_left
  · have e2 := hS'.byte (k := 2) (by omega) (by omega); have e3 := hS'.byte (k := 3) (by omega) (by omega); clear hS'; (go_simp; first | with_reducible rfl | rfl)
  try simp only [Act.put, List.setIfInBounds_toArray, List.set_cons_zero, List.set_cons_succ]
  refine hd_pure (v := ?_) (by rfl) (fun W' hS' => ?_) ?_ -- 9
  rotate_left
  · have e2 := hS'.byte (k := 2) (by omega) (by omega); have e3 := hS'.byte (k := 3) (by omega) (by omega); clear hS'; (go_simp; first | with_reducible rfl | rfl)
  try simp only [Act.put, List.setIfInBounds_toArray, List.set_cons_zero, List.set_cons_succ]
  refine hd_pure (v := ?_) (by rfl) (fun W' hS' => ?_) ?_ -- 10
  rotate_left
  · have e2 := hS'.byte (k := 2) (by omega) (by omega); have e3 := hS'.byte (k := 3) (by omega) (by omega); clear hS'; (go_simp; first | with_reducible rfl | rfl)
  try simp only [Act.put, List.setIfInBounds_toArray, List.set_cons_zero, List.set_cons_succ]
  refine hd_nil ?_
  replace hW := hSW; clear hSW
  refine wpList_nil (NoPanic.normal ?_)
  have k0 : W.cell? ⟨w.heap.size + 1, 0, none⟩ = some (.int .i64 (kd bs)) := (hW.q.cell 0).trans (Pdu.c0 _)
  clear hmid hmid2 hw2 hw3
  have k1 := (hW.q.cell 1).trans (Pdu.c1 _)
  have p1 := hW.q.frozen 1
  go_upto_region 8 with fail
  refine wp_gen (Prs w B ad bs { bareP (kd bs) with session := midOf bs }) (hW.set hB (set_session _ _ _ _ _ _ _ _)) ?_
  clear k0 k1 p1 hW
  intro W1 hW
  go_upto_region 25 with (go_at_call 47; go_must (refine (rat_any bs bs.length rfl 8 (by omega) (by omega) (by omega) _ c B hc _ hW.rd).mono ?_; rintro e w' ⟨rfl, rfl⟩; rw [HU.out]; have k2 := (hW.q.cell 2).trans (Pdu.c2 _); have p2 := hW.q.frozen 2))
  refine wp_gen (Prs w B ad bs { bareP (kd bs) with session := midOf bs, serial := UInt32.ofNat (wordOf (bs.drop 8)) }) (hW.set hB (set_serial _ _ _ (UInt32.ofNat (wordOf (bs.drop 8))) _ _ _ _)) ?_
  clear k2 p2 hW
  intro W2 hW
  go_wp2_with (first | (refine wpList_load_at rfl 29 _ rfl (w.heap.size + 1) 0 26 rfl _ _ hW.q.range (Pdu.cells_length _) Try.underlying29 rfl info_pdu ?_) | (refine wpList_store_at rfl 29 _ _ rfl w.heap.size 0 26 29 _ _ rfl rfl hW.z (Pdu.cells_length _) (by rw [Pdu.cells_length]; omega) info_pdu (Pdu.one _) ?_))
  obtain ⟨hr, hb⟩ := prs_end hW
  exact bodyPost_ret (results_cell1 rfl _ w.heap.size 0 26 _ _ rfl hr.range (Pdu.cells_length _) Try.underlying29 rfl info_pdu) rfl ⟨by rw [HR.out]; rfl, hb⟩
set_option maxRecDepth 100000 in
set_option maxHeartbeats 1000000 in
theorem of_7 (bs : List UInt8) (hn : 12 ≤ bs.length) (hx : bs.length ≤ 1000000) (A : Option Addr) (c B : Nat) (hc : bs.length ≤ c) (w : World) (hB : B ≤ w.heap.size) (hr : Reads w B 1 A bs.length (bs.map bv)) (hk : kd bs = 7) :
    Calls Try.prog 49 #[.slice A bs.length c] w fun e w' => e = .returned (parseOf bs).val ∧ Below w.heap.size w w' := by
  have HR := Lib.hid (show parseOf bs = { bareP (kd bs) with session := midOf bs, serial := UInt32.ofNat (wordOf (bs.drop 8)) } by simp [parseOf, hk])
  have b0 : (kd bs == 0) = false := by simp; omega
  have b1 : (kd bs == 1) = false := by simp; omega
  have b3 : (kd bs == 3) = false := by simp; omega
  have b4 : (kd bs == 4) = false := by simp; omega
  have b6 : (kd bs == 6) = false := by simp; omega
  have b7 : (kd bs == 7) = true := by simp; omega
  have b10 : (kd bs == 10) = false := by simp; omega
  have HU := Lib.hid (show (wordOf (bs.drop 8) : Int) = ((UInt32.ofNat (wordOf (bs.drop 8))).toNat : Int) by simp [UInt32.toNat_ofNat', Nat.mod_eq_of_lt (wordOf_lt _)])
  have hmid : IntKind.i64.wrap (IntKind.i64.wrap ((at8 bs 2 : Int) * 256) + (at8 bs 3 : Int)) = midOf bs := by
    have h2 := at8_lt bs 2
    have h3 := at8_lt bs 3
    unfold midOf
    rw [show IntKind.i64.wrap ((at8 bs 2 : Int) * 256) = (at8 bs 2 : Int) * 256 from IntWalk.i64_in _ (by omega), IntWalk.i64_in _ (by omega)]
  have hmid2 : IntKind.i64.wrap ((at8 bs 2 : Int) * 256 + (at8 bs 3 : Int)) = midOf bs := by
    have h2 := at8_lt bs 2
    have h3 := at8_lt bs 3
    unfold midOf
    rw [IntWalk.i64_in _ (by omega)]
  have HK := Lib.hid hk
  clear hk
  obtain ⟨ad, rfl, hb, hcell⟩ := hr.2 (by omega)
  clear hcell hb
  have hw1 : IntKind.i64.wrap (at8 bs 1 : Int) = kd bs := wrap_at8 bs 1
  have hw2 := wrap_at8 bs 2
  have hw3 := wrap_at8 bs 3
  have f1 : (1 : Int) < (bs.length : Int) := by omega
  have f2 : (2 : Int) < (bs.length : Int) := by omega
  have f3 : (3 : Int) < (bs.length : Int) := by omega
  go_enter Try.func49, Try.ntmps49
  go_upto_region 1 with fail
  refine wp_gen (Prs0 w B ad bs) (prs0 hB hr) ?_
  intro W0 h0
  have e1 := h0.rd.byte (k := 1) (by omega) (by omega)
  have es := h0.sz
  go_upto_region 2 with (refine wpList_store_at rfl 29 _ _ rfl (w.heap.size + 1) 0 26 29 (bareL (kd bs)) (bareL 0) rfl rfl (blk_new' _ _ _ _ es) rfl (by decide) info_pdu (by rw [bareL_eq]; exact Pdu.one _) ?_)
  try rw [es]
  refine wp_gen (Prs w B ad bs (bareP (kd bs))) (prs_start h0 hB (kd bs)) ?_
  clear e1 es h0
  intro W hW
  refine reg_sch2 11 [(true, 0), (true, 1), (true, 2), (true, 3), (true, 4), (true, 5), (true, 6), (true, 7), (true, 8), (true, 9), (true, 10)] (by kernel_rfl) (by kernel_rfl) (fun W => Reads W B 1 (some ad) bs.length (bs.map bv)) (Prs w B ad bs (bareP (kd bs))) ?_ ?_ ?_
  · exact hW.drew
  · exact fun _ h => h.rd
  intro W hSW
  simp only [List.map_cons, List.map_nil, List.getD_cons_zero, List.getD_cons_succ, List.drop_succ_cons, List.drop_zero]
  refine hd_pure (v := ?_) (by rfl) (fun W' hS' => ?_) ?_ -- 0
  rotate_left
  · have e2 := hS'.byte (k := 2) (by omega) (by omega); have e3 := hS'.byte (k := 3) (by omega) (by omega); clear hS'; (go_simp; first | with_reducible rfl | rfl)
  try simp only [Act.put, List.setIfInBounds_toArray, List.set_cons_zero, List.set_cons_succ]
  refine hd_pure (v := ?_) (by rfl) (fun W' hS' => ?_) ?_ -- 1
  rotate_left
  · have e2 := hS'.byte (k := 2) (by omega) (by omega); have e3 := hS'.byte (k := 3) (by omega) (by omega); clear hS'; (go_simp; first | with_reducible rfl | rfl)
  try simp only [Act.put, List.setIfInBounds_toArray, List.set_cons_zero, List.set_cons_succ]
  refine hd_pure (v := ?_) (by rfl) (fun W' hS' => ?_) ?_ -- 2
  rotate_left
  · have e2 := hS'.byte (k := 2) (by omega) (by omega); have e3 := hS'.byte (k := 3) (by omega) (by omega); clear hS'; (go_simp; first | with_reducible rfl | rfl)
  try simp only [Act.put, List.setIfInBounds_toArray, List.set_cons_zero, List.set_cons_succ]
  refine hd_pure (v := ?_) (by rfl) (fun W' hS' => ?_) ?_ -- 3
  rotate_left
  · have e2 := hS'.byte (k := 2) (by omega) (by omega); have e3 := hS'.byte (k := 3) (by omega) (by omega); clear hS'; (go_simp; first | with_reducible rfl | rfl)
  try simp only [Act.put, List.setIfInBounds_toArray, List.set_cons_zero, List.set_cons_succ]
  refine hd_pure (v := ?_) (by rfl) (fun W' hS' => ?_) ?_ -- 4
  rotate_left
  · have e2 := hS'.byte (k := 2) (by omega) (by omega); have e3 := hS'.byte (k := 3) (by omega) (by omega); clear hS'; (go_simp; first | with_reducible rfl | rfl)
  try simp only [Act.put, List.setIfInBounds_toArray, List.set_cons_zero, List.set_cons_succ]
  refine hd_pure (v := ?_) (by rfl) (fun W' hS' => ?_) ?_ -- 5
  rotate_left
  · have e2 := hS'.byte (k := 2) (by omega) (by omega); have e3 := hS'.byte (k := 3) (by omega) (by omega); clear hS'; (go_simp; first | with_reducible rfl | rfl)
  try simp only [Act.put, List.setIfInBounds_toArray, List.set_cons_zero, List.set_cons_succ]
  refine hd_pure (v := ?_) (by rfl) (fun W' hS' => ?_) ?_ -- 6
  rotate_left
  · have e2 := hS'.byte (k := 2) (by omega) (by omega); have e3 := hS'.byte (k := 3) (by omega) (by omega); clear hS'; (go_simp; first | with_reducible rfl | rfl)
  try simp only [Act.put, List.setIfInBounds_toArray, List.set_cons_zero, List.set_cons_succ]
  refine hd_pure (v := ?_) (by rfl) (fun W' hS' => ?_) ?_ -- 7
  rotate_left
  · have e2 := hS'.byte (k := 2) (by omega) (by omega); have e3 := hS'.byte (k := 3) (by omega) (by omega); clear hS'; (go_simp; first | with_reducible rfl | rfl)
  try simp only [Act.put, List.setIfInBounds_toArray, List.set_cons_zero, List.set_cons_succ]
  refine hd_pure (v := ?_) (by rfl) (fun W' hS' => ?_) ?_ -- 8
  rotate_left
  · have e2 := hS'.byte (k := 2) (by omega) (by omega); have e3 := hS'.byte (k := 3) (by omega) (by omega); clear hS'; (go_simp; first | with_reducible rfl | rfl)
  try simp only [Act.put, List.setIfInBounds_toArray, List.set_cons_zero, List.set_cons_succ]
  refine hd_pure (v := ?_) (by rfl) (fun W' hS' => ?_) ?_ -- 9
  rotate_left
  · have e2 := hS'.byte (k := 2) (by omega) (by omega); have e3 := hS'.byte (k := 3) (by omega) (by omega); clear hS'; (go_simp; first | with_reducible rfl | rfl)
  try simp only [Act.put, List.setIfInBounds_toArray, List.set_cons_zero, List.set_cons_succ]
  refine hd_pure (v := ?_) (by rfl) (fun W' hS' => ?_) ?_ -- 10
  rotate_left
  · have e2 := hS'.byte (k := 2) (by omega) (by omega); have e3 := hS'.byte (k := 3) (by omega) (by omega); clear hS'; (go_simp; first | with_reducible rfl | rfl)
  try simp only [Act.put, List.setIfInBounds_toArray, List.set_cons_zero, List.set_cons_succ]
  refine hd_nil ?_
  replace hW := hSW; clear hSW
  refine wpList_nil (NoPanic.normal ?_)
  have k0 : W.cell? ⟨w.heap.size + 1, 0, none⟩ = some (.int .i64 (kd bs)) := (hW.q.cell 0).trans (Pdu.c0 _)
  clear hmid hmid2 hw2 hw3
  have k1 := (hW.q.cell 1).trans (Pdu.c1 _)
  have p1 := hW.q.frozen 1
  go_upto_region 8 with fail
  refine wp_gen (Prs w B ad bs { bareP (kd bs) with session := midOf bs }) (hW.set hB (set_session _ _ _ _ _ _ _ _)) ?_
  clear k0 k1 p1 hW
  intro W1 hW
  go_upto_region 25 with (go_at_call 47; go_must (refine (rat_any bs bs.length rfl 8 (by omega) (by omega) (by omega) _ c B hc _ hW.rd).mono ?_; rintro e w' ⟨rfl, rfl⟩; rw [HU.out]; have k2 := (hW.q.cell 2).trans (Pdu.c2 _); have p2 := hW.q.frozen 2))
  refine wp_gen (Prs w B ad bs { bareP (kd bs) with session := midOf bs, serial := UInt32.ofNat (wordOf (bs.drop 8)) }) (hW.set hB (set_serial _ _ _ (UInt32.ofNat (wordOf (bs.drop 8))) _ _ _ _)) ?_
  clear k2 p2 hW
  intro W2 hW
  go_wp2_with (first | (refine wpList_load_at rfl 29 _ rfl (w.heap.size + 1) 0 26 rfl _ _ hW.q.range (Pdu.cells_length _) Try.underlying29 rfl info_pdu ?_) | (refine wpList_store_at rfl 29 _ _ rfl w.heap.size 0 26 29 _ _ rfl rfl hW.z (Pdu.cells_length _) (by rw [Pdu.cells_length]; omega) info_pdu (Pdu.one _) ?_))
  obtain ⟨hr, hb⟩ := prs_end hW
  exact bodyPost_ret (results_cell1 rfl _ w.heap.size 0 26 _ _ rfl hr.range (Pdu.cells_length _) Try.underlying29 rfl info_pdu) rfl ⟨by rw [HR.out]; rfl, hb⟩
set_option maxRecDepth 100000 in
set_option maxHeartbeats 1000000 in
theorem of_10 (bs : List UInt8) (hn : 16 ≤ bs.length) (A : Option Addr) (c B : Nat) (hc : bs.length ≤ c) (w : World) (hB : B ≤ w.heap.size) (hr : Reads w B 1 A bs.length (bs.map bv)) (hk : kd bs = 10) :
    Calls Try.prog 49 #[.slice A bs.length c] w fun e w' => e = .returned (parseOf bs).val ∧ Below w.heap.size w w' := by
  have HR := Lib.hid (show parseOf bs = { bareP (kd bs) with code := midOf bs, text := ⟨(bs.drop 16).toArray⟩ } by simp [parseOf, hk])
  have b0 : (kd bs == 0) = false := by simp; omega
  have b1 : (kd bs == 1) = false := by simp; omega
  have b3 : (kd bs == 3) = false := by simp; omega
  have b4 : (kd bs == 4) = false := by simp; omega
  have b6 : (kd bs == 6) = false := by simp; omega
  have b7 : (kd bs == 7) = false := by simp; omega
  have b10 : (kd bs == 10) = true := by simp; omega
  have hmid : IntKind.i64.wrap (IntKind.i64.wrap ((at8 bs 2 : Int) * 256) + (at8 bs 3 : Int)) = midOf bs := by
    have h2 := at8_lt bs 2
    have h3 := at8_lt bs 3
    unfold midOf
    rw [show IntKind.i64.wrap ((at8 bs 2 : Int) * 256) = (at8 bs 2 : Int) * 256 from IntWalk.i64_in _ (by omega), IntWalk.i64_in _ (by omega)]
  have hmid2 : IntKind.i64.wrap ((at8 bs 2 : Int) * 256 + (at8 bs 3 : Int)) = midOf bs := by
    have h2 := at8_lt bs 2
    have h3 := at8_lt bs 3
    unfold midOf
    rw [IntWalk.i64_in _ (by omega)]
  have HK := Lib.hid hk
  clear hk
  obtain ⟨ad, rfl, hb, hcell⟩ := hr.2 (by omega)
  clear hcell hb
  have hw1 : IntKind.i64.wrap (at8 bs 1 : Int) = kd bs := wrap_at8 bs 1
  have hw2 := wrap_at8 bs 2
  have hw3 := wrap_at8 bs 3
  have f1 : (1 : Int) < (bs.length : Int) := by omega
  have f2 : (2 : Int) < (bs.length : Int) := by omega
  have f3 : (3 : Int) < (bs.length : Int) := by omega
  go_enter Try.func49, Try.ntmps49
  go_upto_region 1 with fail
  refine wp_gen (Prs0 w B ad bs) (prs0 hB hr) ?_
  intro W0 h0
  have e1 := h0.rd.byte (k := 1) (by omega) (by omega)
  have es := h0.sz
  go_upto_region 2 with (refine wpList_store_at rfl 29 _ _ rfl (w.heap.size + 1) 0 26 29 (bareL (kd bs)) (bareL 0) rfl rfl (blk_new' _ _ _ _ es) rfl (by decide) info_pdu (by rw [bareL_eq]; exact Pdu.one _) ?_)
  try rw [es]
  refine wp_gen (Prs w B ad bs (bareP (kd bs))) (prs_start h0 hB (kd bs)) ?_
  clear e1 es h0
  intro W hW
  refine reg_sch2 11 [(true, 0), (true, 1), (true, 2), (true, 3), (true, 4), (true, 5), (true, 6), (true, 7), (true, 8), (true, 9), (true, 10)] (by kernel_rfl) (by kernel_rfl) (fun W => Reads W B 1 (some ad) bs.length (bs.map bv)) (Prs w B ad bs (bareP (kd bs))) ?_ ?_ ?_
  · exact hW.drew
  · exact fun _ h => h.rd
  intro W hSW
  simp only [List.map_cons, List.map_nil, List.getD_cons_zero, List.getD_cons_succ, List.drop_succ_cons, List.drop_zero]
  refine hd_pure (v := ?_) (by rfl) (fun W' hS' => ?_) ?_ -- 0
  rotate_left
  · have e2 := hS'.byte (k := 2) (by omega) (by omega); have e3 := hS'.byte (k := 3) (by omega) (by omega); clear hS'; (go_simp; first | with_reducible rfl | rfl)
  try simp only [Act.put, List.setIfInBounds_toArray, List.set_cons_zero, List.set_cons_succ]
  refine hd_pure (v := ?_) (by rfl) (fun W' hS' => ?_) ?_ -- 1
  rotate_left
  · have e2 := hS'.byte (k := 2) (by omega) (by omega); have e3 := hS'.byte (k := 3) (by omega) (by omega); clear hS'; (go_simp; first | with_reducible rfl | rfl)
  try simp only [Act.put, List.setIfInBounds_toArray, List.set_cons_zero, List.set_cons_succ]
  refine hd_pure (v := ?_) (by rfl) (fun W' hS' => ?_) ?_ -- 2
  rotate_left
  · have e2 := hS'.byte (k := 2) (by omega) (by omega); have e3 := hS'.byte (k := 3) (by omega) (by omega); clear hS'; (go_simp; first | with_reducible rfl | rfl)
  try simp only [Act.put, List.setIfInBounds_toArray, List.set_cons_zero, List.set_cons_succ]
  refine hd_pure (v := ?_) (by rfl) (fun W' hS' => ?_) ?_ -- 3
  rotate_left
  · have e2 := hS'.byte (k := 2) (by omega) (by omega); have e3 := hS'.byte (k := 3) (by omega) (by omega); clear hS'; (go_simp; first | with_reducible rfl | rfl)
  try simp only [Act.put, List.setIfInBounds_toArray, List.set_cons_zero, List.set_cons_succ]
  refine hd_pure (v := ?_) (by rfl) (fun W' hS' => ?_) ?_ -- 4
  rotate_left
  · have e2 := hS'.byte (k := 2) (by omega) (by omega); have e3 := hS'.byte (k := 3) (by omega) (by omega); clear hS'; (go_simp; first | with_reducible rfl | rfl)
  try simp only [Act.put, List.setIfInBounds_toArray, List.set_cons_zero, List.set_cons_succ]
  refine hd_pure (v := ?_) (by rfl) (fun W' hS' => ?_) ?_ -- 5
  rotate_left
  · have e2 := hS'.byte (k := 2) (by omega) (by omega); have e3 := hS'.byte (k := 3) (by omega) (by omega); clear hS'; (go_simp; first | with_reducible rfl | rfl)
  try simp only [Act.put, List.setIfInBounds_toArray, List.set_cons_zero, List.set_cons_succ]
  refine hd_pure (v := ?_) (by rfl) (fun W' hS' => ?_) ?_ -- 6
  rotate_left
  · have e2 := hS'.byte (k := 2) (by omega) (by omega); have e3 := hS'.byte (k := 3) (by omega) (by omega); clear hS'; (go_simp; first | with_reducible rfl | rfl)
  try simp only [Act.put, List.setIfInBounds_toArray, List.set_cons_zero, List.set_cons_succ]
  refine hd_pure (v := ?_) (by rfl) (fun W' hS' => ?_) ?_ -- 7
  rotate_left
  · have e2 := hS'.byte (k := 2) (by omega) (by omega); have e3 := hS'.byte (k := 3) (by omega) (by omega); clear hS'; (go_simp; first | with_reducible rfl | rfl)
  try simp only [Act.put, List.setIfInBounds_toArray, List.set_cons_zero, List.set_cons_succ]
  refine hd_pure (v := ?_) (by rfl) (fun W' hS' => ?_) ?_ -- 8
  rotate_left
  · have e2 := hS'.byte (k := 2) (by omega) (by omega); have e3 := hS'.byte (k := 3) (by omega) (by omega); clear hS'; (go_simp; first | with_reducible rfl | rfl)
  try simp only [Act.put, List.setIfInBounds_toArray, List.set_cons_zero, List.set_cons_succ]
  refine hd_pure (v := ?_) (by rfl) (fun W' hS' => ?_) ?_ -- 9
  rotate_left
  · have e2 := hS'.byte (k := 2) (by omega) (by omega); have e3 := hS'.byte (k := 3) (by omega) (by omega); clear hS'; (go_simp; first | with_reducible rfl | rfl)
  try simp only [Act.put, List.setIfInBounds_toArray, List.set_cons_zero, List.set_cons_succ]
  refine hd_pure (v := ?_) (by rfl) (fun W' hS' => ?_) ?_ -- 10
  rotate_left
  · have e2 := hS'.byte (k := 2) (by omega) (by omega); have e3 := hS'.byte (k := 3) (by omega) (by omega); clear hS'; (go_simp; first | with_reducible rfl | rfl)
  try simp only [Act.put, List.setIfInBounds_toArray, List.set_cons_zero, List.set_cons_succ]
  refine hd_nil ?_
  replace hW := hSW; clear hSW
  refine wpList_nil (NoPanic.normal ?_)
  have k0 : W.cell? ⟨w.heap.size + 1, 0, none⟩ = some (.int .i64 (kd bs)) := (hW.q.cell 0).trans (Pdu.c0 _)
  clear hmid hmid2 hw2 hw3
  have k1 := (hW.q.cell 24).trans (Pdu.c24 _)
  have p1 := hW.q.frozen 24
  have f16 : (16 : Int) ≤ (bs.length : Int) := by omega
  go_upto_region 24 with fail
  refine wp_gen (Prs w B ad bs { bareP (kd bs) with code := midOf bs }) (hW.set hB (set_code _ _ _ _ _ _ _ _)) ?_
  clear k0 k1 p1 hW
  intro W1 hW
  have k2 := (hW.q.cell 25).trans (Pdu.c25 _)
  have p2 := hW.q.frozen 25
  by_cases fc2 : c = 16
  · have hs : (convert 30 9 (.slice (some ad) (bs.length - 16) 0)).run Try.prog W1 = .ok (.string ⟨(bs.drop 16).toArray⟩) W1 := by
      have e : bs.length - 16 = 0 := by omega
      have e2 : bs.drop 16 = [] := List.drop_of_length_le (by omega)
      rw [e, e2]; exact Reads.str (B := B) Reads.nil 0
    go_upto_region 25 with fail
    refine wp_gen (Prs w B ad bs { bareP (kd bs) with code := midOf bs, text := ⟨(bs.drop 16).toArray⟩ }) (hW.set hB (set_text _ _ _ _ _ _ _ _)) ?_
    clear k2 p2 hs hW
    intro W2 hW
    go_wp2_with (first | (refine wpList_load_at rfl 29 _ rfl (w.heap.size + 1) 0 26 rfl _ _ hW.q.range (Pdu.cells_length _) Try.underlying29 rfl info_pdu ?_) | (refine wpList_store_at rfl 29 _ _ rfl w.heap.size 0 26 29 _ _ rfl rfl hW.z (Pdu.cells_length _) (by rw [Pdu.cells_length]; omega) info_pdu (Pdu.one _) ?_))
    obtain ⟨hr, hb⟩ := prs_end hW
    exact bodyPost_ret (results_cell1 rfl _ w.heap.size 0 26 _ _ rfl hr.range (Pdu.cells_length _) Try.underlying29 rfl info_pdu) rfl ⟨by rw [HR.out]; rfl, hb⟩
  · have hs : (convert 30 9 (.slice (some ⟨ad.block, ad.off + 16, none⟩) (bs.length - 16) (c - 16))).run Try.prog W1 = .ok (.string ⟨(bs.drop 16).toArray⟩) W1 := by
      refine Reads.str (B := B) ?_ _
      by_cases hz : bs.length = 16
      · have e : bs.length - 16 = 0 := by omega
        have e2 : bs.drop 16 = [] := List.drop_of_length_le (by omega)
        rw [e, e2]; exact Reads.nil
      · exact hW.rd.cut1 (k := 16) (by omega) (by omega) (by omega)
    go_upto_region 25 with fail
    refine wp_gen (Prs w B ad bs { bareP (kd bs) with code := midOf bs, text := ⟨(bs.drop 16).toArray⟩ }) (hW.set hB (set_text _ _ _ _ _ _ _ _)) ?_
    clear k2 p2 hs hW
    intro W2 hW
    go_wp2_with (first | (refine wpList_load_at rfl 29 _ rfl (w.heap.size + 1) 0 26 rfl _ _ hW.q.range (Pdu.cells_length _) Try.underlying29 rfl info_pdu ?_) | (refine wpList_store_at rfl 29 _ _ rfl w.heap.size 0 26 29 _ _ rfl rfl hW.z (Pdu.cells_length _) (by rw [Pdu.cells_length]; omega) info_pdu (Pdu.one _) ?_))
    obtain ⟨hr, hb⟩ := prs_end hW
    exact bodyPost_ret (results_cell1 rfl _ w.heap.size 0 26 _ _ rfl hr.range (Pdu.cells_length _) Try.underlying29 rfl info_pdu) rfl ⟨by rw [HR.out]; rfl, hb⟩
theorem set_v6 (k s : Int) (n : UInt32) (a : Bool) (asn : UInt32) (v6 v6' : Bool) (q : A16) (l m c : Int) (t : ByteArray) : (Pdu.cells ⟨k, s, n, a, ⟨asn, ⟨v6, q, l⟩, m⟩, c, t⟩).set 5 (.bool v6') = Pdu.cells ⟨k, s, n, a, ⟨asn, ⟨v6', q, l⟩, m⟩, c, t⟩ := rfl
theorem set_in_pfx (k s : Int) (n : UInt32) (a : Bool) (asn : UInt32) (p p' : Pfx) (m c : Int) (t : ByteArray) (i : Nat) (u : Value) (hi : i < 18) (h : p.cells.set i u = p'.cells) : (Pdu.cells ⟨k, s, n, a, ⟨asn, p, m⟩, c, t⟩).set (5 + i) u = Pdu.cells ⟨k, s, n, a, ⟨asn, p', m⟩, c, t⟩ := by
  have e : ∀ p : Pfx, Pdu.cells ⟨k, s, n, a, ⟨asn, p, m⟩, c, t⟩ = [.int .i64 k, .int .i64 s, .int .u32 n.toNat, .bool a, .int .u32 asn.toNat] ++ (p.cells ++ [.int .i64 m, .int .i64 c, .string t]) := fun p => by simp [Pdu.cells, Vrp.cells]
  rw [e, e, List.set_append_right _ _ (by simp), List.set_append_left _ _ (by simp [Pfx.cells_length]; omega), ← h]
  simp
theorem set_len (k s : Int) (n : UInt32) (a : Bool) (asn : UInt32) (v6 : Bool) (q : A16) (l l' m c : Int) (t : ByteArray) : (Pdu.cells ⟨k, s, n, a, ⟨asn, ⟨v6, q, l⟩, m⟩, c, t⟩).set 22 (.int .i64 l') = Pdu.cells ⟨k, s, n, a, ⟨asn, ⟨v6, q, l'⟩, m⟩, c, t⟩ :=
  set_in_pfx k s n a asn _ _ m c t 17 _ (by omega) (Pfx.set_17 v6 q l l')
theorem a16_set (xs : List UInt8) (b : UInt8) (h : xs.length < 16) : (a16 xs).cells.set xs.length (bv b) = (a16 (xs ++ [b])).cells := by
  have e : ∀ ys : List UInt8, ys.length ≤ 16 → (a16 ys).l = ys ++ List.replicate (16 - ys.length) 0 := fun ys hy => by
    simp only [a16]
    rw [List.take_append, List.take_of_length_le hy, List.take_replicate]
    congr 2; omega
  simp only [A16.cells]
  rw [e xs (by omega), e (xs ++ [b]) (by simp; omega), List.map_append, List.set_append_right _ _ (by simp), List.length_map, Nat.sub_self]
  have e2 : 16 - xs.length = (16 - (xs ++ [b]).length) + 1 := by simp; omega
  rw [e2, List.replicate_succ]
  simp
theorem set_addr1 (k s : Int) (n : UInt32) (a : Bool) (asn : UInt32) (v6 : Bool) (xs : List UInt8) (b : UInt8) (l m c : Int) (t : ByteArray) (h : xs.length < 16) : (Pdu.cells ⟨k, s, n, a, ⟨asn, ⟨v6, a16 xs, l⟩, m⟩, c, t⟩).set (6 + xs.length) (bv b) = Pdu.cells ⟨k, s, n, a, ⟨asn, ⟨v6, a16 (xs ++ [b]), l⟩, m⟩, c, t⟩ := by
  have := set_in_pfx k s n a asn ⟨v6, a16 xs, l⟩ ⟨v6, a16 (xs ++ [b]), l⟩ m c t (1 + xs.length) (bv b) (by omega) (Pfx.set_at v6 _ _ l xs.length b h (a16_set xs b h))
  rwa [show 5 + (1 + xs.length) = 6 + xs.length by omega] at this
theorem take_bytes (bs : List UInt8) (j : Nat) (h : 12 + j < bs.length) : (bs.drop 12).take (j + 1) = (bs.drop 12).take j ++ [UInt8.ofNat (at8 bs (12 + j))] := by
  rw [List.take_succ_eq_append_getElem (by simp; omega), List.getElem_drop]
  simp [at8, List.getD_eq_getElem?_getD, List.getElem?_eq_getElem h]
set_option maxRecDepth 100000 in
set_option maxHeartbeats 2000000 in
theorem of_4 (bs : List UInt8) (L : Nat) (hL : bs.length = L) (hn : L = 20) (A : Option Addr) (c B : Nat) (hc : bs.length ≤ c) (w : World) (hB : B ≤ w.heap.size) (hr : Reads w B 1 A bs.length (bs.map bv)) (hk : kd bs = 4) :
    Calls Try.prog 49 #[.slice A bs.length c] w fun e w' => e = .returned (parseOf bs).val ∧ Below w.heap.size w w' := by
  have HR := Lib.hid (show parseOf bs = { bareP (kd bs) with add := ad1 bs, v := ⟨UInt32.ofNat (wordOf (bs.drop (12 + 4))), ⟨false, a16 ((bs.drop 12).take 4), at8 bs 9⟩, at8 bs 10⟩ } by simp [parseOf, hk, widthOf, ad1])
  have hln : (bs.length : Int) = 20 := by omega
  have hlN := Lib.hid (show bs.length = 20 by omega)
  have hl1 : 20 ≤ bs.length := by omega
  have hl2 : bs.length ≤ 20 := by omega
  clear hL hn hln
  have b0 : (kd bs == 0) = false := by simp; omega
  have b1 : (kd bs == 1) = false := by simp; omega
  have b3 : (kd bs == 3) = false := by simp; omega
  have b4 : (kd bs == 4) = true := by simp; omega
  have b6 : (kd bs == 6) = false := by simp; omega
  have b7 : (kd bs == 7) = false := by simp; omega
  have b10 : (kd bs == 10) = false := by simp; omega
  have HU := Lib.hid (show (wordOf (bs.drop (12 + 4)) : Int) = ((UInt32.ofNat (wordOf (bs.drop (12 + 4)))).toNat : Int) by simp [UInt32.toNat_ofNat', Nat.mod_eq_of_lt (wordOf_lt _)])
  have hmid : IntKind.i64.wrap (IntKind.i64.wrap ((at8 bs 2 : Int) * 256) + (at8 bs 3 : Int)) = midOf bs := by
    have h2 := at8_lt bs 2
    have h3 := at8_lt bs 3
    unfold midOf
    rw [show IntKind.i64.wrap ((at8 bs 2 : Int) * 256) = (at8 bs 2 : Int) * 256 from IntWalk.i64_in _ (by omega), IntWalk.i64_in _ (by omega)]
  have hmid2 : IntKind.i64.wrap ((at8 bs 2 : Int) * 256 + (at8 bs 3 : Int)) = midOf bs := by
    have h2 := at8_lt bs 2
    have h3 := at8_lt bs 3
    unfold midOf
    rw [IntWalk.i64_in _ (by omega)]
  have HK := Lib.hid hk
  clear hk
  obtain ⟨ad, rfl, hb, hcell⟩ := hr.2 (by omega)
  clear hcell hb
  have hw1 : IntKind.i64.wrap (at8 bs 1 : Int) = kd bs := wrap_at8 bs 1
  have hw2 := wrap_at8 bs 2
  have hw3 := wrap_at8 bs 3
  have f1 : (1 : Int) < (bs.length : Int) := by omega
  have f2 : (2 : Int) < (bs.length : Int) := by omega
  have f3 : (3 : Int) < (bs.length : Int) := by omega
  go_enter Try.func49, Try.ntmps49
  go_upto_region 1 with fail
  refine wp_gen (Prs0 w B ad bs) (prs0 hB hr) ?_
  intro W0 h0
  have e1 := h0.rd.byte (k := 1) (by omega) (by omega)
  have es := h0.sz
  go_upto_region 2 with (refine wpList_store_at rfl 29 _ _ rfl (w.heap.size + 1) 0 26 29 (bareL (kd bs)) (bareL 0) rfl rfl (blk_new' _ _ _ _ es) rfl (by decide) info_pdu (by rw [bareL_eq]; exact Pdu.one _) ?_)
  try rw [es]
  refine wp_gen (Prs w B ad bs (bareP (kd bs))) (prs_start h0 hB (kd bs)) ?_
  clear e1 es h0
  intro W hW
  refine reg_sch2 11 [(true, 0), (true, 1), (true, 2), (true, 3), (true, 4), (true, 5), (true, 6), (true, 7), (true, 8), (true, 9), (true, 10)] (by kernel_rfl) (by kernel_rfl) (fun W => Reads W B 1 (some ad) bs.length (bs.map bv)) (Prs w B ad bs (bareP (kd bs))) ?_ ?_ ?_
  · exact hW.drew
  · exact fun _ h => h.rd
  intro W hSW
  simp only [List.map_cons, List.map_nil, List.getD_cons_zero, List.getD_cons_succ, List.drop_succ_cons, List.drop_zero]
  refine hd_pure (v := ?_) (by rfl) (fun W' hS' => ?_) ?_ -- 0
  rotate_left
  · have e2 := hS'.byte (k := 2) (by omega) (by omega); have e3 := hS'.byte (k := 3) (by omega) (by omega); clear hS'; (go_simp; first | with_reducible rfl | rfl)
  try simp only [Act.put, List.setIfInBounds_toArray, List.set_cons_zero, List.set_cons_succ]
  refine hd_pure (v := ?_) (by rfl) (fun W' hS' => ?_) ?_ -- 1
  rotate_left
  · have e2 := hS'.byte (k := 2) (by omega) (by omega); have e3 := hS'.byte (k := 3) (by omega) (by omega); clear hS'; (go_simp; first | with_reducible rfl | rfl)
  try simp only [Act.put, List.setIfInBounds_toArray, List.set_cons_zero, List.set_cons_succ]
  refine hd_pure (v := ?_) (by rfl) (fun W' hS' => ?_) ?_ -- 2
  rotate_left
  · have e2 := hS'.byte (k := 2) (by omega) (by omega); have e3 := hS'.byte (k := 3) (by omega) (by omega); clear hS'; (go_simp; first | with_reducible rfl | rfl)
  try simp only [Act.put, List.setIfInBounds_toArray, List.set_cons_zero, List.set_cons_succ]
  refine hd_pure (v := ?_) (by rfl) (fun W' hS' => ?_) ?_ -- 3
  rotate_left
  · have e2 := hS'.byte (k := 2) (by omega) (by omega); have e3 := hS'.byte (k := 3) (by omega) (by omega); clear hS'; (go_simp; first | with_reducible rfl | rfl)
  try simp only [Act.put, List.setIfInBounds_toArray, List.set_cons_zero, List.set_cons_succ]
  refine hd_pure (v := ?_) (by rfl) (fun W' hS' => ?_) ?_ -- 4
  rotate_left
  · have e2 := hS'.byte (k := 2) (by omega) (by omega); have e3 := hS'.byte (k := 3) (by omega) (by omega); clear hS'; (go_simp; first | with_reducible rfl | rfl)
  try simp only [Act.put, List.setIfInBounds_toArray, List.set_cons_zero, List.set_cons_succ]
  refine hd_pure (v := ?_) (by rfl) (fun W' hS' => ?_) ?_ -- 5
  rotate_left
  · have e2 := hS'.byte (k := 2) (by omega) (by omega); have e3 := hS'.byte (k := 3) (by omega) (by omega); clear hS'; (go_simp; first | with_reducible rfl | rfl)
  try simp only [Act.put, List.setIfInBounds_toArray, List.set_cons_zero, List.set_cons_succ]
  refine hd_pure (v := ?_) (by rfl) (fun W' hS' => ?_) ?_ -- 6
  rotate_left
  · have e2 := hS'.byte (k := 2) (by omega) (by omega); have e3 := hS'.byte (k := 3) (by omega) (by omega); clear hS'; (go_simp; first | with_reducible rfl | rfl)
  try simp only [Act.put, List.setIfInBounds_toArray, List.set_cons_zero, List.set_cons_succ]
  refine hd_pure (v := ?_) (by rfl) (fun W' hS' => ?_) ?_ -- 7
  rotate_left
  · have e2 := hS'.byte (k := 2) (by omega) (by omega); have e3 := hS'.byte (k := 3) (by omega) (by omega); clear hS'; (go_simp; first | with_reducible rfl | rfl)
  try simp only [Act.put, List.setIfInBounds_toArray, List.set_cons_zero, List.set_cons_succ]
  refine hd_pure (v := ?_) (by rfl) (fun W' hS' => ?_) ?_ -- 8
  rotate_left
  · have e2 := hS'.byte (k := 2) (by omega) (by omega); have e3 := hS'.byte (k := 3) (by omega) (by omega); clear hS'; (go_simp; first | with_reducible rfl | rfl)
  try simp only [Act.put, List.setIfInBounds_toArray, List.set_cons_zero, List.set_cons_succ]
  refine hd_pure (v := ?_) (by rfl) (fun W' hS' => ?_) ?_ -- 9
  rotate_left
  · have e2 := hS'.byte (k := 2) (by omega) (by omega); have e3 := hS'.byte (k := 3) (by omega) (by omega); clear hS'; (go_simp; first | with_reducible rfl | rfl)
  try simp only [Act.put, List.setIfInBounds_toArray, List.set_cons_zero, List.set_cons_succ]
  refine hd_pure (v := ?_) (by rfl) (fun W' hS' => ?_) ?_ -- 10
  rotate_left
  · have e2 := hS'.byte (k := 2) (by omega) (by omega); have e3 := hS'.byte (k := 3) (by omega) (by omega); clear hS'; (go_simp; first | with_reducible rfl | rfl)
  try simp only [Act.put, List.setIfInBounds_toArray, List.set_cons_zero, List.set_cons_succ]
  refine hd_nil ?_
  replace hW := hSW; clear hSW
  refine wpList_nil (NoPanic.normal ?_)
  have k0 : W.cell? ⟨w.heap.size + 1, 0, none⟩ = some (.int .i64 (kd bs)) := (hW.q.cell 0).trans (Pdu.c0 _)
  clear hmid hmid2 hw2 hw3
  have e8 := hW.rd.byte (k := 8) (by omega) (by omega)
  have g8 : (8 : Int) < (bs.length : Int) := by omega
  have k3 := (hW.q.cell 3).trans (Pdu.c3 _)
  have p3 := hW.q.frozen 3
  have hA := ad1_eq bs
  go_upto_region 14 with fail
  refine wp_gen (Prs w B ad bs { bareP (kd bs) with add := ad1 bs }) (hW.set hB (set_add _ _ _ _ _ _ _ _)) ?_
  clear k0 e8 k3 p3 hA hW
  intro W1 hW
  have k0 : W1.cell? ⟨w.heap.size + 1, 0, none⟩ = some (.int .i64 (kd bs)) := (hW.q.cell 0).trans (Pdu.c0 _)
  have k5 := (hW.q.cell 5).trans (Pdu.c5 _)
  have p5 := hW.q.frozen 5
  go_upto_region 15 with fail
  refine wp_gen (Prs w B ad bs { bareP (kd bs) with add := ad1 bs, v := ⟨0, ⟨false, zA16, 0⟩, 0⟩ }) (hW.set hB (set_v6 _ _ _ _ _ _ _ _ _ _ _ _)) ?_
  clear k0 k5 p5 hW
  intro W2 hW
  have hw9 := wrap_at8 bs 9
  have hw10 := wrap_at8 bs 10
  have e9 := hW.rd.byte (k := 9) (by omega) (by omega)
  have g9 : (9 : Int) < (bs.length : Int) := by omega
  have k22 := (hW.q.cell 22).trans (Pdu.c22 _)
  have p22 := hW.q.frozen 22
  go_upto_region 16 with fail
  refine wp_gen (Prs w B ad bs { bareP (kd bs) with add := ad1 bs, v := ⟨0, ⟨false, zA16, at8 bs 9⟩, 0⟩ }) (hW.set hB (set_len _ _ _ _ _ _ _ _ _ _ _ _)) ?_
  clear e9 k22 p22 hW
  intro W3 hW
  have e10 := hW.rd.byte (k := 10) (by omega) (by omega)
  have g10 : (10 : Int) < (bs.length : Int) := by omega
  have k23 := (hW.q.cell 23).trans (Pdu.c23 _)
  have p23 := hW.q.frozen 23
  go_upto_region 17 with fail
  refine wp_gen (Prs w B ad bs { bareP (kd bs) with add := ad1 bs, v := ⟨0, ⟨false, a16 ((bs.drop 12).take 0), at8 bs 9⟩, at8 bs 10⟩ }) (hW.set hB (set_mx _ _ _ _ _ _ _ _ _ _)) ?_
  clear e10 k23 p23 hW hw9 hw10 g8 g9 g10 f1 f2 f3
  intro W4 hW
  go_wp2_with fail
  go_loopw [5] (fun i wr => ∃ k : Nat, 12 ≤ k ∧ k ≤ 12 + 4 ∧ i = .int .i64 k ∧ Prs w B ad bs { bareP (kd bs) with add := ad1 bs, v := ⟨0, ⟨false, a16 ((bs.drop 12).take (k - 12)), at8 bs 9⟩, at8 bs 10⟩ } wr) (fun i _ => 28 - (intOf i).toNat)
  case atStart => exact ⟨12, Nat.le_refl _, by omega, rfl, hW⟩
  case round =>
    clear hW
    obtain ⟨k, hk0, hk, rfl, hW⟩ := hrel
    by_cases hlt : k < 12 + 4
    · have g12 : (k : Int) < (bs.length : Int) := by omega
      have g0 : (12 : Int) ≤ (k : Int) := by omega
      have gt : (k : Int) < 12 + 4 := by omega
      have gl1 : (20 : Int) ≤ (bs.length : Int) := by omega
      have gl2 : (bs.length : Int) ≤ 20 := by omega
      have e12 := hW.rd.byte (k := k) (by omega) (by omega)
      rw [← add_pos ad (by omega : 0 < k)] at e12
      have k6 := hW.q.cell (6 + (k - 12))
      rw [List.getElem?_eq_getElem (by rw [Pdu.cells_length]; omega)] at k6
      have p6 := hW.q.frozen (6 + (k - 12))
      go_wp2_with fail
      go_roundw
      case rel =>
        have hset := set_addr1 (kd bs) 0 0 (ad1 bs) 0 false ((bs.drop 12).take (k - 12)) (UInt8.ofNat (at8 bs (12 + (k - 12)))) (at8 bs 9) (at8 bs 10) 0 ByteArray.empty (by simp; omega)
        rw [← take_bytes bs (k - 12) (by omega), show ((bs.drop 12).take (k - 12)).length = k - 12 by simp; omega, show k - 12 + 1 = k + 1 - 12 by omega] at hset
        have hv : Value.int .u8 (at8 bs k) = bv (UInt8.ofNat (at8 bs (12 + (k - 12)))) := by
          unfold bv
          rw [UInt8.toNat_ofNat', show 12 + (k - 12) = k by omega]
          have := at8_lt bs k
          congr 1; omega
        exact ⟨k + 1, by omega, by omega, by go_num, by rw [hv]; exact hW.set hB hset⟩
      case measure => simp [intOf]; omega
    · have hk16 : k = 12 + 4 := by omega
      subst hk16
      clear hlt hk hk0
      have gl0 : ¬ ((12 + 4 : Nat) : Int) < (bs.length : Int) - 4 := by omega
      have gl3 := Lib.hid gl0
      have hL4 : (bs.length : Int) - 4 = ((12 + 4 : Nat) : Int) := by omega
      clear gl0
      go_upto_region 25 with (go_at_call 47; go_must (refine (rat_any bs bs.length rfl (12 + 4) (by omega) (by omega) (by omega) _ c B hc _ hW.rd).mono ?_; rintro e w' ⟨rfl, rfl⟩; rw [HU.out]; have k4 := (hW.q.cell 4).trans (Pdu.c4 _); have p4 := hW.q.frozen 4))
      refine wp_gen (Prs w B ad bs { bareP (kd bs) with add := ad1 bs, v := ⟨UInt32.ofNat (wordOf (bs.drop (12 + 4))), ⟨false, a16 ((bs.drop 12).take 4), at8 bs 9⟩, at8 bs 10⟩ }) (hW.set hB (set_asn _ _ _ _ _ (UInt32.ofNat (wordOf (bs.drop (12 + 4)))) _ _ _ _)) ?_
      clear k4 p4 hW
      intro W6 hW
      go_wp2_with (first | (refine wpList_load_at rfl 29 _ rfl (w.heap.size + 1) 0 26 rfl _ _ hW.q.range (Pdu.cells_length _) Try.underlying29 rfl info_pdu ?_) | (refine wpList_store_at rfl 29 _ _ rfl w.heap.size 0 26 29 _ _ rfl rfl hW.z (Pdu.cells_length _) (by rw [Pdu.cells_length]; omega) info_pdu (Pdu.one _) ?_))
      obtain ⟨hr, hb⟩ := prs_end hW
      exact bodyPost_ret (results_cell1 rfl _ w.heap.size 0 26 _ _ rfl hr.range (Pdu.cells_length _) Try.underlying29 rfl info_pdu) rfl ⟨by rw [HR.out]; rfl, hb⟩
set_option maxRecDepth 100000 in
set_option maxHeartbeats 2000000 in
theorem of_6 (bs : List UInt8) (L : Nat) (hL : bs.length = L) (hn : L = 32) (A : Option Addr) (c B : Nat) (hc : bs.length ≤ c) (w : World) (hB : B ≤ w.heap.size) (hr : Reads w B 1 A bs.length (bs.map bv)) (hk : kd bs = 6) :
    Calls Try.prog 49 #[.slice A bs.length c] w fun e w' => e = .returned (parseOf bs).val ∧ Below w.heap.size w w' := by
  have HR := Lib.hid (show parseOf bs = { bareP (kd bs) with add := ad1 bs, v := ⟨UInt32.ofNat (wordOf (bs.drop (12 + 16))), ⟨true, a16 ((bs.drop 12).take 16), at8 bs 9⟩, at8 bs 10⟩ } by simp [parseOf, hk, widthOf, ad1])
  have hln : (bs.length : Int) = 32 := by omega
  have hlN := Lib.hid (show bs.length = 32 by omega)
  have hl1 : 32 ≤ bs.length := by omega
  have hl2 : bs.length ≤ 32 := by omega
  clear hL hn hln
  have b0 : (kd bs == 0) = false := by simp; omega
  have b1 : (kd bs == 1) = false := by simp; omega
  have b3 : (kd bs == 3) = false := by simp; omega
  have b4 : (kd bs == 4) = false := by simp; omega
  have b6 : (kd bs == 6) = true := by simp; omega
  have b7 : (kd bs == 7) = false := by simp; omega
  have b10 : (kd bs == 10) = false := by simp; omega
  have HU := Lib.hid (show (wordOf (bs.drop (12 + 16)) : Int) = ((UInt32.ofNat (wordOf (bs.drop (12 + 16)))).toNat : Int) by simp [UInt32.toNat_ofNat', Nat.mod_eq_of_lt (wordOf_lt _)])
  have hmid : IntKind.i64.wrap (IntKind.i64.wrap ((at8 bs 2 : Int) * 256) + (at8 bs 3 : Int)) = midOf bs := by
    have h2 := at8_lt bs 2
    have h3 := at8_lt bs 3
    unfold midOf
    rw [show IntKind.i64.wrap ((at8 bs 2 : Int) * 256) = (at8 bs 2 : Int) * 256 from IntWalk.i64_in _ (by omega), IntWalk.i64_in _ (by omega)]
  have hmid2 : IntKind.i64.wrap ((at8 bs 2 : Int) * 256 + (at8 bs 3 : Int)) = midOf bs := by
    have h2 := at8_lt bs 2
    have h3 := at8_lt bs 3
    unfold midOf
    rw [IntWalk.i64_in _ (by omega)]
  have HK := Lib.hid hk
  clear hk
  obtain ⟨ad, rfl, hb, hcell⟩ := hr.2 (by omega)
  clear hcell hb
  have hw1 : IntKind.i64.wrap (at8 bs 1 : Int) = kd bs := wrap_at8 bs 1
  have hw2 := wrap_at8 bs 2
  have hw3 := wrap_at8 bs 3
  have f1 : (1 : Int) < (bs.length : Int) := by omega
  have f2 : (2 : Int) < (bs.length : Int) := by omega
  have f3 : (3 : Int) < (bs.length : Int) := by omega
  go_enter Try.func49, Try.ntmps49
  go_upto_region 1 with fail
  refine wp_gen (Prs0 w B ad bs) (prs0 hB hr) ?_
  intro W0 h0
  have e1 := h0.rd.byte (k := 1) (by omega) (by omega)
  have es := h0.sz
  go_upto_region 2 with (refine wpList_store_at rfl 29 _ _ rfl (w.heap.size + 1) 0 26 29 (bareL (kd bs)) (bareL 0) rfl rfl (blk_new' _ _ _ _ es) rfl (by decide) info_pdu (by rw [bareL_eq]; exact Pdu.one _) ?_)
  try rw [es]
  refine wp_gen (Prs w B ad bs (bareP (kd bs))) (prs_start h0 hB (kd bs)) ?_
  clear e1 es h0
  intro W hW
  refine reg_sch2 11 [(true, 0), (true, 1), (true, 2), (true, 3), (true, 4), (true, 5), (true, 6), (true, 7), (true, 8), (true, 9), (true, 10)] (by kernel_rfl) (by kernel_rfl) (fun W => Reads W B 1 (some ad) bs.length (bs.map bv)) (Prs w B ad bs (bareP (kd bs))) ?_ ?_ ?_
  · exact hW.drew
  · exact fun _ h => h.rd
  intro W hSW
  simp only [List.map_cons, List.map_nil, List.getD_cons_zero, List.getD_cons_succ, List.drop_succ_cons, List.drop_zero]
  refine hd_pure (v := ?_) (by rfl) (fun W' hS' => ?_) ?_ -- 0
  rotate_left
  · have e2 := hS'.byte (k := 2) (by omega) (by omega); have e3 := hS'.byte (k := 3) (by omega) (by omega); clear hS'; (go_simp; first | with_reducible rfl | rfl)
  try simp only [Act.put, List.setIfInBounds_toArray, List.set_cons_zero, List.set_cons_succ]
  refine hd_pure (v := ?_) (by rfl) (fun W' hS' => ?_) ?_ -- 1
  rotate_left
  · have e2 := hS'.byte (k := 2) (by omega) (by omega); have e3 := hS'.byte (k := 3) (by omega) (by omega); clear hS'; (go_simp; first | with_reducible rfl | rfl)
  try simp only [Act.put, List.setIfInBounds_toArray, List.set_cons_zero, List.set_cons_succ]
  refine hd_pure (v := ?_) (by rfl) (fun W' hS' => ?_) ?_ -- 2
  rotate_left
  · have e2 := hS'.byte (k := 2) (by omega) (by omega); have e3 := hS'.byte (k := 3) (by omega) (by omega); clear hS'; (go_simp; first | with_reducible rfl | rfl)
  try simp only [Act.put, List.setIfInBounds_toArray, List.set_cons_zero, List.set_cons_succ]
  refine hd_pure (v := ?_) (by rfl) (fun W' hS' => ?_) ?_ -- 3
  rotate_left
  · have e2 := hS'.byte (k := 2) (by omega) (by omega); have e3 := hS'.byte (k := 3) (by omega) (by omega); clear hS'; (go_simp; first | with_reducible rfl | rfl)
  try simp only [Act.put, List.setIfInBounds_toArray, List.set_cons_zero, List.set_cons_succ]
  refine hd_pure (v := ?_) (by rfl) (fun W' hS' => ?_) ?_ -- 4
  rotate_left
  · have e2 := hS'.byte (k := 2) (by omega) (by omega); have e3 := hS'.byte (k := 3) (by omega) (by omega); clear hS'; (go_simp; first | with_reducible rfl | rfl)
  try simp only [Act.put, List.setIfInBounds_toArray, List.set_cons_zero, List.set_cons_succ]
  refine hd_pure (v := ?_) (by rfl) (fun W' hS' => ?_) ?_ -- 5
  rotate_left
  · have e2 := hS'.byte (k := 2) (by omega) (by omega); have e3 := hS'.byte (k := 3) (by omega) (by omega); clear hS'; (go_simp; first | with_reducible rfl | rfl)
  try simp only [Act.put, List.setIfInBounds_toArray, List.set_cons_zero, List.set_cons_succ]
  refine hd_pure (v := ?_) (by rfl) (fun W' hS' => ?_) ?_ -- 6
  rotate_left
  · have e2 := hS'.byte (k := 2) (by omega) (by omega); have e3 := hS'.byte (k := 3) (by omega) (by omega); clear hS'; (go_simp; first | with_reducible rfl | rfl)
  try simp only [Act.put, List.setIfInBounds_toArray, List.set_cons_zero, List.set_cons_succ]
  refine hd_pure (v := ?_) (by rfl) (fun W' hS' => ?_) ?_ -- 7
  rotate_left
  · have e2 := hS'.byte (k := 2) (by omega) (by omega); have e3 := hS'.byte (k := 3) (by omega) (by omega); clear hS'; (go_simp; first | with_reducible rfl | rfl)
  try simp only [Act.put, List.setIfInBounds_toArray, List.set_cons_zero, List.set_cons_succ]
  refine hd_pure (v := ?_) (by rfl) (fun W' hS' => ?_) ?_ -- 8
  rotate_left
  · have e2 := hS'.byte (k := 2) (by omega) (by omega); have e3 := hS'.byte (k := 3) (by omega) (by omega); clear hS'; (go_simp; first | with_reducible rfl | rfl)
  try simp only [Act.put, List.setIfInBounds_toArray, List.set_cons_zero, List.set_cons_succ]
  refine hd_pure (v := ?_) (by rfl) (fun W' hS' => ?_) ?_ -- 9
  rotate_left
  · have e2 := hS'.byte (k := 2) (by omega) (by omega); have e3 := hS'.byte (k := 3) (by omega) (by omega); clear hS'; (go_simp; first | with_reducible rfl | rfl)
  try simp only [Act.put, List.setIfInBounds_toArray, List.set_cons_zero, List.set_cons_succ]
  refine hd_pure (v := ?_) (by rfl) (fun W' hS' => ?_) ?_ -- 10
  rotate_left
  · have e2 := hS'.byte (k := 2) (by omega) (by omega); have e3 := hS'.byte (k := 3) (by omega) (by omega); clear hS'; (go_simp; first | with_reducible rfl | rfl)
  try simp only [Act.put, List.setIfInBounds_toArray, List.set_cons_zero, List.set_cons_succ]
  refine hd_nil ?_
  replace hW := hSW; clear hSW
  refine wpList_nil (NoPanic.normal ?_)
  have k0 : W.cell? ⟨w.heap.size + 1, 0, none⟩ = some (.int .i64 (kd bs)) := (hW.q.cell 0).trans (Pdu.c0 _)
  clear hmid hmid2 hw2 hw3
  have e8 := hW.rd.byte (k := 8) (by omega) (by omega)
  have g8 : (8 : Int) < (bs.length : Int) := by omega
  have k3 := (hW.q.cell 3).trans (Pdu.c3 _)
  have p3 := hW.q.frozen 3
  have hA := ad1_eq bs
  go_upto_region 14 with fail
  refine wp_gen (Prs w B ad bs { bareP (kd bs) with add := ad1 bs }) (hW.set hB (set_add _ _ _ _ _ _ _ _)) ?_
  clear k0 e8 k3 p3 hA hW
  intro W1 hW
  have k0 : W1.cell? ⟨w.heap.size + 1, 0, none⟩ = some (.int .i64 (kd bs)) := (hW.q.cell 0).trans (Pdu.c0 _)
  have k5 := (hW.q.cell 5).trans (Pdu.c5 _)
  have p5 := hW.q.frozen 5
  go_upto_region 15 with fail
  refine wp_gen (Prs w B ad bs { bareP (kd bs) with add := ad1 bs, v := ⟨0, ⟨true, zA16, 0⟩, 0⟩ }) (hW.set hB (set_v6 _ _ _ _ _ _ _ _ _ _ _ _)) ?_
  clear k0 k5 p5 hW
  intro W2 hW
  have hw9 := wrap_at8 bs 9
  have hw10 := wrap_at8 bs 10
  have e9 := hW.rd.byte (k := 9) (by omega) (by omega)
  have g9 : (9 : Int) < (bs.length : Int) := by omega
  have k22 := (hW.q.cell 22).trans (Pdu.c22 _)
  have p22 := hW.q.frozen 22
  go_upto_region 16 with fail
  refine wp_gen (Prs w B ad bs { bareP (kd bs) with add := ad1 bs, v := ⟨0, ⟨true, zA16, at8 bs 9⟩, 0⟩ }) (hW.set hB (set_len _ _ _ _ _ _ _ _ _ _ _ _)) ?_
  clear e9 k22 p22 hW
  intro W3 hW
  have e10 := hW.rd.byte (k := 10) (by omega) (by omega)
  have g10 : (10 : Int) < (bs.length : Int) := by omega
  have k23 := (hW.q.cell 23).trans (Pdu.c23 _)
  have p23 := hW.q.frozen 23
  go_upto_region 17 with fail
  refine wp_gen (Prs w B ad bs { bareP (kd bs) with add := ad1 bs, v := ⟨0, ⟨true, a16 ((bs.drop 12).take 0), at8 bs 9⟩, at8 bs 10⟩ }) (hW.set hB (set_mx _ _ _ _ _ _ _ _ _ _)) ?_
  clear e10 k23 p23 hW hw9 hw10 g8 g9 g10 f1 f2 f3
  intro W4 hW
  go_wp2_with fail
  go_loopw [5] (fun i wr => ∃ k : Nat, 12 ≤ k ∧ k ≤ 12 + 16 ∧ i = .int .i64 k ∧ Prs w B ad bs { bareP (kd bs) with add := ad1 bs, v := ⟨0, ⟨true, a16 ((bs.drop 12).take (k - 12)), at8 bs 9⟩, at8 bs 10⟩ } wr) (fun i _ => 28 - (intOf i).toNat)
  case atStart => exact ⟨12, Nat.le_refl _, by omega, rfl, hW⟩
  case round =>
    clear hW
    obtain ⟨k, hk0, hk, rfl, hW⟩ := hrel
    by_cases hlt : k < 12 + 16
    · have g12 : (k : Int) < (bs.length : Int) := by omega
      have g0 : (12 : Int) ≤ (k : Int) := by omega
      have gt : (k : Int) < 12 + 16 := by omega
      have gl1 : (32 : Int) ≤ (bs.length : Int) := by omega
      have gl2 : (bs.length : Int) ≤ 32 := by omega
      have e12 := hW.rd.byte (k := k) (by omega) (by omega)
      rw [← add_pos ad (by omega : 0 < k)] at e12
      have k6 := hW.q.cell (6 + (k - 12))
      rw [List.getElem?_eq_getElem (by rw [Pdu.cells_length]; omega)] at k6
      have p6 := hW.q.frozen (6 + (k - 12))
      go_wp2_with fail
      go_roundw
      case rel =>
        have hset := set_addr1 (kd bs) 0 0 (ad1 bs) 0 true ((bs.drop 12).take (k - 12)) (UInt8.ofNat (at8 bs (12 + (k - 12)))) (at8 bs 9) (at8 bs 10) 0 ByteArray.empty (by simp; omega)
        rw [← take_bytes bs (k - 12) (by omega), show ((bs.drop 12).take (k - 12)).length = k - 12 by simp; omega, show k - 12 + 1 = k + 1 - 12 by omega] at hset
        have hv : Value.int .u8 (at8 bs k) = bv (UInt8.ofNat (at8 bs (12 + (k - 12)))) := by
          unfold bv
          rw [UInt8.toNat_ofNat', show 12 + (k - 12) = k by omega]
          have := at8_lt bs k
          congr 1; omega
        exact ⟨k + 1, by omega, by omega, by go_num, by rw [hv]; exact hW.set hB hset⟩
      case measure => simp [intOf]; omega
    · have hk16 : k = 12 + 16 := by omega
      subst hk16
      clear hlt hk hk0
      have gl0 : ¬ ((12 + 16 : Nat) : Int) < (bs.length : Int) - 4 := by omega
      have gl3 := Lib.hid gl0
      have hL4 : (bs.length : Int) - 4 = ((12 + 16 : Nat) : Int) := by omega
      clear gl0
      go_upto_region 25 with (go_at_call 47; go_must (refine (rat_any bs bs.length rfl (12 + 16) (by omega) (by omega) (by omega) _ c B hc _ hW.rd).mono ?_; rintro e w' ⟨rfl, rfl⟩; rw [HU.out]; have k4 := (hW.q.cell 4).trans (Pdu.c4 _); have p4 := hW.q.frozen 4))
      refine wp_gen (Prs w B ad bs { bareP (kd bs) with add := ad1 bs, v := ⟨UInt32.ofNat (wordOf (bs.drop (12 + 16))), ⟨true, a16 ((bs.drop 12).take 16), at8 bs 9⟩, at8 bs 10⟩ }) (hW.set hB (set_asn _ _ _ _ _ (UInt32.ofNat (wordOf (bs.drop (12 + 16)))) _ _ _ _)) ?_
      clear k4 p4 hW
      intro W6 hW
      go_wp2_with (first | (refine wpList_load_at rfl 29 _ rfl (w.heap.size + 1) 0 26 rfl _ _ hW.q.range (Pdu.cells_length _) Try.underlying29 rfl info_pdu ?_) | (refine wpList_store_at rfl 29 _ _ rfl w.heap.size 0 26 29 _ _ rfl rfl hW.z (Pdu.cells_length _) (by rw [Pdu.cells_length]; omega) info_pdu (Pdu.one _) ?_))
      obtain ⟨hr, hb⟩ := prs_end hW
      exact bodyPost_ret (results_cell1 rfl _ w.heap.size 0 26 _ _ rfl hr.range (Pdu.cells_length _) Try.underlying29 rfl info_pdu) rfl ⟨by rw [HR.out]; rfl, hb⟩
end Go.Proofs.Ytmoldmnhijcckaa
