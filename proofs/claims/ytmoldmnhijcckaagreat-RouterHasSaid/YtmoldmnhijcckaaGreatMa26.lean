/- The contracts of bytes.Equal and pdu.Read. -/
import Derived.Test.YtmoldmnhijcckaaGreatMa25
import Derived.Test.YtmoldmnhijcckaaGreatMa20
set_option linter.unusedVariables false
set_option linter.unusedSectionVars false
set_option linter.unusedSimpArgs false
namespace Go.Proofs.YtmoldmnhijcckaaGreat
open Go.RowKit
theorem beq_strs (xs ys : List UInt8) : ((⟨xs.toArray⟩ : ByteArray).toList == (⟨ys.toArray⟩ : ByteArray).toList) = decide (xs = ys) := by
  rw [ByteArray.toList_eq, ByteArray.toList_eq, Bool.eq_iff_iff]; simp
theorem equal_any (xs ys : List UInt8) (A A' : Option Addr) (n n' c c' B B' : Nat) (w : World) (h1 : Reads w B 1 A n (xs.map bv)) (h2 : Reads w B' 1 A' n' (ys.map bv)) :
    Calls Tryz.prog 108 #[.slice A n c, .slice A' n' c'] w fun e w' => e = .returned (.bool (decide (xs = ys))) ∧ w = w' := by
  have s1 := h1.str c
  have s2 := h2.str c'
  go_enter Tryz.func108, Tryz.ntmps108
  go_wp2
  go_ret
  refine ⟨?_, rfl⟩
  rw [show decide (xs = ys) = (xs == ys) by rw [Bool.eq_iff_iff]; simp]
  rfl
/-- What is read of bytes. -/
def readOf (bs : List UInt8) : Pdu × Int × Int × Int :=
  if bs.length < 8 then (bareP 0, 0, 0, 3)
  else if at8 bs 0 ≠ 1 then (bareP 0, 0, 4, 2)
  else if isKind (kd bs) = false then (bareP 0, 0, 5, 2)
  else if longOk bs = false then (bareP 0, 0, 0, 2)
  else if bs.length < longOf bs then (bareP 0, 0, 0, 3)
  else if (pduOk (parseOf (bs.take (longOf bs))) && decide (wrB (parseOf (bs.take (longOf bs))) = bs.take (longOf bs))) = false then (bareP 0, 0, 0, 2)
  else (parseOf (bs.take (longOf bs)), longOf bs, 0, 0)
def RdPost (w : World) (bs : List UInt8) (e : Ending) (w' : World) : Prop :=
  e = .returned (.tuple #[(readOf bs).1.val, .int .i64 (readOf bs).2.1, .int .i64 (readOf bs).2.2.1, .int .i64 (readOf bs).2.2.2]) ∧ Below w.heap.size w w'
structure RS (w : World) (B : Nat) (A : Option Addr) (bs : List UInt8) (W : World) : Prop where
  rd : Reads W B 1 A bs.length (bs.map bv)
  z : Blk W w.heap.size 69 (bareP 0).cells
  b : Below w.heap.size w W
theorem RS.drew {w : World} {B : Nat} {A : Option Addr} {bs : List UInt8} {W : World} (h : RS w B A bs W) : RS w B A bs W.drew := ⟨h.rd.drew, h.z.drew, h.b.drew⟩
theorem RS.next {w : World} {B : Nat} {A : Option Addr} {bs : List UInt8} {W W' : World} (h : RS w B A bs W) (hB : B ≤ w.heap.size) (hb : Below W.heap.size W W') : RS w B A bs W' :=
  ⟨h.rd.below hb (by have := h.b.size; omega), h.z.below hb h.z.lt, below_then h.b (Nat.le_refl _) hb⟩
theorem rs_start {w : World} {B : Nat} {A : Option Addr} {bs : List UInt8} (hB : B ≤ w.heap.size) (h : Reads w B 1 A bs.length (bs.map bv)) : RS w B A bs (w.alloc (.cells (bareL 0).toArray 69)) :=
  ⟨h.alloc hB _, by rw [← bareL_eq]; exact blk_new' _ _ _ _ rfl, (Below.refl _ _).alloc (Nat.le_refl _) _⟩
theorem rs_end {w : World} {B : Nat} {A : Option Addr} {bs : List UInt8} {W : World} (h : RS w B A bs W) (q : Pdu) : Blk (W.setCells w.heap.size 0 q.cells) w.heap.size 69 q.cells ∧ Below w.heap.size w (W.setCells w.heap.size 0 q.cells) :=
  ⟨h.z.setCells_all (by simp only [Pdu.cells_length]), Below.setCells (Nat.le_refl _) _ _ h.b⟩
set_option maxRecDepth 100000 in
set_option maxHeartbeats 1000000 in
theorem read_short (bs : List UInt8) (h : bs.length < 8) (A : Option Addr) (c B : Nat) (hc : bs.length ≤ c) (w : World) (hB : B ≤ w.heap.size) (hr : Reads w B 1 A bs.length (bs.map bv)) :
    Calls Tryz.prog 72 #[.slice A bs.length c] w (RdPost w bs) := by
  have HR := Lib.hid (show readOf bs = (bareP 0, 0, 0, 3) by simp [readOf, h])
  have d8 : decide ((bs.length : Int) < 8) = true := by simp; omega
  have d8' : decide (bs.length < 8) = true := by simp; omega
  clear h
  go_enter Tryz.func72, Tryz.ntmps72
  go_upto_region 1 with fail
  refine wp_gen (RS w B (A) bs) (rs_start hB hr) ?_
  intro W hW
  go_wp2_with (first | (refine wpList_load_at rfl 69 _ rfl w.heap.size 0 26 rfl _ _ hW.z.range (Pdu.cells_length _) Tryz.underlying69 rfl info_pdu ?_) | (refine wpList_store_at rfl 69 _ _ rfl w.heap.size 0 26 69 _ _ rfl rfl hW.z (Pdu.cells_length _) (by rw [Pdu.cells_length]; omega) info_pdu (Pdu.one _) ?_))
  obtain ⟨hr, hb⟩ := rs_end hW (bareP 0)
  exact bodyPost_ret (results_cell_tmp3 rfl _ w.heap.size 0 26 _ _ rfl hr.range (Pdu.cells_length _) Tryz.underlying69 rfl info_pdu) rfl ⟨by rw [HR.out]; rfl, hb⟩
set_option maxRecDepth 100000 in
set_option maxHeartbeats 1000000 in
theorem read_ver (bs : List UInt8) (h8 : 8 ≤ bs.length) (h : at8 bs 0 ≠ 1) (A : Option Addr) (c B : Nat) (hc : bs.length ≤ c) (w : World) (hB : B ≤ w.heap.size) (hr : Reads w B 1 A bs.length (bs.map bv)) :
    Calls Tryz.prog 72 #[.slice A bs.length c] w (RdPost w bs) := by
  have HR := Lib.hid (show readOf bs = (bareP 0, 0, 4, 2) by simp [readOf, show ¬ bs.length < 8 by omega, h])
  have b0 : ((at8 bs 0 : Int) == 1) = false := by simp; omega
  have b0' : ((at8 bs 0 : Int) != 1) = true := by simp; omega
  clear h
  obtain ⟨ad, rfl, hb, hcell⟩ := hr.2 (by omega)
  have d8 : decide ((bs.length : Int) < 8) = false := by simp; omega
  have d8' : decide (bs.length < 8) = false := by simp; omega
  have f0 : (0 : Int) < (bs.length : Int) := by omega
  have f1 : (1 : Int) < (bs.length : Int) := by omega
  clear hcell hb
  go_enter Tryz.func72, Tryz.ntmps72
  go_upto_region 1 with fail
  refine wp_gen (RS w B (some ad) bs) (rs_start hB hr) ?_
  intro W hW
  have e0 : W.cell? ad = some (.int .u8 (at8 bs 0)) := by
    obtain ⟨ad', e, _, hc'⟩ := hW.rd.2 (by omega)
    cases e
    have := hc' 0 (bv (bs.getD 0 0)) (by rw [List.getElem?_map, List.getElem?_eq_getElem (by omega)]; simp [List.getD_eq_getElem?_getD, List.getElem?_eq_getElem (show 0 < bs.length by omega)])
    simpa [Addr.add, bv, at8] using this
  go_wp2_with (first | (refine wpList_load_at rfl 69 _ rfl w.heap.size 0 26 rfl _ _ hW.z.range (Pdu.cells_length _) Tryz.underlying69 rfl info_pdu ?_) | (refine wpList_store_at rfl 69 _ _ rfl w.heap.size 0 26 69 _ _ rfl rfl hW.z (Pdu.cells_length _) (by rw [Pdu.cells_length]; omega) info_pdu (Pdu.one _) ?_))
  obtain ⟨hr, hb⟩ := rs_end hW (bareP 0)
  exact bodyPost_ret (results_cell_tmp3 rfl _ w.heap.size 0 26 _ _ rfl hr.range (Pdu.cells_length _) Tryz.underlying69 rfl info_pdu) rfl ⟨by rw [HR.out]; rfl, hb⟩
set_option maxRecDepth 100000 in
set_option maxHeartbeats 1000000 in
theorem read_kind (bs : List UInt8) (h8 : 8 ≤ bs.length) (h1 : at8 bs 0 = 1) (hk : isKind (kd bs) = false) (A : Option Addr) (c B : Nat) (hc : bs.length ≤ c) (w : World) (hB : B ≤ w.heap.size) (hr : Reads w B 1 A bs.length (bs.map bv)) :
    Calls Tryz.prog 72 #[.slice A bs.length c] w (RdPost w bs) := by
  have HR := Lib.hid (show readOf bs = (bareP 0, 0, 5, 2) by simp [readOf, show ¬ bs.length < 8 by omega, h1, hk])
  have HK := Lib.hid hk
  clear hk
  have b0 : ((at8 bs 0 : Int) == 1) = true := by simp; omega
  have b0' : ((at8 bs 0 : Int) != 1) = false := by simp; omega
  have hw1 : IntKind.i64.wrap (at8 bs 1 : Int) = kd bs := wrap_at8 bs 1
  clear h1
  obtain ⟨ad, rfl, hb, hcell⟩ := hr.2 (by omega)
  have d8 : decide ((bs.length : Int) < 8) = false := by simp; omega
  have d8' : decide (bs.length < 8) = false := by simp; omega
  have f0 : (0 : Int) < (bs.length : Int) := by omega
  have f1 : (1 : Int) < (bs.length : Int) := by omega
  clear hcell hb
  go_enter Tryz.func72, Tryz.ntmps72
  go_upto_region 1 with fail
  refine wp_gen (RS w B (some ad) bs) (rs_start hB hr) ?_
  intro W hW
  have e0 : W.cell? ad = some (.int .u8 (at8 bs 0)) := by
    obtain ⟨ad', e, _, hc'⟩ := hW.rd.2 (by omega)
    cases e
    have := hc' 0 (bv (bs.getD 0 0)) (by rw [List.getElem?_map, List.getElem?_eq_getElem (by omega)]; simp [List.getD_eq_getElem?_getD, List.getElem?_eq_getElem (show 0 < bs.length by omega)])
    simpa [Addr.add, bv, at8] using this
  go_upto_region 5 with fail
  clear e0
  refine reg_sch2 11 [(true, 1), (true, 2), (true, 3), (true, 4), (false, 0), (false, 5), (true, 6), (true, 7), (true, 8), (true, 9), (true, 10)] (by kernel_rfl) (by kernel_rfl) (RS w B (some ad) bs) (RS w B (some ad) bs) ?_ ?_ ?_
  · exact hW.drew
  · exact fun _ h => h
  intro W hSW
  simp only [List.map_cons, List.map_nil, List.getD_cons_zero, List.getD_cons_succ, List.drop_succ_cons, List.drop_zero]
  refine hd_pure (v := ?_) (by rfl) (fun W' hS' => ?_) ?_ -- 1
  rotate_left
  · have e1 := hS'.rd.byte (k := 1) (by omega) (by omega); clear hS'; (go_simp; first | with_reducible rfl | rfl)
  try simp only [Act.put, List.setIfInBounds_toArray, List.set_cons_zero, List.set_cons_succ]
  refine hd_pure (v := ?_) (by rfl) (fun W' hS' => ?_) ?_ -- 2
  rotate_left
  · have e1 := hS'.rd.byte (k := 1) (by omega) (by omega); clear hS'; (go_simp; first | with_reducible rfl | rfl)
  try simp only [Act.put, List.setIfInBounds_toArray, List.set_cons_zero, List.set_cons_succ]
  refine hd_pure (v := ?_) (by rfl) (fun W' hS' => ?_) ?_ -- 3
  rotate_left
  · have e1 := hS'.rd.byte (k := 1) (by omega) (by omega); clear hS'; (go_simp; first | with_reducible rfl | rfl)
  try simp only [Act.put, List.setIfInBounds_toArray, List.set_cons_zero, List.set_cons_succ]
  refine hd_pure (v := ?_) (by rfl) (fun W' hS' => ?_) ?_ -- 4
  rotate_left
  · have e1 := hS'.rd.byte (k := 1) (by omega) (by omega); clear hS'; (go_simp; first | with_reducible rfl | rfl)
  try simp only [Act.put, List.setIfInBounds_toArray, List.set_cons_zero, List.set_cons_succ]
  refine hd_sole (by rfl) (fun K hK => ?_) -- 0
  go_simp
  refine (lengths_any _).mono ?_; rintro e w' ⟨b, rfl, hm, hb⟩
  refine hK _ _ (hSW.next hB hb) ?_
  clear hK K hSW
  intro hSW
  clear hb; have hl := run_len _ b hm (kd bs) true; simp only [if_true] at hl; rw [HK.out] at hl
  try simp only [Act.put, List.setIfInBounds_toArray, List.set_cons_zero, List.set_cons_succ]
  refine hd_sole (by rfl) (fun K hK => ?_) -- 5
  go_simp
  refine hK _ _ (hSW) ?_
  clear hK K hSW
  intro hSW
  clear hl hm
  try simp only [Act.put, List.setIfInBounds_toArray, List.set_cons_zero, List.set_cons_succ]
  refine hd_pure (v := ?_) (by rfl) (fun W' hS' => ?_) ?_ -- 6
  rotate_left
  · have e1 := hS'.rd.byte (k := 1) (by omega) (by omega); clear hS'; (go_simp; first | with_reducible rfl | rfl)
  try simp only [Act.put, List.setIfInBounds_toArray, List.set_cons_zero, List.set_cons_succ]
  refine hd_pure (v := ?_) (by rfl) (fun W' hS' => ?_) ?_ -- 7
  rotate_left
  · have e1 := hS'.rd.byte (k := 1) (by omega) (by omega); clear hS'; (go_simp; first | with_reducible rfl | rfl)
  try simp only [Act.put, List.setIfInBounds_toArray, List.set_cons_zero, List.set_cons_succ]
  refine hd_pure (v := ?_) (by rfl) (fun W' hS' => ?_) ?_ -- 8
  rotate_left
  · have e1 := hS'.rd.byte (k := 1) (by omega) (by omega); clear hS'; (go_simp; first | with_reducible rfl | rfl)
  try simp only [Act.put, List.setIfInBounds_toArray, List.set_cons_zero, List.set_cons_succ]
  refine hd_pure (v := ?_) (by rfl) (fun W' hS' => ?_) ?_ -- 9
  rotate_left
  · have e1 := hS'.rd.byte (k := 1) (by omega) (by omega); clear hS'; (go_simp; first | with_reducible rfl | rfl)
  try simp only [Act.put, List.setIfInBounds_toArray, List.set_cons_zero, List.set_cons_succ]
  refine hd_pure (v := ?_) (by rfl) (fun W' hS' => ?_) ?_ -- 10
  rotate_left
  · have e1 := hS'.rd.byte (k := 1) (by omega) (by omega); clear hS'; (go_simp; first | with_reducible rfl | rfl)
  try simp only [Act.put, List.setIfInBounds_toArray, List.set_cons_zero, List.set_cons_succ]
  refine hd_nil ?_
  replace hW := hSW; clear hSW
  refine wpList_nil (NoPanic.normal ?_)
  go_wp2_with (first | (refine wpList_load_at rfl 69 _ rfl w.heap.size 0 26 rfl _ _ hW.z.range (Pdu.cells_length _) Tryz.underlying69 rfl info_pdu ?_) | (refine wpList_store_at rfl 69 _ _ rfl w.heap.size 0 26 69 _ _ rfl rfl hW.z (Pdu.cells_length _) (by rw [Pdu.cells_length]; omega) info_pdu (Pdu.one _) ?_))
  obtain ⟨hr, hb⟩ := rs_end hW (bareP 0)
  exact bodyPost_ret (results_cell_tmp3 rfl _ w.heap.size 0 26 _ _ rfl hr.range (Pdu.cells_length _) Tryz.underlying69 rfl info_pdu) rfl ⟨by rw [HR.out]; rfl, hb⟩
set_option maxRecDepth 100000 in
set_option maxHeartbeats 1000000 in
theorem read_long (bs : List UInt8) (h8 : 8 ≤ bs.length) (h1 : at8 bs 0 = 1) (hk : isKind (kd bs) = true) (hl0 : longOk bs = false) (A : Option Addr) (c B : Nat) (hc : bs.length ≤ c) (w : World) (hB : B ≤ w.heap.size) (hr : Reads w B 1 A bs.length (bs.map bv)) :
    Calls Tryz.prog 72 #[.slice A bs.length c] w (RdPost w bs) := by
  have HR := Lib.hid (show readOf bs = (bareP 0, 0, 0, 2) by simp [readOf, show ¬ bs.length < 8 by omega, h1, hk, hl0])
  have HK := Lib.hid hk
  clear hk
  have b0 : ((at8 bs 0 : Int) == 1) = true := by simp; omega
  have b0' : ((at8 bs 0 : Int) != 1) = false := by simp; omega
  have hw1 : IntKind.i64.wrap (at8 bs 1 : Int) = kd bs := wrap_at8 bs 1
  clear h1
  obtain ⟨ad, rfl, hb, hcell⟩ := hr.2 (by omega)
  have d8 : decide ((bs.length : Int) < 8) = false := by simp; omega
  have d8' : decide (bs.length < 8) = false := by simp; omega
  have f0 : (0 : Int) < (bs.length : Int) := by omega
  have f1 : (1 : Int) < (bs.length : Int) := by omega
  clear hcell hb
  go_enter Tryz.func72, Tryz.ntmps72
  go_upto_region 1 with fail
  refine wp_gen (RS w B (some ad) bs) (rs_start hB hr) ?_
  intro W hW
  have e0 : W.cell? ad = some (.int .u8 (at8 bs 0)) := by
    obtain ⟨ad', e, _, hc'⟩ := hW.rd.2 (by omega)
    cases e
    have := hc' 0 (bv (bs.getD 0 0)) (by rw [List.getElem?_map, List.getElem?_eq_getElem (by omega)]; simp [List.getD_eq_getElem?_getD, List.getElem?_eq_getElem (show 0 < bs.length by omega)])
    simpa [Addr.add, bv, at8] using this
  go_upto_region 5 with fail
  clear e0
  refine reg_sch2 11 [(true, 1), (true, 2), (true, 3), (true, 4), (false, 0), (false, 5), (true, 6), (true, 7), (true, 8), (true, 9), (true, 10)] (by kernel_rfl) (by kernel_rfl) (RS w B (some ad) bs) (RS w B (some ad) bs) ?_ ?_ ?_
  · exact hW.drew
  · exact fun _ h => h
  intro W hSW
  simp only [List.map_cons, List.map_nil, List.getD_cons_zero, List.getD_cons_succ, List.drop_succ_cons, List.drop_zero]
  refine hd_pure (v := ?_) (by rfl) (fun W' hS' => ?_) ?_ -- 1
  rotate_left
  · have e1 := hS'.rd.byte (k := 1) (by omega) (by omega); clear hS'; (go_simp; first | with_reducible rfl | rfl)
  try simp only [Act.put, List.setIfInBounds_toArray, List.set_cons_zero, List.set_cons_succ]
  refine hd_pure (v := ?_) (by rfl) (fun W' hS' => ?_) ?_ -- 2
  rotate_left
  · have e1 := hS'.rd.byte (k := 1) (by omega) (by omega); clear hS'; (go_simp; first | with_reducible rfl | rfl)
  try simp only [Act.put, List.setIfInBounds_toArray, List.set_cons_zero, List.set_cons_succ]
  refine hd_pure (v := ?_) (by rfl) (fun W' hS' => ?_) ?_ -- 3
  rotate_left
  · have e1 := hS'.rd.byte (k := 1) (by omega) (by omega); clear hS'; (go_simp; first | with_reducible rfl | rfl)
  try simp only [Act.put, List.setIfInBounds_toArray, List.set_cons_zero, List.set_cons_succ]
  refine hd_pure (v := ?_) (by rfl) (fun W' hS' => ?_) ?_ -- 4
  rotate_left
  · have e1 := hS'.rd.byte (k := 1) (by omega) (by omega); clear hS'; (go_simp; first | with_reducible rfl | rfl)
  try simp only [Act.put, List.setIfInBounds_toArray, List.set_cons_zero, List.set_cons_succ]
  refine hd_sole (by rfl) (fun K hK => ?_) -- 0
  go_simp
  refine (lengths_any _).mono ?_; rintro e w' ⟨b, rfl, hm, hb⟩
  refine hK _ _ (hSW.next hB hb) ?_
  clear hK K hSW
  intro hSW
  clear hb; have hl := run_len _ b hm (kd bs) true; simp only [if_true] at hl; rw [HK.out] at hl
  try simp only [Act.put, List.setIfInBounds_toArray, List.set_cons_zero, List.set_cons_succ]
  refine hd_sole (by rfl) (fun K hK => ?_) -- 5
  go_simp
  refine hK _ _ (hSW) ?_
  clear hK K hSW
  intro hSW
  clear hl hm
  try simp only [Act.put, List.setIfInBounds_toArray, List.set_cons_zero, List.set_cons_succ]
  refine hd_pure (v := ?_) (by rfl) (fun W' hS' => ?_) ?_ -- 6
  rotate_left
  · have e1 := hS'.rd.byte (k := 1) (by omega) (by omega); clear hS'; (go_simp; first | with_reducible rfl | rfl)
  try simp only [Act.put, List.setIfInBounds_toArray, List.set_cons_zero, List.set_cons_succ]
  refine hd_pure (v := ?_) (by rfl) (fun W' hS' => ?_) ?_ -- 7
  rotate_left
  · have e1 := hS'.rd.byte (k := 1) (by omega) (by omega); clear hS'; (go_simp; first | with_reducible rfl | rfl)
  try simp only [Act.put, List.setIfInBounds_toArray, List.set_cons_zero, List.set_cons_succ]
  refine hd_pure (v := ?_) (by rfl) (fun W' hS' => ?_) ?_ -- 8
  rotate_left
  · have e1 := hS'.rd.byte (k := 1) (by omega) (by omega); clear hS'; (go_simp; first | with_reducible rfl | rfl)
  try simp only [Act.put, List.setIfInBounds_toArray, List.set_cons_zero, List.set_cons_succ]
  refine hd_pure (v := ?_) (by rfl) (fun W' hS' => ?_) ?_ -- 9
  rotate_left
  · have e1 := hS'.rd.byte (k := 1) (by omega) (by omega); clear hS'; (go_simp; first | with_reducible rfl | rfl)
  try simp only [Act.put, List.setIfInBounds_toArray, List.set_cons_zero, List.set_cons_succ]
  refine hd_pure (v := ?_) (by rfl) (fun W' hS' => ?_) ?_ -- 10
  rotate_left
  · have e1 := hS'.rd.byte (k := 1) (by omega) (by omega); clear hS'; (go_simp; first | with_reducible rfl | rfl)
  try simp only [Act.put, List.setIfInBounds_toArray, List.set_cons_zero, List.set_cons_succ]
  refine hd_nil ?_
  replace hW := hSW; clear hSW
  refine wpList_nil (NoPanic.normal ?_)
  go_upto_region 9 with (go_at_call 106; refine (long_any bs h8 _ c B hc _ (by have := hW.b.size; omega) hW.rd).mono ?_; rintro e w1 ⟨rfl, hb⟩; replace hW := hW.next hB hb; clear hb)
  clear hl0
  go_wp2_with (first | (refine wpList_load_at rfl 69 _ rfl w.heap.size 0 26 rfl _ _ hW.z.range (Pdu.cells_length _) Tryz.underlying69 rfl info_pdu ?_) | (refine wpList_store_at rfl 69 _ _ rfl w.heap.size 0 26 69 _ _ rfl rfl hW.z (Pdu.cells_length _) (by rw [Pdu.cells_length]; omega) info_pdu (Pdu.one _) ?_))
  obtain ⟨hr, hb⟩ := rs_end hW (bareP 0)
  exact bodyPost_ret (results_cell_tmp3 rfl _ w.heap.size 0 26 _ _ rfl hr.range (Pdu.cells_length _) Tryz.underlying69 rfl info_pdu) rfl ⟨by rw [HR.out]; rfl, hb⟩
set_option maxRecDepth 100000 in
set_option maxHeartbeats 1000000 in
theorem read_cut (bs : List UInt8) (h8 : 8 ≤ bs.length) (h1 : at8 bs 0 = 1) (hk : isKind (kd bs) = true) (hl0 : longOk bs = true) (hlt : bs.length < longOf bs) (A : Option Addr) (c B : Nat) (hc : bs.length ≤ c) (w : World) (hB : B ≤ w.heap.size) (hr : Reads w B 1 A bs.length (bs.map bv)) :
    Calls Tryz.prog 72 #[.slice A bs.length c] w (RdPost w bs) := by
  have HR := Lib.hid (show readOf bs = (bareP 0, 0, 0, 3) by simp [readOf, show ¬ bs.length < 8 by omega, h1, hk, hl0, hlt])
  have HK := Lib.hid hk
  have dl : decide ((bs.length : Int) < (longOf bs : Int)) = true := by simpa using hlt
  have dl' : decide (bs.length < longOf bs) = true := by simpa using hlt
  clear hk hlt
  have b0 : ((at8 bs 0 : Int) == 1) = true := by simp; omega
  have b0' : ((at8 bs 0 : Int) != 1) = false := by simp; omega
  have hw1 : IntKind.i64.wrap (at8 bs 1 : Int) = kd bs := wrap_at8 bs 1
  clear h1
  obtain ⟨ad, rfl, hb, hcell⟩ := hr.2 (by omega)
  have d8 : decide ((bs.length : Int) < 8) = false := by simp; omega
  have d8' : decide (bs.length < 8) = false := by simp; omega
  have f0 : (0 : Int) < (bs.length : Int) := by omega
  have f1 : (1 : Int) < (bs.length : Int) := by omega
  clear hcell hb
  go_enter Tryz.func72, Tryz.ntmps72
  go_upto_region 1 with fail
  refine wp_gen (RS w B (some ad) bs) (rs_start hB hr) ?_
  intro W hW
  have e0 : W.cell? ad = some (.int .u8 (at8 bs 0)) := by
    obtain ⟨ad', e, _, hc'⟩ := hW.rd.2 (by omega)
    cases e
    have := hc' 0 (bv (bs.getD 0 0)) (by rw [List.getElem?_map, List.getElem?_eq_getElem (by omega)]; simp [List.getD_eq_getElem?_getD, List.getElem?_eq_getElem (show 0 < bs.length by omega)])
    simpa [Addr.add, bv, at8] using this
  go_upto_region 5 with fail
  clear e0
  refine reg_sch2 11 [(true, 1), (true, 2), (true, 3), (true, 4), (false, 0), (false, 5), (true, 6), (true, 7), (true, 8), (true, 9), (true, 10)] (by kernel_rfl) (by kernel_rfl) (RS w B (some ad) bs) (RS w B (some ad) bs) ?_ ?_ ?_
  · exact hW.drew
  · exact fun _ h => h
  intro W hSW
  simp only [List.map_cons, List.map_nil, List.getD_cons_zero, List.getD_cons_succ, List.drop_succ_cons, List.drop_zero]
  refine hd_pure (v := ?_) (by rfl) (fun W' hS' => ?_) ?_ -- 1
  rotate_left
  · have e1 := hS'.rd.byte (k := 1) (by omega) (by omega); clear hS'; (go_simp; first | with_reducible rfl | rfl)
  try simp only [Act.put, List.setIfInBounds_toArray, List.set_cons_zero, List.set_cons_succ]
  refine hd_pure (v := ?_) (by rfl) (fun W' hS' => ?_) ?_ -- 2
  rotate_left
  · have e1 := hS'.rd.byte (k := 1) (by omega) (by omega); clear hS'; (go_simp; first | with_reducible rfl | rfl)
  try simp only [Act.put, List.setIfInBounds_toArray, List.set_cons_zero, List.set_cons_succ]
  refine hd_pure (v := ?_) (by rfl) (fun W' hS' => ?_) ?_ -- 3
  rotate_left
  · have e1 := hS'.rd.byte (k := 1) (by omega) (by omega); clear hS'; (go_simp; first | with_reducible rfl | rfl)
  try simp only [Act.put, List.setIfInBounds_toArray, List.set_cons_zero, List.set_cons_succ]
  refine hd_pure (v := ?_) (by rfl) (fun W' hS' => ?_) ?_ -- 4
  rotate_left
  · have e1 := hS'.rd.byte (k := 1) (by omega) (by omega); clear hS'; (go_simp; first | with_reducible rfl | rfl)
  try simp only [Act.put, List.setIfInBounds_toArray, List.set_cons_zero, List.set_cons_succ]
  refine hd_sole (by rfl) (fun K hK => ?_) -- 0
  go_simp
  refine (lengths_any _).mono ?_; rintro e w' ⟨b, rfl, hm, hb⟩
  refine hK _ _ (hSW.next hB hb) ?_
  clear hK K hSW
  intro hSW
  clear hb; have hl := run_len _ b hm (kd bs) true; simp only [if_true] at hl; rw [HK.out] at hl
  try simp only [Act.put, List.setIfInBounds_toArray, List.set_cons_zero, List.set_cons_succ]
  refine hd_sole (by rfl) (fun K hK => ?_) -- 5
  go_simp
  refine hK _ _ (hSW) ?_
  clear hK K hSW
  intro hSW
  clear hl hm
  try simp only [Act.put, List.setIfInBounds_toArray, List.set_cons_zero, List.set_cons_succ]
  refine hd_pure (v := ?_) (by rfl) (fun W' hS' => ?_) ?_ -- 6
  rotate_left
  · have e1 := hS'.rd.byte (k := 1) (by omega) (by omega); clear hS'; (go_simp; first | with_reducible rfl | rfl)
  try simp only [Act.put, List.setIfInBounds_toArray, List.set_cons_zero, List.set_cons_succ]
  refine hd_pure (v := ?_) (by rfl) (fun W' hS' => ?_) ?_ -- 7
  rotate_left
  · have e1 := hS'.rd.byte (k := 1) (by omega) (by omega); clear hS'; (go_simp; first | with_reducible rfl | rfl)
  try simp only [Act.put, List.setIfInBounds_toArray, List.set_cons_zero, List.set_cons_succ]
  refine hd_pure (v := ?_) (by rfl) (fun W' hS' => ?_) ?_ -- 8
  rotate_left
  · have e1 := hS'.rd.byte (k := 1) (by omega) (by omega); clear hS'; (go_simp; first | with_reducible rfl | rfl)
  try simp only [Act.put, List.setIfInBounds_toArray, List.set_cons_zero, List.set_cons_succ]
  refine hd_pure (v := ?_) (by rfl) (fun W' hS' => ?_) ?_ -- 9
  rotate_left
  · have e1 := hS'.rd.byte (k := 1) (by omega) (by omega); clear hS'; (go_simp; first | with_reducible rfl | rfl)
  try simp only [Act.put, List.setIfInBounds_toArray, List.set_cons_zero, List.set_cons_succ]
  refine hd_pure (v := ?_) (by rfl) (fun W' hS' => ?_) ?_ -- 10
  rotate_left
  · have e1 := hS'.rd.byte (k := 1) (by omega) (by omega); clear hS'; (go_simp; first | with_reducible rfl | rfl)
  try simp only [Act.put, List.setIfInBounds_toArray, List.set_cons_zero, List.set_cons_succ]
  refine hd_nil ?_
  replace hW := hSW; clear hSW
  refine wpList_nil (NoPanic.normal ?_)
  go_upto_region 9 with (go_at_call 106; refine (long_any bs h8 _ c B hc _ (by have := hW.b.size; omega) hW.rd).mono ?_; rintro e w1 ⟨rfl, hb⟩; replace hW := hW.next hB hb; clear hb)
  clear hl0
  go_wp2_with (first | (refine wpList_load_at rfl 69 _ rfl w.heap.size 0 26 rfl _ _ hW.z.range (Pdu.cells_length _) Tryz.underlying69 rfl info_pdu ?_) | (refine wpList_store_at rfl 69 _ _ rfl w.heap.size 0 26 69 _ _ rfl rfl hW.z (Pdu.cells_length _) (by rw [Pdu.cells_length]; omega) info_pdu (Pdu.one _) ?_))
  obtain ⟨hr, hb⟩ := rs_end hW (bareP 0)
  exact bodyPost_ret (results_cell_tmp3 rfl _ w.heap.size 0 26 _ _ rfl hr.range (Pdu.cells_length _) Tryz.underlying69 rfl info_pdu) rfl ⟨by rw [HR.out]; rfl, hb⟩
theorem long_ge {bs : List UInt8} (hk : isKind (kd bs) = true) (hl0 : longOk bs = true) : lenOf (kd bs) ≤ longOf bs ∧ 8 ≤ lenOf (kd bs) := by
  have hk' : kd bs = 0 ∨ kd bs = 1 ∨ kd bs = 2 ∨ kd bs = 3 ∨ kd bs = 4 ∨ kd bs = 6 ∨ kd bs = 7 ∨ kd bs = 8 ∨ kd bs = 10 := by simpa [isKind] using hk
  have h8 : 8 ≤ lenOf (kd bs) := by
    rcases hk' with h | h | h | h | h | h | h | h | h <;> rw [h] <;> decide
  refine ⟨?_, h8⟩
  unfold longOk at hl0
  split at hl0
  · rename_i h10
    have : kd bs = 10 := by unfold kd; omega
    simp at hl0
    rw [this]; simp [lenOf]; omega
  · simp only [decide_eq_true_eq] at hl0
    unfold kd; omega
theorem kd_take {bs : List UInt8} {l : Nat} (h : 2 ≤ l) : kd (bs.take l) = kd bs := by
  unfold kd at8
  rw [List.getD_eq_getElem?_getD, List.getD_eq_getElem?_getD, List.getElem?_take, if_pos (by omega)]
theorem parse_n (bs : List UInt8) (n : Nat) (hn : bs.length = n) (h8 : 8 ≤ n) (hl : lenOf (kd bs) ≤ n) (hki : isKind (kd bs) = true) (A : Option Addr) (c B : Nat) (hc : n ≤ c) (w : World) (hB : B ≤ w.heap.size) (hr : Reads w B 1 A n (bs.map bv)) :
    Calls Tryz.prog 107 #[.slice A n c] w fun e w' => e = .returned (parseOf bs).val ∧ Below w.heap.size w w' := by
  subst hn
  exact parse_any bs h8 hl hki A c B hc w hB hr
structure RS2 (w : World) (B : Nat) (A : Option Addr) (bs : List UInt8) (g : Nat) (q : Pdu) (W : World) : Prop where
  rs : RS w B A bs W
  q : Blk W g 69 q.cells
  lt : w.heap.size < g
theorem RS2.next {w : World} {B g : Nat} {q : Pdu} {A : Option Addr} {bs : List UInt8} {W W' : World} (h : RS2 w B A bs g q W) (hB : B ≤ w.heap.size) (hb : Below W.heap.size W W') : RS2 w B A bs g q W' := ⟨h.rs.next hB hb, h.q.below hb h.q.lt, h.lt⟩
theorem rs2_start {w : World} {B : Nat} {A : Option Addr} {bs : List UInt8} {W : World} (h : RS w B A bs W) (hB : B ≤ w.heap.size) (q : Pdu) : RS2 w B A bs W.heap.size q ((W.alloc (.cells (bareL 0).toArray 69)).setCells W.heap.size 0 q.cells) := by
  have hq1 : Blk (W.alloc (.cells (bareL 0).toArray 69)) W.heap.size 69 (bareL 0) := blk_new' _ _ _ _ rfl
  have hb0 : Below W.heap.size W (W.alloc (.cells (bareL 0).toArray 69)) := (Below.refl _ _).alloc (Nat.le_refl _) _
  have hl : q.cells.length = (bareL 0).length := by rw [Pdu.cells_length]; rfl
  generalize W.alloc (.cells (bareL 0).toArray 69) = V at *
  have hb := Below.setCells (Nat.le_refl _) q.cells (g := W.heap.size) 0 hb0
  exact ⟨h.next hB hb, Blk.setCells_all hq1 hl, h.z.lt⟩
set_option maxRecDepth 100000 in
set_option maxHeartbeats 1000000 in
theorem read_bad (bs : List UInt8) (h8 : 8 ≤ bs.length) (h1 : at8 bs 0 = 1) (hk : isKind (kd bs) = true) (hl0 : longOk bs = true) (hge : longOf bs ≤ bs.length) (hq : pduOk (parseOf (bs.take (longOf bs))) = false) (A : Option Addr) (c B : Nat) (hc : bs.length ≤ c) (w : World) (hB : B ≤ w.heap.size) (hr : Reads w B 1 A bs.length (bs.map bv)) :
    Calls Tryz.prog 72 #[.slice A bs.length c] w (RdPost w bs) := by
  have HR := Lib.hid (show readOf bs = (bareP 0, 0, 0, 2) by simp [readOf, show ¬ bs.length < 8 by omega, h1, hk, hl0, show ¬ bs.length < longOf bs by omega, hq])
  have HK := Lib.hid hk
  have HQ := Lib.hid hq
  clear hq
  have dl : decide ((bs.length : Int) < (longOf bs : Int)) = false := by simpa using hge
  have dl' : decide (bs.length < longOf bs) = false := by simpa using hge
  have HL := Lib.hid (long_ge hk hl0)
  have HKd := Lib.hid hk
  have fl : (longOf bs : Int) ≤ (c : Int) := by omega
  have fl' : longOf bs ≤ c := by omega
  clear hk
  have b0 : ((at8 bs 0 : Int) == 1) = true := by simp; omega
  have b0' : ((at8 bs 0 : Int) != 1) = false := by simp; omega
  have hw1 : IntKind.i64.wrap (at8 bs 1 : Int) = kd bs := wrap_at8 bs 1
  clear h1
  obtain ⟨ad, rfl, hb, hcell⟩ := hr.2 (by omega)
  have d8 : decide ((bs.length : Int) < 8) = false := by simp; omega
  have d8' : decide (bs.length < 8) = false := by simp; omega
  have f0 : (0 : Int) < (bs.length : Int) := by omega
  have f1 : (1 : Int) < (bs.length : Int) := by omega
  clear hcell hb
  go_enter Tryz.func72, Tryz.ntmps72
  go_upto_region 1 with fail
  refine wp_gen (RS w B (some ad) bs) (rs_start hB hr) ?_
  intro W hW
  have e0 : W.cell? ad = some (.int .u8 (at8 bs 0)) := by
    obtain ⟨ad', e, _, hc'⟩ := hW.rd.2 (by omega)
    cases e
    have := hc' 0 (bv (bs.getD 0 0)) (by rw [List.getElem?_map, List.getElem?_eq_getElem (by omega)]; simp [List.getD_eq_getElem?_getD, List.getElem?_eq_getElem (show 0 < bs.length by omega)])
    simpa [Addr.add, bv, at8] using this
  go_upto_region 5 with fail
  clear e0
  refine reg_sch2 11 [(true, 1), (true, 2), (true, 3), (true, 4), (false, 0), (false, 5), (true, 6), (true, 7), (true, 8), (true, 9), (true, 10)] (by kernel_rfl) (by kernel_rfl) (RS w B (some ad) bs) (RS w B (some ad) bs) ?_ ?_ ?_
  · exact hW.drew
  · exact fun _ h => h
  intro W hSW
  simp only [List.map_cons, List.map_nil, List.getD_cons_zero, List.getD_cons_succ, List.drop_succ_cons, List.drop_zero]
  refine hd_pure (v := ?_) (by rfl) (fun W' hS' => ?_) ?_ -- 1
  rotate_left
  · have e1 := hS'.rd.byte (k := 1) (by omega) (by omega); clear hS'; (go_simp; first | with_reducible rfl | rfl)
  try simp only [Act.put, List.setIfInBounds_toArray, List.set_cons_zero, List.set_cons_succ]
  refine hd_pure (v := ?_) (by rfl) (fun W' hS' => ?_) ?_ -- 2
  rotate_left
  · have e1 := hS'.rd.byte (k := 1) (by omega) (by omega); clear hS'; (go_simp; first | with_reducible rfl | rfl)
  try simp only [Act.put, List.setIfInBounds_toArray, List.set_cons_zero, List.set_cons_succ]
  refine hd_pure (v := ?_) (by rfl) (fun W' hS' => ?_) ?_ -- 3
  rotate_left
  · have e1 := hS'.rd.byte (k := 1) (by omega) (by omega); clear hS'; (go_simp; first | with_reducible rfl | rfl)
  try simp only [Act.put, List.setIfInBounds_toArray, List.set_cons_zero, List.set_cons_succ]
  refine hd_pure (v := ?_) (by rfl) (fun W' hS' => ?_) ?_ -- 4
  rotate_left
  · have e1 := hS'.rd.byte (k := 1) (by omega) (by omega); clear hS'; (go_simp; first | with_reducible rfl | rfl)
  try simp only [Act.put, List.setIfInBounds_toArray, List.set_cons_zero, List.set_cons_succ]
  refine hd_sole (by rfl) (fun K hK => ?_) -- 0
  go_simp
  refine (lengths_any _).mono ?_; rintro e w' ⟨b, rfl, hm, hb⟩
  refine hK _ _ (hSW.next hB hb) ?_
  clear hK K hSW
  intro hSW
  clear hb; have hl := run_len _ b hm (kd bs) true; simp only [if_true] at hl; rw [HK.out] at hl
  try simp only [Act.put, List.setIfInBounds_toArray, List.set_cons_zero, List.set_cons_succ]
  refine hd_sole (by rfl) (fun K hK => ?_) -- 5
  go_simp
  refine hK _ _ (hSW) ?_
  clear hK K hSW
  intro hSW
  clear hl hm
  try simp only [Act.put, List.setIfInBounds_toArray, List.set_cons_zero, List.set_cons_succ]
  refine hd_pure (v := ?_) (by rfl) (fun W' hS' => ?_) ?_ -- 6
  rotate_left
  · have e1 := hS'.rd.byte (k := 1) (by omega) (by omega); clear hS'; (go_simp; first | with_reducible rfl | rfl)
  try simp only [Act.put, List.setIfInBounds_toArray, List.set_cons_zero, List.set_cons_succ]
  refine hd_pure (v := ?_) (by rfl) (fun W' hS' => ?_) ?_ -- 7
  rotate_left
  · have e1 := hS'.rd.byte (k := 1) (by omega) (by omega); clear hS'; (go_simp; first | with_reducible rfl | rfl)
  try simp only [Act.put, List.setIfInBounds_toArray, List.set_cons_zero, List.set_cons_succ]
  refine hd_pure (v := ?_) (by rfl) (fun W' hS' => ?_) ?_ -- 8
  rotate_left
  · have e1 := hS'.rd.byte (k := 1) (by omega) (by omega); clear hS'; (go_simp; first | with_reducible rfl | rfl)
  try simp only [Act.put, List.setIfInBounds_toArray, List.set_cons_zero, List.set_cons_succ]
  refine hd_pure (v := ?_) (by rfl) (fun W' hS' => ?_) ?_ -- 9
  rotate_left
  · have e1 := hS'.rd.byte (k := 1) (by omega) (by omega); clear hS'; (go_simp; first | with_reducible rfl | rfl)
  try simp only [Act.put, List.setIfInBounds_toArray, List.set_cons_zero, List.set_cons_succ]
  refine hd_pure (v := ?_) (by rfl) (fun W' hS' => ?_) ?_ -- 10
  rotate_left
  · have e1 := hS'.rd.byte (k := 1) (by omega) (by omega); clear hS'; (go_simp; first | with_reducible rfl | rfl)
  try simp only [Act.put, List.setIfInBounds_toArray, List.set_cons_zero, List.set_cons_succ]
  refine hd_nil ?_
  replace hW := hSW; clear hSW
  refine wpList_nil (NoPanic.normal ?_)
  go_upto_region 9 with (go_at_call 106; refine (long_any bs h8 _ c B hc _ (by have := hW.b.size; omega) hW.rd).mono ?_; rintro e w1 ⟨rfl, hb⟩; replace hW := hW.next hB hb; clear hb)
  clear hl0
  go_upto_region 13 with fail
  refine wp_gen (RS w B (some ad) bs) hW ?_
  clear hW
  intro W2 hW
  go_upto_region 14 with (first | (go_at_call 107; refine (parse_n (bs.take (longOf bs)) (longOf bs) (by rw [List.length_take]; omega) (by have := HL.out; omega) (by rw [kd_take (by have := HL.out; omega)]; exact HL.out.1) (by rw [kd_take (by have := HL.out; omega)]; exact HKd.out) _ c B (by omega) _ (by have := hW.b.size; omega) (hW.rd.take1 hge)).mono ?_; rintro e w2 ⟨rfl, hb⟩; replace hW := hW.next hB hb; clear hb; simp only [Pdu.val]) | (refine wpList_store_at rfl 69 _ _ rfl _ 0 26 69 (parseOf (bs.take (longOf bs))).cells (bareL 0) rfl rfl (blk_new' _ _ _ _ rfl) (Pdu.cells_length _) (by decide) info_pdu (Pdu.one _) ?_))
  refine wp_gen (RS2 w B (some ad) bs w2.heap.size (parseOf (bs.take (longOf bs)))) (rs2_start hW hB _) ?_
  clear hW
  generalize w2.heap.size = g2
  generalize parseOf (bs.take (longOf bs)) = q at *
  intro W3 hW
  go_upto_region 15 with (first | (refine wpList_load_at rfl 69 _ rfl g2 0 26 rfl _ _ hW.q.range (Pdu.cells_length _) Tryz.underlying69 rfl info_pdu ?_) | (go_at_call 34; refine (write_any q _).mono ?_; rintro e w3 hw3; obtain rfl := hw3.2.1 HQ.out; replace hW := hW.next hB hw3.2.2; clear hw3))
  replace hW := hW.rs
  go_wp2_with (first | (refine wpList_load_at rfl 69 _ rfl w.heap.size 0 26 rfl _ _ hW.z.range (Pdu.cells_length _) Tryz.underlying69 rfl info_pdu ?_) | (refine wpList_store_at rfl 69 _ _ rfl w.heap.size 0 26 69 _ _ rfl rfl hW.z (Pdu.cells_length _) (by rw [Pdu.cells_length]; omega) info_pdu (Pdu.one _) ?_))
  obtain ⟨hr, hb⟩ := rs_end hW (bareP 0)
  exact bodyPost_ret (results_cell_tmp3 rfl _ w.heap.size 0 26 _ _ rfl hr.range (Pdu.cells_length _) Tryz.underlying69 rfl info_pdu) rfl ⟨by rw [HR.out]; rfl, hb⟩
set_option maxRecDepth 100000 in
set_option maxHeartbeats 1000000 in
theorem read_other (bs : List UInt8) (h8 : 8 ≤ bs.length) (h1 : at8 bs 0 = 1) (hk : isKind (kd bs) = true) (hl0 : longOk bs = true) (hge : longOf bs ≤ bs.length) (hq : pduOk (parseOf (bs.take (longOf bs))) = true) (he : decide (wrB (parseOf (bs.take (longOf bs))) = bs.take (longOf bs)) = false) (A : Option Addr) (c B : Nat) (hc : bs.length ≤ c) (w : World) (hB : B ≤ w.heap.size) (hr : Reads w B 1 A bs.length (bs.map bv)) :
    Calls Tryz.prog 72 #[.slice A bs.length c] w (RdPost w bs) := by
  have HR := Lib.hid (show readOf bs = (bareP 0, 0, 0, 2) by unfold readOf; simp only [hq, he, h1, hk, hl0, show ¬ bs.length < 8 by omega, show ¬ bs.length < longOf bs by omega]; rfl)
  have HK := Lib.hid hk
  have HQ := Lib.hid hq
  have HE := Lib.hid he
  clear hq he
  have dl : decide ((bs.length : Int) < (longOf bs : Int)) = false := by simpa using hge
  have dl' : decide (bs.length < longOf bs) = false := by simpa using hge
  have HL := Lib.hid (long_ge hk hl0)
  have HKd := Lib.hid hk
  have fl : (longOf bs : Int) ≤ (c : Int) := by omega
  have fl' : longOf bs ≤ c := by omega
  clear hk
  have b0 : ((at8 bs 0 : Int) == 1) = true := by simp; omega
  have b0' : ((at8 bs 0 : Int) != 1) = false := by simp; omega
  have hw1 : IntKind.i64.wrap (at8 bs 1 : Int) = kd bs := wrap_at8 bs 1
  clear h1
  obtain ⟨ad, rfl, hb, hcell⟩ := hr.2 (by omega)
  have d8 : decide ((bs.length : Int) < 8) = false := by simp; omega
  have d8' : decide (bs.length < 8) = false := by simp; omega
  have f0 : (0 : Int) < (bs.length : Int) := by omega
  have f1 : (1 : Int) < (bs.length : Int) := by omega
  clear hcell hb
  go_enter Tryz.func72, Tryz.ntmps72
  go_upto_region 1 with fail
  refine wp_gen (RS w B (some ad) bs) (rs_start hB hr) ?_
  intro W hW
  have e0 : W.cell? ad = some (.int .u8 (at8 bs 0)) := by
    obtain ⟨ad', e, _, hc'⟩ := hW.rd.2 (by omega)
    cases e
    have := hc' 0 (bv (bs.getD 0 0)) (by rw [List.getElem?_map, List.getElem?_eq_getElem (by omega)]; simp [List.getD_eq_getElem?_getD, List.getElem?_eq_getElem (show 0 < bs.length by omega)])
    simpa [Addr.add, bv, at8] using this
  go_upto_region 5 with fail
  clear e0
  refine reg_sch2 11 [(true, 1), (true, 2), (true, 3), (true, 4), (false, 0), (false, 5), (true, 6), (true, 7), (true, 8), (true, 9), (true, 10)] (by kernel_rfl) (by kernel_rfl) (RS w B (some ad) bs) (RS w B (some ad) bs) ?_ ?_ ?_
  · exact hW.drew
  · exact fun _ h => h
  intro W hSW
  simp only [List.map_cons, List.map_nil, List.getD_cons_zero, List.getD_cons_succ, List.drop_succ_cons, List.drop_zero]
  refine hd_pure (v := ?_) (by rfl) (fun W' hS' => ?_) ?_ -- 1
  rotate_left
  · have e1 := hS'.rd.byte (k := 1) (by omega) (by omega); clear hS'; (go_simp; first | with_reducible rfl | rfl)
  try simp only [Act.put, List.setIfInBounds_toArray, List.set_cons_zero, List.set_cons_succ]
  refine hd_pure (v := ?_) (by rfl) (fun W' hS' => ?_) ?_ -- 2
  rotate_left
  · have e1 := hS'.rd.byte (k := 1) (by omega) (by omega); clear hS'; (go_simp; first | with_reducible rfl | rfl)
  try simp only [Act.put, List.setIfInBounds_toArray, List.set_cons_zero, List.set_cons_succ]
  refine hd_pure (v := ?_) (by rfl) (fun W' hS' => ?_) ?_ -- 3
  rotate_left
  · have e1 := hS'.rd.byte (k := 1) (by omega) (by omega); clear hS'; (go_simp; first | with_reducible rfl | rfl)
  try simp only [Act.put, List.setIfInBounds_toArray, List.set_cons_zero, List.set_cons_succ]
  refine hd_pure (v := ?_) (by rfl) (fun W' hS' => ?_) ?_ -- 4
  rotate_left
  · have e1 := hS'.rd.byte (k := 1) (by omega) (by omega); clear hS'; (go_simp; first | with_reducible rfl | rfl)
  try simp only [Act.put, List.setIfInBounds_toArray, List.set_cons_zero, List.set_cons_succ]
  refine hd_sole (by rfl) (fun K hK => ?_) -- 0
  go_simp
  refine (lengths_any _).mono ?_; rintro e w' ⟨b, rfl, hm, hb⟩
  refine hK _ _ (hSW.next hB hb) ?_
  clear hK K hSW
  intro hSW
  clear hb; have hl := run_len _ b hm (kd bs) true; simp only [if_true] at hl; rw [HK.out] at hl
  try simp only [Act.put, List.setIfInBounds_toArray, List.set_cons_zero, List.set_cons_succ]
  refine hd_sole (by rfl) (fun K hK => ?_) -- 5
  go_simp
  refine hK _ _ (hSW) ?_
  clear hK K hSW
  intro hSW
  clear hl hm
  try simp only [Act.put, List.setIfInBounds_toArray, List.set_cons_zero, List.set_cons_succ]
  refine hd_pure (v := ?_) (by rfl) (fun W' hS' => ?_) ?_ -- 6
  rotate_left
  · have e1 := hS'.rd.byte (k := 1) (by omega) (by omega); clear hS'; (go_simp; first | with_reducible rfl | rfl)
  try simp only [Act.put, List.setIfInBounds_toArray, List.set_cons_zero, List.set_cons_succ]
  refine hd_pure (v := ?_) (by rfl) (fun W' hS' => ?_) ?_ -- 7
  rotate_left
  · have e1 := hS'.rd.byte (k := 1) (by omega) (by omega); clear hS'; (go_simp; first | with_reducible rfl | rfl)
  try simp only [Act.put, List.setIfInBounds_toArray, List.set_cons_zero, List.set_cons_succ]
  refine hd_pure (v := ?_) (by rfl) (fun W' hS' => ?_) ?_ -- 8
  rotate_left
  · have e1 := hS'.rd.byte (k := 1) (by omega) (by omega); clear hS'; (go_simp; first | with_reducible rfl | rfl)
  try simp only [Act.put, List.setIfInBounds_toArray, List.set_cons_zero, List.set_cons_succ]
  refine hd_pure (v := ?_) (by rfl) (fun W' hS' => ?_) ?_ -- 9
  rotate_left
  · have e1 := hS'.rd.byte (k := 1) (by omega) (by omega); clear hS'; (go_simp; first | with_reducible rfl | rfl)
  try simp only [Act.put, List.setIfInBounds_toArray, List.set_cons_zero, List.set_cons_succ]
  refine hd_pure (v := ?_) (by rfl) (fun W' hS' => ?_) ?_ -- 10
  rotate_left
  · have e1 := hS'.rd.byte (k := 1) (by omega) (by omega); clear hS'; (go_simp; first | with_reducible rfl | rfl)
  try simp only [Act.put, List.setIfInBounds_toArray, List.set_cons_zero, List.set_cons_succ]
  refine hd_nil ?_
  replace hW := hSW; clear hSW
  refine wpList_nil (NoPanic.normal ?_)
  go_upto_region 9 with (go_at_call 106; refine (long_any bs h8 _ c B hc _ (by have := hW.b.size; omega) hW.rd).mono ?_; rintro e w1 ⟨rfl, hb⟩; replace hW := hW.next hB hb; clear hb)
  clear hl0
  go_upto_region 13 with fail
  refine wp_gen (RS w B (some ad) bs) hW ?_
  clear hW
  intro W2 hW
  go_upto_region 14 with (first | (go_at_call 107; refine (parse_n (bs.take (longOf bs)) (longOf bs) (by rw [List.length_take]; omega) (by have := HL.out; omega) (by rw [kd_take (by have := HL.out; omega)]; exact HL.out.1) (by rw [kd_take (by have := HL.out; omega)]; exact HKd.out) _ c B (by omega) _ (by have := hW.b.size; omega) (hW.rd.take1 hge)).mono ?_; rintro e w2 ⟨rfl, hb⟩; replace hW := hW.next hB hb; clear hb; simp only [Pdu.val]) | (refine wpList_store_at rfl 69 _ _ rfl _ 0 26 69 (parseOf (bs.take (longOf bs))).cells (bareL 0) rfl rfl (blk_new' _ _ _ _ rfl) (Pdu.cells_length _) (by decide) info_pdu (Pdu.one _) ?_))
  refine wp_gen (RS2 w B (some ad) bs w2.heap.size (parseOf (bs.take (longOf bs)))) (rs2_start hW hB _) ?_
  clear hW
  generalize w2.heap.size = g2
  generalize parseOf (bs.take (longOf bs)) = q at *
  intro W3 hW
  go_upto_region 15 with (first | (refine wpList_load_at rfl 69 _ rfl g2 0 26 rfl _ _ hW.q.range (Pdu.cells_length _) Tryz.underlying69 rfl info_pdu ?_) | (go_at_call 34; refine (write_any q _).mono ?_; rintro e w3 hw3; obtain ⟨v, rfl, hov⟩ := hw3.1 HQ.out; obtain ⟨A', c', rfl⟩ := own_slice' hov; have hrd2 := Reads.of_own hov; replace hW := hW.next hB hw3.2.2; clear hw3 hov))
  go_upto_region 16 with (go_at_call 108; refine (equal_any (wrB q) (bs.take (longOf bs)) _ _ _ _ _ _ _ _ _ hrd2 (hW.rs.rd.take1 hge)).mono ?_; rintro e w' ⟨rfl, rfl⟩; rw [HE.out])
  replace hW := hW.rs
  go_wp2_with (first | (refine wpList_load_at rfl 69 _ rfl w.heap.size 0 26 rfl _ _ hW.z.range (Pdu.cells_length _) Tryz.underlying69 rfl info_pdu ?_) | (refine wpList_store_at rfl 69 _ _ rfl w.heap.size 0 26 69 _ _ rfl rfl hW.z (Pdu.cells_length _) (by rw [Pdu.cells_length]; omega) info_pdu (Pdu.one _) ?_))
  obtain ⟨hr, hb⟩ := rs_end hW (bareP 0)
  exact bodyPost_ret (results_cell_tmp3 rfl _ w.heap.size 0 26 _ _ rfl hr.range (Pdu.cells_length _) Tryz.underlying69 rfl info_pdu) rfl ⟨by rw [HR.out]; rfl, hb⟩
set_option maxRecDepth 100000 in
set_option maxHeartbeats 1000000 in
theorem read_good (bs : List UInt8) (h8 : 8 ≤ bs.length) (h1 : at8 bs 0 = 1) (hk : isKind (kd bs) = true) (hl0 : longOk bs = true) (hge : longOf bs ≤ bs.length) (hq : pduOk (parseOf (bs.take (longOf bs))) = true) (he : decide (wrB (parseOf (bs.take (longOf bs))) = bs.take (longOf bs)) = true) (A : Option Addr) (c B : Nat) (hc : bs.length ≤ c) (w : World) (hB : B ≤ w.heap.size) (hr : Reads w B 1 A bs.length (bs.map bv)) :
    Calls Tryz.prog 72 #[.slice A bs.length c] w (RdPost w bs) := by
  have HR := Lib.hid (show readOf bs = (parseOf (bs.take (longOf bs)), (longOf bs : Int), 0, 0) by unfold readOf; simp only [hq, he, h1, hk, hl0, show ¬ bs.length < 8 by omega, show ¬ bs.length < longOf bs by omega]; rfl)
  have HK := Lib.hid hk
  have HQ := Lib.hid hq
  have HE := Lib.hid he
  clear hq he
  have dl : decide ((bs.length : Int) < (longOf bs : Int)) = false := by simpa using hge
  have dl' : decide (bs.length < longOf bs) = false := by simpa using hge
  have HL := Lib.hid (long_ge hk hl0)
  have HKd := Lib.hid hk
  have fl : (longOf bs : Int) ≤ (c : Int) := by omega
  have fl' : longOf bs ≤ c := by omega
  clear hk
  have b0 : ((at8 bs 0 : Int) == 1) = true := by simp; omega
  have b0' : ((at8 bs 0 : Int) != 1) = false := by simp; omega
  have hw1 : IntKind.i64.wrap (at8 bs 1 : Int) = kd bs := wrap_at8 bs 1
  clear h1
  obtain ⟨ad, rfl, hb, hcell⟩ := hr.2 (by omega)
  have d8 : decide ((bs.length : Int) < 8) = false := by simp; omega
  have d8' : decide (bs.length < 8) = false := by simp; omega
  have f0 : (0 : Int) < (bs.length : Int) := by omega
  have f1 : (1 : Int) < (bs.length : Int) := by omega
  clear hcell hb
  go_enter Tryz.func72, Tryz.ntmps72
  go_upto_region 1 with fail
  refine wp_gen (RS w B (some ad) bs) (rs_start hB hr) ?_
  intro W hW
  have e0 : W.cell? ad = some (.int .u8 (at8 bs 0)) := by
    obtain ⟨ad', e, _, hc'⟩ := hW.rd.2 (by omega)
    cases e
    have := hc' 0 (bv (bs.getD 0 0)) (by rw [List.getElem?_map, List.getElem?_eq_getElem (by omega)]; simp [List.getD_eq_getElem?_getD, List.getElem?_eq_getElem (show 0 < bs.length by omega)])
    simpa [Addr.add, bv, at8] using this
  go_upto_region 5 with fail
  clear e0
  refine reg_sch2 11 [(true, 1), (true, 2), (true, 3), (true, 4), (false, 0), (false, 5), (true, 6), (true, 7), (true, 8), (true, 9), (true, 10)] (by kernel_rfl) (by kernel_rfl) (RS w B (some ad) bs) (RS w B (some ad) bs) ?_ ?_ ?_
  · exact hW.drew
  · exact fun _ h => h
  intro W hSW
  simp only [List.map_cons, List.map_nil, List.getD_cons_zero, List.getD_cons_succ, List.drop_succ_cons, List.drop_zero]
  refine hd_pure (v := ?_) (by rfl) (fun W' hS' => ?_) ?_ -- 1
  rotate_left
  · have e1 := hS'.rd.byte (k := 1) (by omega) (by omega); clear hS'; (go_simp; first | with_reducible rfl | rfl)
  try simp only [Act.put, List.setIfInBounds_toArray, List.set_cons_zero, List.set_cons_succ]
  refine hd_pure (v := ?_) (by rfl) (fun W' hS' => ?_) ?_ -- 2
  rotate_left
  · have e1 := hS'.rd.byte (k := 1) (by omega) (by omega); clear hS'; (go_simp; first | with_reducible rfl | rfl)
  try simp only [Act.put, List.setIfInBounds_toArray, List.set_cons_zero, List.set_cons_succ]
  refine hd_pure (v := ?_) (by rfl) (fun W' hS' => ?_) ?_ -- 3
  rotate_left
  · have e1 := hS'.rd.byte (k := 1) (by omega) (by omega); clear hS'; (go_simp; first | with_reducible rfl | rfl)
  try simp only [Act.put, List.setIfInBounds_toArray, List.set_cons_zero, List.set_cons_succ]
  refine hd_pure (v := ?_) (by rfl) (fun W' hS' => ?_) ?_ -- 4
  rotate_left
  · have e1 := hS'.rd.byte (k := 1) (by omega) (by omega); clear hS'; (go_simp; first | with_reducible rfl | rfl)
  try simp only [Act.put, List.setIfInBounds_toArray, List.set_cons_zero, List.set_cons_succ]
  refine hd_sole (by rfl) (fun K hK => ?_) -- 0
  go_simp
  refine (lengths_any _).mono ?_; rintro e w' ⟨b, rfl, hm, hb⟩
  refine hK _ _ (hSW.next hB hb) ?_
  clear hK K hSW
  intro hSW
  clear hb; have hl := run_len _ b hm (kd bs) true; simp only [if_true] at hl; rw [HK.out] at hl
  try simp only [Act.put, List.setIfInBounds_toArray, List.set_cons_zero, List.set_cons_succ]
  refine hd_sole (by rfl) (fun K hK => ?_) -- 5
  go_simp
  refine hK _ _ (hSW) ?_
  clear hK K hSW
  intro hSW
  clear hl hm
  try simp only [Act.put, List.setIfInBounds_toArray, List.set_cons_zero, List.set_cons_succ]
  refine hd_pure (v := ?_) (by rfl) (fun W' hS' => ?_) ?_ -- 6
  rotate_left
  · have e1 := hS'.rd.byte (k := 1) (by omega) (by omega); clear hS'; (go_simp; first | with_reducible rfl | rfl)
  try simp only [Act.put, List.setIfInBounds_toArray, List.set_cons_zero, List.set_cons_succ]
  refine hd_pure (v := ?_) (by rfl) (fun W' hS' => ?_) ?_ -- 7
  rotate_left
  · have e1 := hS'.rd.byte (k := 1) (by omega) (by omega); clear hS'; (go_simp; first | with_reducible rfl | rfl)
  try simp only [Act.put, List.setIfInBounds_toArray, List.set_cons_zero, List.set_cons_succ]
  refine hd_pure (v := ?_) (by rfl) (fun W' hS' => ?_) ?_ -- 8
  rotate_left
  · have e1 := hS'.rd.byte (k := 1) (by omega) (by omega); clear hS'; (go_simp; first | with_reducible rfl | rfl)
  try simp only [Act.put, List.setIfInBounds_toArray, List.set_cons_zero, List.set_cons_succ]
  refine hd_pure (v := ?_) (by rfl) (fun W' hS' => ?_) ?_ -- 9
  rotate_left
  · have e1 := hS'.rd.byte (k := 1) (by omega) (by omega); clear hS'; (go_simp; first | with_reducible rfl | rfl)
  try simp only [Act.put, List.setIfInBounds_toArray, List.set_cons_zero, List.set_cons_succ]
  refine hd_pure (v := ?_) (by rfl) (fun W' hS' => ?_) ?_ -- 10
  rotate_left
  · have e1 := hS'.rd.byte (k := 1) (by omega) (by omega); clear hS'; (go_simp; first | with_reducible rfl | rfl)
  try simp only [Act.put, List.setIfInBounds_toArray, List.set_cons_zero, List.set_cons_succ]
  refine hd_nil ?_
  replace hW := hSW; clear hSW
  refine wpList_nil (NoPanic.normal ?_)
  go_upto_region 9 with (go_at_call 106; refine (long_any bs h8 _ c B hc _ (by have := hW.b.size; omega) hW.rd).mono ?_; rintro e w1 ⟨rfl, hb⟩; replace hW := hW.next hB hb; clear hb)
  clear hl0
  go_upto_region 13 with fail
  refine wp_gen (RS w B (some ad) bs) hW ?_
  clear hW
  intro W2 hW
  go_upto_region 14 with (first | (go_at_call 107; refine (parse_n (bs.take (longOf bs)) (longOf bs) (by rw [List.length_take]; omega) (by have := HL.out; omega) (by rw [kd_take (by have := HL.out; omega)]; exact HL.out.1) (by rw [kd_take (by have := HL.out; omega)]; exact HKd.out) _ c B (by omega) _ (by have := hW.b.size; omega) (hW.rd.take1 hge)).mono ?_; rintro e w2 ⟨rfl, hb⟩; replace hW := hW.next hB hb; clear hb; simp only [Pdu.val]) | (refine wpList_store_at rfl 69 _ _ rfl _ 0 26 69 (parseOf (bs.take (longOf bs))).cells (bareL 0) rfl rfl (blk_new' _ _ _ _ rfl) (Pdu.cells_length _) (by decide) info_pdu (Pdu.one _) ?_))
  refine wp_gen (RS2 w B (some ad) bs w2.heap.size (parseOf (bs.take (longOf bs)))) (rs2_start hW hB _) ?_
  clear hW
  generalize w2.heap.size = g2
  generalize parseOf (bs.take (longOf bs)) = q at *
  intro W3 hW
  go_upto_region 15 with (first | (refine wpList_load_at rfl 69 _ rfl g2 0 26 rfl _ _ hW.q.range (Pdu.cells_length _) Tryz.underlying69 rfl info_pdu ?_) | (go_at_call 34; refine (write_any q _).mono ?_; rintro e w3 hw3; obtain ⟨v, rfl, hov⟩ := hw3.1 HQ.out; obtain ⟨A', c', rfl⟩ := own_slice' hov; have hrd2 := Reads.of_own hov; replace hW := hW.next hB hw3.2.2; clear hw3 hov))
  go_upto_region 17 with (go_at_call 108; refine (equal_any (wrB q) (bs.take (longOf bs)) _ _ _ _ _ _ _ _ _ hrd2 (hW.rs.rd.take1 hge)).mono ?_; rintro e w' ⟨rfl, rfl⟩; rw [HE.out])
  go_wp2_with (first | (refine wpList_load_at rfl 69 _ rfl g2 0 26 rfl _ _ hW.q.range (Pdu.cells_length _) Tryz.underlying69 rfl info_pdu ?_) | (refine wpList_store_at rfl 69 _ _ rfl w.heap.size 0 26 69 _ _ rfl rfl hW.rs.z (Pdu.cells_length _) (by rw [Pdu.cells_length]; omega) info_pdu (Pdu.one _) ?_))
  obtain ⟨hr, hb⟩ := rs_end hW.rs q
  exact bodyPost_ret (results_cell_tmp3 rfl _ w.heap.size 0 26 _ _ rfl hr.range (Pdu.cells_length _) Tryz.underlying69 rfl info_pdu) rfl ⟨by rw [HR.out]; rfl, hb⟩
theorem read_any (bs : List UInt8) (A : Option Addr) (c B : Nat) (hc : bs.length ≤ c) (w : World) (hB : B ≤ w.heap.size) (hr : Reads w B 1 A bs.length (bs.map bv)) :
    Calls Tryz.prog 72 #[.slice A bs.length c] w (RdPost w bs) := by
  by_cases h8 : bs.length < 8
  · exact read_short bs h8 A c B hc w hB hr
  by_cases h1 : at8 bs 0 = 1
  · cases hk : isKind (kd bs)
    · exact read_kind bs (by omega) h1 hk A c B hc w hB hr
    · cases hl : longOk bs
      · exact read_long bs (by omega) h1 hk hl A c B hc w hB hr
      · by_cases hlt : bs.length < longOf bs
        · exact read_cut bs (by omega) h1 hk hl hlt A c B hc w hB hr
        · cases hq : pduOk (parseOf (bs.take (longOf bs)))
          · exact read_bad bs (by omega) h1 hk hl (by omega) hq A c B hc w hB hr
          · cases he : decide (wrB (parseOf (bs.take (longOf bs))) = bs.take (longOf bs))
            · exact read_other bs (by omega) h1 hk hl (by omega) hq he A c B hc w hB hr
            · exact read_good bs (by omega) h1 hk hl (by omega) hq he A c B hc w hB hr
  · exact read_ver bs (by omega) h1 A c B hc w hB hr
end Go.Proofs.YtmoldmnhijcckaaGreat
