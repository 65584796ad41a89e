/- The contract of pdu.parse. -/
import Derived.Test.YtmoldmnhijcckaaGreatMa23
import Derived.Deep.DeepCutAuto
import Derived.Laws.BytesArg
import Derived.Laws.IdiomStrings
set_option linter.unusedVariables false
set_option linter.unusedSectionVars false
set_option linter.unusedSimpArgs false
namespace Go.Proofs.YtmoldmnhijcckaaGreat
open Go.RowKit
def a16 (l : List UInt8) : A16 := ⟨(l ++ List.replicate 16 0).take 16, by simp⟩
def kd (bs : List UInt8) : Int := at8 bs 1
def midOf (bs : List UInt8) : Int := at8 bs 2 * 256 + at8 bs 3
/-- What a message's bytes may be. -/
def parseOf (bs : List UInt8) : Pdu :=
  let k : Int := kd bs
  if k = 0 ∨ k = 1 ∨ k = 7 then { bareP k with session := midOf bs, serial := UInt32.ofNat (wordOf (bs.drop 8)) }
  else if k = 3 then { bareP k with session := midOf bs }
  else if k = 4 ∨ k = 6 then { bareP k with add := decide (at8 bs 8 = 1), v := ⟨UInt32.ofNat (wordOf (bs.drop (12 + (widthOf k).toNat))), ⟨decide (k = 6), a16 ((bs.drop 12).take (widthOf k).toNat), at8 bs 9⟩, at8 bs 10⟩ }
  else if k = 10 then { bareP k with code := midOf bs, text := ⟨(bs.drop 16).toArray⟩ }
  else bareP k
structure Prs (w : World) (B : Nat) (ad : Addr) (bs : List UInt8) (q : Pdu) (W : World) : Prop where
  rd : Reads W B 1 (some ad) bs.length (bs.map bv)
  z : Blk W w.heap.size 69 (bareP 0).cells
  q : Blk W (w.heap.size + 1) 69 q.cells
  b : Below w.heap.size w W
section
variable {w : World} {B : Nat} {ad : Addr} {bs : List UInt8} {q q' : Pdu} {W W' : World}
theorem Prs.drew (h : Prs w B ad bs q W) : Prs w B ad bs q W.drew := ⟨h.rd.drew, h.z.drew, h.q.drew, h.b.drew⟩
theorem Prs.set (h : Prs w B ad bs q W) (hB : B ≤ w.heap.size) {i : Nat} {u : Value} (e : q.cells.set i u = q'.cells) : Prs w B ad bs q' (W.setCell ⟨w.heap.size + 1, i, none⟩ u) :=
  ⟨h.rd.setCell (p := ⟨w.heap.size + 1, i, none⟩) (by simp; omega) _, h.z.far (by simp) _, by rw [← e]; exact h.q.set_ _ _, h.b.setCell (by simp) _⟩
theorem Prs.next (h : Prs w B ad bs q W) (hB : B ≤ w.heap.size) (hb : Below W.heap.size W W') : Prs w B ad bs q W' :=
  ⟨h.rd.below hb (by have := h.b.size; omega), h.z.below hb h.z.lt, h.q.below hb h.q.lt, below_then h.b (Nat.le_refl _) hb⟩
structure Prs0 (w : World) (B : Nat) (ad : Addr) (bs : List UInt8) (W : World) : Prop where
  rd : Reads W B 1 (some ad) bs.length (bs.map bv)
  z : Blk W w.heap.size 69 (bareP 0).cells
  sz : W.heap.size = w.heap.size + 1
  b : Below w.heap.size w W
theorem prs0 (hB : B ≤ w.heap.size) (h : Reads w B 1 (some ad) bs.length (bs.map bv)) : Prs0 w B ad bs (w.alloc (.cells (bareL 0).toArray 69)) :=
  ⟨h.alloc hB _, by rw [← bareL_eq]; exact blk_new' _ _ _ _ rfl, by simp, (Below.refl _ _).alloc (Nat.le_refl _) _⟩
theorem prs_start (h : Prs0 w B ad bs W) (hB : B ≤ w.heap.size) (k : Int) : Prs w B ad bs (bareP k) ((W.alloc (.cells (bareL 0).toArray 69)).setCells (w.heap.size + 1) 0 (bareL k)) := by
  have hb0 : Below w.heap.size w (W.alloc (.cells (bareL 0).toArray 69)) := h.b.alloc (by rw [h.sz]; omega) _
  have hr1 := h.rd.alloc (by rw [h.sz]; omega) (.cells (bareL 0).toArray 69)
  have hz1 := h.z.alloc (.cells (bareL 0).toArray 69)
  have hq1 : Blk (W.alloc (.cells (bareL 0).toArray 69)) (w.heap.size + 1) 69 (bareL 0) := blk_new' _ _ _ _ h.sz
  have hl : (bareL k).length = (bareL 0).length := rfl
  have e : (bareP k).cells = bareL k := (bareL_eq k).symm
  generalize W.alloc (.cells (bareL 0).toArray 69) = V at *
  generalize bareL k = l at *
  have h1 : Below (w.heap.size + 1) V (V.setCells (w.heap.size + 1) 0 l) := Below.setCells (Nat.le_refl _) _ 0 (Below.refl _ _)
  exact ⟨hr1.below h1 (by omega), Blk.setCells_far (by omega) _ _ hz1, by rw [e]; exact Blk.setCells_all hq1 hl, Below.setCells (by omega) _ 0 hb0⟩
end
theorem i64_or_nat (a b : Nat) (ha : a < 9223372036854775808) (hb : b < 9223372036854775808) : Go.bits .or .i64 (a : Int) (b : Int) = ((a ||| b : Nat) : Int) := by
  have hx : a ||| b < 2 ^ 63 := Nat.or_lt_two_pow (by omega) (by omega)
  show IntKind.i64.wrap ((BitVec.ofInt 64 (a : Int) ||| BitVec.ofInt 64 (b : Int)).toNat : Int) = _
  rw [BitVec.toNat_or, ofInt_u64 a (by omega), ofInt_u64 b (by omega), IntWalk.i64_in _ (by omega)]
theorem or_mid (bs : List UInt8) : Go.bits .or .i64 (IntKind.i64.wrap ((at8 bs 2 : Int) * 256)) (at8 bs 3 : Int) = midOf bs := by
  have h2 := at8_lt bs 2
  have h3 := at8_lt bs 3
  unfold midOf
  generalize at8 bs 2 = x at *
  generalize at8 bs 3 = y at *
  rw [IntWalk.i64_in _ (by omega), show ((x : Int) * 256) = ((x * 256 : Nat) : Int) by omega, i64_or_nat _ _ (by omega) (by omega)]
  have h := Nat.shiftLeft_add_eq_or_of_lt (i := 8) (show y < 2 ^ 8 by omega) x
  rw [Nat.shiftLeft_eq] at h
  rw [show x * 256 = x * 2 ^ 8 from rfl, ← h]
  omega
theorem Reads.str {w : World} {B n : Nat} {A : Option Addr} {bs : List UInt8} (h : Reads w B 1 A n (bs.map bv)) (c : Nat) : (convert 29 9 (.slice A n c)).run Tryz.prog w = .ok (.string ⟨bs.toArray⟩) w := by
  have hl : bs.length = n := by have := h.1; simpa using this
  by_cases hn : n = 0
  · subst hn
    obtain rfl := List.eq_nil_of_length_eq_zero hl
    cases A with
    | none => exact run_convert_bytes_nil w 29 5 Tryz.underlying29 Tryz.underlying5 0 c 9 Tryz.underlying9
    | some a => exact run_convert_bytes_back w 29 9 5 a c [] Tryz.underlying29 Tryz.underlying5 Tryz.underlying9 (fun j hj => absurd hj (by simp))
  · obtain ⟨ad, rfl, _, hc⟩ := h.2 (by omega)
    subst hl
    exact run_convert_bytes_back w 29 9 5 ad c bs Tryz.underlying29 Tryz.underlying5 Tryz.underlying9 (fun j hj => hc j _ (by simp [bv, hj]))
theorem prs_end {w : World} {B : Nat} {ad : Addr} {bs : List UInt8} {q : Pdu} {W : World} (h : Prs w B ad bs q W) : Blk (W.setCells w.heap.size 0 q.cells) w.heap.size 69 q.cells ∧ Below w.heap.size w (W.setCells w.heap.size 0 q.cells) :=
  ⟨h.z.setCells_all (by simp only [Pdu.cells_length]), Below.setCells (by omega) _ _ h.b⟩
set_option maxRecDepth 100000 in
set_option maxHeartbeats 1000000 in
theorem parse_3 (bs : List UInt8) (hn : 8 ≤ bs.length) (A : Option Addr) (c B : Nat) (hc : bs.length ≤ c) (w : World) (hB : B ≤ w.heap.size) (hr : Reads w B 1 A bs.length (bs.map bv)) (hk : kd bs = 3) :
    Calls Tryz.prog 107 #[.slice A bs.length c] w fun e w' => e = .returned (parseOf bs).val ∧ Below w.heap.size w w' := by
  have HR := Lib.hid (show parseOf bs = { bareP (kd bs) with session := midOf bs } by simp [parseOf, hk])
  have b0 : (kd bs == 0) = false := by simp; omega
  have b1 : (kd bs == 1) = false := by simp; omega
  have b3 : (kd bs == 3) = true := by simp; omega
  have b4 : (kd bs == 4) = false := by simp; omega
  have b6 : (kd bs == 6) = false := by simp; omega
  have b7 : (kd bs == 7) = false := by simp; omega
  have b10 : (kd bs == 10) = false := by simp; omega
  have hmid := or_mid bs
  have HK := Lib.hid hk
  clear hk
  obtain ⟨ad, rfl, hb, hcell⟩ := hr.2 (by omega)
  clear hcell hb
  have hw1 : IntKind.i64.wrap (at8 bs 1 : Int) = kd bs := wrap_at8 bs 1
  have hw2 := wrap_at8 bs 2
  have hw3 := wrap_at8 bs 3
  have f1 : (1 : Int) < (bs.length : Int) := by omega
  have f2 : (2 : Int) < (bs.length : Int) := by omega
  have f3 : (3 : Int) < (bs.length : Int) := by omega
  have f8 : (8 : Int) ≤ (bs.length : Int) := by omega
  go_enter Tryz.func107, Tryz.ntmps107
  go_upto_region 1 with fail
  refine wp_gen (Prs0 w B ad bs) (prs0 hB hr) ?_
  intro W0 h0
  have e1 := h0.rd.byte (k := 1) (by omega) (by omega)
  have es := h0.sz
  go_upto_region 2 with (refine wpList_store_at rfl 69 _ _ rfl (w.heap.size + 1) 0 26 69 (bareL (kd bs)) (bareL 0) rfl rfl (blk_new' _ _ _ _ es) rfl (by decide) info_pdu (by rw [bareL_eq]; exact Pdu.one _) ?_)
  try rw [es]
  refine wp_gen (Prs w B ad bs (bareP (kd bs))) (prs_start h0 hB (kd bs)) ?_
  clear e1 es h0
  intro W hW
  refine reg_sch2 11 [(true, 0), (true, 1), (true, 2), (true, 3), (true, 4), (true, 5), (true, 6), (true, 7), (true, 8), (true, 9), (true, 10)] (by kernel_rfl) (by kernel_rfl) (fun W => Reads W B 1 (some ad) bs.length (bs.map bv)) (Prs w B ad bs (bareP (kd bs))) ?_ ?_ ?_
  · exact hW.drew
  · exact fun _ h => h.rd
  intro W hSW
  simp only [List.map_cons, List.map_nil, List.getD_cons_zero, List.getD_cons_succ, List.drop_succ_cons, List.drop_zero]
  refine hd_pure (v := ?_) (by rfl) (fun W' hS' => ?_) ?_ -- 0
  rotate_left
  · have e2 := hS'.byte (k := 2) (by omega) (by omega); have e3 := hS'.byte (k := 3) (by omega) (by omega); clear hS'; (go_simp; first | with_reducible rfl | rfl)
  try simp only [Act.put, List.setIfInBounds_toArray, List.set_cons_zero, List.set_cons_succ]
  refine hd_pure (v := ?_) (by rfl) (fun W' hS' => ?_) ?_ -- 1
  rotate_left
  · have e2 := hS'.byte (k := 2) (by omega) (by omega); have e3 := hS'.byte (k := 3) (by omega) (by omega); clear hS'; (go_simp; first | with_reducible rfl | rfl)
  try simp only [Act.put, List.setIfInBounds_toArray, List.set_cons_zero, List.set_cons_succ]
  refine hd_pure (v := ?_) (by rfl) (fun W' hS' => ?_) ?_ -- 2
  rotate_left
  · have e2 := hS'.byte (k := 2) (by omega) (by omega); have e3 := hS'.byte (k := 3) (by omega) (by omega); clear hS'; (go_simp; first | with_reducible rfl | rfl)
  try simp only [Act.put, List.setIfInBounds_toArray, List.set_cons_zero, List.set_cons_succ]
  refine hd_pure (v := ?_) (by rfl) (fun W' hS' => ?_) ?_ -- 3
  rotate_left
  · have e2 := hS'.byte (k := 2) (by omega) (by omega); have e3 := hS'.byte (k := 3) (by omega) (by omega); clear hS'; (go_simp; first | with_reducible rfl | rfl)
  try simp only [Act.put, List.setIfInBounds_toArray, List.set_cons_zero, List.set_cons_succ]
  refine hd_pure (v := ?_) (by rfl) (fun W' hS' => ?_) ?_ -- 4
  rotate_left
  · have e2 := hS'.byte (k := 2) (by omega) (by omega); have e3 := hS'.byte (k := 3) (by omega) (by omega); clear hS'; (go_simp; first | with_reducible rfl | rfl)
  try simp only [Act.put, List.setIfInBounds_toArray, List.set_cons_zero, List.set_cons_succ]
  refine hd_pure (v := ?_) (by rfl) (fun W' hS' => ?_) ?_ -- 5
  rotate_left
  · have e2 := hS'.byte (k := 2) (by omega) (by omega); have e3 := hS'.byte (k := 3) (by omega) (by omega); clear hS'; (go_simp; first | with_reducible rfl | rfl)
  try simp only [Act.put, List.setIfInBounds_toArray, List.set_cons_zero, List.set_cons_succ]
  refine hd_pure (v := ?_) (by rfl) (fun W' hS' => ?_) ?_ -- 6
  rotate_left
  · have e2 := hS'.byte (k := 2) (by omega) (by omega); have e3 := hS'.byte (k := 3) (by omega) (by omega); clear hS'; (go_simp; first | with_reducible rfl | rfl)
  try simp only [Act.put, List.setIfInBounds_toArray, List.set_cons_zero, List.set_cons_succ]
  refine hd_pure (v := ?_) (by rfl) (fun W' hS' => ?_) ?_ -- 7
  rotate_left
  · have e2 := hS'.byte (k := 2) (by omega) (by omega); have e3 := hS'.byte (k := 3) (by omega) (by omega); clear hS'; (go_simp; first | with_reducible rfl | rfl)
  try simp only [Act.put, List.setIfInBounds_toArray, List.set_cons_zero, List.set_cons_succ]
  refine hd_pure (v := ?_) (by rfl) (fun W' hS' => ?_) ?_ -- 8
  rotate_left
  · have e2 := hS'.byte (k := 2) (by omega) (by omega); have e3 := hS'.byte (k := 3) (by omega) (by omega); clear hS'; (go_simp; first | with_reducible rfl | rfl)
  try simp only [Act.put, List.setIfInBounds_toArray, List.set_cons_zero, List.set_cons_succ]
  refine hd_pure (v := ?_) (by rfl) (fun W' hS' => ?_) ?_ -- 9
  rotate_left
  · have e2 := hS'.byte (k := 2) (by omega) (by omega); have e3 := hS'.byte (k := 3) (by omega) (by omega); clear hS'; (go_simp; first | with_reducible rfl | rfl)
  try simp only [Act.put, List.setIfInBounds_toArray, List.set_cons_zero, List.set_cons_succ]
  refine hd_pure (v := ?_) (by rfl) (fun W' hS' => ?_) ?_ -- 10
  rotate_left
  · have e2 := hS'.byte (k := 2) (by omega) (by omega); have e3 := hS'.byte (k := 3) (by omega) (by omega); clear hS'; (go_simp; first | with_reducible rfl | rfl)
  try simp only [Act.put, List.setIfInBounds_toArray, List.set_cons_zero, List.set_cons_succ]
  refine hd_nil ?_
  replace hW := hSW; clear hSW
  refine wpList_nil (NoPanic.normal ?_)
  have k0 : W.cell? ⟨w.heap.size + 1, 0, none⟩ = some (.int .i64 (kd bs)) := (hW.q.cell 0).trans (Pdu.c0 _)
  have k1 := (hW.q.cell 1).trans (Pdu.c1 _)
  have f1 := hW.q.frozen 1
  by_cases fc : c = 8
  all_goals
    go_upto_region 21 with fail
    refine wp_gen (Prs w B ad bs { bareP (kd bs) with session := midOf bs }) (hW.set hB (set_session _ _ _ _ _ _ _ _)) ?_
    clear k0 k1 f1 hW
    intro W2 hW
    go_wp2_with (first | (refine wpList_load_at rfl 69 _ rfl (w.heap.size + 1) 0 26 rfl _ _ hW.q.range (Pdu.cells_length _) Tryz.underlying69 rfl info_pdu ?_) | (refine wpList_store_at rfl 69 _ _ rfl w.heap.size 0 26 69 _ _ rfl rfl hW.z (Pdu.cells_length _) (by rw [Pdu.cells_length]; omega) info_pdu (Pdu.one _) ?_))
    obtain ⟨hr, hb⟩ := prs_end hW
    exact bodyPost_ret (results_cell1 rfl _ w.heap.size 0 26 _ _ rfl hr.range (Pdu.cells_length _) Tryz.underlying69 rfl info_pdu) rfl ⟨by rw [HR.out]; rfl, hb⟩
set_option maxRecDepth 100000 in
set_option maxHeartbeats 1000000 in
theorem parse_28 (bs : List UInt8) (hn : 8 ≤ bs.length) (A : Option Addr) (c B : Nat) (hc : bs.length ≤ c) (w : World) (hB : B ≤ w.heap.size) (hr : Reads w B 1 A bs.length (bs.map bv)) (hk : kd bs = 2 ∨ kd bs = 8) :
    Calls Tryz.prog 107 #[.slice A bs.length c] w fun e w' => e = .returned (parseOf bs).val ∧ Below w.heap.size w w' := by
  have HR := Lib.hid (show parseOf bs = bareP (kd bs) by rcases hk with hk | hk <;> simp [parseOf, hk])
  have b0 : (kd bs == 0) = false := by simp; omega
  have b1 : (kd bs == 1) = false := by simp; omega
  have b3 : (kd bs == 3) = false := by simp; omega
  have b4 : (kd bs == 4) = false := by simp; omega
  have b6 : (kd bs == 6) = false := by simp; omega
  have b7 : (kd bs == 7) = false := by simp; omega
  have b10 : (kd bs == 10) = false := by simp; omega
  have hmid := or_mid bs
  have HK := Lib.hid hk
  clear hk
  obtain ⟨ad, rfl, hb, hcell⟩ := hr.2 (by omega)
  clear hcell hb
  have hw1 : IntKind.i64.wrap (at8 bs 1 : Int) = kd bs := wrap_at8 bs 1
  have hw2 := wrap_at8 bs 2
  have hw3 := wrap_at8 bs 3
  have f1 : (1 : Int) < (bs.length : Int) := by omega
  have f2 : (2 : Int) < (bs.length : Int) := by omega
  have f3 : (3 : Int) < (bs.length : Int) := by omega
  have f8 : (8 : Int) ≤ (bs.length : Int) := by omega
  go_enter Tryz.func107, Tryz.ntmps107
  go_upto_region 1 with fail
  refine wp_gen (Prs0 w B ad bs) (prs0 hB hr) ?_
  intro W0 h0
  have e1 := h0.rd.byte (k := 1) (by omega) (by omega)
  have es := h0.sz
  go_upto_region 2 with (refine wpList_store_at rfl 69 _ _ rfl (w.heap.size + 1) 0 26 69 (bareL (kd bs)) (bareL 0) rfl rfl (blk_new' _ _ _ _ es) rfl (by decide) info_pdu (by rw [bareL_eq]; exact Pdu.one _) ?_)
  try rw [es]
  refine wp_gen (Prs w B ad bs (bareP (kd bs))) (prs_start h0 hB (kd bs)) ?_
  clear e1 es h0
  intro W hW
  refine reg_sch2 11 [(true, 0), (true, 1), (true, 2), (true, 3), (true, 4), (true, 5), (true, 6), (true, 7), (true, 8), (true, 9), (true, 10)] (by kernel_rfl) (by kernel_rfl) (fun W => Reads W B 1 (some ad) bs.length (bs.map bv)) (Prs w B ad bs (bareP (kd bs))) ?_ ?_ ?_
  · exact hW.drew
  · exact fun _ h => h.rd
  intro W hSW
  simp only [List.map_cons, List.map_nil, List.getD_cons_zero, List.getD_cons_succ, List.drop_succ_cons, List.drop_zero]
  refine hd_pure (v := ?_) (by rfl) (fun W' hS' => ?_) ?_ -- 0
  rotate_left
  · have e2 := hS'.byte (k := 2) (by omega) (by omega); have e3 := hS'.byte (k := 3) (by omega) (by omega); clear hS'; (go_simp; first | with_reducible rfl | rfl)
  try simp only [Act.put, List.setIfInBounds_toArray, List.set_cons_zero, List.set_cons_succ]
  refine hd_pure (v := ?_) (by rfl) (fun W' hS' => ?_) ?_ -- 1
  rotate_left
  · have e2 := hS'.byte (k := 2) (by omega) (by omega); have e3 := hS'.byte (k := 3) (by omega) (by omega); clear hS'; (go_simp; first | with_reducible rfl | rfl)
  try simp only [Act.put, List.setIfInBounds_toArray, List.set_cons_zero, List.set_cons_succ]
  refine hd_pure (v := ?_) (by rfl) (fun W' hS' => ?_) ?_ -- 2
  rotate_left
  · have e2 := hS'.byte (k := 2) (by omega) (by omega); have e3 := hS'.byte (k := 3) (by omega) (by omega); clear hS'; (go_simp; first | with_reducible rfl | rfl)
  try simp only [Act.put, List.setIfInBounds_toArray, List.set_cons_zero, List.set_cons_succ]
  refine hd_pure (v := ?_) (by rfl) (fun W' hS' => ?_) ?_ -- 3
  rotate_left
  · have e2 := hS'.byte (k := 2) (by omega) (by omega); have e3 := hS'.byte (k := 3) (by omega) (by omega); clear hS'; (go_simp; first | with_reducible rfl | rfl)
  try simp only [Act.put, List.setIfInBounds_toArray, List.set_cons_zero, List.set_cons_succ]
  refine hd_pure (v := ?_) (by rfl) (fun W' hS' => ?_) ?_ -- 4
  rotate_left
  · have e2 := hS'.byte (k := 2) (by omega) (by omega); have e3 := hS'.byte (k := 3) (by omega) (by omega); clear hS'; (go_simp; first | with_reducible rfl | rfl)
  try simp only [Act.put, List.setIfInBounds_toArray, List.set_cons_zero, List.set_cons_succ]
  refine hd_pure (v := ?_) (by rfl) (fun W' hS' => ?_) ?_ -- 5
  rotate_left
  · have e2 := hS'.byte (k := 2) (by omega) (by omega); have e3 := hS'.byte (k := 3) (by omega) (by omega); clear hS'; (go_simp; first | with_reducible rfl | rfl)
  try simp only [Act.put, List.setIfInBounds_toArray, List.set_cons_zero, List.set_cons_succ]
  refine hd_pure (v := ?_) (by rfl) (fun W' hS' => ?_) ?_ -- 6
  rotate_left
  · have e2 := hS'.byte (k := 2) (by omega) (by omega); have e3 := hS'.byte (k := 3) (by omega) (by omega); clear hS'; (go_simp; first | with_reducible rfl | rfl)
  try simp only [Act.put, List.setIfInBounds_toArray, List.set_cons_zero, List.set_cons_succ]
  refine hd_pure (v := ?_) (by rfl) (fun W' hS' => ?_) ?_ -- 7
  rotate_left
  · have e2 := hS'.byte (k := 2) (by omega) (by omega); have e3 := hS'.byte (k := 3) (by omega) (by omega); clear hS'; (go_simp; first | with_reducible rfl | rfl)
  try simp only [Act.put, List.setIfInBounds_toArray, List.set_cons_zero, List.set_cons_succ]
  refine hd_pure (v := ?_) (by rfl) (fun W' hS' => ?_) ?_ -- 8
  rotate_left
  · have e2 := hS'.byte (k := 2) (by omega) (by omega); have e3 := hS'.byte (k := 3) (by omega) (by omega); clear hS'; (go_simp; first | with_reducible rfl | rfl)
  try simp only [Act.put, List.setIfInBounds_toArray, List.set_cons_zero, List.set_cons_succ]
  refine hd_pure (v := ?_) (by rfl) (fun W' hS' => ?_) ?_ -- 9
  rotate_left
  · have e2 := hS'.byte (k := 2) (by omega) (by omega); have e3 := hS'.byte (k := 3) (by omega) (by omega); clear hS'; (go_simp; first | with_reducible rfl | rfl)
  try simp only [Act.put, List.setIfInBounds_toArray, List.set_cons_zero, List.set_cons_succ]
  refine hd_pure (v := ?_) (by rfl) (fun W' hS' => ?_) ?_ -- 10
  rotate_left
  · have e2 := hS'.byte (k := 2) (by omega) (by omega); have e3 := hS'.byte (k := 3) (by omega) (by omega); clear hS'; (go_simp; first | with_reducible rfl | rfl)
  try simp only [Act.put, List.setIfInBounds_toArray, List.set_cons_zero, List.set_cons_succ]
  refine hd_nil ?_
  replace hW := hSW; clear hSW
  refine wpList_nil (NoPanic.normal ?_)
  have k0 : W.cell? ⟨w.heap.size + 1, 0, none⟩ = some (.int .i64 (kd bs)) := (hW.q.cell 0).trans (Pdu.c0 _)
  by_cases fc : c = 8
  all_goals
    go_upto_region 21 with fail
    go_wp2_with (first | (refine wpList_load_at rfl 69 _ rfl (w.heap.size + 1) 0 26 rfl _ _ hW.q.range (Pdu.cells_length _) Tryz.underlying69 rfl info_pdu ?_) | (refine wpList_store_at rfl 69 _ _ rfl w.heap.size 0 26 69 _ _ rfl rfl hW.z (Pdu.cells_length _) (by rw [Pdu.cells_length]; omega) info_pdu (Pdu.one _) ?_))
    obtain ⟨hr, hb⟩ := prs_end hW
    exact bodyPost_ret (results_cell1 rfl _ w.heap.size 0 26 _ _ rfl hr.range (Pdu.cells_length _) Tryz.underlying69 rfl info_pdu) rfl ⟨by rw [HR.out]; rfl, hb⟩
set_option maxRecDepth 100000 in
set_option maxHeartbeats 1000000 in
theorem parse_0 (bs : List UInt8) (hn : 12 ≤ bs.length) (A : Option Addr) (c B : Nat) (hc : bs.length ≤ c) (w : World) (hB : B ≤ w.heap.size) (hr : Reads w B 1 A bs.length (bs.map bv)) (hk : kd bs = 0) :
    Calls Tryz.prog 107 #[.slice A bs.length c] w fun e w' => e = .returned (parseOf bs).val ∧ Below w.heap.size w w' := by
  have HR := Lib.hid (show parseOf bs = { bareP (kd bs) with session := midOf bs, serial := UInt32.ofNat (wordOf (bs.drop 8)) } by simp [parseOf, hk])
  have b0 : (kd bs == 0) = true := by simp; omega
  have b1 : (kd bs == 1) = false := by simp; omega
  have b3 : (kd bs == 3) = false := by simp; omega
  have b4 : (kd bs == 4) = false := by simp; omega
  have b6 : (kd bs == 6) = false := by simp; omega
  have b7 : (kd bs == 7) = false := by simp; omega
  have b10 : (kd bs == 10) = false := by simp; omega
  have hu : (wordOf (bs.drop 8) : Int) = ((UInt32.ofNat (wordOf (bs.drop 8))).toNat : Int) := by simp [UInt32.toNat_ofNat', Nat.mod_eq_of_lt (wordOf_lt _)]
  have HU := Lib.hid hu
  clear hu
  have hmid := or_mid bs
  have HK := Lib.hid hk
  clear hk
  obtain ⟨ad, rfl, hb, hcell⟩ := hr.2 (by omega)
  clear hcell hb
  have hw1 : IntKind.i64.wrap (at8 bs 1 : Int) = kd bs := wrap_at8 bs 1
  have hw2 := wrap_at8 bs 2
  have hw3 := wrap_at8 bs 3
  have f1 : (1 : Int) < (bs.length : Int) := by omega
  have f2 : (2 : Int) < (bs.length : Int) := by omega
  have f3 : (3 : Int) < (bs.length : Int) := by omega
  have f8 : (8 : Int) ≤ (bs.length : Int) := by omega
  go_enter Tryz.func107, Tryz.ntmps107
  go_upto_region 1 with fail
  refine wp_gen (Prs0 w B ad bs) (prs0 hB hr) ?_
  intro W0 h0
  have e1 := h0.rd.byte (k := 1) (by omega) (by omega)
  have es := h0.sz
  go_upto_region 2 with (refine wpList_store_at rfl 69 _ _ rfl (w.heap.size + 1) 0 26 69 (bareL (kd bs)) (bareL 0) rfl rfl (blk_new' _ _ _ _ es) rfl (by decide) info_pdu (by rw [bareL_eq]; exact Pdu.one _) ?_)
  try rw [es]
  refine wp_gen (Prs w B ad bs (bareP (kd bs))) (prs_start h0 hB (kd bs)) ?_
  clear e1 es h0
  intro W hW
  refine reg_sch2 11 [(true, 0), (true, 1), (true, 2), (true, 3), (true, 4), (true, 5), (true, 6), (true, 7), (true, 8), (true, 9), (true, 10)] (by kernel_rfl) (by kernel_rfl) (fun W => Reads W B 1 (some ad) bs.length (bs.map bv)) (Prs w B ad bs (bareP (kd bs))) ?_ ?_ ?_
  · exact hW.drew
  · exact fun _ h => h.rd
  intro W hSW
  simp only [List.map_cons, List.map_nil, List.getD_cons_zero, List.getD_cons_succ, List.drop_succ_cons, List.drop_zero]
  refine hd_pure (v := ?_) (by rfl) (fun W' hS' => ?_) ?_ -- 0
  rotate_left
  · have e2 := hS'.byte (k := 2) (by omega) (by omega); have e3 := hS'.byte (k := 3) (by omega) (by omega); clear hS'; (go_simp; first | with_reducible rfl | rfl)
  try simp only [Act.put, List.setIfInBounds_toArray, List.set_cons_zero, List.set_cons_succ]
  refine hd_pure (v := ?_) (by rfl) (fun W' hS' => ?_) ?_ -- 1
  rotate_left
  · have e2 := hS'.byte (k := 2) (by omega) (by omega); have e3 := hS'.byte (k := 3) (by omega) (by omega); clear hS'; (go_simp; first | with_reducible rfl | rfl)
  try simp only [Act.put, List.setIfInBounds_toArray, List.set_cons_zero, List.set_cons_succ]
  refine hd_pure (v := ?_) (by rfl) (fun W' hS' => ?_) ?_ -- 2
  rotate_left
  · have e2 := hS'.byte (k := 2) (by omega) (by omega); have e3 := hS'.byte (k := 3) (by omega) (by omega); clear hS'; (go_simp; first | with_reducible rfl | rfl)
  try simp only [Act.put, List.setIfInBounds_toArray, List.set_cons_zero, List.set_cons_succ]
  refine hd_pure (v := ?_) (by rfl) (fun W' hS' => ?_) ?_ -- 3
  rotate_left
  · have e2 := hS'.byte (k := 2) (by omega) (by omega); have e3 := hS'.byte (k := 3) (by omega) (by omega); clear hS'; (go_simp; first | with_reducible rfl | rfl)
  try simp only [Act.put, List.setIfInBounds_toArray, List.set_cons_zero, List.set_cons_succ]
  refine hd_pure (v := ?_) (by rfl) (fun W' hS' => ?_) ?_ -- 4
  rotate_left
  · have e2 := hS'.byte (k := 2) (by omega) (by omega); have e3 := hS'.byte (k := 3) (by omega) (by omega); clear hS'; (go_simp; first | with_reducible rfl | rfl)
  try simp only [Act.put, List.setIfInBounds_toArray, List.set_cons_zero, List.set_cons_succ]
  refine hd_pure (v := ?_) (by rfl) (fun W' hS' => ?_) ?_ -- 5
  rotate_left
  · have e2 := hS'.byte (k := 2) (by omega) (by omega); have e3 := hS'.byte (k := 3) (by omega) (by omega); clear hS'; (go_simp; first | with_reducible rfl | rfl)
  try simp only [Act.put, List.setIfInBounds_toArray, List.set_cons_zero, List.set_cons_succ]
  refine hd_pure (v := ?_) (by rfl) (fun W' hS' => ?_) ?_ -- 6
  rotate_left
  · have e2 := hS'.byte (k := 2) (by omega) (by omega); have e3 := hS'.byte (k := 3) (by omega) (by omega); clear hS'; (go_simp; first | with_reducible rfl | rfl)
  try simp only [Act.put, List.setIfInBounds_toArray, List.set_cons_zero, List.set_cons_succ]
  refine hd_pure (v := ?_) (by rfl) (fun W' hS' => ?_) ?_ -- 7
  rotate_left
  · have e2 := hS'.byte (k := 2) (by omega) (by omega); have e3 := hS'.byte (k := 3) (by omega) (by omega); clear hS'; (go_simp; first | with_reducible rfl | rfl)
  try simp only [Act.put, List.setIfInBounds_toArray, List.set_cons_zero, List.set_cons_succ]
  refine hd_pure (v := ?_) (by rfl) (fun W' hS' => ?_) ?_ -- 8
  rotate_left
  · have e2 := hS'.byte (k := 2) (by omega) (by omega); have e3 := hS'.byte (k := 3) (by omega) (by omega); clear hS'; (go_simp; first | with_reducible rfl | rfl)
  try simp only [Act.put, List.setIfInBounds_toArray, List.set_cons_zero, List.set_cons_succ]
  refine hd_pure (v := ?_) (by rfl) (fun W' hS' => ?_) ?_ -- 9
  rotate_left
  · have e2 := hS'.byte (k := 2) (by omega) (by omega); have e3 := hS'.byte (k := 3) (by omega) (by omega); clear hS'; (go_simp; first | with_reducible rfl | rfl)
  try simp only [Act.put, List.setIfInBounds_toArray, List.set_cons_zero, List.set_cons_succ]
  refine hd_pure (v := ?_) (by rfl) (fun W' hS' => ?_) ?_ -- 10
  rotate_left
  · have e2 := hS'.byte (k := 2) (by omega) (by omega); have e3 := hS'.byte (k := 3) (by omega) (by omega); clear hS'; (go_simp; first | with_reducible rfl | rfl)
  try simp only [Act.put, List.setIfInBounds_toArray, List.set_cons_zero, List.set_cons_succ]
  refine hd_nil ?_
  replace hW := hSW; clear hSW
  refine wpList_nil (NoPanic.normal ?_)
  have k0 : W.cell? ⟨w.heap.size + 1, 0, none⟩ = some (.int .i64 (kd bs)) := (hW.q.cell 0).trans (Pdu.c0 _)
  have fc : ¬ c = 8 := by omega
  go_upto_region 8 with fail
  go_upto_region 21 with (go_at_call 124; refine (word_n (bs.drop 8) (bs.length - 8) (by simp) (by omega) _ _ B (by omega) _ (hW.rd.cut1 (by omega) (by omega) rfl)).mono ?_; rintro e w' ⟨rfl, rfl⟩; rw [HU.out]; have k1 := (hW.q.cell 1).trans (Pdu.c1 _); have f1 := hW.q.frozen 1; have k2 := (hW.q.cell 2).trans (Pdu.c2 _); have f2 := hW.q.frozen 2)
  refine wp_gen (Prs w B ad bs { bareP (kd bs) with session := midOf bs, serial := UInt32.ofNat (wordOf (bs.drop 8)) }) ((hW.set hB (set_session _ _ _ _ _ _ _ _)).set hB (set_serial _ _ _ (UInt32.ofNat (wordOf (bs.drop 8))) _ _ _ _)) ?_
  clear k0 k1 f1 k2 f2 hW
  intro W2 hW
  go_wp2_with (first | (refine wpList_load_at rfl 69 _ rfl (w.heap.size + 1) 0 26 rfl _ _ hW.q.range (Pdu.cells_length _) Tryz.underlying69 rfl info_pdu ?_) | (refine wpList_store_at rfl 69 _ _ rfl w.heap.size 0 26 69 _ _ rfl rfl hW.z (Pdu.cells_length _) (by rw [Pdu.cells_length]; omega) info_pdu (Pdu.one _) ?_))
  obtain ⟨hr, hb⟩ := prs_end hW
  exact bodyPost_ret (results_cell1 rfl _ w.heap.size 0 26 _ _ rfl hr.range (Pdu.cells_length _) Tryz.underlying69 rfl info_pdu) rfl ⟨by rw [HR.out]; rfl, hb⟩
set_option maxRecDepth 100000 in
set_option maxHeartbeats 1000000 in
theorem parse_1 (bs : List UInt8) (hn : 12 ≤ bs.length) (A : Option Addr) (c B : Nat) (hc : bs.length ≤ c) (w : World) (hB : B ≤ w.heap.size) (hr : Reads w B 1 A bs.length (bs.map bv)) (hk : kd bs = 1) :
    Calls Tryz.prog 107 #[.slice A bs.length c] w fun e w' => e = .returned (parseOf bs).val ∧ Below w.heap.size w w' := by
  have HR := Lib.hid (show parseOf bs = { bareP (kd bs) with session := midOf bs, serial := UInt32.ofNat (wordOf (bs.drop 8)) } by simp [parseOf, hk])
  have b0 : (kd bs == 0) = false := by simp; omega
  have b1 : (kd bs == 1) = true := by simp; omega
  have b3 : (kd bs == 3) = false := by simp; omega
  have b4 : (kd bs == 4) = false := by simp; omega
  have b6 : (kd bs == 6) = false := by simp; omega
  have b7 : (kd bs == 7) = false := by simp; omega
  have b10 : (kd bs == 10) = false := by simp; omega
  have hu : (wordOf (bs.drop 8) : Int) = ((UInt32.ofNat (wordOf (bs.drop 8))).toNat : Int) := by simp [UInt32.toNat_ofNat', Nat.mod_eq_of_lt (wordOf_lt _)]
  have HU := Lib.hid hu
  clear hu
  have hmid := or_mid bs
  have HK := Lib.hid hk
  clear hk
  obtain ⟨ad, rfl, hb, hcell⟩ := hr.2 (by omega)
  clear hcell hb
  have hw1 : IntKind.i64.wrap (at8 bs 1 : Int) = kd bs := wrap_at8 bs 1
  have hw2 := wrap_at8 bs 2
  have hw3 := wrap_at8 bs 3
  have f1 : (1 : Int) < (bs.length : Int) := by omega
  have f2 : (2 : Int) < (bs.length : Int) := by omega
  have f3 : (3 : Int) < (bs.length : Int) := by omega
  have f8 : (8 : Int) ≤ (bs.length : Int) := by omega
  go_enter Tryz.func107, Tryz.ntmps107
  go_upto_region 1 with fail
  refine wp_gen (Prs0 w B ad bs) (prs0 hB hr) ?_
  intro W0 h0
  have e1 := h0.rd.byte (k := 1) (by omega) (by omega)
  have es := h0.sz
  go_upto_region 2 with (refine wpList_store_at rfl 69 _ _ rfl (w.heap.size + 1) 0 26 69 (bareL (kd bs)) (bareL 0) rfl rfl (blk_new' _ _ _ _ es) rfl (by decide) info_pdu (by rw [bareL_eq]; exact Pdu.one _) ?_)
  try rw [es]
  refine wp_gen (Prs w B ad bs (bareP (kd bs))) (prs_start h0 hB (kd bs)) ?_
  clear e1 es h0
  intro W hW
  refine reg_sch2 11 [(true, 0), (true, 1), (true, 2), (true, 3), (true, 4), (true, 5), (true, 6), (true, 7), (true, 8), (true, 9), (true, 10)] (by kernel_rfl) (by kernel_rfl) (fun W => Reads W B 1 (some ad) bs.length (bs.map bv)) (Prs w B ad bs (bareP (kd bs))) ?_ ?_ ?_
  · exact hW.drew
  · exact fun _ h => h.rd
  intro W hSW
  simp only [List.map_cons, List.map_nil, List.getD_cons_zero, List.getD_cons_succ, List.drop_succ_cons, List.drop_zero]
  refine hd_pure (v := ?_) (by rfl) (fun W' hS' => ?_) ?_ -- 0
  rotate_left
  · have e2 := hS'.byte (k := 2) (by omega) (by omega); have e3 := hS'.byte (k := 3) (by omega) (by omega); clear hS'; (go_simp; first | with_reducible rfl | rfl)
  try simp only [Act.put, List.setIfInBounds_toArray, List.set_cons_zero, List.set_cons_succ]
  refine hd_pure (v := ?_) (by rfl) (fun W' hS' => ?_) ?_ -- 1
  rotate_left
  · have e2 := hS'.byte (k := 2) (by omega) (by omega); have e3 := hS'.byte (k := 3) (by omega) (by omega); clear hS'; (go_simp; first | with_reducible rfl | rfl)
  try simp only [Act.put, List.setIfInBounds_toArray, List.set_cons_zero, List.set_cons_succ]
  refine hd_pure (v := ?_) (by rfl) (fun W' hS' => ?_) ?_ -- 2
  rotate_left
  · have e2 := hS'.byte (k := 2) (by omega) (by omega); have e3 := hS'.byte (k := 3) (by omega) (by omega); clear hS'; (go_simp; first | with_reducible rfl | rfl)
  try simp only [Act.put, List.setIfInBounds_toArray, List.set_cons_zero, List.set_cons_succ]
  refine hd_pure (v := ?_) (by rfl) (fun W' hS' => ?_) ?_ -- 3
  rotate_left
  · have e2 := hS'.byte (k := 2) (by omega) (by omega); have e3 := hS'.byte (k := 3) (by omega) (by omega); clear hS'; (go_simp; first | with_reducible rfl | rfl)
  try simp only [Act.put, List.setIfInBounds_toArray, List.set_cons_zero, List.set_cons_succ]
  refine hd_pure (v := ?_) (by rfl) (fun W' hS' => ?_) ?_ -- 4
  rotate_left
  · have e2 := hS'.byte (k := 2) (by omega) (by omega); have e3 := hS'.byte (k := 3) (by omega) (by omega); clear hS'; (go_simp; first | with_reducible rfl | rfl)
  try simp only [Act.put, List.setIfInBounds_toArray, List.set_cons_zero, List.set_cons_succ]
  refine hd_pure (v := ?_) (by rfl) (fun W' hS' => ?_) ?_ -- 5
  rotate_left
  · have e2 := hS'.byte (k := 2) (by omega) (by omega); have e3 := hS'.byte (k := 3) (by omega) (by omega); clear hS'; (go_simp; first | with_reducible rfl | rfl)
  try simp only [Act.put, List.setIfInBounds_toArray, List.set_cons_zero, List.set_cons_succ]
  refine hd_pure (v := ?_) (by rfl) (fun W' hS' => ?_) ?_ -- 6
  rotate_left
  · have e2 := hS'.byte (k := 2) (by omega) (by omega); have e3 := hS'.byte (k := 3) (by omega) (by omega); clear hS'; (go_simp; first | with_reducible rfl | rfl)
  try simp only [Act.put, List.setIfInBounds_toArray, List.set_cons_zero, List.set_cons_succ]
  refine hd_pure (v := ?_) (by rfl) (fun W' hS' => ?_) ?_ -- 7
  rotate_left
  · have e2 := hS'.byte (k := 2) (by omega) (by omega); have e3 := hS'.byte (k := 3) (by omega) (by omega); clear hS'; (go_simp; first | with_reducible rfl | rfl)
  try simp only [Act.put, List.setIfInBounds_toArray, List.set_cons_zero, List.set_cons_succ]
  refine hd_pure (v := ?_) (by rfl) (fun W' hS' => ?_) ?_ -- 8
  rotate_left
  · have e2 := hS'.byte (k := 2) (by omega) (by omega); have e3 := hS'.byte (k := 3) (by omega) (by omega); clear hS'; (go_simp; first | with_reducible rfl | rfl)
  try simp only [Act.put, List.setIfInBounds_toArray, List.set_cons_zero, List.set_cons_succ]
  refine hd_pure (v := ?_) (by rfl) (fun W' hS' => ?_) ?_ -- 9
  rotate_left
  · have e2 := hS'.byte (k := 2) (by omega) (by omega); have e3 := hS'.byte (k := 3) (by omega) (by omega); clear hS'; (go_simp; first | with_reducible rfl | rfl)
  try simp only [Act.put, List.setIfInBounds_toArray, List.set_cons_zero, List.set_cons_succ]
  refine hd_pure (v := ?_) (by rfl) (fun W' hS' => ?_) ?_ -- 10
  rotate_left
  · have e2 := hS'.byte (k := 2) (by omega) (by omega); have e3 := hS'.byte (k := 3) (by omega) (by omega); clear hS'; (go_simp; first | with_reducible rfl | rfl)
  try simp only [Act.put, List.setIfInBounds_toArray, List.set_cons_zero, List.set_cons_succ]
  refine hd_nil ?_
  replace hW := hSW; clear hSW
  refine wpList_nil (NoPanic.normal ?_)
  have k0 : W.cell? ⟨w.heap.size + 1, 0, none⟩ = some (.int .i64 (kd bs)) := (hW.q.cell 0).trans (Pdu.c0 _)
  have fc : ¬ c = 8 := by omega
  go_upto_region 8 with fail
  go_upto_region 21 with (go_at_call 124; refine (word_n (bs.drop 8) (bs.length - 8) (by simp) (by omega) _ _ B (by omega) _ (hW.rd.cut1 (by omega) (by omega) rfl)).mono ?_; rintro e w' ⟨rfl, rfl⟩; rw [HU.out]; have k1 := (hW.q.cell 1).trans (Pdu.c1 _); have f1 := hW.q.frozen 1; have k2 := (hW.q.cell 2).trans (Pdu.c2 _); have f2 := hW.q.frozen 2)
  refine wp_gen (Prs w B ad bs { bareP (kd bs) with session := midOf bs, serial := UInt32.ofNat (wordOf (bs.drop 8)) }) ((hW.set hB (set_session _ _ _ _ _ _ _ _)).set hB (set_serial _ _ _ (UInt32.ofNat (wordOf (bs.drop 8))) _ _ _ _)) ?_
  clear k0 k1 f1 k2 f2 hW
  intro W2 hW
  go_wp2_with (first | (refine wpList_load_at rfl 69 _ rfl (w.heap.size + 1) 0 26 rfl _ _ hW.q.range (Pdu.cells_length _) Tryz.underlying69 rfl info_pdu ?_) | (refine wpList_store_at rfl 69 _ _ rfl w.heap.size 0 26 69 _ _ rfl rfl hW.z (Pdu.cells_length _) (by rw [Pdu.cells_length]; omega) info_pdu (Pdu.one _) ?_))
  obtain ⟨hr, hb⟩ := prs_end hW
  exact bodyPost_ret (results_cell1 rfl _ w.heap.size 0 26 _ _ rfl hr.range (Pdu.cells_length _) Tryz.underlying69 rfl info_pdu) rfl ⟨by rw [HR.out]; rfl, hb⟩
set_option maxRecDepth 100000 in
set_option maxHeartbeats 1000000 in
theorem parse_7 (bs : List UInt8) (hn : 12 ≤ bs.length) (A : Option Addr) (c B : Nat) (hc : bs.length ≤ c) (w : World) (hB : B ≤ w.heap.size) (hr : Reads w B 1 A bs.length (bs.map bv)) (hk : kd bs = 7) :
    Calls Tryz.prog 107 #[.slice A bs.length c] w fun e w' => e = .returned (parseOf bs).val ∧ Below w.heap.size w w' := by
  have HR := Lib.hid (show parseOf bs = { bareP (kd bs) with session := midOf bs, serial := UInt32.ofNat (wordOf (bs.drop 8)) } by simp [parseOf, hk])
  have b0 : (kd bs == 0) = false := by simp; omega
  have b1 : (kd bs == 1) = false := by simp; omega
  have b3 : (kd bs == 3) = false := by simp; omega
  have b4 : (kd bs == 4) = false := by simp; omega
  have b6 : (kd bs == 6) = false := by simp; omega
  have b7 : (kd bs == 7) = true := by simp; omega
  have b10 : (kd bs == 10) = false := by simp; omega
  have hu : (wordOf (bs.drop 8) : Int) = ((UInt32.ofNat (wordOf (bs.drop 8))).toNat : Int) := by simp [UInt32.toNat_ofNat', Nat.mod_eq_of_lt (wordOf_lt _)]
  have HU := Lib.hid hu
  clear hu
  have hmid := or_mid bs
  have HK := Lib.hid hk
  clear hk
  obtain ⟨ad, rfl, hb, hcell⟩ := hr.2 (by omega)
  clear hcell hb
  have hw1 : IntKind.i64.wrap (at8 bs 1 : Int) = kd bs := wrap_at8 bs 1
  have hw2 := wrap_at8 bs 2
  have hw3 := wrap_at8 bs 3
  have f1 : (1 : Int) < (bs.length : Int) := by omega
  have f2 : (2 : Int) < (bs.length : Int) := by omega
  have f3 : (3 : Int) < (bs.length : Int) := by omega
  have f8 : (8 : Int) ≤ (bs.length : Int) := by omega
  go_enter Tryz.func107, Tryz.ntmps107
  go_upto_region 1 with fail
  refine wp_gen (Prs0 w B ad bs) (prs0 hB hr) ?_
  intro W0 h0
  have e1 := h0.rd.byte (k := 1) (by omega) (by omega)
  have es := h0.sz
  go_upto_region 2 with (refine wpList_store_at rfl 69 _ _ rfl (w.heap.size + 1) 0 26 69 (bareL (kd bs)) (bareL 0) rfl rfl (blk_new' _ _ _ _ es) rfl (by decide) info_pdu (by rw [bareL_eq]; exact Pdu.one _) ?_)
  try rw [es]
  refine wp_gen (Prs w B ad bs (bareP (kd bs))) (prs_start h0 hB (kd bs)) ?_
  clear e1 es h0
  intro W hW
  refine reg_sch2 11 [(true, 0), (true, 1), (true, 2), (true, 3), (true, 4), (true, 5), (true, 6), (true, 7), (true, 8), (true, 9), (true, 10)] (by kernel_rfl) (by kernel_rfl) (fun W => Reads W B 1 (some ad) bs.length (bs.map bv)) (Prs w B ad bs (bareP (kd bs))) ?_ ?_ ?_
  · exact hW.drew
  · exact fun _ h => h.rd
  intro W hSW
  simp only [List.map_cons, List.map_nil, List.getD_cons_zero, List.getD_cons_succ, List.drop_succ_cons, List.drop_zero]
  refine hd_pure (v := ?_) (by rfl) (fun W' hS' => ?_) ?_ -- 0
  rotate_left
  · have e2 := hS'.byte (k := 2) (by omega) (by omega); have e3 := hS'.byte (k := 3) (by omega) (by omega); clear hS'; (go_simp; first | with_reducible rfl | rfl)
  try simp only [Act.put, List.setIfInBounds_toArray, List.set_cons_zero, List.set_cons_succ]
  refine hd_pure (v := ?_) (by rfl) (fun W' hS' => ?_) ?_ -- 1
  rotate_left
  · have e2 := hS'.byte (k := 2) (by omega) (by omega); have e3 := hS'.byte (k := 3) (by omega) (by omega); clear hS'; (go_simp; first | with_reducible rfl | rfl)
  try simp only [Act.put, List.setIfInBounds_toArray, List.set_cons_zero, List.set_cons_succ]
  refine hd_pure (v := ?_) (by rfl) (fun W' hS' => ?_) ?_ -- 2
  rotate_left
  · have e2 := hS'.byte (k := 2) (by omega) (by omega); have e3 := hS'.byte (k := 3) (by omega) (by omega); clear hS'; (go_simp; first | with_reducible rfl | rfl)
  try simp only [Act.put, List.setIfInBounds_toArray, List.set_cons_zero, List.set_cons_succ]
  refine hd_pure (v := ?_) (by rfl) (fun W' hS' => ?_) ?_ -- 3
  rotate_left
  · have e2 := hS'.byte (k := 2) (by omega) (by omega); have e3 := hS'.byte (k := 3) (by omega) (by omega); clear hS'; (go_simp; first | with_reducible rfl | rfl)
  try simp only [Act.put, List.setIfInBounds_toArray, List.set_cons_zero, List.set_cons_succ]
  refine hd_pure (v := ?_) (by rfl) (fun W' hS' => ?_) ?_ -- 4
  rotate_left
  · have e2 := hS'.byte (k := 2) (by omega) (by omega); have e3 := hS'.byte (k := 3) (by omega) (by omega); clear hS'; (go_simp; first | with_reducible rfl | rfl)
  try simp only [Act.put, List.setIfInBounds_toArray, List.set_cons_zero, List.set_cons_succ]
  refine hd_pure (v := ?_) (by rfl) (fun W' hS' => ?_) ?_ -- 5
  rotate_left
  · have e2 := hS'.byte (k := 2) (by omega) (by omega); have e3 := hS'.byte (k := 3) (by omega) (by omega); clear hS'; (go_simp; first | with_reducible rfl | rfl)
  try simp only [Act.put, List.setIfInBounds_toArray, List.set_cons_zero, List.set_cons_succ]
  refine hd_pure (v := ?_) (by rfl) (fun W' hS' => ?_) ?_ -- 6
  rotate_left
  · have e2 := hS'.byte (k := 2) (by omega) (by omega); have e3 := hS'.byte (k := 3) (by omega) (by omega); clear hS'; (go_simp; first | with_reducible rfl | rfl)
  try simp only [Act.put, List.setIfInBounds_toArray, List.set_cons_zero, List.set_cons_succ]
  refine hd_pure (v := ?_) (by rfl) (fun W' hS' => ?_) ?_ -- 7
  rotate_left
  · have e2 := hS'.byte (k := 2) (by omega) (by omega); have e3 := hS'.byte (k := 3) (by omega) (by omega); clear hS'; (go_simp; first | with_reducible rfl | rfl)
  try simp only [Act.put, List.setIfInBounds_toArray, List.set_cons_zero, List.set_cons_succ]
  refine hd_pure (v := ?_) (by rfl) (fun W' hS' => ?_) ?_ -- 8
  rotate_left
  · have e2 := hS'.byte (k := 2) (by omega) (by omega); have e3 := hS'.byte (k := 3) (by omega) (by omega); clear hS'; (go_simp; first | with_reducible rfl | rfl)
  try simp only [Act.put, List.setIfInBounds_toArray, List.set_cons_zero, List.set_cons_succ]
  refine hd_pure (v := ?_) (by rfl) (fun W' hS' => ?_) ?_ -- 9
  rotate_left
  · have e2 := hS'.byte (k := 2) (by omega) (by omega); have e3 := hS'.byte (k := 3) (by omega) (by omega); clear hS'; (go_simp; first | with_reducible rfl | rfl)
  try simp only [Act.put, List.setIfInBounds_toArray, List.set_cons_zero, List.set_cons_succ]
  refine hd_pure (v := ?_) (by rfl) (fun W' hS' => ?_) ?_ -- 10
  rotate_left
  · have e2 := hS'.byte (k := 2) (by omega) (by omega); have e3 := hS'.byte (k := 3) (by omega) (by omega); clear hS'; (go_simp; first | with_reducible rfl | rfl)
  try simp only [Act.put, List.setIfInBounds_toArray, List.set_cons_zero, List.set_cons_succ]
  refine hd_nil ?_
  replace hW := hSW; clear hSW
  refine wpList_nil (NoPanic.normal ?_)
  have k0 : W.cell? ⟨w.heap.size + 1, 0, none⟩ = some (.int .i64 (kd bs)) := (hW.q.cell 0).trans (Pdu.c0 _)
  have fc : ¬ c = 8 := by omega
  go_upto_region 8 with fail
  go_upto_region 21 with (go_at_call 124; refine (word_n (bs.drop 8) (bs.length - 8) (by simp) (by omega) _ _ B (by omega) _ (hW.rd.cut1 (by omega) (by omega) rfl)).mono ?_; rintro e w' ⟨rfl, rfl⟩; rw [HU.out]; have k1 := (hW.q.cell 1).trans (Pdu.c1 _); have f1 := hW.q.frozen 1; have k2 := (hW.q.cell 2).trans (Pdu.c2 _); have f2 := hW.q.frozen 2)
  refine wp_gen (Prs w B ad bs { bareP (kd bs) with session := midOf bs, serial := UInt32.ofNat (wordOf (bs.drop 8)) }) ((hW.set hB (set_session _ _ _ _ _ _ _ _)).set hB (set_serial _ _ _ (UInt32.ofNat (wordOf (bs.drop 8))) _ _ _ _)) ?_
  clear k0 k1 f1 k2 f2 hW
  intro W2 hW
  go_wp2_with (first | (refine wpList_load_at rfl 69 _ rfl (w.heap.size + 1) 0 26 rfl _ _ hW.q.range (Pdu.cells_length _) Tryz.underlying69 rfl info_pdu ?_) | (refine wpList_store_at rfl 69 _ _ rfl w.heap.size 0 26 69 _ _ rfl rfl hW.z (Pdu.cells_length _) (by rw [Pdu.cells_length]; omega) info_pdu (Pdu.one _) ?_))
  obtain ⟨hr, hb⟩ := prs_end hW
  exact bodyPost_ret (results_cell1 rfl _ w.heap.size 0 26 _ _ rfl hr.range (Pdu.cells_length _) Tryz.underlying69 rfl info_pdu) rfl ⟨by rw [HR.out]; rfl, hb⟩
set_option maxRecDepth 100000 in
set_option maxHeartbeats 1000000 in
theorem parse_10 (bs : List UInt8) (hn : 16 ≤ bs.length) (A : Option Addr) (c B : Nat) (hc : bs.length ≤ c) (w : World) (hB : B ≤ w.heap.size) (hr : Reads w B 1 A bs.length (bs.map bv)) (hk : kd bs = 10) :
    Calls Tryz.prog 107 #[.slice A bs.length c] w fun e w' => e = .returned (parseOf bs).val ∧ Below w.heap.size w w' := by
  have HR := Lib.hid (show parseOf bs = { bareP (kd bs) with code := midOf bs, text := ⟨(bs.drop 16).toArray⟩ } by simp [parseOf, hk])
  have b0 : (kd bs == 0) = false := by simp; omega
  have b1 : (kd bs == 1) = false := by simp; omega
  have b3 : (kd bs == 3) = false := by simp; omega
  have b4 : (kd bs == 4) = false := by simp; omega
  have b6 : (kd bs == 6) = false := by simp; omega
  have b7 : (kd bs == 7) = false := by simp; omega
  have b10 : (kd bs == 10) = true := by simp; omega
  have hmid := or_mid bs
  have HK := Lib.hid hk
  clear hk
  obtain ⟨ad, rfl, hb, hcell⟩ := hr.2 (by omega)
  clear hcell hb
  have hw1 : IntKind.i64.wrap (at8 bs 1 : Int) = kd bs := wrap_at8 bs 1
  have hw2 := wrap_at8 bs 2
  have hw3 := wrap_at8 bs 3
  have f1 : (1 : Int) < (bs.length : Int) := by omega
  have f2 : (2 : Int) < (bs.length : Int) := by omega
  have f3 : (3 : Int) < (bs.length : Int) := by omega
  have f8 : (8 : Int) ≤ (bs.length : Int) := by omega
  go_enter Tryz.func107, Tryz.ntmps107
  go_upto_region 1 with fail
  refine wp_gen (Prs0 w B ad bs) (prs0 hB hr) ?_
  intro W0 h0
  have e1 := h0.rd.byte (k := 1) (by omega) (by omega)
  have es := h0.sz
  go_upto_region 2 with (refine wpList_store_at rfl 69 _ _ rfl (w.heap.size + 1) 0 26 69 (bareL (kd bs)) (bareL 0) rfl rfl (blk_new' _ _ _ _ es) rfl (by decide) info_pdu (by rw [bareL_eq]; exact Pdu.one _) ?_)
  try rw [es]
  refine wp_gen (Prs w B ad bs (bareP (kd bs))) (prs_start h0 hB (kd bs)) ?_
  clear e1 es h0
  intro W hW
  refine reg_sch2 11 [(true, 0), (true, 1), (true, 2), (true, 3), (true, 4), (true, 5), (true, 6), (true, 7), (true, 8), (true, 9), (true, 10)] (by kernel_rfl) (by kernel_rfl) (fun W => Reads W B 1 (some ad) bs.length (bs.map bv)) (Prs w B ad bs (bareP (kd bs))) ?_ ?_ ?_
  · exact hW.drew
  · exact fun _ h => h.rd
  intro W hSW
  simp only [List.map_cons, List.map_nil, List.getD_cons_zero, List.getD_cons_succ, List.drop_succ_cons, List.drop_zero]
  refine hd_pure (v := ?_) (by rfl) (fun W' hS' => ?_) ?_ -- 0
  rotate_left
  · have e2 := hS'.byte (k := 2) (by omega) (by omega); have e3 := hS'.byte (k := 3) (by omega) (by omega); clear hS'; (go_simp; first | with_reducible rfl | rfl)
  try simp only [Act.put, List.setIfInBounds_toArray, List.set_cons_zero, List.set_cons_succ]
  refine hd_pure (v := ?_) (by rfl) (fun W' hS' => ?_) ?_ -- 1
  rotate_left
  · have e2 := hS'.byte (k := 2) (by omega) (by omega); have e3 := hS'.byte (k := 3) (by omega) (by omega); clear hS'; (go_simp; first | with_reducible rfl | rfl)
  try simp only [Act.put, List.setIfInBounds_toArray, List.set_cons_zero, List.set_cons_succ]
  refine hd_pure (v := ?_) (by rfl) (fun W' hS' => ?_) ?_ -- 2
  rotate_left
  · have e2 := hS'.byte (k := 2) (by omega) (by omega); have e3 := hS'.byte (k := 3) (by omega) (by omega); clear hS'; (go_simp; first | with_reducible rfl | rfl)
  try simp only [Act.put, List.setIfInBounds_toArray, List.set_cons_zero, List.set_cons_succ]
  refine hd_pure (v := ?_) (by rfl) (fun W' hS' => ?_) ?_ -- 3
  rotate_left
  · have e2 := hS'.byte (k := 2) (by omega) (by omega); have e3 := hS'.byte (k := 3) (by omega) (by omega); clear hS'; (go_simp; first | with_reducible rfl | rfl)
  try simp only [Act.put, List.setIfInBounds_toArray, List.set_cons_zero, List.set_cons_succ]
  refine hd_pure (v := ?_) (by rfl) (fun W' hS' => ?_) ?_ -- 4
  rotate_left
  · have e2 := hS'.byte (k := 2) (by omega) (by omega); have e3 := hS'.byte (k := 3) (by omega) (by omega); clear hS'; (go_simp; first | with_reducible rfl | rfl)
  try simp only [Act.put, List.setIfInBounds_toArray, List.set_cons_zero, List.set_cons_succ]
  refine hd_pure (v := ?_) (by rfl) (fun W' hS' => ?_) ?_ -- 5
  rotate_left
  · have e2 := hS'.byte (k := 2) (by omega) (by omega); have e3 := hS'.byte (k := 3) (by omega) (by omega); clear hS'; (go_simp; first | with_reducible rfl | rfl)
  try simp only [Act.put, List.setIfInBounds_toArray, List.set_cons_zero, List.set_cons_succ]
  refine hd_pure (v := ?_) (by rfl) (fun W' hS' => ?_) ?_ -- 6
  rotate_left
  · have e2 := hS'.byte (k := 2) (by omega) (by omega); have e3 := hS'.byte (k := 3) (by omega) (by omega); clear hS'; (go_simp; first | with_reducible rfl | rfl)
  try simp only [Act.put, List.setIfInBounds_toArray, List.set_cons_zero, List.set_cons_succ]
  refine hd_pure (v := ?_) (by rfl) (fun W' hS' => ?_) ?_ -- 7
  rotate_left
  · have e2 := hS'.byte (k := 2) (by omega) (by omega); have e3 := hS'.byte (k := 3) (by omega) (by omega); clear hS'; (go_simp; first | with_reducible rfl | rfl)
  try simp only [Act.put, List.setIfInBounds_toArray, List.set_cons_zero, List.set_cons_succ]
  refine hd_pure (v := ?_) (by rfl) (fun W' hS' => ?_) ?_ -- 8
  rotate_left
  · have e2 := hS'.byte (k := 2) (by omega) (by omega); have e3 := hS'.byte (k := 3) (by omega) (by omega); clear hS'; (go_simp; first | with_reducible rfl | rfl)
  try simp only [Act.put, List.setIfInBounds_toArray, List.set_cons_zero, List.set_cons_succ]
  refine hd_pure (v := ?_) (by rfl) (fun W' hS' => ?_) ?_ -- 9
  rotate_left
  · have e2 := hS'.byte (k := 2) (by omega) (by omega); have e3 := hS'.byte (k := 3) (by omega) (by omega); clear hS'; (go_simp; first | with_reducible rfl | rfl)
  try simp only [Act.put, List.setIfInBounds_toArray, List.set_cons_zero, List.set_cons_succ]
  refine hd_pure (v := ?_) (by rfl) (fun W' hS' => ?_) ?_ -- 10
  rotate_left
  · have e2 := hS'.byte (k := 2) (by omega) (by omega); have e3 := hS'.byte (k := 3) (by omega) (by omega); clear hS'; (go_simp; first | with_reducible rfl | rfl)
  try simp only [Act.put, List.setIfInBounds_toArray, List.set_cons_zero, List.set_cons_succ]
  refine hd_nil ?_
  replace hW := hSW; clear hSW
  refine wpList_nil (NoPanic.normal ?_)
  have k0 : W.cell? ⟨w.heap.size + 1, 0, none⟩ = some (.int .i64 (kd bs)) := (hW.q.cell 0).trans (Pdu.c0 _)
  have fc : ¬ c = 8 := by omega
  have f16 : (8 : Int) ≤ ((bs.length - 8 : Nat) : Int) := by omega
  have k1 := (hW.q.cell 24).trans (Pdu.c24 _)
  have f1 := hW.q.frozen 24
  have k2 := (hW.q.cell 25).trans (Pdu.c25 _)
  have f2 := hW.q.frozen 25
  by_cases fc2 : c = 16
  · have hs : (convert 29 9 (.slice (some ⟨ad.block, ad.off + 8, none⟩) (bs.length - 8 - 8) 0)).run Tryz.prog W = .ok (.string ⟨(bs.drop 16).toArray⟩) W := by
      have e : bs.length - 8 - 8 = 0 := by omega
      have e2 : bs.drop 16 = [] := List.drop_of_length_le (by omega)
      rw [e, e2]; exact Reads.str (B := B) Reads.nil 0
    go_upto_region 21 with fail
    refine wp_gen (Prs w B ad bs { bareP (kd bs) with code := midOf bs, text := ⟨(bs.drop 16).toArray⟩ }) ((hW.set hB (set_code _ _ _ _ _ _ _ _)).set hB (set_text _ _ _ _ _ _ _ _)) ?_
    clear k0 k1 f1 k2 f2 hs hW
    intro W2 hW
    go_wp2_with (first | (refine wpList_load_at rfl 69 _ rfl (w.heap.size + 1) 0 26 rfl _ _ hW.q.range (Pdu.cells_length _) Tryz.underlying69 rfl info_pdu ?_) | (refine wpList_store_at rfl 69 _ _ rfl w.heap.size 0 26 69 _ _ rfl rfl hW.z (Pdu.cells_length _) (by rw [Pdu.cells_length]; omega) info_pdu (Pdu.one _) ?_))
    obtain ⟨hr, hb⟩ := prs_end hW
    exact bodyPost_ret (results_cell1 rfl _ w.heap.size 0 26 _ _ rfl hr.range (Pdu.cells_length _) Tryz.underlying69 rfl info_pdu) rfl ⟨by rw [HR.out]; rfl, hb⟩
  · have fc3 : ¬ c - 8 = 8 := by omega
    have hs : (convert 29 9 (.slice (some ⟨ad.block, ad.off + 8 + 8, none⟩) (bs.length - 8 - 8) (c - 8 - 8))).run Tryz.prog W = .ok (.string ⟨(bs.drop 16).toArray⟩) W := by
      refine Reads.str (B := B) ?_ _
      by_cases hz : bs.length = 16
      · have e : bs.length - 8 - 8 = 0 := by omega
        have e2 : bs.drop 16 = [] := List.drop_of_length_le (by omega)
        rw [e, e2]; exact Reads.nil
      · exact hW.rd.cut1 (k := 16) (by omega) (by omega) (by omega)
    go_upto_region 21 with fail
    refine wp_gen (Prs w B ad bs { bareP (kd bs) with code := midOf bs, text := ⟨(bs.drop 16).toArray⟩ }) ((hW.set hB (set_code _ _ _ _ _ _ _ _)).set hB (set_text _ _ _ _ _ _ _ _)) ?_
    clear k0 k1 f1 k2 f2 hs hW
    intro W2 hW
    go_wp2_with (first | (refine wpList_load_at rfl 69 _ rfl (w.heap.size + 1) 0 26 rfl _ _ hW.q.range (Pdu.cells_length _) Tryz.underlying69 rfl info_pdu ?_) | (refine wpList_store_at rfl 69 _ _ rfl w.heap.size 0 26 69 _ _ rfl rfl hW.z (Pdu.cells_length _) (by rw [Pdu.cells_length]; omega) info_pdu (Pdu.one _) ?_))
    obtain ⟨hr, hb⟩ := prs_end hW
    exact bodyPost_ret (results_cell1 rfl _ w.heap.size 0 26 _ _ rfl hr.range (Pdu.cells_length _) Tryz.underlying69 rfl info_pdu) rfl ⟨by rw [HR.out]; rfl, hb⟩
end Go.Proofs.YtmoldmnhijcckaaGreat
