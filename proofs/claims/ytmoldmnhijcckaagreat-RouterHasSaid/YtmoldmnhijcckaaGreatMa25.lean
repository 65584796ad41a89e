/- The contract of pdu.parse for prefixes, and whole. -/
import Derived.Test.YtmoldmnhijcckaaGreatMa24
set_option linter.unusedVariables false
set_option linter.unusedSectionVars false
set_option linter.unusedSimpArgs false
namespace Go.Proofs.YtmoldmnhijcckaaGreat
open Go.RowKit
theorem put3 (x y z y' : List Value) (n : Nat) (hn : x.length = n) (h : y'.length = y.length) : (x ++ (y ++ z)).take n ++ y' ++ (x ++ (y ++ z)).drop (n + y'.length) = x ++ (y' ++ z) := by
  subst hn
  rw [List.take_left, h, show x.length + y.length = (x ++ y).length by simp, ← List.append_assoc x y z, List.drop_left, List.append_assoc]
theorem set_pfx (k s : Int) (n : UInt32) (a : Bool) (asn : UInt32) (p p' : Pfx) (m : Int) (c : Int) (t : ByteArray) : (Pdu.cells ⟨k, s, n, a, ⟨asn, p, m⟩, c, t⟩).take 5 ++ p'.cells ++ (Pdu.cells ⟨k, s, n, a, ⟨asn, p, m⟩, c, t⟩).drop (5 + p'.cells.length) = Pdu.cells ⟨k, s, n, a, ⟨asn, p', m⟩, c, t⟩ := by
  have e : ∀ p : Pfx, Pdu.cells ⟨k, s, n, a, ⟨asn, p, m⟩, c, t⟩ = [.int .i64 k, .int .i64 s, .int .u32 n.toNat, .bool a, .int .u32 asn.toNat] ++ (p.cells ++ [.int .i64 m, .int .i64 c, .string t]) := fun p => by simp [Pdu.cells, Vrp.cells]
  rw [e, e]
  exact put3 _ _ _ _ _ rfl (by simp only [Pfx.cells_length])
theorem set_mx (k s : Int) (n : UInt32) (a : Bool) (asn : UInt32) (p : Pfx) (m m' : Int) (c : Int) (t : ByteArray) : (Pdu.cells ⟨k, s, n, a, ⟨asn, p, m⟩, c, t⟩).set 23 (.int .i64 m') = Pdu.cells ⟨k, s, n, a, ⟨asn, p, m'⟩, c, t⟩ := by
  have e : ∀ m : Int, Pdu.cells ⟨k, s, n, a, ⟨asn, p, m⟩, c, t⟩ = ([.int .i64 k, .int .i64 s, .int .u32 n.toNat, .bool a, .int .u32 asn.toNat] ++ p.cells) ++ (.int .i64 m :: [.int .i64 c, .string t]) := fun p => by simp [Pdu.cells, Vrp.cells]
  rw [e, e, List.set_append_right _ _ (by simp [Pfx.cells_length])]
  simp [Pfx.cells_length]
theorem set_asn (k s : Int) (n : UInt32) (a : Bool) (asn asn' : UInt32) (p : Pfx) (m : Int) (c : Int) (t : ByteArray) : (Pdu.cells ⟨k, s, n, a, ⟨asn, p, m⟩, c, t⟩).set 4 (.int .u32 asn'.toNat) = Pdu.cells ⟨k, s, n, a, ⟨asn', p, m⟩, c, t⟩ := rfl
theorem set_addr (k s : Int) (n : UInt32) (a : Bool) (asn : UInt32) (v6 : Bool) (l : Int) (m : Int) (c : Int) (t : ByteArray) (xs : List UInt8) (hx : xs.length ≤ 16) :
    (Pdu.cells ⟨k, s, n, a, ⟨asn, ⟨v6, zA16, l⟩, m⟩, c, t⟩).take 6 ++ xs.map bv ++ (Pdu.cells ⟨k, s, n, a, ⟨asn, ⟨v6, zA16, l⟩, m⟩, c, t⟩).drop (6 + (xs.map bv).length) = Pdu.cells ⟨k, s, n, a, ⟨asn, ⟨v6, a16 xs, l⟩, m⟩, c, t⟩ := by
  have e : ∀ q : A16, Pdu.cells ⟨k, s, n, a, ⟨asn, ⟨v6, q, l⟩, m⟩, c, t⟩ = [.int .i64 k, .int .i64 s, .int .u32 n.toNat, .bool a, .int .u32 asn.toNat, .bool v6] ++ ((q.l.take xs.length).map bv ++ ((q.l.drop xs.length).map bv ++ [.int .i64 l, .int .i64 m, .int .i64 c, .string t])) := fun q => by
    rw [← List.append_assoc ((q.l.take xs.length).map bv), ← List.map_append, List.take_append_drop]
    simp [Pdu.cells, Vrp.cells, Pfx.cells, A16.cells]
  have h1 : (a16 xs).l.take xs.length = xs := by
    simp only [a16, List.take_take, Nat.min_eq_left hx]
    exact List.take_left
  have h2 : (a16 xs).l.drop xs.length = zA16.l.drop xs.length := by
    have e1 : (a16 xs).l = xs ++ List.replicate (16 - xs.length) 0 := by
      simp only [a16]
      rw [List.take_append, List.take_of_length_le hx, List.take_replicate]
      congr 2; omega
    rw [e1, List.drop_left]
    show _ = List.drop xs.length (List.replicate 16 0)
    rw [List.drop_replicate]
  rw [e, e, h1, h2]
  exact put3 _ _ _ _ _ rfl (by simp [zA16]; omega)
theorem Prs.put {w : World} {B : Nat} {ad : Addr} {bs : List UInt8} {q q' : Pdu} {W : World} (h : Prs w B ad bs q W) (hB : B ≤ w.heap.size) {o : Nat} {vs : List Value} (hl : o + vs.length ≤ 26) (e : q.cells.take o ++ vs ++ q.cells.drop (o + vs.length) = q'.cells) : Prs w B ad bs q' (W.setCells (w.heap.size + 1) o vs) := by
  have hq := Blk.setCells vs o h.q (by rw [Pdu.cells_length]; exact hl)
  rw [e] at hq
  have h1 : Below (w.heap.size + 1) W (W.setCells (w.heap.size + 1) o vs) := Below.setCells (Nat.le_refl _) _ _ (Below.refl _ _)
  exact ⟨h.rd.below h1 (by omega), Blk.setCells_far (by omega) _ _ h.z, hq, Below.setCells (by omega) _ _ h.b⟩
/-- Whether it is told. -/
def ad1 (bs : List UInt8) : Bool := decide (at8 bs 8 = 1)
theorem ad1_eq (bs : List UInt8) : ((at8 bs 8 : Int) == 1) = ad1 bs := by unfold ad1; rw [Bool.eq_iff_iff]; simp; omega
set_option maxRecDepth 100000 in
set_option maxHeartbeats 1000000 in
theorem parse_4 (bs : List UInt8) (hn : 20 ≤ bs.length) (A : Option Addr) (c B : Nat) (hc : bs.length ≤ c) (w : World) (hB : B ≤ w.heap.size) (hr : Reads w B 1 A bs.length (bs.map bv)) (hk : kd bs = 4) :
    Calls Tryz.prog 107 #[.slice A bs.length c] w fun e w' => e = .returned (parseOf bs).val ∧ Below w.heap.size w w' := by
  have HR := Lib.hid (show parseOf bs = { bareP (kd bs) with add := ad1 bs, v := ⟨UInt32.ofNat (wordOf (bs.drop (12 + 4))), ⟨false, a16 ((bs.drop 12).take 4), at8 bs 9⟩, at8 bs 10⟩ } by simp [parseOf, hk, widthOf, ad1])
  have hwd := Lib.hid (show widthOf (kd bs) = 4 by simp [widthOf, hk])
  have b0 : (kd bs == 0) = false := by simp; omega
  have b1 : (kd bs == 1) = false := by simp; omega
  have b3 : (kd bs == 3) = false := by simp; omega
  have b4 : (kd bs == 4) = true := by simp; omega
  have b6 : (kd bs == 6) = false := by simp; omega
  have b7 : (kd bs == 7) = false := by simp; omega
  have b10 : (kd bs == 10) = false := by simp; omega
  have hu : (wordOf (bs.drop (12 + 4)) : Int) = ((UInt32.ofNat (wordOf (bs.drop (12 + 4)))).toNat : Int) := by simp [UInt32.toNat_ofNat', Nat.mod_eq_of_lt (wordOf_lt _)]
  have HU := Lib.hid hu
  clear hu
  have hmid := or_mid bs
  have HK := Lib.hid hk
  clear hk
  obtain ⟨ad, rfl, hb, hcell⟩ := hr.2 (by omega)
  clear hcell hb
  have hw1 : IntKind.i64.wrap (at8 bs 1 : Int) = kd bs := wrap_at8 bs 1
  have hw2 := wrap_at8 bs 2
  have hw3 := wrap_at8 bs 3
  have f1 : (1 : Int) < (bs.length : Int) := by omega
  have f2 : (2 : Int) < (bs.length : Int) := by omega
  have f3 : (3 : Int) < (bs.length : Int) := by omega
  have f8 : (8 : Int) ≤ (bs.length : Int) := by omega
  go_enter Tryz.func107, Tryz.ntmps107
  go_upto_region 1 with fail
  refine wp_gen (Prs0 w B ad bs) (prs0 hB hr) ?_
  intro W0 h0
  have e1 := h0.rd.byte (k := 1) (by omega) (by omega)
  have es := h0.sz
  go_upto_region 2 with (refine wpList_store_at rfl 69 _ _ rfl (w.heap.size + 1) 0 26 69 (bareL (kd bs)) (bareL 0) rfl rfl (blk_new' _ _ _ _ es) rfl (by decide) info_pdu (by rw [bareL_eq]; exact Pdu.one _) ?_)
  try rw [es]
  refine wp_gen (Prs w B ad bs (bareP (kd bs))) (prs_start h0 hB (kd bs)) ?_
  clear e1 es h0
  intro W hW
  refine reg_sch2 11 [(true, 0), (true, 1), (true, 2), (true, 3), (true, 4), (true, 5), (true, 6), (true, 7), (true, 8), (true, 9), (true, 10)] (by kernel_rfl) (by kernel_rfl) (fun W => Reads W B 1 (some ad) bs.length (bs.map bv)) (Prs w B ad bs (bareP (kd bs))) ?_ ?_ ?_
  · exact hW.drew
  · exact fun _ h => h.rd
  intro W hSW
  simp only [List.map_cons, List.map_nil, List.getD_cons_zero, List.getD_cons_succ, List.drop_succ_cons, List.drop_zero]
  refine hd_pure (v := ?_) (by rfl) (fun W' hS' => ?_) ?_ -- 0
  rotate_left
  · have e2 := hS'.byte (k := 2) (by omega) (by omega); have e3 := hS'.byte (k := 3) (by omega) (by omega); clear hS'; (go_simp; first | with_reducible rfl | rfl)
  try simp only [Act.put, List.setIfInBounds_toArray, List.set_cons_zero, List.set_cons_succ]
  refine hd_pure (v := ?_) (by rfl) (fun W' hS' => ?_) ?_ -- 1
  rotate_left
  · have e2 := hS'.byte (k := 2) (by omega) (by omega); have e3 := hS'.byte (k := 3) (by omega) (by omega); clear hS'; (go_simp; first | with_reducible rfl | rfl)
  try simp only [Act.put, List.setIfInBounds_toArray, List.set_cons_zero, List.set_cons_succ]
  refine hd_pure (v := ?_) (by rfl) (fun W' hS' => ?_) ?_ -- 2
  rotate_left
  · have e2 := hS'.byte (k := 2) (by omega) (by omega); have e3 := hS'.byte (k := 3) (by omega) (by omega); clear hS'; (go_simp; first | with_reducible rfl | rfl)
  try simp only [Act.put, List.setIfInBounds_toArray, List.set_cons_zero, List.set_cons_succ]
  refine hd_pure (v := ?_) (by rfl) (fun W' hS' => ?_) ?_ -- 3
  rotate_left
  · have e2 := hS'.byte (k := 2) (by omega) (by omega); have e3 := hS'.byte (k := 3) (by omega) (by omega); clear hS'; (go_simp; first | with_reducible rfl | rfl)
  try simp only [Act.put, List.setIfInBounds_toArray, List.set_cons_zero, List.set_cons_succ]
  refine hd_pure (v := ?_) (by rfl) (fun W' hS' => ?_) ?_ -- 4
  rotate_left
  · have e2 := hS'.byte (k := 2) (by omega) (by omega); have e3 := hS'.byte (k := 3) (by omega) (by omega); clear hS'; (go_simp; first | with_reducible rfl | rfl)
  try simp only [Act.put, List.setIfInBounds_toArray, List.set_cons_zero, List.set_cons_succ]
  refine hd_pure (v := ?_) (by rfl) (fun W' hS' => ?_) ?_ -- 5
  rotate_left
  · have e2 := hS'.byte (k := 2) (by omega) (by omega); have e3 := hS'.byte (k := 3) (by omega) (by omega); clear hS'; (go_simp; first | with_reducible rfl | rfl)
  try simp only [Act.put, List.setIfInBounds_toArray, List.set_cons_zero, List.set_cons_succ]
  refine hd_pure (v := ?_) (by rfl) (fun W' hS' => ?_) ?_ -- 6
  rotate_left
  · have e2 := hS'.byte (k := 2) (by omega) (by omega); have e3 := hS'.byte (k := 3) (by omega) (by omega); clear hS'; (go_simp; first | with_reducible rfl | rfl)
  try simp only [Act.put, List.setIfInBounds_toArray, List.set_cons_zero, List.set_cons_succ]
  refine hd_pure (v := ?_) (by rfl) (fun W' hS' => ?_) ?_ -- 7
  rotate_left
  · have e2 := hS'.byte (k := 2) (by omega) (by omega); have e3 := hS'.byte (k := 3) (by omega) (by omega); clear hS'; (go_simp; first | with_reducible rfl | rfl)
  try simp only [Act.put, List.setIfInBounds_toArray, List.set_cons_zero, List.set_cons_succ]
  refine hd_pure (v := ?_) (by rfl) (fun W' hS' => ?_) ?_ -- 8
  rotate_left
  · have e2 := hS'.byte (k := 2) (by omega) (by omega); have e3 := hS'.byte (k := 3) (by omega) (by omega); clear hS'; (go_simp; first | with_reducible rfl | rfl)
  try simp only [Act.put, List.setIfInBounds_toArray, List.set_cons_zero, List.set_cons_succ]
  refine hd_pure (v := ?_) (by rfl) (fun W' hS' => ?_) ?_ -- 9
  rotate_left
  · have e2 := hS'.byte (k := 2) (by omega) (by omega); have e3 := hS'.byte (k := 3) (by omega) (by omega); clear hS'; (go_simp; first | with_reducible rfl | rfl)
  try simp only [Act.put, List.setIfInBounds_toArray, List.set_cons_zero, List.set_cons_succ]
  refine hd_pure (v := ?_) (by rfl) (fun W' hS' => ?_) ?_ -- 10
  rotate_left
  · have e2 := hS'.byte (k := 2) (by omega) (by omega); have e3 := hS'.byte (k := 3) (by omega) (by omega); clear hS'; (go_simp; first | with_reducible rfl | rfl)
  try simp only [Act.put, List.setIfInBounds_toArray, List.set_cons_zero, List.set_cons_succ]
  refine hd_nil ?_
  replace hW := hSW; clear hSW
  refine wpList_nil (NoPanic.normal ?_)
  have k0 : W.cell? ⟨w.heap.size + 1, 0, none⟩ = some (.int .i64 (kd bs)) := (hW.q.cell 0).trans (Pdu.c0 _)
  have fc : ¬ c = 8 := by omega
  go_upto_region 14 with (go_at_call 59; refine (width_any (kd bs) _).mono ?_; rintro e w' ⟨rfl, rfl⟩; rw [hwd.out])
  have e8 := hW.rd.byte (k := 8) (by omega) (by omega)
  have f0 : (0 : Int) < ((bs.length - 8 : Nat) : Int) := by omega
  have k3 := (hW.q.cell 3).trans (Pdu.c3 _)
  have p3 := hW.q.frozen 3
  have hA := ad1_eq bs
  go_upto_region 15 with fail
  refine wp_gen (Prs w B ad bs { bareP (kd bs) with add := ad1 bs }) (hW.set hB (set_add _ _ _ _ _ _ _ _)) ?_
  clear k0 e8 f0 k3 p3 hA hW
  intro W2 hW
  have f1' : (1 : Int) < ((bs.length - 8 : Nat) : Int) := by omega
  have f2' : (2 : Int) < ((bs.length - 8 : Nat) : Int) := by omega
  have hw9 := wrap_at8 bs 9
  have hw10 := wrap_at8 bs 10
  refine reg_sch2 10 [(true, 0), (true, 1), (true, 2), (true, 3), (true, 4), (true, 5), (true, 6), (true, 7), (true, 8), (true, 9)] (by kernel_rfl) (by kernel_rfl) (fun W => Prs w B ad bs { bareP (kd bs) with add := ad1 bs } W) (fun W => Prs w B ad bs { bareP (kd bs) with add := ad1 bs } W) ?_ ?_ ?_
  · exact hW.drew
  · exact fun _ h => h
  intro W hSW
  simp only [List.map_cons, List.map_nil, List.getD_cons_zero, List.getD_cons_succ, List.drop_succ_cons, List.drop_zero]
  refine hd_pure (v := ?_) (by rfl) (fun W' hS' => ?_) ?_ -- 0
  rotate_left
  · have k0 : W'.cell? ⟨w.heap.size + 1, 0, none⟩ = some (.int .i64 (kd bs)) := (hS'.q.cell 0).trans (Pdu.c0 _); have e9 : W'.cell? ⟨ad.block, ad.off + 8 + 1, none⟩ = some (.int .u8 (at8 bs 9)) := hS'.rd.byte (k := 9) (by omega) (by omega); clear hS'; (go_simp; first | with_reducible rfl | rfl)
  try simp only [Act.put, List.setIfInBounds_toArray, List.set_cons_zero, List.set_cons_succ]
  refine hd_pure (v := ?_) (by rfl) (fun W' hS' => ?_) ?_ -- 1
  rotate_left
  · have k0 : W'.cell? ⟨w.heap.size + 1, 0, none⟩ = some (.int .i64 (kd bs)) := (hS'.q.cell 0).trans (Pdu.c0 _); have e9 : W'.cell? ⟨ad.block, ad.off + 8 + 1, none⟩ = some (.int .u8 (at8 bs 9)) := hS'.rd.byte (k := 9) (by omega) (by omega); clear hS'; (go_simp; first | with_reducible rfl | rfl)
  try simp only [Act.put, List.setIfInBounds_toArray, List.set_cons_zero, List.set_cons_succ]
  refine hd_pure (v := ?_) (by rfl) (fun W' hS' => ?_) ?_ -- 2
  rotate_left
  · have k0 : W'.cell? ⟨w.heap.size + 1, 0, none⟩ = some (.int .i64 (kd bs)) := (hS'.q.cell 0).trans (Pdu.c0 _); have e9 : W'.cell? ⟨ad.block, ad.off + 8 + 1, none⟩ = some (.int .u8 (at8 bs 9)) := hS'.rd.byte (k := 9) (by omega) (by omega); clear hS'; (go_simp; first | with_reducible rfl | rfl)
  try simp only [Act.put, List.setIfInBounds_toArray, List.set_cons_zero, List.set_cons_succ]
  refine hd_pure (v := ?_) (by rfl) (fun W' hS' => ?_) ?_ -- 3
  rotate_left
  · have k0 : W'.cell? ⟨w.heap.size + 1, 0, none⟩ = some (.int .i64 (kd bs)) := (hS'.q.cell 0).trans (Pdu.c0 _); have e9 : W'.cell? ⟨ad.block, ad.off + 8 + 1, none⟩ = some (.int .u8 (at8 bs 9)) := hS'.rd.byte (k := 9) (by omega) (by omega); clear hS'; (go_simp; first | with_reducible rfl | rfl)
  try simp only [Act.put, List.setIfInBounds_toArray, List.set_cons_zero, List.set_cons_succ]
  refine hd_pure (v := ?_) (by rfl) (fun W' hS' => ?_) ?_ -- 4
  rotate_left
  · have k0 : W'.cell? ⟨w.heap.size + 1, 0, none⟩ = some (.int .i64 (kd bs)) := (hS'.q.cell 0).trans (Pdu.c0 _); have e9 : W'.cell? ⟨ad.block, ad.off + 8 + 1, none⟩ = some (.int .u8 (at8 bs 9)) := hS'.rd.byte (k := 9) (by omega) (by omega); clear hS'; (go_simp; first | with_reducible rfl | rfl)
  try simp only [Act.put, List.setIfInBounds_toArray, List.set_cons_zero, List.set_cons_succ]
  refine hd_pure (v := ?_) (by rfl) (fun W' hS' => ?_) ?_ -- 5
  rotate_left
  · have k0 : W'.cell? ⟨w.heap.size + 1, 0, none⟩ = some (.int .i64 (kd bs)) := (hS'.q.cell 0).trans (Pdu.c0 _); have e9 : W'.cell? ⟨ad.block, ad.off + 8 + 1, none⟩ = some (.int .u8 (at8 bs 9)) := hS'.rd.byte (k := 9) (by omega) (by omega); clear hS'; (go_simp; first | with_reducible rfl | rfl)
  try simp only [Act.put, List.setIfInBounds_toArray, List.set_cons_zero, List.set_cons_succ]
  refine hd_pure (v := ?_) (by rfl) (fun W' hS' => ?_) ?_ -- 6
  rotate_left
  · have k0 : W'.cell? ⟨w.heap.size + 1, 0, none⟩ = some (.int .i64 (kd bs)) := (hS'.q.cell 0).trans (Pdu.c0 _); have e9 : W'.cell? ⟨ad.block, ad.off + 8 + 1, none⟩ = some (.int .u8 (at8 bs 9)) := hS'.rd.byte (k := 9) (by omega) (by omega); clear hS'; (go_simp; first | with_reducible rfl | rfl)
  try simp only [Act.put, List.setIfInBounds_toArray, List.set_cons_zero, List.set_cons_succ]
  refine hd_pure (v := ?_) (by rfl) (fun W' hS' => ?_) ?_ -- 7
  rotate_left
  · have k0 : W'.cell? ⟨w.heap.size + 1, 0, none⟩ = some (.int .i64 (kd bs)) := (hS'.q.cell 0).trans (Pdu.c0 _); have e9 : W'.cell? ⟨ad.block, ad.off + 8 + 1, none⟩ = some (.int .u8 (at8 bs 9)) := hS'.rd.byte (k := 9) (by omega) (by omega); clear hS'; (go_simp; first | with_reducible rfl | rfl)
  try simp only [Act.put, List.setIfInBounds_toArray, List.set_cons_zero, List.set_cons_succ]
  refine hd_pure (v := ?_) (by rfl) (fun W' hS' => ?_) ?_ -- 8
  rotate_left
  · have k0 : W'.cell? ⟨w.heap.size + 1, 0, none⟩ = some (.int .i64 (kd bs)) := (hS'.q.cell 0).trans (Pdu.c0 _); have e9 : W'.cell? ⟨ad.block, ad.off + 8 + 1, none⟩ = some (.int .u8 (at8 bs 9)) := hS'.rd.byte (k := 9) (by omega) (by omega); clear hS'; (go_simp; first | with_reducible rfl | rfl)
  try simp only [Act.put, List.setIfInBounds_toArray, List.set_cons_zero, List.set_cons_succ]
  refine hd_pure (v := ?_) (by rfl) (fun W' hS' => ?_) ?_ -- 9
  rotate_left
  · have k0 : W'.cell? ⟨w.heap.size + 1, 0, none⟩ = some (.int .i64 (kd bs)) := (hS'.q.cell 0).trans (Pdu.c0 _); have e9 : W'.cell? ⟨ad.block, ad.off + 8 + 1, none⟩ = some (.int .u8 (at8 bs 9)) := hS'.rd.byte (k := 9) (by omega) (by omega); clear hS'; (go_simp; first | with_reducible rfl | rfl)
  try simp only [Act.put, List.setIfInBounds_toArray, List.set_cons_zero, List.set_cons_succ]
  refine hd_nil ?_
  replace hW := hSW; clear hSW
  go_wp2_with (refine wpList_store_at rfl 65 _ _ rfl (w.heap.size + 1) 5 18 69 (Pfx.cells ⟨false, zA16, at8 bs 9⟩) _ rfl rfl hW.q (Pfx.cells_length _) (by rw [Pdu.cells_length]; omega) info_pfx (Pfx.one _) ?_)
  refine NoPanic.normal ?_
  refine exit_gen (Prs w B ad bs { bareP (kd bs) with add := ad1 bs, v := ⟨0, ⟨false, zA16, at8 bs 9⟩, 0⟩ }) (hW.put hB (by rw [Pfx.cells_length]; omega) (set_pfx _ _ _ _ _ _ _ _ _ _)) ?_
  clear hW
  intro W3 hW
  have e10 : W3.cell? ⟨ad.block, ad.off + 8 + 2, none⟩ = some (.int .u8 (at8 bs 10)) := hW.rd.byte (k := 10) (by omega) (by omega)
  have k23 := (hW.q.cell 23).trans (Pdu.c23 _)
  have p23 := hW.q.frozen 23
  go_upto_region 17 with fail
  refine wp_gen (Prs w B ad bs { bareP (kd bs) with add := ad1 bs, v := ⟨0, ⟨false, zA16, at8 bs 9⟩, at8 bs 10⟩ }) (hW.set hB (set_mx _ _ _ _ _ _ _ _ _ _)) ?_
  clear e10 k23 p23 hW
  intro W4 hW
  have f4' : (4 : Int) ≤ ((bs.length - 8 : Nat) : Int) := by omega
  have fc2 : ¬ c - 8 = 4 := by omega
  refine reg_sch2 8 [(true, 0), (true, 1), (true, 2), (true, 3), (true, 4), (true, 5), (true, 6), (false, 7)] (by kernel_rfl) (by kernel_rfl) (fun W => Reads W B 1 (some ad) bs.length (bs.map bv)) (Prs w B ad bs { bareP (kd bs) with add := ad1 bs, v := ⟨0, ⟨false, zA16, at8 bs 9⟩, at8 bs 10⟩ }) ?_ ?_ ?_
  · exact hW.drew
  · exact fun _ h => h.rd
  intro W hSW
  simp only [List.map_cons, List.map_nil, List.getD_cons_zero, List.getD_cons_succ, List.drop_succ_cons, List.drop_zero]
  refine hd_pure (v := ?_) (by rfl) (fun W' hS' => ?_) ?_ -- 0
  rotate_left
  · (go_simp; first | with_reducible rfl | rfl)
  try simp only [Act.put, List.setIfInBounds_toArray, List.set_cons_zero, List.set_cons_succ]
  refine hd_pure (v := ?_) (by rfl) (fun W' hS' => ?_) ?_ -- 1
  rotate_left
  · (go_simp; first | with_reducible rfl | rfl)
  try simp only [Act.put, List.setIfInBounds_toArray, List.set_cons_zero, List.set_cons_succ]
  refine hd_pure (v := ?_) (by rfl) (fun W' hS' => ?_) ?_ -- 2
  rotate_left
  · (go_simp; first | with_reducible rfl | rfl)
  try simp only [Act.put, List.setIfInBounds_toArray, List.set_cons_zero, List.set_cons_succ]
  refine hd_pure (v := ?_) (by rfl) (fun W' hS' => ?_) ?_ -- 3
  rotate_left
  · (go_simp; first | with_reducible rfl | rfl)
  try simp only [Act.put, List.setIfInBounds_toArray, List.set_cons_zero, List.set_cons_succ]
  refine hd_pure (v := ?_) (by rfl) (fun W' hS' => ?_) ?_ -- 4
  rotate_left
  · (go_simp; first | with_reducible rfl | rfl)
  try simp only [Act.put, List.setIfInBounds_toArray, List.set_cons_zero, List.set_cons_succ]
  refine hd_pure (v := ?_) (by rfl) (fun W' hS' => ?_) ?_ -- 5
  rotate_left
  · (go_simp; first | with_reducible rfl | rfl)
  try simp only [Act.put, List.setIfInBounds_toArray, List.set_cons_zero, List.set_cons_succ]
  refine hd_pure (v := ?_) (by rfl) (fun W' hS' => ?_) ?_ -- 6
  rotate_left
  · (go_simp; first | with_reducible rfl | rfl)
  try simp only [Act.put, List.setIfInBounds_toArray, List.set_cons_zero, List.set_cons_succ]
  refine hd_sole (by rfl) (fun K hK => ?_) -- 7
  have hrd12 := hSW.rd.cut1 (k := 12) (m := bs.length - 12) (by omega) (by omega) rfl
  have hcp := run_copy_cells (P := Tryz.prog) W 29 29 3 5 (w.heap.size + 1) 6 4 16 ⟨ad.block, ad.off + 8 + 4, none⟩ (bs.length - 8 - 4) (c - 8 - 4) (((bs.drop 12).take 4).map bv) Tryz.underlying29 (by kernel_rfl) (by rw [List.length_map, List.length_take, List.length_drop]; show min _ _ = min _ _; omega) (fun j v hj => by obtain ⟨ad', e, _, hc'⟩ := (hrd12.take1 (k := 4) (by omega)).2 (by omega); cases e; exact hc' j v hj) (fun j hj => by rw [hSW.q.cell]; simp [Pdu.cells_length] at hj ⊢; omega) (fun j hj => hSW.q.frozen _) (fun v hv => by simp only [List.mem_map] at hv; obtain ⟨b, _, rfl⟩ := hv; rfl)
  clear hrd12
  have hput := hSW.put (vs := ((bs.drop 12).take 4).map bv) (o := 6) hB (by rw [List.length_map, List.length_take]; omega) (set_addr _ _ _ _ _ _ _ _ _ _ _ (by rw [List.length_take]; omega))
  rw [List.map_take, List.map_drop] at hput
  go_simp
  clear hcp
  refine hK _ _ (hput.rd) ?_
  clear hK K
  intro hSW7
  try simp only [Act.put, List.setIfInBounds_toArray, List.set_cons_zero, List.set_cons_succ]
  refine hd_nil ?_
  replace hW := hput; clear hput hSW hSW7
  refine wpList_nil (NoPanic.normal ?_)
  have fz : ((8 : Int)) ≤ ((bs.length - 8 : Nat) : Int) := by omega
  have fcz : ¬ c - 8 = 8 := by omega
  refine exit_gen (Prs w B ad bs { bareP (kd bs) with add := ad1 bs, v := ⟨0, ⟨false, a16 ((bs.drop 12).take 4), at8 bs 9⟩, at8 bs 10⟩ }) hW ?_
  clear hW
  intro W5 hW
  go_upto_region 21 with (go_at_call 124; refine (word_n (bs.drop (12 + 4)) (bs.length - 8 - 8) (by simp; omega) (by omega) (some ⟨ad.block, ad.off + 8 + 8, none⟩) _ B (by omega) _ (hW.rd.cut1 (k := 12 + 4) (by omega) (by omega) (by omega))).mono ?_; rintro e w' ⟨rfl, rfl⟩; rw [HU.out]; have k4 := (hW.q.cell 4).trans (Pdu.c4 _); have f4 := hW.q.frozen 4)
  refine wp_gen (Prs w B ad bs { bareP (kd bs) with add := ad1 bs, v := ⟨UInt32.ofNat (wordOf (bs.drop (12 + 4))), ⟨false, a16 ((bs.drop 12).take 4), at8 bs 9⟩, at8 bs 10⟩ }) (hW.set hB (set_asn _ _ _ _ _ (UInt32.ofNat (wordOf (bs.drop (12 + 4)))) _ _ _ _)) ?_
  clear k4 f4 hW
  intro W6 hW
  go_wp2_with (first | (refine wpList_load_at rfl 69 _ rfl (w.heap.size + 1) 0 26 rfl _ _ hW.q.range (Pdu.cells_length _) Tryz.underlying69 rfl info_pdu ?_) | (refine wpList_store_at rfl 69 _ _ rfl w.heap.size 0 26 69 _ _ rfl rfl hW.z (Pdu.cells_length _) (by rw [Pdu.cells_length]; omega) info_pdu (Pdu.one _) ?_))
  obtain ⟨hr, hb⟩ := prs_end hW
  exact bodyPost_ret (results_cell1 rfl _ w.heap.size 0 26 _ _ rfl hr.range (Pdu.cells_length _) Tryz.underlying69 rfl info_pdu) rfl ⟨by rw [HR.out]; rfl, hb⟩
set_option maxRecDepth 100000 in
set_option maxHeartbeats 1000000 in
theorem parse_6 (bs : List UInt8) (hn : 32 ≤ bs.length) (A : Option Addr) (c B : Nat) (hc : bs.length ≤ c) (w : World) (hB : B ≤ w.heap.size) (hr : Reads w B 1 A bs.length (bs.map bv)) (hk : kd bs = 6) :
    Calls Tryz.prog 107 #[.slice A bs.length c] w fun e w' => e = .returned (parseOf bs).val ∧ Below w.heap.size w w' := by
  have HR := Lib.hid (show parseOf bs = { bareP (kd bs) with add := ad1 bs, v := ⟨UInt32.ofNat (wordOf (bs.drop (12 + 16))), ⟨true, a16 ((bs.drop 12).take 16), at8 bs 9⟩, at8 bs 10⟩ } by simp [parseOf, hk, widthOf, ad1])
  have hwd := Lib.hid (show widthOf (kd bs) = 16 by simp [widthOf, hk])
  have b0 : (kd bs == 0) = false := by simp; omega
  have b1 : (kd bs == 1) = false := by simp; omega
  have b3 : (kd bs == 3) = false := by simp; omega
  have b4 : (kd bs == 4) = false := by simp; omega
  have b6 : (kd bs == 6) = true := by simp; omega
  have b7 : (kd bs == 7) = false := by simp; omega
  have b10 : (kd bs == 10) = false := by simp; omega
  have hu : (wordOf (bs.drop (12 + 16)) : Int) = ((UInt32.ofNat (wordOf (bs.drop (12 + 16)))).toNat : Int) := by simp [UInt32.toNat_ofNat', Nat.mod_eq_of_lt (wordOf_lt _)]
  have HU := Lib.hid hu
  clear hu
  have hmid := or_mid bs
  have HK := Lib.hid hk
  clear hk
  obtain ⟨ad, rfl, hb, hcell⟩ := hr.2 (by omega)
  clear hcell hb
  have hw1 : IntKind.i64.wrap (at8 bs 1 : Int) = kd bs := wrap_at8 bs 1
  have hw2 := wrap_at8 bs 2
  have hw3 := wrap_at8 bs 3
  have f1 : (1 : Int) < (bs.length : Int) := by omega
  have f2 : (2 : Int) < (bs.length : Int) := by omega
  have f3 : (3 : Int) < (bs.length : Int) := by omega
  have f8 : (8 : Int) ≤ (bs.length : Int) := by omega
  go_enter Tryz.func107, Tryz.ntmps107
  go_upto_region 1 with fail
  refine wp_gen (Prs0 w B ad bs) (prs0 hB hr) ?_
  intro W0 h0
  have e1 := h0.rd.byte (k := 1) (by omega) (by omega)
  have es := h0.sz
  go_upto_region 2 with (refine wpList_store_at rfl 69 _ _ rfl (w.heap.size + 1) 0 26 69 (bareL (kd bs)) (bareL 0) rfl rfl (blk_new' _ _ _ _ es) rfl (by decide) info_pdu (by rw [bareL_eq]; exact Pdu.one _) ?_)
  try rw [es]
  refine wp_gen (Prs w B ad bs (bareP (kd bs))) (prs_start h0 hB (kd bs)) ?_
  clear e1 es h0
  intro W hW
  refine reg_sch2 11 [(true, 0), (true, 1), (true, 2), (true, 3), (true, 4), (true, 5), (true, 6), (true, 7), (true, 8), (true, 9), (true, 10)] (by kernel_rfl) (by kernel_rfl) (fun W => Reads W B 1 (some ad) bs.length (bs.map bv)) (Prs w B ad bs (bareP (kd bs))) ?_ ?_ ?_
  · exact hW.drew
  · exact fun _ h => h.rd
  intro W hSW
  simp only [List.map_cons, List.map_nil, List.getD_cons_zero, List.getD_cons_succ, List.drop_succ_cons, List.drop_zero]
  refine hd_pure (v := ?_) (by rfl) (fun W' hS' => ?_) ?_ -- 0
  rotate_left
  · have e2 := hS'.byte (k := 2) (by omega) (by omega); have e3 := hS'.byte (k := 3) (by omega) (by omega); clear hS'; (go_simp; first | with_reducible rfl | rfl)
  try simp only [Act.put, List.setIfInBounds_toArray, List.set_cons_zero, List.set_cons_succ]
  refine hd_pure (v := ?_) (by rfl) (fun W' hS' => ?_) ?_ -- 1
  rotate_left
  · have e2 := hS'.byte (k := 2) (by omega) (by omega); have e3 := hS'.byte (k := 3) (by omega) (by omega); clear hS'; (go_simp; first | with_reducible rfl | rfl)
  try simp only [Act.put, List.setIfInBounds_toArray, List.set_cons_zero, List.set_cons_succ]
  refine hd_pure (v := ?_) (by rfl) (fun W' hS' => ?_) ?_ -- 2
  rotate_left
  · have e2 := hS'.byte (k := 2) (by omega) (by omega); have e3 := hS'.byte (k := 3) (by omega) (by omega); clear hS'; (go_simp; first | with_reducible rfl | rfl)
  try simp only [Act.put, List.setIfInBounds_toArray, List.set_cons_zero, List.set_cons_succ]
  refine hd_pure (v := ?_) (by rfl) (fun W' hS' => ?_) ?_ -- 3
  rotate_left
  · have e2 := hS'.byte (k := 2) (by omega) (by omega); have e3 := hS'.byte (k := 3) (by omega) (by omega); clear hS'; (go_simp; first | with_reducible rfl | rfl)
  try simp only [Act.put, List.setIfInBounds_toArray, List.set_cons_zero, List.set_cons_succ]
  refine hd_pure (v := ?_) (by rfl) (fun W' hS' => ?_) ?_ -- 4
  rotate_left
  · have e2 := hS'.byte (k := 2) (by omega) (by omega); have e3 := hS'.byte (k := 3) (by omega) (by omega); clear hS'; (go_simp; first | with_reducible rfl | rfl)
  try simp only [Act.put, List.setIfInBounds_toArray, List.set_cons_zero, List.set_cons_succ]
  refine hd_pure (v := ?_) (by rfl) (fun W' hS' => ?_) ?_ -- 5
  rotate_left
  · have e2 := hS'.byte (k := 2) (by omega) (by omega); have e3 := hS'.byte (k := 3) (by omega) (by omega); clear hS'; (go_simp; first | with_reducible rfl | rfl)
  try simp only [Act.put, List.setIfInBounds_toArray, List.set_cons_zero, List.set_cons_succ]
  refine hd_pure (v := ?_) (by rfl) (fun W' hS' => ?_) ?_ -- 6
  rotate_left
  · have e2 := hS'.byte (k := 2) (by omega) (by omega); have e3 := hS'.byte (k := 3) (by omega) (by omega); clear hS'; (go_simp; first | with_reducible rfl | rfl)
  try simp only [Act.put, List.setIfInBounds_toArray, List.set_cons_zero, List.set_cons_succ]
  refine hd_pure (v := ?_) (by rfl) (fun W' hS' => ?_) ?_ -- 7
  rotate_left
  · have e2 := hS'.byte (k := 2) (by omega) (by omega); have e3 := hS'.byte (k := 3) (by omega) (by omega); clear hS'; (go_simp; first | with_reducible rfl | rfl)
  try simp only [Act.put, List.setIfInBounds_toArray, List.set_cons_zero, List.set_cons_succ]
  refine hd_pure (v := ?_) (by rfl) (fun W' hS' => ?_) ?_ -- 8
  rotate_left
  · have e2 := hS'.byte (k := 2) (by omega) (by omega); have e3 := hS'.byte (k := 3) (by omega) (by omega); clear hS'; (go_simp; first | with_reducible rfl | rfl)
  try simp only [Act.put, List.setIfInBounds_toArray, List.set_cons_zero, List.set_cons_succ]
  refine hd_pure (v := ?_) (by rfl) (fun W' hS' => ?_) ?_ -- 9
  rotate_left
  · have e2 := hS'.byte (k := 2) (by omega) (by omega); have e3 := hS'.byte (k := 3) (by omega) (by omega); clear hS'; (go_simp; first | with_reducible rfl | rfl)
  try simp only [Act.put, List.setIfInBounds_toArray, List.set_cons_zero, List.set_cons_succ]
  refine hd_pure (v := ?_) (by rfl) (fun W' hS' => ?_) ?_ -- 10
  rotate_left
  · have e2 := hS'.byte (k := 2) (by omega) (by omega); have e3 := hS'.byte (k := 3) (by omega) (by omega); clear hS'; (go_simp; first | with_reducible rfl | rfl)
  try simp only [Act.put, List.setIfInBounds_toArray, List.set_cons_zero, List.set_cons_succ]
  refine hd_nil ?_
  replace hW := hSW; clear hSW
  refine wpList_nil (NoPanic.normal ?_)
  have k0 : W.cell? ⟨w.heap.size + 1, 0, none⟩ = some (.int .i64 (kd bs)) := (hW.q.cell 0).trans (Pdu.c0 _)
  have fc : ¬ c = 8 := by omega
  go_upto_region 14 with (go_at_call 59; refine (width_any (kd bs) _).mono ?_; rintro e w' ⟨rfl, rfl⟩; rw [hwd.out])
  have e8 := hW.rd.byte (k := 8) (by omega) (by omega)
  have f0 : (0 : Int) < ((bs.length - 8 : Nat) : Int) := by omega
  have k3 := (hW.q.cell 3).trans (Pdu.c3 _)
  have p3 := hW.q.frozen 3
  have hA := ad1_eq bs
  go_upto_region 15 with fail
  refine wp_gen (Prs w B ad bs { bareP (kd bs) with add := ad1 bs }) (hW.set hB (set_add _ _ _ _ _ _ _ _)) ?_
  clear k0 e8 f0 k3 p3 hA hW
  intro W2 hW
  have f1' : (1 : Int) < ((bs.length - 8 : Nat) : Int) := by omega
  have f2' : (2 : Int) < ((bs.length - 8 : Nat) : Int) := by omega
  have hw9 := wrap_at8 bs 9
  have hw10 := wrap_at8 bs 10
  refine reg_sch2 10 [(true, 0), (true, 1), (true, 2), (true, 3), (true, 4), (true, 5), (true, 6), (true, 7), (true, 8), (true, 9)] (by kernel_rfl) (by kernel_rfl) (fun W => Prs w B ad bs { bareP (kd bs) with add := ad1 bs } W) (fun W => Prs w B ad bs { bareP (kd bs) with add := ad1 bs } W) ?_ ?_ ?_
  · exact hW.drew
  · exact fun _ h => h
  intro W hSW
  simp only [List.map_cons, List.map_nil, List.getD_cons_zero, List.getD_cons_succ, List.drop_succ_cons, List.drop_zero]
  refine hd_pure (v := ?_) (by rfl) (fun W' hS' => ?_) ?_ -- 0
  rotate_left
  · have k0 : W'.cell? ⟨w.heap.size + 1, 0, none⟩ = some (.int .i64 (kd bs)) := (hS'.q.cell 0).trans (Pdu.c0 _); have e9 : W'.cell? ⟨ad.block, ad.off + 8 + 1, none⟩ = some (.int .u8 (at8 bs 9)) := hS'.rd.byte (k := 9) (by omega) (by omega); clear hS'; (go_simp; first | with_reducible rfl | rfl)
  try simp only [Act.put, List.setIfInBounds_toArray, List.set_cons_zero, List.set_cons_succ]
  refine hd_pure (v := ?_) (by rfl) (fun W' hS' => ?_) ?_ -- 1
  rotate_left
  · have k0 : W'.cell? ⟨w.heap.size + 1, 0, none⟩ = some (.int .i64 (kd bs)) := (hS'.q.cell 0).trans (Pdu.c0 _); have e9 : W'.cell? ⟨ad.block, ad.off + 8 + 1, none⟩ = some (.int .u8 (at8 bs 9)) := hS'.rd.byte (k := 9) (by omega) (by omega); clear hS'; (go_simp; first | with_reducible rfl | rfl)
  try simp only [Act.put, List.setIfInBounds_toArray, List.set_cons_zero, List.set_cons_succ]
  refine hd_pure (v := ?_) (by rfl) (fun W' hS' => ?_) ?_ -- 2
  rotate_left
  · have k0 : W'.cell? ⟨w.heap.size + 1, 0, none⟩ = some (.int .i64 (kd bs)) := (hS'.q.cell 0).trans (Pdu.c0 _); have e9 : W'.cell? ⟨ad.block, ad.off + 8 + 1, none⟩ = some (.int .u8 (at8 bs 9)) := hS'.rd.byte (k := 9) (by omega) (by omega); clear hS'; (go_simp; first | with_reducible rfl | rfl)
  try simp only [Act.put, List.setIfInBounds_toArray, List.set_cons_zero, List.set_cons_succ]
  refine hd_pure (v := ?_) (by rfl) (fun W' hS' => ?_) ?_ -- 3
  rotate_left
  · have k0 : W'.cell? ⟨w.heap.size + 1, 0, none⟩ = some (.int .i64 (kd bs)) := (hS'.q.cell 0).trans (Pdu.c0 _); have e9 : W'.cell? ⟨ad.block, ad.off + 8 + 1, none⟩ = some (.int .u8 (at8 bs 9)) := hS'.rd.byte (k := 9) (by omega) (by omega); clear hS'; (go_simp; first | with_reducible rfl | rfl)
  try simp only [Act.put, List.setIfInBounds_toArray, List.set_cons_zero, List.set_cons_succ]
  refine hd_pure (v := ?_) (by rfl) (fun W' hS' => ?_) ?_ -- 4
  rotate_left
  · have k0 : W'.cell? ⟨w.heap.size + 1, 0, none⟩ = some (.int .i64 (kd bs)) := (hS'.q.cell 0).trans (Pdu.c0 _); have e9 : W'.cell? ⟨ad.block, ad.off + 8 + 1, none⟩ = some (.int .u8 (at8 bs 9)) := hS'.rd.byte (k := 9) (by omega) (by omega); clear hS'; (go_simp; first | with_reducible rfl | rfl)
  try simp only [Act.put, List.setIfInBounds_toArray, List.set_cons_zero, List.set_cons_succ]
  refine hd_pure (v := ?_) (by rfl) (fun W' hS' => ?_) ?_ -- 5
  rotate_left
  · have k0 : W'.cell? ⟨w.heap.size + 1, 0, none⟩ = some (.int .i64 (kd bs)) := (hS'.q.cell 0).trans (Pdu.c0 _); have e9 : W'.cell? ⟨ad.block, ad.off + 8 + 1, none⟩ = some (.int .u8 (at8 bs 9)) := hS'.rd.byte (k := 9) (by omega) (by omega); clear hS'; (go_simp; first | with_reducible rfl | rfl)
  try simp only [Act.put, List.setIfInBounds_toArray, List.set_cons_zero, List.set_cons_succ]
  refine hd_pure (v := ?_) (by rfl) (fun W' hS' => ?_) ?_ -- 6
  rotate_left
  · have k0 : W'.cell? ⟨w.heap.size + 1, 0, none⟩ = some (.int .i64 (kd bs)) := (hS'.q.cell 0).trans (Pdu.c0 _); have e9 : W'.cell? ⟨ad.block, ad.off + 8 + 1, none⟩ = some (.int .u8 (at8 bs 9)) := hS'.rd.byte (k := 9) (by omega) (by omega); clear hS'; (go_simp; first | with_reducible rfl | rfl)
  try simp only [Act.put, List.setIfInBounds_toArray, List.set_cons_zero, List.set_cons_succ]
  refine hd_pure (v := ?_) (by rfl) (fun W' hS' => ?_) ?_ -- 7
  rotate_left
  · have k0 : W'.cell? ⟨w.heap.size + 1, 0, none⟩ = some (.int .i64 (kd bs)) := (hS'.q.cell 0).trans (Pdu.c0 _); have e9 : W'.cell? ⟨ad.block, ad.off + 8 + 1, none⟩ = some (.int .u8 (at8 bs 9)) := hS'.rd.byte (k := 9) (by omega) (by omega); clear hS'; (go_simp; first | with_reducible rfl | rfl)
  try simp only [Act.put, List.setIfInBounds_toArray, List.set_cons_zero, List.set_cons_succ]
  refine hd_pure (v := ?_) (by rfl) (fun W' hS' => ?_) ?_ -- 8
  rotate_left
  · have k0 : W'.cell? ⟨w.heap.size + 1, 0, none⟩ = some (.int .i64 (kd bs)) := (hS'.q.cell 0).trans (Pdu.c0 _); have e9 : W'.cell? ⟨ad.block, ad.off + 8 + 1, none⟩ = some (.int .u8 (at8 bs 9)) := hS'.rd.byte (k := 9) (by omega) (by omega); clear hS'; (go_simp; first | with_reducible rfl | rfl)
  try simp only [Act.put, List.setIfInBounds_toArray, List.set_cons_zero, List.set_cons_succ]
  refine hd_pure (v := ?_) (by rfl) (fun W' hS' => ?_) ?_ -- 9
  rotate_left
  · have k0 : W'.cell? ⟨w.heap.size + 1, 0, none⟩ = some (.int .i64 (kd bs)) := (hS'.q.cell 0).trans (Pdu.c0 _); have e9 : W'.cell? ⟨ad.block, ad.off + 8 + 1, none⟩ = some (.int .u8 (at8 bs 9)) := hS'.rd.byte (k := 9) (by omega) (by omega); clear hS'; (go_simp; first | with_reducible rfl | rfl)
  try simp only [Act.put, List.setIfInBounds_toArray, List.set_cons_zero, List.set_cons_succ]
  refine hd_nil ?_
  replace hW := hSW; clear hSW
  go_wp2_with (refine wpList_store_at rfl 65 _ _ rfl (w.heap.size + 1) 5 18 69 (Pfx.cells ⟨true, zA16, at8 bs 9⟩) _ rfl rfl hW.q (Pfx.cells_length _) (by rw [Pdu.cells_length]; omega) info_pfx (Pfx.one _) ?_)
  refine NoPanic.normal ?_
  refine exit_gen (Prs w B ad bs { bareP (kd bs) with add := ad1 bs, v := ⟨0, ⟨true, zA16, at8 bs 9⟩, 0⟩ }) (hW.put hB (by rw [Pfx.cells_length]; omega) (set_pfx _ _ _ _ _ _ _ _ _ _)) ?_
  clear hW
  intro W3 hW
  have e10 : W3.cell? ⟨ad.block, ad.off + 8 + 2, none⟩ = some (.int .u8 (at8 bs 10)) := hW.rd.byte (k := 10) (by omega) (by omega)
  have k23 := (hW.q.cell 23).trans (Pdu.c23 _)
  have p23 := hW.q.frozen 23
  go_upto_region 17 with fail
  refine wp_gen (Prs w B ad bs { bareP (kd bs) with add := ad1 bs, v := ⟨0, ⟨true, zA16, at8 bs 9⟩, at8 bs 10⟩ }) (hW.set hB (set_mx _ _ _ _ _ _ _ _ _ _)) ?_
  clear e10 k23 p23 hW
  intro W4 hW
  have f4' : (4 : Int) ≤ ((bs.length - 8 : Nat) : Int) := by omega
  have fc2 : ¬ c - 8 = 4 := by omega
  refine reg_sch2 8 [(true, 0), (true, 1), (true, 2), (true, 3), (true, 4), (true, 5), (true, 6), (false, 7)] (by kernel_rfl) (by kernel_rfl) (fun W => Reads W B 1 (some ad) bs.length (bs.map bv)) (Prs w B ad bs { bareP (kd bs) with add := ad1 bs, v := ⟨0, ⟨true, zA16, at8 bs 9⟩, at8 bs 10⟩ }) ?_ ?_ ?_
  · exact hW.drew
  · exact fun _ h => h.rd
  intro W hSW
  simp only [List.map_cons, List.map_nil, List.getD_cons_zero, List.getD_cons_succ, List.drop_succ_cons, List.drop_zero]
  refine hd_pure (v := ?_) (by rfl) (fun W' hS' => ?_) ?_ -- 0
  rotate_left
  · (go_simp; first | with_reducible rfl | rfl)
  try simp only [Act.put, List.setIfInBounds_toArray, List.set_cons_zero, List.set_cons_succ]
  refine hd_pure (v := ?_) (by rfl) (fun W' hS' => ?_) ?_ -- 1
  rotate_left
  · (go_simp; first | with_reducible rfl | rfl)
  try simp only [Act.put, List.setIfInBounds_toArray, List.set_cons_zero, List.set_cons_succ]
  refine hd_pure (v := ?_) (by rfl) (fun W' hS' => ?_) ?_ -- 2
  rotate_left
  · (go_simp; first | with_reducible rfl | rfl)
  try simp only [Act.put, List.setIfInBounds_toArray, List.set_cons_zero, List.set_cons_succ]
  refine hd_pure (v := ?_) (by rfl) (fun W' hS' => ?_) ?_ -- 3
  rotate_left
  · (go_simp; first | with_reducible rfl | rfl)
  try simp only [Act.put, List.setIfInBounds_toArray, List.set_cons_zero, List.set_cons_succ]
  refine hd_pure (v := ?_) (by rfl) (fun W' hS' => ?_) ?_ -- 4
  rotate_left
  · (go_simp; first | with_reducible rfl | rfl)
  try simp only [Act.put, List.setIfInBounds_toArray, List.set_cons_zero, List.set_cons_succ]
  refine hd_pure (v := ?_) (by rfl) (fun W' hS' => ?_) ?_ -- 5
  rotate_left
  · (go_simp; first | with_reducible rfl | rfl)
  try simp only [Act.put, List.setIfInBounds_toArray, List.set_cons_zero, List.set_cons_succ]
  refine hd_pure (v := ?_) (by rfl) (fun W' hS' => ?_) ?_ -- 6
  rotate_left
  · (go_simp; first | with_reducible rfl | rfl)
  try simp only [Act.put, List.setIfInBounds_toArray, List.set_cons_zero, List.set_cons_succ]
  refine hd_sole (by rfl) (fun K hK => ?_) -- 7
  have hrd12 := hSW.rd.cut1 (k := 12) (m := bs.length - 12) (by omega) (by omega) rfl
  have hcp := run_copy_cells (P := Tryz.prog) W 29 29 3 5 (w.heap.size + 1) 6 16 16 ⟨ad.block, ad.off + 8 + 4, none⟩ (bs.length - 8 - 4) (c - 8 - 4) (((bs.drop 12).take 16).map bv) Tryz.underlying29 (by kernel_rfl) (by rw [List.length_map, List.length_take, List.length_drop]; show min _ _ = min _ _; omega) (fun j v hj => by obtain ⟨ad', e, _, hc'⟩ := (hrd12.take1 (k := 16) (by omega)).2 (by omega); cases e; exact hc' j v hj) (fun j hj => by rw [hSW.q.cell]; simp [Pdu.cells_length] at hj ⊢; omega) (fun j hj => hSW.q.frozen _) (fun v hv => by simp only [List.mem_map] at hv; obtain ⟨b, _, rfl⟩ := hv; rfl)
  clear hrd12
  have hput := hSW.put (vs := ((bs.drop 12).take 16).map bv) (o := 6) hB (by rw [List.length_map, List.length_take]; omega) (set_addr _ _ _ _ _ _ _ _ _ _ _ (by rw [List.length_take]; omega))
  rw [List.map_take, List.map_drop] at hput
  go_simp
  clear hcp
  refine hK _ _ (hput.rd) ?_
  clear hK K
  intro hSW7
  try simp only [Act.put, List.setIfInBounds_toArray, List.set_cons_zero, List.set_cons_succ]
  refine hd_nil ?_
  replace hW := hput; clear hput hSW hSW7
  refine wpList_nil (NoPanic.normal ?_)
  have fz : ((20 : Int)) ≤ ((bs.length - 8 : Nat) : Int) := by omega
  have fcz : ¬ c - 8 = 20 := by omega
  refine exit_gen (Prs w B ad bs { bareP (kd bs) with add := ad1 bs, v := ⟨0, ⟨true, a16 ((bs.drop 12).take 16), at8 bs 9⟩, at8 bs 10⟩ }) hW ?_
  clear hW
  intro W5 hW
  go_upto_region 21 with (go_at_call 124; refine (word_n (bs.drop (12 + 16)) (bs.length - 8 - 20) (by simp; omega) (by omega) (some ⟨ad.block, ad.off + 8 + 20, none⟩) _ B (by omega) _ (hW.rd.cut1 (k := 12 + 16) (by omega) (by omega) (by omega))).mono ?_; rintro e w' ⟨rfl, rfl⟩; rw [HU.out]; have k4 := (hW.q.cell 4).trans (Pdu.c4 _); have f4 := hW.q.frozen 4)
  refine wp_gen (Prs w B ad bs { bareP (kd bs) with add := ad1 bs, v := ⟨UInt32.ofNat (wordOf (bs.drop (12 + 16))), ⟨true, a16 ((bs.drop 12).take 16), at8 bs 9⟩, at8 bs 10⟩ }) (hW.set hB (set_asn _ _ _ _ _ (UInt32.ofNat (wordOf (bs.drop (12 + 16)))) _ _ _ _)) ?_
  clear k4 f4 hW
  intro W6 hW
  go_wp2_with (first | (refine wpList_load_at rfl 69 _ rfl (w.heap.size + 1) 0 26 rfl _ _ hW.q.range (Pdu.cells_length _) Tryz.underlying69 rfl info_pdu ?_) | (refine wpList_store_at rfl 69 _ _ rfl w.heap.size 0 26 69 _ _ rfl rfl hW.z (Pdu.cells_length _) (by rw [Pdu.cells_length]; omega) info_pdu (Pdu.one _) ?_))
  obtain ⟨hr, hb⟩ := prs_end hW
  exact bodyPost_ret (results_cell1 rfl _ w.heap.size 0 26 _ _ rfl hr.range (Pdu.cells_length _) Tryz.underlying69 rfl info_pdu) rfl ⟨by rw [HR.out]; rfl, hb⟩
theorem parse_any (bs : List UInt8) (h8 : 8 ≤ bs.length) (hl : lenOf (kd bs) ≤ bs.length) (hki : isKind (kd bs) = true) (A : Option Addr) (c B : Nat) (hc : bs.length ≤ c) (w : World) (hB : B ≤ w.heap.size) (hr : Reads w B 1 A bs.length (bs.map bv)) :
    Calls Tryz.prog 107 #[.slice A bs.length c] w fun e w' => e = .returned (parseOf bs).val ∧ Below w.heap.size w w' := by
  have hk : kd bs = 0 ∨ kd bs = 1 ∨ kd bs = 2 ∨ kd bs = 3 ∨ kd bs = 4 ∨ kd bs = 6 ∨ kd bs = 7 ∨ kd bs = 8 ∨ kd bs = 10 := by simpa [isKind] using hki
  rcases hk with h | h | h | h | h | h | h | h | h <;> rw [h] at hl
  · exact parse_0 bs (by simp [lenOf] at hl; omega) A c B hc w hB hr h
  · exact parse_1 bs (by simp [lenOf] at hl; omega) A c B hc w hB hr h
  · exact parse_28 bs h8 A c B hc w hB hr (.inl h)
  · exact parse_3 bs h8 A c B hc w hB hr h
  · exact parse_4 bs (by simp [lenOf] at hl; omega) A c B hc w hB hr h
  · exact parse_6 bs (by simp [lenOf] at hl; omega) A c B hc w hB hr h
  · exact parse_7 bs (by simp [lenOf] at hl; omega) A c B hc w hB hr h
  · exact parse_28 bs h8 A c B hc w hB hr (.inr h)
  · exact parse_10 bs (by simp [lenOf] at hl; omega) A c B hc w hB hr h
end Go.Proofs.YtmoldmnhijcckaaGreat
