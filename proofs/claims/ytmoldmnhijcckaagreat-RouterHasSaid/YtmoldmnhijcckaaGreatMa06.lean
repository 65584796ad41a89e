/- The contracts of cmp.Compare, cmp.Or, roa.Cmp, vrp.cmp and the closures of vrp.row. -/
import Derived.Test.YtmoldmnhijcckaaGreatMa03
import Derived.Test.YtmoldmnhijcckaaGreatMa05
set_option linter.unusedVariables false
set_option linter.unusedSectionVars false
set_option linter.unusedSimpArgs false
namespace Go.Proofs.YtmoldmnhijcckaaGreat
open Go.RowKit
theorem nan_int (x : Int) (w : World) : Calls Tryz.prog 152 #[.int .i64 x] w fun e w' => e = .returned (.bool false) ∧ w = w' := by
  go_enter Tryz.func152, Tryz.ntmps152
  go_wp2_with fail
  go_ret
  exact ⟨rfl, rfl⟩
theorem compare_int (x y : Int) (w : World) : Calls Tryz.prog 140 #[.int .i64 x, .int .i64 y] w fun e w' => e = .returned (.int .i64 (cmpI x y)) ∧ w = w' := by
  by_cases h1 : x < y
  · have d1 : decide (x < y) = true := decide_eq_true h1
    have HR := Lib.hid (show cmpI x y = -1 by unfold cmpI; rw [if_pos h1])
    clear h1
    go_enter Tryz.func140, Tryz.ntmps140
    go_wp2_with fail
    refine (nan_int x _).mono ?_
    rintro e w1 ⟨rfl, rfl⟩
    go_wp2_with fail
    refine (nan_int y _).mono ?_
    rintro e w1 ⟨rfl, rfl⟩
    go_wp2_with fail
    go_ret
    exact ⟨by rw [HR.out]; first | done | rfl, rfl⟩
  · have d1 : decide (x < y) = false := decide_eq_false h1
    by_cases h2 : y < x
    · have d2 : decide (y < x) = true := decide_eq_true h2
      have HR := Lib.hid (show cmpI x y = 1 by unfold cmpI; rw [if_neg h1, if_pos h2])
      clear h1 h2
      go_enter Tryz.func140, Tryz.ntmps140
      go_wp2_with fail
      refine (nan_int x _).mono ?_
      rintro e w1 ⟨rfl, rfl⟩
      go_wp2_with fail
      refine (nan_int y _).mono ?_
      rintro e w1 ⟨rfl, rfl⟩
      go_wp2_with fail
      go_ret
      exact ⟨by rw [HR.out]; first | done | rfl, rfl⟩
    · have d2 : decide (y < x) = false := decide_eq_false h2
      have HR := Lib.hid (show cmpI x y = 0 by unfold cmpI; rw [if_neg h1, if_neg h2])
      clear h1 h2
      go_enter Tryz.func140, Tryz.ntmps140
      go_wp2_with fail
      refine (nan_int x _).mono ?_
      rintro e w1 ⟨rfl, rfl⟩
      go_wp2_with fail
      refine (nan_int y _).mono ?_
      rintro e w1 ⟨rfl, rfl⟩
      go_wp2_with fail
      go_ret
      exact ⟨by rw [HR.out]; first | done | rfl, rfl⟩
theorem nan_uint32 (x : Int) (w : World) : Calls Tryz.prog 153 #[.int .u32 x] w fun e w' => e = .returned (.bool false) ∧ w = w' := by
  go_enter Tryz.func153, Tryz.ntmps153
  go_wp2_with fail
  go_ret
  exact ⟨rfl, rfl⟩
theorem compare_uint32 (x y : Int) (w : World) : Calls Tryz.prog 141 #[.int .u32 x, .int .u32 y] w fun e w' => e = .returned (.int .i64 (cmpI x y)) ∧ w = w' := by
  by_cases h1 : x < y
  · have d1 : decide (x < y) = true := decide_eq_true h1
    have HR := Lib.hid (show cmpI x y = -1 by unfold cmpI; rw [if_pos h1])
    clear h1
    go_enter Tryz.func141, Tryz.ntmps141
    go_wp2_with fail
    refine (nan_uint32 x _).mono ?_
    rintro e w1 ⟨rfl, rfl⟩
    go_wp2_with fail
    refine (nan_uint32 y _).mono ?_
    rintro e w1 ⟨rfl, rfl⟩
    go_wp2_with fail
    go_ret
    exact ⟨by rw [HR.out]; first | done | rfl, rfl⟩
  · have d1 : decide (x < y) = false := decide_eq_false h1
    by_cases h2 : y < x
    · have d2 : decide (y < x) = true := decide_eq_true h2
      have HR := Lib.hid (show cmpI x y = 1 by unfold cmpI; rw [if_neg h1, if_pos h2])
      clear h1 h2
      go_enter Tryz.func141, Tryz.ntmps141
      go_wp2_with fail
      refine (nan_uint32 x _).mono ?_
      rintro e w1 ⟨rfl, rfl⟩
      go_wp2_with fail
      refine (nan_uint32 y _).mono ?_
      rintro e w1 ⟨rfl, rfl⟩
      go_wp2_with fail
      go_ret
      exact ⟨by rw [HR.out]; first | done | rfl, rfl⟩
    · have d2 : decide (y < x) = false := decide_eq_false h2
      have HR := Lib.hid (show cmpI x y = 0 by unfold cmpI; rw [if_neg h1, if_neg h2])
      clear h1 h2
      go_enter Tryz.func141, Tryz.ntmps141
      go_wp2_with fail
      refine (nan_uint32 x _).mono ?_
      rintro e w1 ⟨rfl, rfl⟩
      go_wp2_with fail
      refine (nan_uint32 y _).mono ?_
      rintro e w1 ⟨rfl, rfl⟩
      go_wp2_with fail
      go_ret
      exact ⟨by rw [HR.out]; first | done | rfl, rfl⟩
def orL : List Int → Int
  | [] => 0
  | x :: r => if x = 0 then orL r else x
set_option maxRecDepth 100000 in
set_option maxHeartbeats 1000000 in
theorem or_any (xs : List Int) (n : Nat) (hn : xs.length = n) (hn2 : n ≤ 1000000) (A : Option Addr) (c B : Nat) (w : World) (hr : Reads w B 1 A n (xs.map (Value.int .i64))) :
    Calls Tryz.prog 138 #[.slice A n c] w fun e w' => e = .returned (.int .i64 (orL xs)) ∧ w = w' := by
  subst hn
  go_enter Tryz.func138, Tryz.ntmps138
  go_wp2_with fail
  go_loopw [5, 8] (fun v i wr => ∃ k : Nat, k ≤ xs.length ∧ i = .int .i64 k ∧ w = wr ∧ Hid (orL xs = orL (xs.drop k))) (fun _ i _ => xs.length - (intOf i).toNat)
  case atStart => exact ⟨0, by omega, rfl, rfl, Lib.hid rfl⟩
  case round =>
    obtain ⟨k, hk, rfl, rfl, HK⟩ := hrel
    by_cases hlt : k < xs.length
    · have hk0 : (0 : Int) ≤ (k : Int) := by omega
      have hk1 : (k : Int) < (xs.length : Int) := by omega
      obtain ⟨ad, rfl, _, hc⟩ := hr.2 (by omega)
      have c1 : w.cell? (ad.add k) = some (.int .i64 xs[k]) := hc k _ (by simp [hlt])
      have HD := Lib.hid (show orL xs = if xs[k] = 0 then orL (xs.drop (k + 1)) else xs[k] by rw [HK.out, List.drop_eq_getElem_cons hlt]; rfl)
      generalize xs[k] = x at c1 HD
      clear hc
      by_cases hx : x = 0
      · subst hx
        have HE := Lib.hid (show orL xs = orL (xs.drop (k + 1)) by rw [HD.out, if_pos rfl])
        clear HD HK
        go_wp2_with fail
        go_roundw
        case rel => exact ⟨k + 1, by omega, by go_num, by first | rfl | trivial, HE⟩
        case measure => simp [intOf]; omega
      · have bx : (x != 0) = true := bne_iff_ne.2 hx
        have HE := Lib.hid (show orL xs = x by rw [HD.out, if_neg hx])
        clear HD HK hx
        go_wp2_with fail
        go_ret
        exact ⟨by rw [HE.out]; first | done | rfl, rfl⟩
    · have hkk : k = xs.length := by omega
      have HE := Lib.hid (show orL xs = 0 by rw [HK.out, hkk, List.drop_length]; rfl)
      subst hkk
      clear hlt hk HK
      go_wp2_with fail
      go_ret
      exact ⟨by rw [HE.out]; first | done | rfl, rfl⟩
def cmpV (a b : Vrp) : Int := orL [cmpOf a.p b.p, cmpI a.mx b.mx, cmpI a.asn.toNat b.asn.toNat]
structure VQ2 (w : World) (a b : Vrp) (W : World) : Prop where
  b1 : Blk W w.heap.size 67 a.cells
  b2 : Blk W (w.heap.size + 1) 67 b.cells
  lo : BelowD w.heap.size w W
theorem VQ2.next {w : World} {p q : Vrp} {W W' : World} (h : VQ2 w p q W) (hb : BelowD W.heap.size W W') : VQ2 w p q W' := ⟨h.b1.below hb.lo h.b1.lt, h.b2.below hb.lo h.b2.lt, h.lo.then hb⟩
theorem VQ2.drew {w : World} {p q : Vrp} {W : World} (h : VQ2 w p q W) : VQ2 w p q W.drew := ⟨h.b1.drew, h.b2.drew, h.lo.drew⟩
theorem VQ2.new (w : World) (p q : Vrp) : VQ2 w p q ((w.alloc (.cells p.cells.toArray 67)).alloc (.cells q.cells.toArray 67)) :=
  ⟨(Blk.new _ _ _).alloc _, blk_new' _ _ _ _ (by simp), ((BelowD.refl _ _).alloc (Nat.le_refl _) _).alloc (by simp) _⟩
theorem reads_blkV {w : World} {g n size : Nat} {t : TypeId} {cs : List Value} (h : Blk w g t cs) (hl : cs.length = n * size) : Reads w (g + 1) size (some ⟨g, 0, none⟩) n cs :=
  ⟨hl, fun _ => ⟨_, rfl, Nat.lt_succ_self _, fun j u hu => by rw [add_plain', Nat.zero_add, h.cell, hu]⟩⟩
theorem info_vrp1 : (Tryz.prog.info? 67).map (·.size) = some 20 := by kernel_rfl
set_option maxRecDepth 100000 in
set_option maxHeartbeats 2000000 in
theorem roaCmp_any (a b : Vrp) (w : World) : Calls Tryz.prog 120 #[a.val, b.val] w fun e w' => e = .returned (.int .i64 (cmpV a b)) ∧ BelowD w.heap.size w w' := by
  simp only [Vrp.val]
  have hP := VQ2.new w a b
  go_enter Tryz.func120, Tryz.ntmps120
  go_upto_region 1 with fail
  refine wp_gen (VQ2 w a b) hP ?_
  clear hP
  intro W0 hP
  refine reg_sch2 18 [(true, 0), (true, 1), (true, 2), (true, 3), (true, 5), (true, 6), (true, 7), (true, 8), (true, 10), (true, 11), (true, 12), (true, 13), (false, 4), (false, 9), (false, 14), (false, 15), (false, 16), (true, 17)] (by kernel_rfl) (by kernel_rfl) (VQ2 w a b) (VQ2 w a b) ?_ ?_ ?_
  · exact hP.drew
  · exact fun _ h => h
  intro W hSW
  simp only [List.map_cons, List.map_nil, List.getD_cons_zero, List.getD_cons_succ, List.drop_succ_cons, List.drop_zero]
  refine hd_pure (v := ?_) (by rfl) (fun W' hS' => ?_) ?_ -- 0
  rotate_left
  · have c0 := (hS'.b1.cell 0).trans (Vrp.c0 _); have c19 := (hS'.b1.cell 19).trans (Vrp.c19 _); have k0 := (hS'.b2.cell 0).trans (Vrp.c0 _); have k19 := (hS'.b2.cell 19).trans (Vrp.c19 _); clear hS'; (go_simp; first | with_reducible rfl | rfl)
  try simp only [Act.put, List.setIfInBounds_toArray, List.set_cons_zero, List.set_cons_succ]
  refine hd_pure (v := .agg a.p.cells.toArray) (by rfl) (fun W' hS' => exec_load_at 65 _ (by rfl) w.heap.size 1 18 (by rfl) _ _ hS'.b1.vrp_pfx (Pfx.cells_length _) Tryz.underlying65 rfl info_pfx) ?_ -- 1
  try simp only [Act.put, List.setIfInBounds_toArray, List.set_cons_zero, List.set_cons_succ]
  refine hd_pure (v := ?_) (by rfl) (fun W' hS' => ?_) ?_ -- 2
  rotate_left
  · have c0 := (hS'.b1.cell 0).trans (Vrp.c0 _); have c19 := (hS'.b1.cell 19).trans (Vrp.c19 _); have k0 := (hS'.b2.cell 0).trans (Vrp.c0 _); have k19 := (hS'.b2.cell 19).trans (Vrp.c19 _); clear hS'; (go_simp; first | with_reducible rfl | rfl)
  try simp only [Act.put, List.setIfInBounds_toArray, List.set_cons_zero, List.set_cons_succ]
  refine hd_pure (v := .agg b.p.cells.toArray) (by rfl) (fun W' hS' => exec_load_at 65 _ (by rfl) (w.heap.size + 1) 1 18 (by rfl) _ _ hS'.b2.vrp_pfx (Pfx.cells_length _) Tryz.underlying65 rfl info_pfx) ?_ -- 3
  try simp only [Act.put, List.setIfInBounds_toArray, List.set_cons_zero, List.set_cons_succ]
  refine hd_pure (v := ?_) (by rfl) (fun W' hS' => ?_) ?_ -- 5
  rotate_left
  · have c0 := (hS'.b1.cell 0).trans (Vrp.c0 _); have c19 := (hS'.b1.cell 19).trans (Vrp.c19 _); have k0 := (hS'.b2.cell 0).trans (Vrp.c0 _); have k19 := (hS'.b2.cell 19).trans (Vrp.c19 _); clear hS'; (go_simp; first | with_reducible rfl | rfl)
  try simp only [Act.put, List.setIfInBounds_toArray, List.set_cons_zero, List.set_cons_succ]
  refine hd_pure (v := ?_) (by rfl) (fun W' hS' => ?_) ?_ -- 6
  rotate_left
  · have c0 := (hS'.b1.cell 0).trans (Vrp.c0 _); have c19 := (hS'.b1.cell 19).trans (Vrp.c19 _); have k0 := (hS'.b2.cell 0).trans (Vrp.c0 _); have k19 := (hS'.b2.cell 19).trans (Vrp.c19 _); clear hS'; (go_simp; first | with_reducible rfl | rfl)
  try simp only [Act.put, List.setIfInBounds_toArray, List.set_cons_zero, List.set_cons_succ]
  refine hd_pure (v := ?_) (by rfl) (fun W' hS' => ?_) ?_ -- 7
  rotate_left
  · have c0 := (hS'.b1.cell 0).trans (Vrp.c0 _); have c19 := (hS'.b1.cell 19).trans (Vrp.c19 _); have k0 := (hS'.b2.cell 0).trans (Vrp.c0 _); have k19 := (hS'.b2.cell 19).trans (Vrp.c19 _); clear hS'; (go_simp; first | with_reducible rfl | rfl)
  try simp only [Act.put, List.setIfInBounds_toArray, List.set_cons_zero, List.set_cons_succ]
  refine hd_pure (v := ?_) (by rfl) (fun W' hS' => ?_) ?_ -- 8
  rotate_left
  · have c0 := (hS'.b1.cell 0).trans (Vrp.c0 _); have c19 := (hS'.b1.cell 19).trans (Vrp.c19 _); have k0 := (hS'.b2.cell 0).trans (Vrp.c0 _); have k19 := (hS'.b2.cell 19).trans (Vrp.c19 _); clear hS'; (go_simp; first | with_reducible rfl | rfl)
  try simp only [Act.put, List.setIfInBounds_toArray, List.set_cons_zero, List.set_cons_succ]
  refine hd_pure (v := ?_) (by rfl) (fun W' hS' => ?_) ?_ -- 10
  rotate_left
  · have c0 := (hS'.b1.cell 0).trans (Vrp.c0 _); have c19 := (hS'.b1.cell 19).trans (Vrp.c19 _); have k0 := (hS'.b2.cell 0).trans (Vrp.c0 _); have k19 := (hS'.b2.cell 19).trans (Vrp.c19 _); clear hS'; (go_simp; first | with_reducible rfl | rfl)
  try simp only [Act.put, List.setIfInBounds_toArray, List.set_cons_zero, List.set_cons_succ]
  refine hd_pure (v := ?_) (by rfl) (fun W' hS' => ?_) ?_ -- 11
  rotate_left
  · have c0 := (hS'.b1.cell 0).trans (Vrp.c0 _); have c19 := (hS'.b1.cell 19).trans (Vrp.c19 _); have k0 := (hS'.b2.cell 0).trans (Vrp.c0 _); have k19 := (hS'.b2.cell 19).trans (Vrp.c19 _); clear hS'; (go_simp; first | with_reducible rfl | rfl)
  try simp only [Act.put, List.setIfInBounds_toArray, List.set_cons_zero, List.set_cons_succ]
  refine hd_pure (v := ?_) (by rfl) (fun W' hS' => ?_) ?_ -- 12
  rotate_left
  · have c0 := (hS'.b1.cell 0).trans (Vrp.c0 _); have c19 := (hS'.b1.cell 19).trans (Vrp.c19 _); have k0 := (hS'.b2.cell 0).trans (Vrp.c0 _); have k19 := (hS'.b2.cell 19).trans (Vrp.c19 _); clear hS'; (go_simp; first | with_reducible rfl | rfl)
  try simp only [Act.put, List.setIfInBounds_toArray, List.set_cons_zero, List.set_cons_succ]
  refine hd_pure (v := ?_) (by rfl) (fun W' hS' => ?_) ?_ -- 13
  rotate_left
  · have c0 := (hS'.b1.cell 0).trans (Vrp.c0 _); have c19 := (hS'.b1.cell 19).trans (Vrp.c19 _); have k0 := (hS'.b2.cell 0).trans (Vrp.c0 _); have k19 := (hS'.b2.cell 19).trans (Vrp.c19 _); clear hS'; (go_simp; first | with_reducible rfl | rfl)
  try simp only [Act.put, List.setIfInBounds_toArray, List.set_cons_zero, List.set_cons_succ]
  refine hd_sole (by rfl) (fun K hK => ?_) -- 4
  go_simp
  refine (cmpD_any a.p b.p _).mono ?_; rintro e w' ⟨rfl, hb⟩
  refine hK _ _ (hSW.next hb) ?_
  clear hK K hSW
  intro hSW
  clear hb
  try simp only [Act.put, List.setIfInBounds_toArray, List.set_cons_zero, List.set_cons_succ]
  refine hd_sole (by rfl) (fun K hK => ?_) -- 9
  go_simp
  refine (compare_int a.mx b.mx _).mono ?_; rintro e w' ⟨rfl, rfl⟩
  refine hK _ _ (hSW) ?_
  clear hK K hSW
  intro hSW
  try simp only [Act.put, List.setIfInBounds_toArray, List.set_cons_zero, List.set_cons_succ]
  refine hd_sole (by rfl) (fun K hK => ?_) -- 14
  go_simp
  refine (compare_uint32 a.asn.toNat b.asn.toNat _).mono ?_; rintro e w' ⟨rfl, rfl⟩
  refine hK _ _ (hSW) ?_
  clear hK K hSW
  intro hSW
  try simp only [Act.put, List.setIfInBounds_toArray, List.set_cons_zero, List.set_cons_succ]
  refine hd_sole (by rfl) (fun K hK => ?_) -- 15
  have hI := World.ownsRow_lit (base := w.heap.size) (e := 3) (size := 1) _ #[.int .i64 (cmpOf a.p b.p), .int .i64 (cmpI a.mx b.mx), .int .i64 (cmpI a.asn.toNat b.asn.toNat)] 3 hSW.lo.lo.size (by simp only [maxLen]; omega) rfl
  go_simp
  refine hK _ _ (hSW.next ((BelowD.refl _ _).alloc (Nat.le_refl _) _)) ?_
  clear hK K hSW
  intro hSW
  try simp only [Act.put, List.setIfInBounds_toArray, List.set_cons_zero, List.set_cons_succ]
  refine hd_sole (by rfl) (fun K hK => ?_) -- 16
  go_simp
  refine (or_any [cmpOf a.p b.p, cmpI a.mx b.mx, cmpI a.asn.toNat b.asn.toNat] 3 rfl (by omega) _ _ _ _ (Reads.of_own hI)).mono ?_; rintro e w' ⟨rfl, rfl⟩
  refine hK _ _ (hSW) ?_
  clear hK K hSW
  intro hSW
  try simp only [Act.put, List.setIfInBounds_toArray, List.set_cons_zero, List.set_cons_succ]
  refine hd_pure (v := ?_) (by rfl) (fun W' hS' => ?_) ?_ -- 17
  rotate_left
  · have c0 := (hS'.b1.cell 0).trans (Vrp.c0 _); have c19 := (hS'.b1.cell 19).trans (Vrp.c19 _); have k0 := (hS'.b2.cell 0).trans (Vrp.c0 _); have k19 := (hS'.b2.cell 19).trans (Vrp.c19 _); clear hS'; (go_simp; first | with_reducible rfl | rfl)
  try simp only [Act.put, List.setIfInBounds_toArray, List.set_cons_zero, List.set_cons_succ]
  refine hd_nil ?_
  have hb := hSW.lo; clear hSW
  refine wpList_nil (NoPanic.normal ?_)
  go_wp2_with fail
  go_ret
  exact ⟨rfl, hb⟩
set_option maxRecDepth 100000 in
set_option maxHeartbeats 2000000 in
theorem vcmp_any (a b : Vrp) (w : World) : Calls Tryz.prog 98 #[a.val, b.val] w fun e w' => e = .returned (.int .i64 (cmpV a b)) ∧ BelowD w.heap.size w w' := by
  simp only [Vrp.val]
  have hP := VQ2.new w a b
  go_enter Tryz.func98, Tryz.ntmps98
  go_upto_region 1 with fail
  refine wp_gen (VQ2 w a b) hP ?_
  clear hP
  intro W0 hP
  go_wp2_with (first | (refine wpList_load_at rfl 67 _ rfl w.heap.size 0 20 rfl _ _ hP.b1.range (Vrp.cells_length _) Tryz.underlying67 rfl info_vrp1 ?_) | (refine wpList_load_at rfl 67 _ rfl (w.heap.size + 1) 0 20 rfl _ _ hP.b2.range (Vrp.cells_length _) Tryz.underlying67 rfl info_vrp1 ?_))
  refine (roaCmp_any a b _).mono ?_
  rintro e w1 ⟨rfl, hb⟩
  have hP := hP.next hb
  go_wp2_with fail
  go_ret
  exact ⟨rfl, hP.lo⟩
set_option maxRecDepth 100000 in
set_option maxHeartbeats 2000000 in
theorem row2_any (a b : Vrp) (w : World) : Calls Tryz.prog 97 #[a.val, b.val] w fun e w' => e = .returned (.int .i64 (cmpV a b)) ∧ BelowD w.heap.size w w' := by
  simp only [Vrp.val]
  have hP := VQ2.new w a b
  go_enter Tryz.func97, Tryz.ntmps97
  go_upto_region 1 with fail
  refine wp_gen (VQ2 w a b) hP ?_
  clear hP
  intro W0 hP
  go_wp2_with (first | (refine wpList_load_at rfl 67 _ rfl w.heap.size 0 20 rfl _ _ hP.b1.range (Vrp.cells_length _) Tryz.underlying67 rfl info_vrp1 ?_) | (refine wpList_load_at rfl 67 _ rfl (w.heap.size + 1) 0 20 rfl _ _ hP.b2.range (Vrp.cells_length _) Tryz.underlying67 rfl info_vrp1 ?_))
  refine (vcmp_any a b _).mono ?_
  rintro e w1 ⟨rfl, hb⟩
  have hP := hP.next hb
  go_wp2_with fail
  go_ret
  exact ⟨rfl, hP.lo⟩
set_option maxRecDepth 100000 in
set_option maxHeartbeats 2000000 in
theorem row1_any (a : Vrp) (w : World) : Calls Tryz.prog 95 #[a.val] w fun e w' => e = .returned (.bool (!vrpOk a)) ∧ Below w.heap.size w w' := by
  simp only [Vrp.val]
  have hP : Blk (w.alloc (.cells a.cells.toArray 67)) w.heap.size 67 a.cells ∧ Below w.heap.size w (w.alloc (.cells a.cells.toArray 67)) := ⟨Blk.new _ _ _, (Below.refl _ _).alloc (Nat.le_refl _) _⟩
  go_enter Tryz.func95, Tryz.ntmps95
  go_upto_region 1 with fail
  refine wp_gen (fun W => Blk W w.heap.size 67 a.cells ∧ Below w.heap.size w W) hP ?_
  clear hP
  rintro W0 ⟨hB, hlo⟩
  go_wp2_with (refine wpList_load_at rfl 67 _ rfl w.heap.size 0 20 rfl _ _ hB.range (Vrp.cells_length _) Tryz.underlying67 rfl info_vrp1 ?_)
  refine (one_any a _).mono ?_
  rintro e w1 ⟨rfl, hb⟩
  replace hlo := below_then hlo (Nat.le_refl _) hb
  cases hk : vrpOk a
  · have HK := Lib.hid hk
    clear hk
    go_wp2_with fail
    go_ret
    exact ⟨by rw [HK.out]; rfl, hlo⟩
  · have HK := Lib.hid hk
    clear hk
    go_wp2_with fail
    go_ret
    exact ⟨by rw [HK.out]; rfl, hlo⟩
end Go.Proofs.YtmoldmnhijcckaaGreat
