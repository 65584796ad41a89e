/- The walk of lanyardlaw10.AddrOrder: it returns true. -/
import Derived.Test.YtmoldmnhijcckaaDoorAwk
set_option linter.unusedVariables false
set_option linter.unusedSectionVars false
set_option linter.unusedSimpArgs false
namespace Go.Proofs.YtmoldmnhijcckaaDoor
open Go.RowKit
structure P3 (w : World) (p q r : Pfx) (W : World) : Prop where
  b1 : Blk W w.heap.size 50 p.cells
  b2 : Blk W (w.heap.size + 1) 50 q.cells
  b3 : Blk W (w.heap.size + 2) 50 r.cells
  lo : Below w.heap.size w W
theorem P3.next {w : World} {p q r : Pfx} {W W' : World} (h : P3 w p q r W) (hb : Below W.heap.size W W') : P3 w p q r W' := ⟨h.b1.below hb h.b1.lt, h.b2.below hb h.b2.lt, h.b3.below hb h.b3.lt, below_then h.lo (Nat.le_refl _) hb⟩
theorem P3.drew {w : World} {p q r : Pfx} {W : World} (h : P3 w p q r W) : P3 w p q r W.drew := ⟨h.b1.drew, h.b2.drew, h.b3.drew, h.lo.drew⟩
theorem P3.new (w : World) (p q r : Pfx) : P3 w p q r (((w.alloc (.cells p.cells.toArray 50)).alloc (.cells q.cells.toArray 50)).alloc (.cells r.cells.toArray 50)) :=
  ⟨((Blk.new _ _ _).alloc _).alloc _, (blk_new' _ _ _ _ (by simp)).alloc _, blk_new' _ _ _ _ (by simp), (((Below.refl _ _).alloc (Nat.le_refl _) _).alloc (by simp) _).alloc (by simp; omega) _⟩
set_option maxRecDepth 100000 in
set_option maxHeartbeats 2000000 in
theorem order_mm (p q r : Pfx) (hx : cmpOf p q = -1) (hy : cmpOf q r = -1) (m : Int) (w : World) (h0 : 0 < w.heap.size) (hm : w.cell? ⟨0, 0, none⟩ = some (.int .i64 m)) :
    Calls Tryd.prog 12 #[p.val, q.val, r.val] w fun e w' => e = .returned (.bool true) ∧ Below w.heap.size w w' := by
  have HX := Lib.hid hx
  have HY := Lib.hid hy
  have HA := Lib.hid (show cmpOf q p = 1 by have := cmp_anti p q; omega)
  have he := eq_pfx p q
  have hd : decide (p = q) = false := by
    have := cmp_zero p q
    rw [hx] at this
    first | exact decide_eq_true (this.1 rfl) | exact decide_eq_false (fun h => absurd (this.2 h) (by decide))
  rw [hd] at he
  have HT := Lib.hid (show -1 = (-1 : Int) → cmpOf p r = -1 from fun e => by rw [cmp_trans (hx.trans (e.trans hy.symm)), hx])
  have hP := P3.new w p q r
  have hm2 := (hP.lo.cell (p := ⟨0, 0, none⟩) h0).trans hm
  have h02 := Nat.lt_of_lt_of_le h0 hP.lo.size
  clear hx hy hd hm h0
  simp only [Pfx.val]
  go_enter Tryd.func12, Tryd.ntmps12
  go_wp2_with fail
  refine (awake_any m _ h02 hm2).mono ?_
  rintro e w1 ⟨rfl, hb⟩
  replace hP := hP.next hb
  clear hb
  clear hm2 h02
  go_wp2_with (first | (refine wpList_load_g (by rfl) 50 _ rfl w.heap.size 0 18 rfl _ _ hP.b1.range (Pfx.cells_length _) Tryd.underlying50 rfl info_pfx ?_) | (refine wpList_load_g (by rfl) 50 _ rfl (w.heap.size + 1) 0 18 rfl _ _ hP.b2.range (Pfx.cells_length _) Tryd.underlying50 rfl info_pfx ?_) | (refine wpList_load_g (by rfl) 50 _ rfl (w.heap.size + 2) 0 18 rfl _ _ hP.b3.range (Pfx.cells_length _) Tryd.underlying50 rfl info_pfx ?_))
  refine (cmp_any p q _).mono ?_
  rintro e w1 ⟨rfl, hb⟩
  replace hP := hP.next hb
  clear hb
  rw [HX.out]
  go_wp2_with (first | (refine wpList_load_g (by rfl) 50 _ rfl w.heap.size 0 18 rfl _ _ hP.b1.range (Pfx.cells_length _) Tryd.underlying50 rfl info_pfx ?_) | (refine wpList_load_g (by rfl) 50 _ rfl (w.heap.size + 1) 0 18 rfl _ _ hP.b2.range (Pfx.cells_length _) Tryd.underlying50 rfl info_pfx ?_) | (refine wpList_load_g (by rfl) 50 _ rfl (w.heap.size + 2) 0 18 rfl _ _ hP.b3.range (Pfx.cells_length _) Tryd.underlying50 rfl info_pfx ?_))
  refine (cmp_any q r _).mono ?_
  rintro e w1 ⟨rfl, hb⟩
  replace hP := hP.next hb
  clear hb
  rw [HY.out]
  go_wp2_with (first | (refine wpList_load_g (by rfl) 50 _ rfl w.heap.size 0 18 rfl _ _ hP.b1.range (Pfx.cells_length _) Tryd.underlying50 rfl info_pfx ?_) | (refine wpList_load_g (by rfl) 50 _ rfl (w.heap.size + 1) 0 18 rfl _ _ hP.b2.range (Pfx.cells_length _) Tryd.underlying50 rfl info_pfx ?_) | (refine wpList_load_g (by rfl) 50 _ rfl (w.heap.size + 2) 0 18 rfl _ _ hP.b3.range (Pfx.cells_length _) Tryd.underlying50 rfl info_pfx ?_))
  refine (cmp_any q p _).mono ?_
  rintro e w1 ⟨rfl, hb⟩
  replace hP := hP.next hb
  clear hb
  rw [HA.out]
  go_wp2_with (first | (refine wpList_load_g (by rfl) 50 _ rfl w.heap.size 0 18 rfl _ _ hP.b1.range (Pfx.cells_length _) Tryd.underlying50 rfl info_pfx ?_) | (refine wpList_load_g (by rfl) 50 _ rfl (w.heap.size + 1) 0 18 rfl _ _ hP.b2.range (Pfx.cells_length _) Tryd.underlying50 rfl info_pfx ?_) | (refine wpList_load_g (by rfl) 50 _ rfl (w.heap.size + 2) 0 18 rfl _ _ hP.b3.range (Pfx.cells_length _) Tryd.underlying50 rfl info_pfx ?_))
  first
  | (refine (cmp_any p r _).mono ?_
     rintro e w1 ⟨rfl, hb⟩
     replace hP := hP.next hb
     clear hb
     rw [HT.out (by trivial)]
     go_wp2
     go_ret
     exact ⟨rfl, hP.lo⟩)
  | (go_ret
     exact ⟨rfl, hP.lo⟩)
set_option maxRecDepth 100000 in
set_option maxHeartbeats 2000000 in
theorem order_mz (p q r : Pfx) (hx : cmpOf p q = -1) (hy : cmpOf q r = 0) (m : Int) (w : World) (h0 : 0 < w.heap.size) (hm : w.cell? ⟨0, 0, none⟩ = some (.int .i64 m)) :
    Calls Tryd.prog 12 #[p.val, q.val, r.val] w fun e w' => e = .returned (.bool true) ∧ Below w.heap.size w w' := by
  have HX := Lib.hid hx
  have HY := Lib.hid hy
  have HA := Lib.hid (show cmpOf q p = 1 by have := cmp_anti p q; omega)
  have he := eq_pfx p q
  have hd : decide (p = q) = false := by
    have := cmp_zero p q
    rw [hx] at this
    first | exact decide_eq_true (this.1 rfl) | exact decide_eq_false (fun h => absurd (this.2 h) (by decide))
  rw [hd] at he
  have HT := Lib.hid (show -1 = (0 : Int) → cmpOf p r = -1 from fun e => by rw [cmp_trans (hx.trans (e.trans hy.symm)), hx])
  have hP := P3.new w p q r
  have hm2 := (hP.lo.cell (p := ⟨0, 0, none⟩) h0).trans hm
  have h02 := Nat.lt_of_lt_of_le h0 hP.lo.size
  clear hx hy hd hm h0
  simp only [Pfx.val]
  go_enter Tryd.func12, Tryd.ntmps12
  go_wp2_with fail
  refine (awake_any m _ h02 hm2).mono ?_
  rintro e w1 ⟨rfl, hb⟩
  replace hP := hP.next hb
  clear hb
  clear hm2 h02
  go_wp2_with (first | (refine wpList_load_g (by rfl) 50 _ rfl w.heap.size 0 18 rfl _ _ hP.b1.range (Pfx.cells_length _) Tryd.underlying50 rfl info_pfx ?_) | (refine wpList_load_g (by rfl) 50 _ rfl (w.heap.size + 1) 0 18 rfl _ _ hP.b2.range (Pfx.cells_length _) Tryd.underlying50 rfl info_pfx ?_) | (refine wpList_load_g (by rfl) 50 _ rfl (w.heap.size + 2) 0 18 rfl _ _ hP.b3.range (Pfx.cells_length _) Tryd.underlying50 rfl info_pfx ?_))
  refine (cmp_any p q _).mono ?_
  rintro e w1 ⟨rfl, hb⟩
  replace hP := hP.next hb
  clear hb
  rw [HX.out]
  go_wp2_with (first | (refine wpList_load_g (by rfl) 50 _ rfl w.heap.size 0 18 rfl _ _ hP.b1.range (Pfx.cells_length _) Tryd.underlying50 rfl info_pfx ?_) | (refine wpList_load_g (by rfl) 50 _ rfl (w.heap.size + 1) 0 18 rfl _ _ hP.b2.range (Pfx.cells_length _) Tryd.underlying50 rfl info_pfx ?_) | (refine wpList_load_g (by rfl) 50 _ rfl (w.heap.size + 2) 0 18 rfl _ _ hP.b3.range (Pfx.cells_length _) Tryd.underlying50 rfl info_pfx ?_))
  refine (cmp_any q r _).mono ?_
  rintro e w1 ⟨rfl, hb⟩
  replace hP := hP.next hb
  clear hb
  rw [HY.out]
  go_wp2_with (first | (refine wpList_load_g (by rfl) 50 _ rfl w.heap.size 0 18 rfl _ _ hP.b1.range (Pfx.cells_length _) Tryd.underlying50 rfl info_pfx ?_) | (refine wpList_load_g (by rfl) 50 _ rfl (w.heap.size + 1) 0 18 rfl _ _ hP.b2.range (Pfx.cells_length _) Tryd.underlying50 rfl info_pfx ?_) | (refine wpList_load_g (by rfl) 50 _ rfl (w.heap.size + 2) 0 18 rfl _ _ hP.b3.range (Pfx.cells_length _) Tryd.underlying50 rfl info_pfx ?_))
  refine (cmp_any q p _).mono ?_
  rintro e w1 ⟨rfl, hb⟩
  replace hP := hP.next hb
  clear hb
  rw [HA.out]
  go_wp2_with (first | (refine wpList_load_g (by rfl) 50 _ rfl w.heap.size 0 18 rfl _ _ hP.b1.range (Pfx.cells_length _) Tryd.underlying50 rfl info_pfx ?_) | (refine wpList_load_g (by rfl) 50 _ rfl (w.heap.size + 1) 0 18 rfl _ _ hP.b2.range (Pfx.cells_length _) Tryd.underlying50 rfl info_pfx ?_) | (refine wpList_load_g (by rfl) 50 _ rfl (w.heap.size + 2) 0 18 rfl _ _ hP.b3.range (Pfx.cells_length _) Tryd.underlying50 rfl info_pfx ?_))
  first
  | (refine (cmp_any p r _).mono ?_
     rintro e w1 ⟨rfl, hb⟩
     replace hP := hP.next hb
     clear hb
     rw [HT.out (by trivial)]
     go_wp2
     go_ret
     exact ⟨rfl, hP.lo⟩)
  | (go_ret
     exact ⟨rfl, hP.lo⟩)
set_option maxRecDepth 100000 in
set_option maxHeartbeats 2000000 in
theorem order_mp (p q r : Pfx) (hx : cmpOf p q = -1) (hy : cmpOf q r = 1) (m : Int) (w : World) (h0 : 0 < w.heap.size) (hm : w.cell? ⟨0, 0, none⟩ = some (.int .i64 m)) :
    Calls Tryd.prog 12 #[p.val, q.val, r.val] w fun e w' => e = .returned (.bool true) ∧ Below w.heap.size w w' := by
  have HX := Lib.hid hx
  have HY := Lib.hid hy
  have HA := Lib.hid (show cmpOf q p = 1 by have := cmp_anti p q; omega)
  have he := eq_pfx p q
  have hd : decide (p = q) = false := by
    have := cmp_zero p q
    rw [hx] at this
    first | exact decide_eq_true (this.1 rfl) | exact decide_eq_false (fun h => absurd (this.2 h) (by decide))
  rw [hd] at he
  have HT := Lib.hid (show -1 = (1 : Int) → cmpOf p r = -1 from fun e => by rw [cmp_trans (hx.trans (e.trans hy.symm)), hx])
  have hP := P3.new w p q r
  have hm2 := (hP.lo.cell (p := ⟨0, 0, none⟩) h0).trans hm
  have h02 := Nat.lt_of_lt_of_le h0 hP.lo.size
  clear hx hy hd hm h0
  simp only [Pfx.val]
  go_enter Tryd.func12, Tryd.ntmps12
  go_wp2_with fail
  refine (awake_any m _ h02 hm2).mono ?_
  rintro e w1 ⟨rfl, hb⟩
  replace hP := hP.next hb
  clear hb
  clear hm2 h02
  go_wp2_with (first | (refine wpList_load_g (by rfl) 50 _ rfl w.heap.size 0 18 rfl _ _ hP.b1.range (Pfx.cells_length _) Tryd.underlying50 rfl info_pfx ?_) | (refine wpList_load_g (by rfl) 50 _ rfl (w.heap.size + 1) 0 18 rfl _ _ hP.b2.range (Pfx.cells_length _) Tryd.underlying50 rfl info_pfx ?_) | (refine wpList_load_g (by rfl) 50 _ rfl (w.heap.size + 2) 0 18 rfl _ _ hP.b3.range (Pfx.cells_length _) Tryd.underlying50 rfl info_pfx ?_))
  refine (cmp_any p q _).mono ?_
  rintro e w1 ⟨rfl, hb⟩
  replace hP := hP.next hb
  clear hb
  rw [HX.out]
  go_wp2_with (first | (refine wpList_load_g (by rfl) 50 _ rfl w.heap.size 0 18 rfl _ _ hP.b1.range (Pfx.cells_length _) Tryd.underlying50 rfl info_pfx ?_) | (refine wpList_load_g (by rfl) 50 _ rfl (w.heap.size + 1) 0 18 rfl _ _ hP.b2.range (Pfx.cells_length _) Tryd.underlying50 rfl info_pfx ?_) | (refine wpList_load_g (by rfl) 50 _ rfl (w.heap.size + 2) 0 18 rfl _ _ hP.b3.range (Pfx.cells_length _) Tryd.underlying50 rfl info_pfx ?_))
  refine (cmp_any q r _).mono ?_
  rintro e w1 ⟨rfl, hb⟩
  replace hP := hP.next hb
  clear hb
  rw [HY.out]
  go_wp2_with (first | (refine wpList_load_g (by rfl) 50 _ rfl w.heap.size 0 18 rfl _ _ hP.b1.range (Pfx.cells_length _) Tryd.underlying50 rfl info_pfx ?_) | (refine wpList_load_g (by rfl) 50 _ rfl (w.heap.size + 1) 0 18 rfl _ _ hP.b2.range (Pfx.cells_length _) Tryd.underlying50 rfl info_pfx ?_) | (refine wpList_load_g (by rfl) 50 _ rfl (w.heap.size + 2) 0 18 rfl _ _ hP.b3.range (Pfx.cells_length _) Tryd.underlying50 rfl info_pfx ?_))
  refine (cmp_any q p _).mono ?_
  rintro e w1 ⟨rfl, hb⟩
  replace hP := hP.next hb
  clear hb
  rw [HA.out]
  go_wp2_with (first | (refine wpList_load_g (by rfl) 50 _ rfl w.heap.size 0 18 rfl _ _ hP.b1.range (Pfx.cells_length _) Tryd.underlying50 rfl info_pfx ?_) | (refine wpList_load_g (by rfl) 50 _ rfl (w.heap.size + 1) 0 18 rfl _ _ hP.b2.range (Pfx.cells_length _) Tryd.underlying50 rfl info_pfx ?_) | (refine wpList_load_g (by rfl) 50 _ rfl (w.heap.size + 2) 0 18 rfl _ _ hP.b3.range (Pfx.cells_length _) Tryd.underlying50 rfl info_pfx ?_))
  first
  | (refine (cmp_any p r _).mono ?_
     rintro e w1 ⟨rfl, hb⟩
     replace hP := hP.next hb
     clear hb
     rw [HT.out (by trivial)]
     go_wp2
     go_ret
     exact ⟨rfl, hP.lo⟩)
  | (go_ret
     exact ⟨rfl, hP.lo⟩)
set_option maxRecDepth 100000 in
set_option maxHeartbeats 2000000 in
theorem order_zm (p q r : Pfx) (hx : cmpOf p q = 0) (hy : cmpOf q r = -1) (m : Int) (w : World) (h0 : 0 < w.heap.size) (hm : w.cell? ⟨0, 0, none⟩ = some (.int .i64 m)) :
    Calls Tryd.prog 12 #[p.val, q.val, r.val] w fun e w' => e = .returned (.bool true) ∧ Below w.heap.size w w' := by
  have HX := Lib.hid hx
  have HY := Lib.hid hy
  have HA := Lib.hid (show cmpOf q p = 0 by have := cmp_anti p q; omega)
  have he := eq_pfx p q
  have hd : decide (p = q) = true := by
    have := cmp_zero p q
    rw [hx] at this
    first | exact decide_eq_true (this.1 rfl) | exact decide_eq_false (fun h => absurd (this.2 h) (by decide))
  rw [hd] at he
  have HT := Lib.hid (show 0 = (-1 : Int) → cmpOf p r = 0 from fun e => by rw [cmp_trans (hx.trans (e.trans hy.symm)), hx])
  have hP := P3.new w p q r
  have hm2 := (hP.lo.cell (p := ⟨0, 0, none⟩) h0).trans hm
  have h02 := Nat.lt_of_lt_of_le h0 hP.lo.size
  clear hx hy hd hm h0
  simp only [Pfx.val]
  go_enter Tryd.func12, Tryd.ntmps12
  go_wp2_with fail
  refine (awake_any m _ h02 hm2).mono ?_
  rintro e w1 ⟨rfl, hb⟩
  replace hP := hP.next hb
  clear hb
  clear hm2 h02
  go_wp2_with (first | (refine wpList_load_g (by rfl) 50 _ rfl w.heap.size 0 18 rfl _ _ hP.b1.range (Pfx.cells_length _) Tryd.underlying50 rfl info_pfx ?_) | (refine wpList_load_g (by rfl) 50 _ rfl (w.heap.size + 1) 0 18 rfl _ _ hP.b2.range (Pfx.cells_length _) Tryd.underlying50 rfl info_pfx ?_) | (refine wpList_load_g (by rfl) 50 _ rfl (w.heap.size + 2) 0 18 rfl _ _ hP.b3.range (Pfx.cells_length _) Tryd.underlying50 rfl info_pfx ?_))
  refine (cmp_any p q _).mono ?_
  rintro e w1 ⟨rfl, hb⟩
  replace hP := hP.next hb
  clear hb
  rw [HX.out]
  go_wp2_with (first | (refine wpList_load_g (by rfl) 50 _ rfl w.heap.size 0 18 rfl _ _ hP.b1.range (Pfx.cells_length _) Tryd.underlying50 rfl info_pfx ?_) | (refine wpList_load_g (by rfl) 50 _ rfl (w.heap.size + 1) 0 18 rfl _ _ hP.b2.range (Pfx.cells_length _) Tryd.underlying50 rfl info_pfx ?_) | (refine wpList_load_g (by rfl) 50 _ rfl (w.heap.size + 2) 0 18 rfl _ _ hP.b3.range (Pfx.cells_length _) Tryd.underlying50 rfl info_pfx ?_))
  refine (cmp_any q r _).mono ?_
  rintro e w1 ⟨rfl, hb⟩
  replace hP := hP.next hb
  clear hb
  rw [HY.out]
  go_wp2_with (first | (refine wpList_load_g (by rfl) 50 _ rfl w.heap.size 0 18 rfl _ _ hP.b1.range (Pfx.cells_length _) Tryd.underlying50 rfl info_pfx ?_) | (refine wpList_load_g (by rfl) 50 _ rfl (w.heap.size + 1) 0 18 rfl _ _ hP.b2.range (Pfx.cells_length _) Tryd.underlying50 rfl info_pfx ?_) | (refine wpList_load_g (by rfl) 50 _ rfl (w.heap.size + 2) 0 18 rfl _ _ hP.b3.range (Pfx.cells_length _) Tryd.underlying50 rfl info_pfx ?_))
  refine (cmp_any q p _).mono ?_
  rintro e w1 ⟨rfl, hb⟩
  replace hP := hP.next hb
  clear hb
  rw [HA.out]
  go_wp2_with (first | (refine wpList_load_g (by rfl) 50 _ rfl w.heap.size 0 18 rfl _ _ hP.b1.range (Pfx.cells_length _) Tryd.underlying50 rfl info_pfx ?_) | (refine wpList_load_g (by rfl) 50 _ rfl (w.heap.size + 1) 0 18 rfl _ _ hP.b2.range (Pfx.cells_length _) Tryd.underlying50 rfl info_pfx ?_) | (refine wpList_load_g (by rfl) 50 _ rfl (w.heap.size + 2) 0 18 rfl _ _ hP.b3.range (Pfx.cells_length _) Tryd.underlying50 rfl info_pfx ?_))
  first
  | (refine (cmp_any p r _).mono ?_
     rintro e w1 ⟨rfl, hb⟩
     replace hP := hP.next hb
     clear hb
     rw [HT.out (by trivial)]
     go_wp2
     go_ret
     exact ⟨rfl, hP.lo⟩)
  | (go_ret
     exact ⟨rfl, hP.lo⟩)
set_option maxRecDepth 100000 in
set_option maxHeartbeats 2000000 in
theorem order_zz (p q r : Pfx) (hx : cmpOf p q = 0) (hy : cmpOf q r = 0) (m : Int) (w : World) (h0 : 0 < w.heap.size) (hm : w.cell? ⟨0, 0, none⟩ = some (.int .i64 m)) :
    Calls Tryd.prog 12 #[p.val, q.val, r.val] w fun e w' => e = .returned (.bool true) ∧ Below w.heap.size w w' := by
  have HX := Lib.hid hx
  have HY := Lib.hid hy
  have HA := Lib.hid (show cmpOf q p = 0 by have := cmp_anti p q; omega)
  have he := eq_pfx p q
  have hd : decide (p = q) = true := by
    have := cmp_zero p q
    rw [hx] at this
    first | exact decide_eq_true (this.1 rfl) | exact decide_eq_false (fun h => absurd (this.2 h) (by decide))
  rw [hd] at he
  have HT := Lib.hid (show 0 = (0 : Int) → cmpOf p r = 0 from fun e => by rw [cmp_trans (hx.trans (e.trans hy.symm)), hx])
  have hP := P3.new w p q r
  have hm2 := (hP.lo.cell (p := ⟨0, 0, none⟩) h0).trans hm
  have h02 := Nat.lt_of_lt_of_le h0 hP.lo.size
  clear hx hy hd hm h0
  simp only [Pfx.val]
  go_enter Tryd.func12, Tryd.ntmps12
  go_wp2_with fail
  refine (awake_any m _ h02 hm2).mono ?_
  rintro e w1 ⟨rfl, hb⟩
  replace hP := hP.next hb
  clear hb
  clear hm2 h02
  go_wp2_with (first | (refine wpList_load_g (by rfl) 50 _ rfl w.heap.size 0 18 rfl _ _ hP.b1.range (Pfx.cells_length _) Tryd.underlying50 rfl info_pfx ?_) | (refine wpList_load_g (by rfl) 50 _ rfl (w.heap.size + 1) 0 18 rfl _ _ hP.b2.range (Pfx.cells_length _) Tryd.underlying50 rfl info_pfx ?_) | (refine wpList_load_g (by rfl) 50 _ rfl (w.heap.size + 2) 0 18 rfl _ _ hP.b3.range (Pfx.cells_length _) Tryd.underlying50 rfl info_pfx ?_))
  refine (cmp_any p q _).mono ?_
  rintro e w1 ⟨rfl, hb⟩
  replace hP := hP.next hb
  clear hb
  rw [HX.out]
  go_wp2_with (first | (refine wpList_load_g (by rfl) 50 _ rfl w.heap.size 0 18 rfl _ _ hP.b1.range (Pfx.cells_length _) Tryd.underlying50 rfl info_pfx ?_) | (refine wpList_load_g (by rfl) 50 _ rfl (w.heap.size + 1) 0 18 rfl _ _ hP.b2.range (Pfx.cells_length _) Tryd.underlying50 rfl info_pfx ?_) | (refine wpList_load_g (by rfl) 50 _ rfl (w.heap.size + 2) 0 18 rfl _ _ hP.b3.range (Pfx.cells_length _) Tryd.underlying50 rfl info_pfx ?_))
  refine (cmp_any q r _).mono ?_
  rintro e w1 ⟨rfl, hb⟩
  replace hP := hP.next hb
  clear hb
  rw [HY.out]
  go_wp2_with (first | (refine wpList_load_g (by rfl) 50 _ rfl w.heap.size 0 18 rfl _ _ hP.b1.range (Pfx.cells_length _) Tryd.underlying50 rfl info_pfx ?_) | (refine wpList_load_g (by rfl) 50 _ rfl (w.heap.size + 1) 0 18 rfl _ _ hP.b2.range (Pfx.cells_length _) Tryd.underlying50 rfl info_pfx ?_) | (refine wpList_load_g (by rfl) 50 _ rfl (w.heap.size + 2) 0 18 rfl _ _ hP.b3.range (Pfx.cells_length _) Tryd.underlying50 rfl info_pfx ?_))
  refine (cmp_any q p _).mono ?_
  rintro e w1 ⟨rfl, hb⟩
  replace hP := hP.next hb
  clear hb
  rw [HA.out]
  go_wp2_with (first | (refine wpList_load_g (by rfl) 50 _ rfl w.heap.size 0 18 rfl _ _ hP.b1.range (Pfx.cells_length _) Tryd.underlying50 rfl info_pfx ?_) | (refine wpList_load_g (by rfl) 50 _ rfl (w.heap.size + 1) 0 18 rfl _ _ hP.b2.range (Pfx.cells_length _) Tryd.underlying50 rfl info_pfx ?_) | (refine wpList_load_g (by rfl) 50 _ rfl (w.heap.size + 2) 0 18 rfl _ _ hP.b3.range (Pfx.cells_length _) Tryd.underlying50 rfl info_pfx ?_))
  first
  | (refine (cmp_any p r _).mono ?_
     rintro e w1 ⟨rfl, hb⟩
     replace hP := hP.next hb
     clear hb
     rw [HT.out (by trivial)]
     go_wp2
     go_ret
     exact ⟨rfl, hP.lo⟩)
  | (go_ret
     exact ⟨rfl, hP.lo⟩)
set_option maxRecDepth 100000 in
set_option maxHeartbeats 2000000 in
theorem order_zp (p q r : Pfx) (hx : cmpOf p q = 0) (hy : cmpOf q r = 1) (m : Int) (w : World) (h0 : 0 < w.heap.size) (hm : w.cell? ⟨0, 0, none⟩ = some (.int .i64 m)) :
    Calls Tryd.prog 12 #[p.val, q.val, r.val] w fun e w' => e = .returned (.bool true) ∧ Below w.heap.size w w' := by
  have HX := Lib.hid hx
  have HY := Lib.hid hy
  have HA := Lib.hid (show cmpOf q p = 0 by have := cmp_anti p q; omega)
  have he := eq_pfx p q
  have hd : decide (p = q) = true := by
    have := cmp_zero p q
    rw [hx] at this
    first | exact decide_eq_true (this.1 rfl) | exact decide_eq_false (fun h => absurd (this.2 h) (by decide))
  rw [hd] at he
  have HT := Lib.hid (show 0 = (1 : Int) → cmpOf p r = 0 from fun e => by rw [cmp_trans (hx.trans (e.trans hy.symm)), hx])
  have hP := P3.new w p q r
  have hm2 := (hP.lo.cell (p := ⟨0, 0, none⟩) h0).trans hm
  have h02 := Nat.lt_of_lt_of_le h0 hP.lo.size
  clear hx hy hd hm h0
  simp only [Pfx.val]
  go_enter Tryd.func12, Tryd.ntmps12
  go_wp2_with fail
  refine (awake_any m _ h02 hm2).mono ?_
  rintro e w1 ⟨rfl, hb⟩
  replace hP := hP.next hb
  clear hb
  clear hm2 h02
  go_wp2_with (first | (refine wpList_load_g (by rfl) 50 _ rfl w.heap.size 0 18 rfl _ _ hP.b1.range (Pfx.cells_length _) Tryd.underlying50 rfl info_pfx ?_) | (refine wpList_load_g (by rfl) 50 _ rfl (w.heap.size + 1) 0 18 rfl _ _ hP.b2.range (Pfx.cells_length _) Tryd.underlying50 rfl info_pfx ?_) | (refine wpList_load_g (by rfl) 50 _ rfl (w.heap.size + 2) 0 18 rfl _ _ hP.b3.range (Pfx.cells_length _) Tryd.underlying50 rfl info_pfx ?_))
  refine (cmp_any p q _).mono ?_
  rintro e w1 ⟨rfl, hb⟩
  replace hP := hP.next hb
  clear hb
  rw [HX.out]
  go_wp2_with (first | (refine wpList_load_g (by rfl) 50 _ rfl w.heap.size 0 18 rfl _ _ hP.b1.range (Pfx.cells_length _) Tryd.underlying50 rfl info_pfx ?_) | (refine wpList_load_g (by rfl) 50 _ rfl (w.heap.size + 1) 0 18 rfl _ _ hP.b2.range (Pfx.cells_length _) Tryd.underlying50 rfl info_pfx ?_) | (refine wpList_load_g (by rfl) 50 _ rfl (w.heap.size + 2) 0 18 rfl _ _ hP.b3.range (Pfx.cells_length _) Tryd.underlying50 rfl info_pfx ?_))
  refine (cmp_any q r _).mono ?_
  rintro e w1 ⟨rfl, hb⟩
  replace hP := hP.next hb
  clear hb
  rw [HY.out]
  go_wp2_with (first | (refine wpList_load_g (by rfl) 50 _ rfl w.heap.size 0 18 rfl _ _ hP.b1.range (Pfx.cells_length _) Tryd.underlying50 rfl info_pfx ?_) | (refine wpList_load_g (by rfl) 50 _ rfl (w.heap.size + 1) 0 18 rfl _ _ hP.b2.range (Pfx.cells_length _) Tryd.underlying50 rfl info_pfx ?_) | (refine wpList_load_g (by rfl) 50 _ rfl (w.heap.size + 2) 0 18 rfl _ _ hP.b3.range (Pfx.cells_length _) Tryd.underlying50 rfl info_pfx ?_))
  refine (cmp_any q p _).mono ?_
  rintro e w1 ⟨rfl, hb⟩
  replace hP := hP.next hb
  clear hb
  rw [HA.out]
  go_wp2_with (first | (refine wpList_load_g (by rfl) 50 _ rfl w.heap.size 0 18 rfl _ _ hP.b1.range (Pfx.cells_length _) Tryd.underlying50 rfl info_pfx ?_) | (refine wpList_load_g (by rfl) 50 _ rfl (w.heap.size + 1) 0 18 rfl _ _ hP.b2.range (Pfx.cells_length _) Tryd.underlying50 rfl info_pfx ?_) | (refine wpList_load_g (by rfl) 50 _ rfl (w.heap.size + 2) 0 18 rfl _ _ hP.b3.range (Pfx.cells_length _) Tryd.underlying50 rfl info_pfx ?_))
  first
  | (refine (cmp_any p r _).mono ?_
     rintro e w1 ⟨rfl, hb⟩
     replace hP := hP.next hb
     clear hb
     rw [HT.out (by trivial)]
     go_wp2
     go_ret
     exact ⟨rfl, hP.lo⟩)
  | (go_ret
     exact ⟨rfl, hP.lo⟩)
set_option maxRecDepth 100000 in
set_option maxHeartbeats 2000000 in
theorem order_pm (p q r : Pfx) (hx : cmpOf p q = 1) (hy : cmpOf q r = -1) (m : Int) (w : World) (h0 : 0 < w.heap.size) (hm : w.cell? ⟨0, 0, none⟩ = some (.int .i64 m)) :
    Calls Tryd.prog 12 #[p.val, q.val, r.val] w fun e w' => e = .returned (.bool true) ∧ Below w.heap.size w w' := by
  have HX := Lib.hid hx
  have HY := Lib.hid hy
  have HA := Lib.hid (show cmpOf q p = -1 by have := cmp_anti p q; omega)
  have he := eq_pfx p q
  have hd : decide (p = q) = false := by
    have := cmp_zero p q
    rw [hx] at this
    first | exact decide_eq_true (this.1 rfl) | exact decide_eq_false (fun h => absurd (this.2 h) (by decide))
  rw [hd] at he
  have HT := Lib.hid (show 1 = (-1 : Int) → cmpOf p r = 1 from fun e => by rw [cmp_trans (hx.trans (e.trans hy.symm)), hx])
  have hP := P3.new w p q r
  have hm2 := (hP.lo.cell (p := ⟨0, 0, none⟩) h0).trans hm
  have h02 := Nat.lt_of_lt_of_le h0 hP.lo.size
  clear hx hy hd hm h0
  simp only [Pfx.val]
  go_enter Tryd.func12, Tryd.ntmps12
  go_wp2_with fail
  refine (awake_any m _ h02 hm2).mono ?_
  rintro e w1 ⟨rfl, hb⟩
  replace hP := hP.next hb
  clear hb
  clear hm2 h02
  go_wp2_with (first | (refine wpList_load_g (by rfl) 50 _ rfl w.heap.size 0 18 rfl _ _ hP.b1.range (Pfx.cells_length _) Tryd.underlying50 rfl info_pfx ?_) | (refine wpList_load_g (by rfl) 50 _ rfl (w.heap.size + 1) 0 18 rfl _ _ hP.b2.range (Pfx.cells_length _) Tryd.underlying50 rfl info_pfx ?_) | (refine wpList_load_g (by rfl) 50 _ rfl (w.heap.size + 2) 0 18 rfl _ _ hP.b3.range (Pfx.cells_length _) Tryd.underlying50 rfl info_pfx ?_))
  refine (cmp_any p q _).mono ?_
  rintro e w1 ⟨rfl, hb⟩
  replace hP := hP.next hb
  clear hb
  rw [HX.out]
  go_wp2_with (first | (refine wpList_load_g (by rfl) 50 _ rfl w.heap.size 0 18 rfl _ _ hP.b1.range (Pfx.cells_length _) Tryd.underlying50 rfl info_pfx ?_) | (refine wpList_load_g (by rfl) 50 _ rfl (w.heap.size + 1) 0 18 rfl _ _ hP.b2.range (Pfx.cells_length _) Tryd.underlying50 rfl info_pfx ?_) | (refine wpList_load_g (by rfl) 50 _ rfl (w.heap.size + 2) 0 18 rfl _ _ hP.b3.range (Pfx.cells_length _) Tryd.underlying50 rfl info_pfx ?_))
  refine (cmp_any q r _).mono ?_
  rintro e w1 ⟨rfl, hb⟩
  replace hP := hP.next hb
  clear hb
  rw [HY.out]
  go_wp2_with (first | (refine wpList_load_g (by rfl) 50 _ rfl w.heap.size 0 18 rfl _ _ hP.b1.range (Pfx.cells_length _) Tryd.underlying50 rfl info_pfx ?_) | (refine wpList_load_g (by rfl) 50 _ rfl (w.heap.size + 1) 0 18 rfl _ _ hP.b2.range (Pfx.cells_length _) Tryd.underlying50 rfl info_pfx ?_) | (refine wpList_load_g (by rfl) 50 _ rfl (w.heap.size + 2) 0 18 rfl _ _ hP.b3.range (Pfx.cells_length _) Tryd.underlying50 rfl info_pfx ?_))
  refine (cmp_any q p _).mono ?_
  rintro e w1 ⟨rfl, hb⟩
  replace hP := hP.next hb
  clear hb
  rw [HA.out]
  go_wp2_with (first | (refine wpList_load_g (by rfl) 50 _ rfl w.heap.size 0 18 rfl _ _ hP.b1.range (Pfx.cells_length _) Tryd.underlying50 rfl info_pfx ?_) | (refine wpList_load_g (by rfl) 50 _ rfl (w.heap.size + 1) 0 18 rfl _ _ hP.b2.range (Pfx.cells_length _) Tryd.underlying50 rfl info_pfx ?_) | (refine wpList_load_g (by rfl) 50 _ rfl (w.heap.size + 2) 0 18 rfl _ _ hP.b3.range (Pfx.cells_length _) Tryd.underlying50 rfl info_pfx ?_))
  first
  | (refine (cmp_any p r _).mono ?_
     rintro e w1 ⟨rfl, hb⟩
     replace hP := hP.next hb
     clear hb
     rw [HT.out (by trivial)]
     go_wp2
     go_ret
     exact ⟨rfl, hP.lo⟩)
  | (go_ret
     exact ⟨rfl, hP.lo⟩)
set_option maxRecDepth 100000 in
set_option maxHeartbeats 2000000 in
theorem order_pz (p q r : Pfx) (hx : cmpOf p q = 1) (hy : cmpOf q r = 0) (m : Int) (w : World) (h0 : 0 < w.heap.size) (hm : w.cell? ⟨0, 0, none⟩ = some (.int .i64 m)) :
    Calls Tryd.prog 12 #[p.val, q.val, r.val] w fun e w' => e = .returned (.bool true) ∧ Below w.heap.size w w' := by
  have HX := Lib.hid hx
  have HY := Lib.hid hy
  have HA := Lib.hid (show cmpOf q p = -1 by have := cmp_anti p q; omega)
  have he := eq_pfx p q
  have hd : decide (p = q) = false := by
    have := cmp_zero p q
    rw [hx] at this
    first | exact decide_eq_true (this.1 rfl) | exact decide_eq_false (fun h => absurd (this.2 h) (by decide))
  rw [hd] at he
  have HT := Lib.hid (show 1 = (0 : Int) → cmpOf p r = 1 from fun e => by rw [cmp_trans (hx.trans (e.trans hy.symm)), hx])
  have hP := P3.new w p q r
  have hm2 := (hP.lo.cell (p := ⟨0, 0, none⟩) h0).trans hm
  have h02 := Nat.lt_of_lt_of_le h0 hP.lo.size
  clear hx hy hd hm h0
  simp only [Pfx.val]
  go_enter Tryd.func12, Tryd.ntmps12
  go_wp2_with fail
  refine (awake_any m _ h02 hm2).mono ?_
  rintro e w1 ⟨rfl, hb⟩
  replace hP := hP.next hb
  clear hb
  clear hm2 h02
  go_wp2_with (first | (refine wpList_load_g (by rfl) 50 _ rfl w.heap.size 0 18 rfl _ _ hP.b1.range (Pfx.cells_length _) Tryd.underlying50 rfl info_pfx ?_) | (refine wpList_load_g (by rfl) 50 _ rfl (w.heap.size + 1) 0 18 rfl _ _ hP.b2.range (Pfx.cells_length _) Tryd.underlying50 rfl info_pfx ?_) | (refine wpList_load_g (by rfl) 50 _ rfl (w.heap.size + 2) 0 18 rfl _ _ hP.b3.range (Pfx.cells_length _) Tryd.underlying50 rfl info_pfx ?_))
  refine (cmp_any p q _).mono ?_
  rintro e w1 ⟨rfl, hb⟩
  replace hP := hP.next hb
  clear hb
  rw [HX.out]
  go_wp2_with (first | (refine wpList_load_g (by rfl) 50 _ rfl w.heap.size 0 18 rfl _ _ hP.b1.range (Pfx.cells_length _) Tryd.underlying50 rfl info_pfx ?_) | (refine wpList_load_g (by rfl) 50 _ rfl (w.heap.size + 1) 0 18 rfl _ _ hP.b2.range (Pfx.cells_length _) Tryd.underlying50 rfl info_pfx ?_) | (refine wpList_load_g (by rfl) 50 _ rfl (w.heap.size + 2) 0 18 rfl _ _ hP.b3.range (Pfx.cells_length _) Tryd.underlying50 rfl info_pfx ?_))
  refine (cmp_any q r _).mono ?_
  rintro e w1 ⟨rfl, hb⟩
  replace hP := hP.next hb
  clear hb
  rw [HY.out]
  go_wp2_with (first | (refine wpList_load_g (by rfl) 50 _ rfl w.heap.size 0 18 rfl _ _ hP.b1.range (Pfx.cells_length _) Tryd.underlying50 rfl info_pfx ?_) | (refine wpList_load_g (by rfl) 50 _ rfl (w.heap.size + 1) 0 18 rfl _ _ hP.b2.range (Pfx.cells_length _) Tryd.underlying50 rfl info_pfx ?_) | (refine wpList_load_g (by rfl) 50 _ rfl (w.heap.size + 2) 0 18 rfl _ _ hP.b3.range (Pfx.cells_length _) Tryd.underlying50 rfl info_pfx ?_))
  refine (cmp_any q p _).mono ?_
  rintro e w1 ⟨rfl, hb⟩
  replace hP := hP.next hb
  clear hb
  rw [HA.out]
  go_wp2_with (first | (refine wpList_load_g (by rfl) 50 _ rfl w.heap.size 0 18 rfl _ _ hP.b1.range (Pfx.cells_length _) Tryd.underlying50 rfl info_pfx ?_) | (refine wpList_load_g (by rfl) 50 _ rfl (w.heap.size + 1) 0 18 rfl _ _ hP.b2.range (Pfx.cells_length _) Tryd.underlying50 rfl info_pfx ?_) | (refine wpList_load_g (by rfl) 50 _ rfl (w.heap.size + 2) 0 18 rfl _ _ hP.b3.range (Pfx.cells_length _) Tryd.underlying50 rfl info_pfx ?_))
  first
  | (refine (cmp_any p r _).mono ?_
     rintro e w1 ⟨rfl, hb⟩
     replace hP := hP.next hb
     clear hb
     rw [HT.out (by trivial)]
     go_wp2
     go_ret
     exact ⟨rfl, hP.lo⟩)
  | (go_ret
     exact ⟨rfl, hP.lo⟩)
set_option maxRecDepth 100000 in
set_option maxHeartbeats 2000000 in
theorem order_pp (p q r : Pfx) (hx : cmpOf p q = 1) (hy : cmpOf q r = 1) (m : Int) (w : World) (h0 : 0 < w.heap.size) (hm : w.cell? ⟨0, 0, none⟩ = some (.int .i64 m)) :
    Calls Tryd.prog 12 #[p.val, q.val, r.val] w fun e w' => e = .returned (.bool true) ∧ Below w.heap.size w w' := by
  have HX := Lib.hid hx
  have HY := Lib.hid hy
  have HA := Lib.hid (show cmpOf q p = -1 by have := cmp_anti p q; omega)
  have he := eq_pfx p q
  have hd : decide (p = q) = false := by
    have := cmp_zero p q
    rw [hx] at this
    first | exact decide_eq_true (this.1 rfl) | exact decide_eq_false (fun h => absurd (this.2 h) (by decide))
  rw [hd] at he
  have HT := Lib.hid (show 1 = (1 : Int) → cmpOf p r = 1 from fun e => by rw [cmp_trans (hx.trans (e.trans hy.symm)), hx])
  have hP := P3.new w p q r
  have hm2 := (hP.lo.cell (p := ⟨0, 0, none⟩) h0).trans hm
  have h02 := Nat.lt_of_lt_of_le h0 hP.lo.size
  clear hx hy hd hm h0
  simp only [Pfx.val]
  go_enter Tryd.func12, Tryd.ntmps12
  go_wp2_with fail
  refine (awake_any m _ h02 hm2).mono ?_
  rintro e w1 ⟨rfl, hb⟩
  replace hP := hP.next hb
  clear hb
  clear hm2 h02
  go_wp2_with (first | (refine wpList_load_g (by rfl) 50 _ rfl w.heap.size 0 18 rfl _ _ hP.b1.range (Pfx.cells_length _) Tryd.underlying50 rfl info_pfx ?_) | (refine wpList_load_g (by rfl) 50 _ rfl (w.heap.size + 1) 0 18 rfl _ _ hP.b2.range (Pfx.cells_length _) Tryd.underlying50 rfl info_pfx ?_) | (refine wpList_load_g (by rfl) 50 _ rfl (w.heap.size + 2) 0 18 rfl _ _ hP.b3.range (Pfx.cells_length _) Tryd.underlying50 rfl info_pfx ?_))
  refine (cmp_any p q _).mono ?_
  rintro e w1 ⟨rfl, hb⟩
  replace hP := hP.next hb
  clear hb
  rw [HX.out]
  go_wp2_with (first | (refine wpList_load_g (by rfl) 50 _ rfl w.heap.size 0 18 rfl _ _ hP.b1.range (Pfx.cells_length _) Tryd.underlying50 rfl info_pfx ?_) | (refine wpList_load_g (by rfl) 50 _ rfl (w.heap.size + 1) 0 18 rfl _ _ hP.b2.range (Pfx.cells_length _) Tryd.underlying50 rfl info_pfx ?_) | (refine wpList_load_g (by rfl) 50 _ rfl (w.heap.size + 2) 0 18 rfl _ _ hP.b3.range (Pfx.cells_length _) Tryd.underlying50 rfl info_pfx ?_))
  refine (cmp_any q r _).mono ?_
  rintro e w1 ⟨rfl, hb⟩
  replace hP := hP.next hb
  clear hb
  rw [HY.out]
  go_wp2_with (first | (refine wpList_load_g (by rfl) 50 _ rfl w.heap.size 0 18 rfl _ _ hP.b1.range (Pfx.cells_length _) Tryd.underlying50 rfl info_pfx ?_) | (refine wpList_load_g (by rfl) 50 _ rfl (w.heap.size + 1) 0 18 rfl _ _ hP.b2.range (Pfx.cells_length _) Tryd.underlying50 rfl info_pfx ?_) | (refine wpList_load_g (by rfl) 50 _ rfl (w.heap.size + 2) 0 18 rfl _ _ hP.b3.range (Pfx.cells_length _) Tryd.underlying50 rfl info_pfx ?_))
  refine (cmp_any q p _).mono ?_
  rintro e w1 ⟨rfl, hb⟩
  replace hP := hP.next hb
  clear hb
  rw [HA.out]
  go_wp2_with (first | (refine wpList_load_g (by rfl) 50 _ rfl w.heap.size 0 18 rfl _ _ hP.b1.range (Pfx.cells_length _) Tryd.underlying50 rfl info_pfx ?_) | (refine wpList_load_g (by rfl) 50 _ rfl (w.heap.size + 1) 0 18 rfl _ _ hP.b2.range (Pfx.cells_length _) Tryd.underlying50 rfl info_pfx ?_) | (refine wpList_load_g (by rfl) 50 _ rfl (w.heap.size + 2) 0 18 rfl _ _ hP.b3.range (Pfx.cells_length _) Tryd.underlying50 rfl info_pfx ?_))
  first
  | (refine (cmp_any p r _).mono ?_
     rintro e w1 ⟨rfl, hb⟩
     replace hP := hP.next hb
     clear hb
     rw [HT.out (by trivial)]
     go_wp2
     go_ret
     exact ⟨rfl, hP.lo⟩)
  | (go_ret
     exact ⟨rfl, hP.lo⟩)
theorem order_any (p q r : Pfx) (m : Int) (w : World) (h0 : 0 < w.heap.size) (hm : w.cell? ⟨0, 0, none⟩ = some (.int .i64 m)) :
    Calls Tryd.prog 12 #[p.val, q.val, r.val] w fun e w' => e = .returned (.bool true) ∧ Below w.heap.size w w' := by
  rcases cmp_bd p q with hx | hx | hx <;> rcases cmp_bd q r with hy | hy | hy
  · exact order_mm p q r hx hy m w h0 hm
  · exact order_mz p q r hx hy m w h0 hm
  · exact order_mp p q r hx hy m w h0 hm
  · exact order_zm p q r hx hy m w h0 hm
  · exact order_zz p q r hx hy m w h0 hm
  · exact order_zp p q r hx hy m w h0 hm
  · exact order_pm p q r hx hy m w h0 hm
  · exact order_pz p q r hx hy m w h0 hm
  · exact order_pp p q r hx hy m w h0 hm
end Go.Proofs.YtmoldmnhijcckaaDoor
