/- The law PduBack, walked. -/
import Derived.Test.YtmoldmnhijcckaaMa35
import Derived.Test.YtmoldmnhijcckaaMa08
import Derived.Deep.DeepCutAuto
import Derived.Deep.DeepMust
set_option linter.unusedVariables false
set_option linter.unusedSectionVars false
set_option linter.unusedSimpArgs false
namespace Go.Proofs.Ytmoldmnhijcckaa
open Go.RowKit
/-- What is written, under a name of its own. -/
theorem write_ok (p : Pdu) (h : pduOk p = true) (xs : List UInt8) (hx : xs = wrB p) (w : World) : Calls Try.prog 13 #[p.val] w fun e w' => ∃ A c, e = .returned (.tuple #[.slice A xs.length c, .int .i64 0]) ∧ w'.ownsRow w.heap.size 5 1 (.slice A xs.length c) xs.length (xs.map bv) ∧ Below w.heap.size w w' := by
  subst hx
  refine (write_any p w).mono ?_
  rintro e w1 ⟨h1, _, hb⟩
  obtain ⟨v, rfl, hov⟩ := h1 h
  obtain ⟨A, c, rfl⟩ := own_slice' hov
  exact ⟨A, c, rfl, hov, hb⟩
theorem own_lit0 (w : World) (base : Nat) (e : TypeId) (size : Nat) (hb : base ≤ w.heap.size) : (w.alloc (.cells #[] e)).ownsRow base e size (.slice (some ⟨w.heap.size, 0, none⟩) 0 0) 0 [] := by
  have := World.ownsRow_lit (base := base) (e := e) (size := size) w #[] 0 hb (by simp) (by simp)
  exact this
structure BK (w : World) (B : Nat) (A : Option Addr) (bs : List UInt8) (p : Pdu) (W : World) : Prop where
  bx : Bx w p W
  rd : Reads W B 1 A bs.length (bs.map bv)
theorem BK.next {w : World} {B : Nat} {A : Option Addr} {bs : List UInt8} {p : Pdu} {W W' : World} (h : BK w B A bs p W) (hB : B ≤ w.heap.size) (hb : Below W.heap.size W W') : BK w B A bs p W' :=
  ⟨h.bx.next hb, h.rd.below hb (by have := h.bx.2.size; omega)⟩
theorem BK.start {w : World} {B : Nat} {A : Option Addr} {bs : List UInt8} (hB : B ≤ w.heap.size) (hr : Reads w B 1 A bs.length (bs.map bv)) (p : Pdu) : BK w B A bs p (w.alloc (.cells p.cells.toArray 29)) :=
  ⟨Bx.new w p, hr.alloc hB _⟩
set_option maxRecDepth 100000 in
set_option maxHeartbeats 1000000 in
theorem back_upa (w : World) (p : Pdu) (bs : List UInt8) (A : Option Addr) (c B : Nat) (hc : bs.length ≤ c) (hr : Reads w B 1 A bs.length (bs.map bv)) (n : Int) (hB : B ≤ w.heap.size)
    (h1 : 1000 < p.text.size) : Calls Try.prog 3 #[p.val, .slice A bs.length c, .int .i64 n] w fun e w' => e = .returned (.bool true) ∧ Below w.heap.size w w' := by
  have d1 : decide ((1000 : Int) < (p.text.size : Int)) = true := by simp; omega
  have d1' : decide (1000 < p.text.size) = true := by simp; omega
  clear h1
  simp only [Pdu.val]
  have hX := BK.start hB hr p
  clear hr
  go_enter Try.func3, Try.ntmps3
  go_upto_region 2 with (go_at_call 12; refine (awake_any _).mono ?_; rintro e w1 ⟨rfl, hb1⟩; replace hX := hX.next hB hb1; clear hb1)
  refine wp_gen (BK w B A bs p) hX ?_
  clear hX
  intro W hW
  have c25 := (hW.bx.1.cell 25).trans p.c25
  go_wp2
  go_ret
  exact ⟨rfl, hW.bx.2⟩
set_option maxRecDepth 100000 in
set_option maxHeartbeats 1000000 in
theorem back_upb (w : World) (p : Pdu) (bs : List UInt8) (A : Option Addr) (c B : Nat) (hc : bs.length ≤ c) (hr : Reads w B 1 A bs.length (bs.map bv)) (n : Int) (hB : B ≤ w.heap.size)
    (h1 : ¬ 1000 < p.text.size) (h2 : 500 < bs.length) : Calls Try.prog 3 #[p.val, .slice A bs.length c, .int .i64 n] w fun e w' => e = .returned (.bool true) ∧ Below w.heap.size w w' := by
  have d1 : decide ((1000 : Int) < (p.text.size : Int)) = false := by simp; omega
  have d1' : decide (1000 < p.text.size) = false := by simp; omega
  clear h1
  have d2 : decide ((500 : Int) < (bs.length : Int)) = true := by simp; omega
  have d2' : decide (500 < bs.length) = true := by simp; omega
  clear h2
  simp only [Pdu.val]
  have hX := BK.start hB hr p
  clear hr
  go_enter Try.func3, Try.ntmps3
  go_upto_region 2 with (go_at_call 12; refine (awake_any _).mono ?_; rintro e w1 ⟨rfl, hb1⟩; replace hX := hX.next hB hb1; clear hb1)
  refine wp_gen (BK w B A bs p) hX ?_
  clear hX
  intro W hW
  have c25 := (hW.bx.1.cell 25).trans p.c25
  go_wp2
  go_ret
  exact ⟨rfl, hW.bx.2⟩
set_option maxRecDepth 100000 in
set_option maxHeartbeats 1000000 in
theorem back_upc (w : World) (p : Pdu) (bs : List UInt8) (A : Option Addr) (c B : Nat) (hc : bs.length ≤ c) (hr : Reads w B 1 A bs.length (bs.map bv)) (n : Int) (hB : B ≤ w.heap.size)
    (h1 : ¬ 1000 < p.text.size) (h2 : ¬ 500 < bs.length) (h3 : n < 0) : Calls Try.prog 3 #[p.val, .slice A bs.length c, .int .i64 n] w fun e w' => e = .returned (.bool true) ∧ Below w.heap.size w w' := by
  have d1 : decide ((1000 : Int) < (p.text.size : Int)) = false := by simp; omega
  have d1' : decide (1000 < p.text.size) = false := by simp; omega
  clear h1
  have d2 : decide ((500 : Int) < (bs.length : Int)) = false := by simp; omega
  have d2' : decide (500 < bs.length) = false := by simp; omega
  clear h2
  have d3 : decide (n < 0) = true := by simp; omega
  clear h3
  simp only [Pdu.val]
  have hX := BK.start hB hr p
  clear hr
  go_enter Try.func3, Try.ntmps3
  go_upto_region 2 with (go_at_call 12; refine (awake_any _).mono ?_; rintro e w1 ⟨rfl, hb1⟩; replace hX := hX.next hB hb1; clear hb1)
  refine wp_gen (BK w B A bs p) hX ?_
  clear hX
  intro W hW
  have c25 := (hW.bx.1.cell 25).trans p.c25
  go_wp2
  go_ret
  exact ⟨rfl, hW.bx.2⟩
set_option maxRecDepth 100000 in
set_option maxHeartbeats 1000000 in
theorem back_no (w : World) (p : Pdu) (bs : List UInt8) (A : Option Addr) (c B : Nat) (hc : bs.length ≤ c) (hr : Reads w B 1 A bs.length (bs.map bv)) (n : Int) (hB : B ≤ w.heap.size)
    (h1 : ¬ 1000 < p.text.size) (h2 : ¬ 500 < bs.length) (h3 : ¬ n < 0) (hp : pduOk p = false) : Calls Try.prog 3 #[p.val, .slice A bs.length c, .int .i64 n] w fun e w' => e = .returned (.bool true) ∧ Below w.heap.size w w' := by
  have d1 : decide ((1000 : Int) < (p.text.size : Int)) = false := by simp; omega
  have d1' : decide (1000 < p.text.size) = false := by simp; omega
  have d2 : decide ((500 : Int) < (bs.length : Int)) = false := by simp; omega
  have d2' : decide (500 < bs.length) = false := by simp; omega
  have d3 : decide (n < 0) = false := by simp; omega
  clear h1 h2 h3
  have HP := Lib.hid hp
  clear hp
  simp only [Pdu.val]
  have hX := BK.start hB hr p
  clear hr
  go_enter Try.func3, Try.ntmps3
  go_upto_region 2 with (go_at_call 12; refine (awake_any _).mono ?_; rintro e w1 ⟨rfl, hb1⟩; replace hX := hX.next hB hb1; clear hb1)
  refine wp_gen (BK w B A bs p) hX ?_
  clear hX
  intro W hW
  have c25 := (hW.bx.1.cell 25).trans p.c25
  go_wp2_with (first | (refine wpList_load_g (by rfl) 29 _ rfl w.heap.size 0 26 rfl _ _ hW.bx.1.range (Pdu.cells_length _) Try.underlying29 rfl info_pdu ?_) | (go_at_call 13; refine (write_any p _).mono ?_; rintro e w3 hw3; obtain rfl := hw3.2.1 HP.out; replace hW := hW.next hB hw3.2.2; clear hw3) | (go_at_call 14; refine (right_any p _).mono ?_; rintro e w4 ⟨rfl, hb4⟩; rw [HP.out]; replace hW := hW.next hB hb4; clear hb4))
  go_ret
  exact ⟨rfl, hW.bx.2⟩
/-- Behind the write: the box, what is behind, what was written. -/
structure BK2 (w : World) (B : Nat) (A : Option Addr) (bs : List UInt8) (p : Pdu) (A' : Option Addr) (n' c' : Nat) (xs : List UInt8) (W : World) : Prop where
  bk : BK w B A bs p W
  own : W.ownsRow w.heap.size 5 1 (.slice A' n' c') n' (xs.map bv)
theorem BK2.next {w : World} {B : Nat} {A A' : Option Addr} {bs xs : List UInt8} {p : Pdu} {n' c' : Nat} {W W' : World} (h : BK2 w B A bs p A' n' c' xs W) (hB : B ≤ w.heap.size) (hb : Below W.heap.size W W') : BK2 w B A bs p A' n' c' xs W' :=
  ⟨h.bk.next hB hb, own_below h.own hb⟩
set_option maxRecDepth 100000 in
set_option maxHeartbeats 2000000 in
theorem back_ok (w : World) (p : Pdu) (bs : List UInt8) (A : Option Addr) (c B : Nat) (hc : bs.length ≤ c) (hr : Reads w B 1 A bs.length (bs.map bv)) (n : Nat) (hB : B ≤ w.heap.size)
    (h1 : ¬ 1000 < p.text.size) (h2 : ¬ 500 < bs.length) (hp : pduOk p = true) : Calls Try.prog 3 #[p.val, .slice A bs.length c, .int .i64 n] w fun e w' => e = .returned (.bool true) ∧ Below w.heap.size w w' := by
  obtain ⟨xs, hx⟩ : ∃ xs, xs = wrB p := ⟨_, rfl⟩
  have hbd := wr_bd hp
  have R1 := read_wr hp bs
  have R2 := fun k hk => read_cutoff hp k hk
  rw [← hx] at hbd R1 R2
  have HW := Lib.hid (fun w => write_ok p hp xs hx w)
  obtain ⟨z, hz⟩ : ∃ z, z = bareP 0 := ⟨_, rfl⟩
  rw [← hz] at R2
  obtain ⟨L, hL⟩ : ∃ L, L = xs.length := ⟨_, rfl⟩
  have HL := Lib.hid hL
  rw [← hL] at hbd R1 R2
  have HR1 := Lib.hid R1
  have HR2 := Lib.hid (R2 (n % L) (Nat.mod_lt _ (by omega)))
  have hm1 : (n : Int) % (L : Int) = ((n % L : Nat) : Int) := by omega
  have hm2 : Int.tmod (n : Int) (L : Int) = ((n % L : Nat) : Int) := rfl
  have HK := Lib.hid (show n % L < L from Nat.mod_lt _ (by omega))
  generalize n % L = k at hm1 hm2 HK HR2
  have hL0 : ((L : Int) == 0) = false := beq_eq_false_iff_ne.2 (by omega)
  have d1 : decide ((1000 : Int) < (p.text.size : Int)) = false := by simp; omega
  have d1' : decide (1000 < p.text.size) = false := by simp; omega
  have d2 : decide ((500 : Int) < (bs.length : Int)) = false := by simp; omega
  have d2' : decide (500 < bs.length) = false := by simp; omega
  have d3 : decide ((n : Int) < 0) = false := decide_eq_false (by omega)
  have hb500 : bs.length ≤ 500 := by omega
  clear h1 h2 hp hx hz R1 R2 hL
  obtain ⟨i0, hi0, hz0, hz1, hz2⟩ := info_parts info5b
  simp only [Pdu.val]
  have hX := BK.start hB hr p
  clear hr
  go_enter Try.func3, Try.ntmps3
  go_upto_region 2 with (go_at_call 12; refine (awake_any _).mono ?_; rintro e w1 ⟨rfl, hb1⟩; replace hX := hX.next hB hb1; clear hb1)
  refine wp_gen (BK w B A bs p) hX ?_
  clear hX
  intro W hW
  have c25 := (hW.bx.1.cell 25).trans p.c25
  have hszW := hW.bx.2.size
  go_upto_region 7 with (first | (refine wpList_load_at rfl 29 _ rfl w.heap.size 0 26 rfl _ _ hW.bx.1.range (Pdu.cells_length _) Try.underlying29 rfl info_pdu ?_) | (go_at_call 13; refine (HW.out _).mono ?_; rintro e w3 ⟨A', c', rfl, hov, hb3⟩; replace hW := hW.next hB hb3))
  rw [← HL.out] at hov ⊢
  obtain ⟨ga, ca, hva, hga, hgl⟩ := hov.form (by omega)
  obtain rfl : A' = some ⟨ga, 0, none⟩ := by injection hva
  have hcc := own_cap hov
  clear hva hga hgl
  have hrd2 := Reads.of_own hov
  have hW2 : BK2 w B A bs p (some ⟨ga, 0, none⟩) L c' xs w3 := ⟨hW, own_base_mono hov hszW⟩
  go_upto_region 9 with fail
  have tok1 : True := trivial
  have hl0 := own_lit0 w3 w3.heap.size 5 1 (Nat.le_refl _)
  have hbA : Below w3.heap.size w3 (w3.alloc (.cells #[] 5)) := (Below.refl _ _).alloc (Nat.le_refl _) _
  go_upto_region 10 with (first | (at_builtin; have _t := tok1; refine wpList_append_any _ rfl _ _ 30 rfl w3.heap.size 5 i0 _ 1 1 Try.underlying30 hi0 hz0 hz1 hz2 rfl (by omega) _ 0 _ rfl hl0 w3.heap.size (some ⟨ga, 0, none⟩) L c' _ rfl (hrd2.alloc (Nat.le_refl _) _) (bv_one _) (by simp only [maxLen]; omega) (by omega) (by simp) ?_; intro v4 w4 ho4 hg4 _; rw [Nat.zero_add, List.nil_append] at ho4; obtain ⟨A4, c4, rfl⟩ := own_slice' ho4; have hb4 := hbA.grown hg4 (by simp) (fun k hk => (own_base_le hl0 k hk).1); clear tok1 hg4) | (at_builtin; go_must (refine wpList_append_any _ rfl _ _ 30 rfl w3.heap.size 5 i0 _ 1 1 Try.underlying30 hi0 hz0 hz1 hz2 rfl (by omega) _ L _ rfl ho4 B A bs.length c _ rfl (hW.rd.below hb4 (by have := hW.bx.2.size; omega)) (bv_one _) (by simp only [maxLen]; omega) (by omega) hb4.size ?_; intro v5 w5 ho5 hg5 _; rw [← List.map_append] at ho5; obtain ⟨A5, c5, rfl⟩ := own_slice' ho5; have hb5 := hb4.grown hg5 hb4.size (fun k hk => (own_base_le ho4 k hk).1); clear hg5)) | (go_at_call 15; go_must (refine (read_n (xs ++ bs) (L + bs.length) (by rw [List.length_append, HL.out]) _ _ _ _ HR1.out _ c5 _ (own_cap ho5) _ (Nat.le_refl _) (Reads.of_own ho5)).mono ?_; rintro e w6 ⟨rfl, hb6⟩)) | (refine wpList_store_at rfl 29 _ _ rfl _ 0 26 29 p.cells (bareL 0) rfl rfl (blk_new' _ _ _ _ rfl) (Pdu.cells_length _) (by decide) info_pdu (Pdu.one _) ?_))
  refine wp_gen (fun W => BK2 w B A bs p (some ⟨ga, 0, none⟩) L c' xs W ∧ Blk W w6.heap.size 29 p.cells) ⟨(hW2.next hB (below_then hb5 (Nat.le_refl _) hb6)).next hB (put_new w6 p).2, (put_new w6 p).1⟩ ?_
  clear hW hW2 hov hrd2 hl0 hbA hb4 hb5 ho4 ho5 hb6 hb3 c25
  generalize w6.heap.size = g6
  rintro W7 ⟨hW, hq⟩
  have fk := HK.out
  have fkc : (k : Int) ≤ (c' : Int) := by omega
  have fkc' : k ≤ c' := by omega
  go_upto_region 11 with (first | (go_at_call 15; go_must (refine (read_n (xs.take k) k (by rw [List.length_take, ← HL.out]; omega) _ _ _ _ HR2.out _ c' _ (by omega) _ (Nat.le_refl _) ((Reads.of_own hW.own).take1 (by omega))).mono ?_; rintro e w8 ⟨rfl, hb8⟩)) | (refine wpList_store_at rfl 29 _ _ rfl _ 0 26 29 z.cells (bareL 0) rfl rfl (blk_new' _ _ _ _ rfl) (Pdu.cells_length _) (by decide) info_pdu (Pdu.one _) ?_))
  refine wp_gen (fun W => Bx w p W ∧ Blk W g6 29 p.cells) ⟨((hW.next hB hb8).next hB (put_new w8 z).2).bk.bx, (hq.below hb8 hq.lt).below (put_new w8 z).2 (hq.below hb8 hq.lt).lt⟩ ?_
  clear hW hq hb8
  rintro W9 ⟨hW, hq⟩
  have hqq : ∀ W : World, (Go.binOp .eql 29 (.agg p.cells.toArray) (.agg p.cells.toArray)).run Try.prog W = .ok (.bool true) W := fun W => by rw [eq_pdu]; simp
  go_wp2_with (first | (refine wpList_load_g (by rfl) 29 _ rfl g6 0 26 rfl _ _ hq.range (Pdu.cells_length _) Try.underlying29 rfl info_pdu ?_) | (refine wpList_load_g (by rfl) 29 _ rfl w.heap.size 0 26 rfl _ _ hW.1.range (Pdu.cells_length _) Try.underlying29 rfl info_pdu ?_))
  go_ret
  exact ⟨rfl, hW.2⟩
end Go.Proofs.Ytmoldmnhijcckaa
