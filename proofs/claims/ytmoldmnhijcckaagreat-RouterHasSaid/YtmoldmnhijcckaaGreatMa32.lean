/- vrp.rows at one row: Swap, Pop; heap.Pop; vrp.first. -/
import Derived.Test.YtmoldmnhijcckaaGreatMa31
set_option linter.unusedVariables false
set_option linter.unusedSectionVars false
set_option linter.unusedSimpArgs false
namespace Go.Proofs.YtmoldmnhijcckaaGreat
open Go.RowKit
set_option maxRecDepth 100000 in
set_option maxHeartbeats 1000000 in
theorem swap_00 (E cE : Nat) (A0 : Option Addr) (n0 c0 : Nat) (rest : List Value) (w : World) (hE : Blk w E 27 (.slice A0 n0 c0 :: rest)) : Calls Tryz.prog 177 #[.slice (some ⟨E, 0, none⟩) 1 cE, .int .i64 0, .int .i64 0] w fun e w' => e = .returned (.tuple #[]) ∧ Blk w' E 27 (.slice A0 n0 c0 :: rest) ∧ w.grownBy w' (some E) := by
  have hS0 : Blk w E 27 (.slice A0 n0 c0 :: rest) ∧ w.grownBy w (some E) := ⟨hE, grown_refl _ _⟩
  go_enter Tryz.func177, Tryz.ntmps177
  go_upto_region 0 with fail
  refine reg_sch2 15 [(true, 0), (true, 1), (true, 2), (true, 3), (true, 4), (true, 5), (true, 6), (true, 7), (true, 8), (true, 9), (true, 10), (true, 11), (true, 12), (false, 13), (true, 14)] (by kernel_rfl) (by kernel_rfl) (fun W => Blk W E 27 (.slice A0 n0 c0 :: rest) ∧ w.grownBy W (some E)) (fun W => Blk W E 27 (.slice A0 n0 c0 :: rest) ∧ w.grownBy W (some E)) ?_ ?_ ?_
  · exact ⟨hS0.1, grown_drew hS0.2⟩
  · exact fun _ h => h
  intro W hSW
  simp only [List.map_cons, List.map_nil, List.getD_cons_zero, List.getD_cons_succ, List.drop_succ_cons, List.drop_zero]
  refine hd_pure (v := ?_) (by rfl) (fun W' hS' => ?_) ?_ -- 0
  rotate_left
  · have c1 := hS'.1.cell 0; simp only [List.getElem?_cons_zero] at c1; clear hS'; (go_simp; first | with_reducible rfl | rfl)
  try simp only [Act.put, List.setIfInBounds_toArray, List.set_cons_zero, List.set_cons_succ]
  refine hd_pure (v := ?_) (by rfl) (fun W' hS' => ?_) ?_ -- 1
  rotate_left
  · have c1 := hS'.1.cell 0; simp only [List.getElem?_cons_zero] at c1; clear hS'; (go_simp; first | with_reducible rfl | rfl)
  try simp only [Act.put, List.setIfInBounds_toArray, List.set_cons_zero, List.set_cons_succ]
  refine hd_pure (v := ?_) (by rfl) (fun W' hS' => ?_) ?_ -- 2
  rotate_left
  · have c1 := hS'.1.cell 0; simp only [List.getElem?_cons_zero] at c1; clear hS'; (go_simp; first | with_reducible rfl | rfl)
  try simp only [Act.put, List.setIfInBounds_toArray, List.set_cons_zero, List.set_cons_succ]
  refine hd_pure (v := ?_) (by rfl) (fun W' hS' => ?_) ?_ -- 3
  rotate_left
  · have c1 := hS'.1.cell 0; simp only [List.getElem?_cons_zero] at c1; clear hS'; (go_simp; first | with_reducible rfl | rfl)
  try simp only [Act.put, List.setIfInBounds_toArray, List.set_cons_zero, List.set_cons_succ]
  refine hd_pure (v := ?_) (by rfl) (fun W' hS' => ?_) ?_ -- 4
  rotate_left
  · have c1 := hS'.1.cell 0; simp only [List.getElem?_cons_zero] at c1; clear hS'; (go_simp; first | with_reducible rfl | rfl)
  try simp only [Act.put, List.setIfInBounds_toArray, List.set_cons_zero, List.set_cons_succ]
  refine hd_pure (v := ?_) (by rfl) (fun W' hS' => ?_) ?_ -- 5
  rotate_left
  · have c1 := hS'.1.cell 0; simp only [List.getElem?_cons_zero] at c1; clear hS'; (go_simp; first | with_reducible rfl | rfl)
  try simp only [Act.put, List.setIfInBounds_toArray, List.set_cons_zero, List.set_cons_succ]
  refine hd_pure (v := ?_) (by rfl) (fun W' hS' => ?_) ?_ -- 6
  rotate_left
  · have c1 := hS'.1.cell 0; simp only [List.getElem?_cons_zero] at c1; clear hS'; (go_simp; first | with_reducible rfl | rfl)
  try simp only [Act.put, List.setIfInBounds_toArray, List.set_cons_zero, List.set_cons_succ]
  refine hd_pure (v := ?_) (by rfl) (fun W' hS' => ?_) ?_ -- 7
  rotate_left
  · have c1 := hS'.1.cell 0; simp only [List.getElem?_cons_zero] at c1; clear hS'; (go_simp; first | with_reducible rfl | rfl)
  try simp only [Act.put, List.setIfInBounds_toArray, List.set_cons_zero, List.set_cons_succ]
  refine hd_pure (v := ?_) (by rfl) (fun W' hS' => ?_) ?_ -- 8
  rotate_left
  · have c1 := hS'.1.cell 0; simp only [List.getElem?_cons_zero] at c1; clear hS'; (go_simp; first | with_reducible rfl | rfl)
  try simp only [Act.put, List.setIfInBounds_toArray, List.set_cons_zero, List.set_cons_succ]
  refine hd_pure (v := ?_) (by rfl) (fun W' hS' => ?_) ?_ -- 9
  rotate_left
  · have c1 := hS'.1.cell 0; simp only [List.getElem?_cons_zero] at c1; clear hS'; (go_simp; first | with_reducible rfl | rfl)
  try simp only [Act.put, List.setIfInBounds_toArray, List.set_cons_zero, List.set_cons_succ]
  refine hd_pure (v := ?_) (by rfl) (fun W' hS' => ?_) ?_ -- 10
  rotate_left
  · have c1 := hS'.1.cell 0; simp only [List.getElem?_cons_zero] at c1; clear hS'; (go_simp; first | with_reducible rfl | rfl)
  try simp only [Act.put, List.setIfInBounds_toArray, List.set_cons_zero, List.set_cons_succ]
  refine hd_pure (v := ?_) (by rfl) (fun W' hS' => ?_) ?_ -- 11
  rotate_left
  · have c1 := hS'.1.cell 0; simp only [List.getElem?_cons_zero] at c1; clear hS'; (go_simp; first | with_reducible rfl | rfl)
  try simp only [Act.put, List.setIfInBounds_toArray, List.set_cons_zero, List.set_cons_succ]
  refine hd_pure (v := ?_) (by rfl) (fun W' hS' => ?_) ?_ -- 12
  rotate_left
  · have c1 := hS'.1.cell 0; simp only [List.getElem?_cons_zero] at c1; clear hS'; (go_simp; first | with_reducible rfl | rfl)
  try simp only [Act.put, List.setIfInBounds_toArray, List.set_cons_zero, List.set_cons_succ]
  refine hd_sole (by rfl) (fun K hK => ?_) -- 13
  have c1 := hSW.1.cell 0; have f1 := hSW.1.frozen 0; simp only [List.getElem?_cons_zero] at c1
  go_simp
  refine hK _ _ (⟨hSW.1.set_ 0 (.slice A0 n0 c0), grown_setCell hSW.2 0 (.slice A0 n0 c0)⟩) ?_
  clear hK K hSW
  intro hSW
  try simp only [Act.put, List.setIfInBounds_toArray, List.set_cons_zero, List.set_cons_succ]
  refine hd_pure (v := ?_) (by rfl) (fun W' hS' => ?_) ?_ -- 14
  rotate_left
  · have c1 := hS'.1.cell 0; simp only [List.getElem?_cons_zero] at c1; clear hS'; (go_simp; first | with_reducible rfl | rfl)
  try simp only [Act.put, List.setIfInBounds_toArray, List.set_cons_zero, List.set_cons_succ]
  refine hd_nil ?_
  have c1 := hSW.1.cell 0; have f1 := hSW.1.frozen 0; simp only [List.getElem?_cons_zero] at c1
  go_wp2_with fail
  refine NoPanic.normal ?_
  go_wp2_with fail
  go_end0
  exact ⟨rfl, hSW.1.set_ 0 _, grown_setCell hSW.2 0 _⟩
set_option maxRecDepth 100000 in
set_option maxHeartbeats 1000000 in
theorem pop_1 (R E cE : Nat) (A0 : Option Addr) (n0 c0 : Nat) (rest : List Value) (w : World) (hJ : J1 w R E cE (.slice A0 n0 c0) rest) : Calls Tryz.prog 178 #[.pointer (some ⟨R, 0, none⟩)] w fun e w' => e = .returned (.iface 27 (.slice A0 n0 c0)) ∧ Blk w' R 125 [.slice (some ⟨E, 0, none⟩) 0 cE] ∧ w.grownBy w' (some R) := by
  have c1 := hJ.r.cell 0
  have c2 := hJ.e.cell 0
  have f1 := hJ.r.frozen 0
  simp only [List.getElem?_cons_zero] at c1 c2
  go_enter Tryz.func178, Tryz.ntmps178
  go_wp2_with fail
  go_ret
  exact ⟨rfl, hJ.r.set_ 0 _, grown_setCell (grown_refl _ _) 0 _⟩
/-- What keeps all blocks but two. -/
structure Fr2 (w w' : World) (E R : Nat) : Prop where
  os : w'.os = w.os
  tape : w'.tape = w.tape
  output : w'.output = w.output
  size : w.heap.size ≤ w'.heap.size
  block : ∀ k, k < w.heap.size → k ≠ E → k ≠ R → w'.heap[k]? = w.heap[k]?
theorem Fr2.of {w w' : World} {E R : Nat} (h : w.grownBy w' (some E)) : Fr2 w w' E R := ⟨h.os, h.tape, h.output, h.size, fun k hk h1 _ => h.block k hk (fun e => h1 (Option.some.inj e))⟩
theorem Fr2.of' {w w' : World} {E R : Nat} (h : w.grownBy w' (some R)) : Fr2 w w' E R := ⟨h.os, h.tape, h.output, h.size, fun k hk _ h1 => h.block k hk (fun e => h1 (Option.some.inj e))⟩
theorem Fr2.trans {a b c : World} {E R : Nat} (h : Fr2 a b E R) (k : Fr2 b c E R) : Fr2 a c E R := ⟨k.os.trans h.os, k.tape.trans h.tape, k.output.trans h.output, Nat.le_trans h.size k.size, fun i hi h1 h2 => (k.block i (Nat.lt_of_lt_of_le hi h.size) h1 h2).trans (h.block i hi h1 h2)⟩
theorem Fr2.then {a b c : World} {E R : Nat} (h : Fr2 a b E R) (k : Below b.heap.size b c) : Fr2 a c E R := h.trans ⟨k.os, k.tape, k.output, k.size, fun i hi _ _ => k.block i hi⟩
set_option maxRecDepth 100000 in
set_option maxHeartbeats 1000000 in
theorem hpop_1 (R E cE : Nat) (A0 : Option Addr) (n0 c0 : Nat) (rest : List Value) (w : World) (hJ : J1 w R E cE (.slice A0 n0 c0) rest) : Calls Tryz.prog 102 #[.iface 126 (.pointer (some ⟨R, 0, none⟩))] w fun e w' => e = .returned (.iface 27 (.slice A0 n0 c0)) ∧ Blk w' R 125 [.slice (some ⟨E, 0, none⟩) 0 cE] ∧ Fr2 w w' E R := by
  have c1 := hJ.r.cell 0
  simp only [List.getElem?_cons_zero] at c1
  have hm := meth_len 318 w R _ c1
  have hm2 := meth_swap 318 w R _ c1
  go_enter Tryz.func102, Tryz.ntmps102
  go_wp2_with fail
  refine (len_any _ 1 cE w).mono ?_
  rintro e w1 ⟨rfl, rfl⟩
  go_wp2_with fail
  refine (swap_00 E cE A0 n0 c0 rest w hJ.e).mono ?_
  rintro e w1 ⟨rfl, hE, hf⟩
  have hRE : R ≠ E := hJ.r.ne_ hJ.e (by decide)
  have hJ1 : J1 w1 R E cE (.slice A0 n0 c0) rest := ⟨hJ.r.grown hf (fun e => hRE (Option.some.inj e)), hE⟩
  clear hm hm2 c1 hJ hE
  go_wp2_with fail
  refine (down_0 R w1).mono ?_
  rintro e w2 ⟨rfl, rfl⟩
  go_wp2_with fail
  refine (pop_1 R E cE A0 n0 c0 rest w1 hJ1).mono ?_
  rintro e w2 ⟨rfl, hR, hf2⟩
  go_wp2_with fail
  go_ret
  exact ⟨rfl, hR, (Fr2.of hf).trans (Fr2.of' hf2)⟩
end Go.Proofs.YtmoldmnhijcckaaGreat
/- vrp.first at one row. -/
set_option linter.unusedVariables false
set_option linter.unusedSectionVars false
set_option linter.unusedSimpArgs false
namespace Go.Proofs.YtmoldmnhijcckaaGreat
open Go.RowKit
theorem Fr2.setCells {w W : World} {E R a0 : Nat} (h : Fr2 w W E R) (ha : w.heap.size ≤ a0) (o : Nat) (vs : List Value) : Fr2 w (W.setCells a0 o vs) E R := by
  have hb : Below 0 W (W.setCells a0 o vs) := Below.setCells (Nat.zero_le _) vs o (Below.refl _ _)
  exact ⟨hb.os.trans h.os, hb.tape.trans h.tape, hb.output.trans h.output, Nat.le_trans h.size hb.size, fun k hk h1 h2 => (heap_setCells vs W o k (by omega)).trans (h.block k hk h1 h2)⟩
structure FQ (w : World) (R E cE : Nat) (v0 : Value) (rest : List Value) (x : Vrp) (a0 a1 : Nat) (W : World) : Prop where
  j : J1 W R E cE v0 rest
  b0 : Blk W a0 67 zV
  b1 : Blk W a1 67 x.cells
  f : Fr2 w W E R
def FirstPost (w : World) (R E cE : Nat) (rest : List Value) (x : Vrp) (r : List Vrp) (n : Nat) (A : Option Addr) (c B : Nat) (e : Ending) (w' : World) : Prop :=
  e = .returned x.val ∧ Fr2 w w' E R ∧ ((r = [] ∧ Blk w' R 125 [.slice (some ⟨E, 0, none⟩) 0 cE]) ∨ (r ≠ [] ∧ ∃ A2, J1 w' R E cE (.slice A2 (n - 1) (c - 1)) rest ∧ ∀ W B', Reads W B' 20 A n ((x :: r).flatMap Vrp.cells) → Reads W B' 20 A2 (n - 1) (r.flatMap Vrp.cells)))
set_option maxRecDepth 100000 in
set_option maxHeartbeats 2000000 in
theorem first_any (x : Vrp) (r : List Vrp) (n : Nat) (hn : r.length + 1 = n) (A : Option Addr) (c B : Nat) (R E cE : Nat) (rest : List Value) (w : World) (hr : Reads w B 20 A n ((x :: r).flatMap Vrp.cells)) (hJ : J1 w R E cE (.slice A n c) rest) (hc : n ≤ c) (h6 : n ≤ 1000000) (hcE : 1 ≤ cE) (hBw : B ≤ w.heap.size) :
    Calls Tryz.prog 67 #[.iface 126 (.pointer (some ⟨R, 0, none⟩))] w (FirstPost w R E cE rest x r n A c B) := by
  have hz : zV = [.int .u32 0, .bool false, .int .u8 0, .int .u8 0, .int .u8 0, .int .u8 0, .int .u8 0, .int .u8 0, .int .u8 0, .int .u8 0, .int .u8 0, .int .u8 0, .int .u8 0, .int .u8 0, .int .u8 0, .int .u8 0, .int .u8 0, .int .u8 0, .int .i64 0, .int .i64 0] := rfl
  have hb0 : Below w.heap.size w (w.alloc (.cells zV.toArray 67)) := (Below.refl _ _).alloc (Nat.le_refl _) _
  have hr0 := hr.alloc hBw (.cells zV.toArray 67)
  have hJ0 := hJ.next hb0
  have hK0 := Blk.new w 67 zV
  have hew := hJ.e.lt
  have hrw := hJ.r.lt
  have hB0 : B ≤ (w.alloc (.cells zV.toArray 67)).heap.size := by rw [World.size_alloc]; omega
  generalize hw0 : w.alloc (.cells zV.toArray 67) = w0 at hb0 hr0 hJ0 hK0 hB0
  clear hr hJ
  go_enter Tryz.func67, Tryz.ntmps67
  go_upto_region 1 with fail
  have hw0' : w.alloc (.cells #[.int .u32 0, .bool false, .int .u8 0, .int .u8 0, .int .u8 0, .int .u8 0, .int .u8 0, .int .u8 0, .int .u8 0, .int .u8 0, .int .u8 0, .int .u8 0, .int .u8 0, .int .u8 0, .int .u8 0, .int .u8 0, .int .u8 0, .int .u8 0, .int .i64 0, .int .i64 0] 67) = w0 := hw0
  rw [hw0']
  have hF0 : Fr2 w w0 E R := ⟨hb0.os, hb0.tape, hb0.output, hb0.size, fun k hk _ _ => hb0.block k hk⟩
  clear hw0 hw0' hb0
  obtain ⟨a0, ha0⟩ : ∃ a0, w.heap.size = a0 := ⟨_, rfl⟩
  rw [ha0] at hK0 hew hrw ⊢
  have HA0 := Lib.hid (Nat.le_of_eq ha0)
  clear ha0
  go_wp2_with fail
  refine (least_any x r n hn A c B R E cE rest w0 hr0 hJ0 hc h6 hcE hB0).mono ?_
  rintro e w1 ⟨rfl, ⟨A2, hJ1, hrd⟩, hf⟩
  have hK1 := hK0.grown hf (fun e => by have := Option.some.inj e; omega)
  have hF1 := hF0.trans (Fr2.of hf)
  have hQ : FQ w R E cE (.slice A2 (n - 1) (c - 1)) rest x a0 w1.heap.size ((w1.alloc (.cells zV.toArray 67)).setCells w1.heap.size 0 x.cells) := by
    have hb : Below w1.heap.size w1 ((w1.alloc (.cells zV.toArray 67)).setCells w1.heap.size 0 x.cells) := Below.setCells (Nat.le_refl _) _ _ ((Below.refl _ _).alloc (Nat.le_refl _) _)
    exact ⟨hJ1.next hb, hK1.below hb hK1.lt, (Blk.new _ _ _).setCells_all (Vrp.cells_length _), hF1.then hb⟩
  simp only [hz] at hQ
  clear hr0 hJ0 hK0 hF0 hJ1 hK1 hF1 hf hB0
  have hrd2 := hrd
  go_upto_region 2 with (refine wpList_store_at rfl 67 _ _ rfl w1.heap.size 0 20 67 _ zV rfl rfl (Blk.new _ _ _) (Vrp.cells_length _) (by decide) info_vrp1 (Vrp.one _) ?_)
  refine wp_gen (FQ w R E cE (.slice A2 (n - 1) (c - 1)) rest x a0 w1.heap.size) hQ ?_
  clear hQ
  generalize w1.heap.size = a1
  intro W hQ
  have c1 := hQ.j.r.cell 0
  simp only [List.getElem?_cons_zero] at c1
  cases hb : decide (0 < r.length)
  · have hr0 : r = [] := List.eq_nil_of_length_eq_zero (by have := of_decide_eq_false hb; omega)
    have HR := Lib.hid hr0
    clear hr0 hb c1
    go_wp2_with fail
    refine (hpop_1 R E cE A2 (n - 1) (c - 1) rest W hQ.j).mono ?_
    rintro e W2 ⟨rfl, hR2, hf2⟩
    have hz0 : Blk W2 a0 67 zV := (hf2.block a0 hQ.b0.lt (by omega) (by omega)).trans hQ.b0
    have hne1 : a1 ≠ E := hQ.b1.ne_ hQ.j.e (by decide)
    have hne2 : a1 ≠ R := hQ.b1.ne_ hQ.j.r (by decide)
    have hz1 : Blk W2 a1 67 x.cells := (hf2.block a1 hQ.b1.lt hne1 hne2).trans hQ.b1
    have hF := hQ.f.trans hf2
    have hfin : Fr2 w (W2.setCells a0 0 x.cells) E R ∧ Blk (W2.setCells a0 0 x.cells) R 125 [.slice (some ⟨E, 0, none⟩) 0 cE] ∧ Blk (W2.setCells a0 0 x.cells) a0 67 x.cells := ⟨hF.setCells HA0.out _ _, Blk.setCells_far (Blk.ne_ hR2 hz0 (by decide)) _ _ hR2, hz0.setCells_all (Vrp.cells_length _)⟩
    clear hQ
    go_wp2_with (first | (refine wpList_load_at rfl 67 _ rfl a1 0 20 rfl _ _ hz1.range (Vrp.cells_length _) Tryz.underlying67 rfl info_vrp1 ?_) | (refine wpList_store_at rfl 67 _ _ rfl a0 0 20 67 _ zV rfl rfl hz0 (Vrp.cells_length _) (by decide) info_vrp1 (Vrp.one _) ?_))
    exact bodyPost_ret (results_cell1 rfl _ a0 0 20 x.cells _ rfl hfin.2.2.range (Vrp.cells_length _) Tryz.underlying67 rfl info_vrp1) rfl ⟨rfl, hfin.1, .inl ⟨HR.out, hfin.2.1⟩⟩
  · have hr0 : r ≠ [] := fun e => by rw [e] at hb; simp at hb
    have HR := Lib.hid hr0
    clear hr0 hb
    go_wp2_with fail
    refine (fix_1 R (some ⟨E, 0, none⟩) cE W c1).mono ?_
    rintro e W2 ⟨rfl, rfl⟩
    have hz0 := hQ.b0
    have hz1 := hQ.b1
    have hfin : Fr2 w (W.setCells a0 0 x.cells) E R ∧ J1 (W.setCells a0 0 x.cells) R E cE (.slice A2 (n - 1) (c - 1)) rest ∧ Blk (W.setCells a0 0 x.cells) a0 67 x.cells := ⟨hQ.f.setCells HA0.out _ _, ⟨Blk.setCells_far (Blk.ne_ hQ.j.r hz0 (by decide)) _ _ hQ.j.r, Blk.setCells_far (Blk.ne_ hQ.j.e hz0 (by decide)) _ _ hQ.j.e⟩, hz0.setCells_all (Vrp.cells_length _)⟩
    clear hQ c1
    go_wp2_with (first | (refine wpList_load_at rfl 67 _ rfl a1 0 20 rfl _ _ hz1.range (Vrp.cells_length _) Tryz.underlying67 rfl info_vrp1 ?_) | (refine wpList_store_at rfl 67 _ _ rfl a0 0 20 67 _ zV rfl rfl hz0 (Vrp.cells_length _) (by decide) info_vrp1 (Vrp.one _) ?_))
    exact bodyPost_ret (results_cell1 rfl _ a0 0 20 x.cells _ rfl hfin.2.2.range (Vrp.cells_length _) Tryz.underlying67 rfl info_vrp1) rfl ⟨rfl, hfin.1, .inr ⟨HR.out, A2, hfin.2.1, hrd2⟩⟩
end Go.Proofs.YtmoldmnhijcckaaGreat
