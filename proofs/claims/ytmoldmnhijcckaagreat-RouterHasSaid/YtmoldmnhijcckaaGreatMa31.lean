/- vrp.rows at one row: least, Swap, Pop; heap.Pop; vrp.first. -/
import Derived.Test.YtmoldmnhijcckaaGreatMa30
import Derived.Test.YtmoldmnhijcckaaGreatMa10
set_option linter.unusedVariables false
set_option linter.unusedSectionVars false
set_option linter.unusedSimpArgs false
namespace Go.Proofs.YtmoldmnhijcckaaGreat
open Go.RowKit
theorem addr_nil (a : Addr) : a.add 0 = a := by unfold Addr.add; simp
theorem exec_sliceL {P : Program} {o : Oper} {a : Act} {w : World} (t : TypeId) (x lo : Operand) {v : Value} (ho : o.op = .slice t x (some lo) none none)
    (hr : (Instr.sliceAt t (a.eval x) (some (a.eval lo)) none none).run P w = .ok v w) : (execOp a.eval o).run P w = .ok (.value v) w := by
  unfold execOp
  simp only [ho]
  simp [hr, Result.andThen]
theorem results_cell_one {P : Program} {fn : Func} {w : World} {p q : Tmp} {ty : TypeId} (h : fn.results = #[.cell p ty, .tmp q]) (tmps : Array Value) (g o n : Nat) (cs : List Value) (d : TypeDesc) (hp : tmps.getD p undef = .pointer (some ⟨g, o, none⟩)) (hr : w.rangeAt g o cs) (hl : cs.length = n)
    (hu : P.underlying ty = some d) (hd : d.isRow = true) (hi : (P.info? ty).map (·.size) = some n) : (results fn tmps).run P w = .ok (.tuple #[.agg cs.toArray, tmps.getD q undef]) w := by
  have := run_loadVar_mid w g o ty cs d hr hu hd (by rw [hl]; exact hi)
  have hp' : tmps[p]?.getD undef = .pointer (some ⟨g, o, none⟩) := by simpa using hp
  simp [results, h, hp', asAddr, Sem.run_bind, Result.andThen, this]
/-- The rest of a row. -/
theorem tail_one (A : Option Addr) (c n : Nat) (h1 : 1 ≤ n) (hc : n ≤ c) : ∃ A2 : Option Addr, (∀ W, (Instr.sliceAt 27 (.slice A n c) (some (.int .i64 1)) none none).run Tryz.prog W = .ok (.slice A2 (n - 1) (c - 1)) W) ∧
    ∀ (W : World) (B : Nat) (x : Vrp) (r : List Vrp), Reads W B 20 A n ((x :: r).flatMap Vrp.cells) → Reads W B 20 A2 (n - 1) (r.flatMap Vrp.cells) := by
  have ht : Tryz.prog.underlying 27 = some (.slice (Tryz.prog.elem 27)) := by kernel_rfl
  have he : Tryz.prog.elem 27 = 67 := by kernel_rfl
  refine ⟨(if c = 1 then A else A.map (·.add (1 * 20))), fun W => ?_, fun W B x r h => ?_⟩
  rotate_left
  · have h2 := h.cut (k := 1) (cap := c) h1 hc
    have e : (((x :: r).flatMap Vrp.cells).drop (1 * 20)) = r.flatMap Vrp.cells := by
      rw [List.flatMap_cons, Nat.one_mul, List.drop_left' (Vrp.cells_length x)]
    rw [e] at h2
    exact h2
  · rw [run_sliceAt_slice _ _ _ _ _ _ ht, run_slice_l _ _ _ _ _ ht _ _ (by omega) (by omega), he, Tryz.sizeOf67]
    simp [Result.andThen, sliced]
/-- The rows: one. -/
structure J1 (W : World) (R E cE : Nat) (v0 : Value) (rest : List Value) : Prop where
  r : Blk W R 125 [.slice (some ⟨E, 0, none⟩) 1 cE]
  e : Blk W E 27 (v0 :: rest)
theorem J1.next {W W' : World} {R E cE : Nat} {v0 : Value} {rest : List Value} (h : J1 W R E cE v0 rest) (hb : Below W.heap.size W W') : J1 W' R E cE v0 rest := ⟨h.r.below hb h.r.lt, h.e.below hb h.e.lt⟩
theorem J1.drew {W : World} {R E cE : Nat} {v0 : Value} {rest : List Value} (h : J1 W R E cE v0 rest) : J1 W.drew R E cE v0 rest := ⟨h.r, h.e⟩
theorem J1.set {W : World} {R E cE : Nat} {v0 : Value} {rest : List Value} (h : J1 W R E cE v0 rest) (u : Value) : J1 (W.setCell ⟨E, 0, none⟩ u) R E cE u rest := ⟨h.r.far (Blk.ne_ h.r h.e (by decide)) u, h.e.set_ 0 u⟩
theorem grown_setCell {w W : World} {g : Nat} (h : w.grownBy W (some g)) (o : Nat) (u : Value) : w.grownBy (W.setCell ⟨g, o, none⟩ u) (some g) := grown_setCells h o [u]
theorem grown_drew {w W : World} {row : Option Nat} (h : w.grownBy W row) : w.grownBy W.drew row := ⟨h.os, h.tape, h.output, h.size, h.block⟩
structure LQ (w : World) (R E cE : Nat) (v0 : Value) (rest : List Value) (x : Vrp) (W : World) : Prop where
  j : J1 W R E cE v0 rest
  f : w.grownBy W (some E)
  b0 : Blk W w.heap.size 67 zV
  b1 : Blk W (w.heap.size + 1) 67 x.cells
theorem LQ.drew {w W : World} {R E cE : Nat} {v0 : Value} {rest : List Value} {x : Vrp} (h : LQ w R E cE v0 rest x W) : LQ w R E cE v0 rest x W.drew := ⟨h.j.drew, grown_drew h.f, h.b0, h.b1⟩
theorem LQ.set {w : World} {R E cE : Nat} {v0 : Value} {rest : List Value} {x : Vrp} {W : World} (h : LQ w R E cE v0 rest x W) (hE : E < w.heap.size) (u : Value) : LQ w R E cE u rest x (W.setCell ⟨E, 0, none⟩ u) :=
  ⟨h.j.set u, grown_setCell h.f 0 u, h.b0.far (by show w.heap.size ≠ E; omega) u, h.b1.far (by show w.heap.size + 1 ≠ E; omega) u⟩
theorem LQ.out {w : World} {R E cE : Nat} {v0 : Value} {rest : List Value} {x : Vrp} {W : World} (hSW : LQ w R E cE v0 rest x W) (hE : E < w.heap.size) :
    J1 (W.setCells w.heap.size 0 x.cells) R E cE v0 rest ∧ Blk (W.setCells w.heap.size 0 x.cells) (w.heap.size + 1) 67 x.cells ∧ Blk (W.setCells w.heap.size 0 x.cells) w.heap.size 67 x.cells ∧ w.grownBy (W.setCells w.heap.size 0 x.cells) (some E) := by
  have hne2 : R ≠ w.heap.size := hSW.j.r.ne_ hSW.b0 (by decide)
  refine ⟨⟨Blk.setCells_far hne2 _ _ hSW.j.r, Blk.setCells_far (by omega) _ _ hSW.j.e⟩, Blk.setCells_far (by omega) _ _ hSW.b1, hSW.b0.setCells_all (Vrp.cells_length x), ?_⟩
  have hb := Below.setCells (Nat.le_refl w.heap.size) x.cells 0 (Below.refl w.heap.size W)
  exact ⟨hb.os.trans hSW.f.os, hb.tape.trans hSW.f.tape, hb.output.trans hSW.f.output, Nat.le_trans hSW.f.size hb.size, fun k hk hk2 => (hb.block k hk).trans (hSW.f.block k hk hk2)⟩
set_option maxRecDepth 100000 in
set_option maxHeartbeats 2000000 in
theorem least_any (x : Vrp) (r : List Vrp) (n : Nat) (hn : r.length + 1 = n) (A : Option Addr) (c B : Nat) (R E cE : Nat) (rest : List Value) (w : World) (hr : Reads w B 20 A n ((x :: r).flatMap Vrp.cells)) (hJ : J1 w R E cE (.slice A n c) rest) (hc : n ≤ c) (h6 : n ≤ 1000000) (hcE : 1 ≤ cE) (hBw : B ≤ w.heap.size) :
    Calls Tryz.prog 179 #[.pointer (some ⟨R, 0, none⟩)] w fun e w' => e = .returned (.tuple #[x.val, .bool (decide (0 < r.length))]) ∧
      (∃ A2, J1 w' R E cE (.slice A2 (n - 1) (c - 1)) rest ∧ ∀ W B', Reads W B' 20 A n ((x :: r).flatMap Vrp.cells) → Reads W B' 20 A2 (n - 1) (r.flatMap Vrp.cells)) ∧ w.grownBy w' (some E) := by
  obtain ⟨A2, hs2, hrd⟩ := tail_one A c n (by omega) hc
  obtain ⟨ad, rfl, _, _⟩ := hr.2 (by omega)
  have hew := hJ.e.lt
  have hat : AtAdr (w.alloc (.cells zV.toArray 67)) ad x.cells := by
    have h := (hr.alloc hBw (.cells zV.toArray 67)).elem (xs := x :: r) (k := 0) Vrp.cells_length (by simp) (by simp; omega)
    rw [Nat.zero_mul, addr_nil] at h
    exact h
  have hz : zV = [.int .u32 0, .bool false, .int .u8 0, .int .u8 0, .int .u8 0, .int .u8 0, .int .u8 0, .int .u8 0, .int .u8 0, .int .u8 0, .int .u8 0, .int .u8 0, .int .u8 0, .int .u8 0, .int .u8 0, .int .u8 0, .int .u8 0, .int .u8 0, .int .i64 0, .int .i64 0] := rfl
  have cR : (w.alloc (.cells zV.toArray 67)).cell? ⟨R, 0, none⟩ = some (.slice (some ⟨E, 0, none⟩) 1 cE) := (hJ.r.alloc _).cell 0
  have cE0 : (w.alloc (.cells zV.toArray 67)).cell? ⟨E, 0, none⟩ = some (.slice (some ad) n c) := (hJ.e.alloc _).cell 0
  have hsz : (w.alloc (.cells zV.toArray 67)).heap.size = w.heap.size + 1 := World.size_alloc _ _
  have hL : LQ w R E cE (.slice (some ad) n c) rest x (((w.alloc (.cells zV.toArray 67)).alloc (.cells zV.toArray 67)).setCells (w.heap.size + 1) 0 x.cells) := by
    have hb : Below w.heap.size w (((w.alloc (.cells zV.toArray 67)).alloc (.cells zV.toArray 67)).setCells (w.heap.size + 1) 0 x.cells) := Below.setCells (by omega) _ _ (((Below.refl _ _).alloc (Nat.le_refl _) _).alloc (by rw [hsz]; omega) _)
    exact ⟨hJ.next hb, grown_below hb, Blk.setCells_far (by omega) _ _ ((Blk.new _ _ _).alloc _), by
      have h1 := Blk.new (w.alloc (.cells zV.toArray 67)) 67 zV
      rw [hsz] at h1
      exact h1.setCells_all (Vrp.cells_length _)⟩
  simp only [hz] at hat cR cE0 hL
  clear hr hJ hsz
  go_enter Tryz.func179, Tryz.ntmps179
  go_upto_region 2 with (first | (refine wpList_load_adr (by rfl) 67 _ rfl ad 20 (by rfl) _ _ hat (Vrp.cells_length _) Tryz.underlying67 rfl info_vrp1 ?_) | (refine wpList_store_at rfl 67 _ _ rfl (w.heap.size + 1) 0 20 67 _ zV rfl rfl (blk_new' _ _ zV _ (by simp)) (Vrp.cells_length _) (by decide) info_vrp1 (Vrp.one _) ?_))
  refine wp_gen (LQ w R E cE (.slice (some ad) n c) rest x) hL ?_
  clear hL hat cR cE0
  intro W0 hL
  refine reg_sch2 10 [(true, 0), (true, 1), (true, 2), (true, 3), (true, 4), (true, 5), (true, 6), (true, 7), (true, 8), (true, 9)] (by kernel_rfl) (by kernel_rfl) (LQ w R E cE (.slice (some ad) n c) rest x) (LQ w R E cE (.slice (some ad) n c) rest x) ?_ ?_ ?_
  · exact hL.drew
  · exact fun _ h => h
  intro W hSW
  simp only [List.map_cons, List.map_nil, List.getD_cons_zero, List.getD_cons_succ, List.drop_succ_cons, List.drop_zero]
  refine hd_pure (v := ?_) (by rfl) (fun W' hS' => ?_) ?_ -- 0
  rotate_left
  · have c1 := hS'.j.r.cell 0; have c2 := hS'.j.e.cell 0; simp only [List.getElem?_cons_zero] at c1 c2; clear hS'; (go_simp; first | with_reducible rfl | rfl)
  try simp only [Act.put, List.setIfInBounds_toArray, List.set_cons_zero, List.set_cons_succ]
  refine hd_pure (v := ?_) (by rfl) (fun W' hS' => ?_) ?_ -- 1
  rotate_left
  · have c1 := hS'.j.r.cell 0; have c2 := hS'.j.e.cell 0; simp only [List.getElem?_cons_zero] at c1 c2; clear hS'; (go_simp; first | with_reducible rfl | rfl)
  try simp only [Act.put, List.setIfInBounds_toArray, List.set_cons_zero, List.set_cons_succ]
  refine hd_pure (v := ?_) (by rfl) (fun W' hS' => ?_) ?_ -- 2
  rotate_left
  · have c1 := hS'.j.r.cell 0; have c2 := hS'.j.e.cell 0; simp only [List.getElem?_cons_zero] at c1 c2; clear hS'; (go_simp; first | with_reducible rfl | rfl)
  try simp only [Act.put, List.setIfInBounds_toArray, List.set_cons_zero, List.set_cons_succ]
  refine hd_pure (v := ?_) (by rfl) (fun W' hS' => ?_) ?_ -- 3
  rotate_left
  · have c1 := hS'.j.r.cell 0; have c2 := hS'.j.e.cell 0; simp only [List.getElem?_cons_zero] at c1 c2; clear hS'; (go_simp; first | with_reducible rfl | rfl)
  try simp only [Act.put, List.setIfInBounds_toArray, List.set_cons_zero, List.set_cons_succ]
  refine hd_pure (v := ?_) (by rfl) (fun W' hS' => ?_) ?_ -- 4
  rotate_left
  · have c1 := hS'.j.r.cell 0; have c2 := hS'.j.e.cell 0; simp only [List.getElem?_cons_zero] at c1 c2; clear hS'; (go_simp; first | with_reducible rfl | rfl)
  try simp only [Act.put, List.setIfInBounds_toArray, List.set_cons_zero, List.set_cons_succ]
  refine hd_pure (v := ?_) (by rfl) (fun W' hS' => ?_) ?_ -- 5
  rotate_left
  · have c1 := hS'.j.r.cell 0; have c2 := hS'.j.e.cell 0; simp only [List.getElem?_cons_zero] at c1 c2; clear hS'; (go_simp; first | with_reducible rfl | rfl)
  try simp only [Act.put, List.setIfInBounds_toArray, List.set_cons_zero, List.set_cons_succ]
  refine hd_pure (v := ?_) (by rfl) (fun W' hS' => ?_) ?_ -- 6
  rotate_left
  · have c1 := hS'.j.r.cell 0; have c2 := hS'.j.e.cell 0; simp only [List.getElem?_cons_zero] at c1 c2; clear hS'; (go_simp; first | with_reducible rfl | rfl)
  try simp only [Act.put, List.setIfInBounds_toArray, List.set_cons_zero, List.set_cons_succ]
  refine hd_pure (v := ?_) (by rfl) (fun W' hS' => ?_) ?_ -- 7
  rotate_left
  · have c1 := hS'.j.r.cell 0; have c2 := hS'.j.e.cell 0; simp only [List.getElem?_cons_zero] at c1 c2; clear hS'; (go_simp; first | with_reducible rfl | rfl)
  try simp only [Act.put, List.setIfInBounds_toArray, List.set_cons_zero, List.set_cons_succ]
  refine hd_pure (v := .slice A2 (n - 1) (c - 1)) (by rfl) (fun W' hS' => exec_sliceL _ _ _ (by rfl) (hs2 W')) ?_ -- 8
  try simp only [Act.put, List.setIfInBounds_toArray, List.set_cons_zero, List.set_cons_succ]
  refine hd_pure (v := ?_) (by rfl) (fun W' hS' => ?_) ?_ -- 9
  rotate_left
  · have c1 := hS'.j.r.cell 0; have c2 := hS'.j.e.cell 0; simp only [List.getElem?_cons_zero] at c1 c2; clear hS'; (go_simp; first | with_reducible rfl | rfl)
  try simp only [Act.put, List.setIfInBounds_toArray, List.set_cons_zero, List.set_cons_succ]
  refine hd_nil ?_
  have c1 := hSW.j.r.cell 0; have c2 := hSW.j.e.cell 0; have f2 := hSW.j.e.frozen 0; simp only [List.getElem?_cons_zero] at c1 c2
  go_wp2_with fail
  refine NoPanic.normal ?_
  have hL2 := hSW.set hew (.slice A2 (n - 1) (c - 1))
  clear hSW hs2
  go_upto_region 3 with fail
  refine wp_gen (LQ w R E cE (.slice A2 (n - 1) (c - 1)) rest x) hL2 ?_
  clear hL2 hL
  intro W1 hL
  obtain ⟨b, hb⟩ : ∃ b, decide (0 < r.length) = b := ⟨_, rfl⟩
  have d1 : decide (0 < n - 1) = b := by rw [← hb]; exact decide_eq_decide.2 (by omega)
  have d2 : decide ((0 : Int) < ((n - 1 : Nat) : Int)) = b := by rw [← hb]; exact decide_eq_decide.2 (by omega)
  have HB := Lib.hid hb
  clear hb
  refine reg_sch2 10 [(true, 0), (true, 1), (true, 2), (true, 3), (true, 4), (true, 5), (true, 6), (true, 7), (false, 8), (true, 9)] (by kernel_rfl) (by kernel_rfl) (fun W => J1 W R E cE (.slice A2 (n - 1) (c - 1)) rest ∧ Blk W (w.heap.size + 1) 67 x.cells) (LQ w R E cE (.slice A2 (n - 1) (c - 1)) rest x) ?_ ?_ ?_
  · exact hL.drew
  · exact fun _ h => ⟨h.j, h.b1⟩
  intro W hSW
  simp only [List.map_cons, List.map_nil, List.getD_cons_zero, List.getD_cons_succ, List.drop_succ_cons, List.drop_zero]
  refine hd_pure (v := .agg x.cells.toArray) (by rfl) (fun W' hS' => exec_load_at 67 _ (by rfl) (w.heap.size + 1) 0 20 (by rfl) _ _ hS'.2.range (Vrp.cells_length _) Tryz.underlying67 rfl info_vrp1) ?_ -- 0
  try simp only [Act.put, List.setIfInBounds_toArray, List.set_cons_zero, List.set_cons_succ]
  refine hd_pure (v := ?_) (by rfl) (fun W' hS' => ?_) ?_ -- 1
  rotate_left
  · have c1 := hS'.1.r.cell 0; have c2 := hS'.1.e.cell 0; simp only [List.getElem?_cons_zero] at c1 c2; clear hS'; (go_simp; first | with_reducible rfl | rfl)
  try simp only [Act.put, List.setIfInBounds_toArray, List.set_cons_zero, List.set_cons_succ]
  refine hd_pure (v := ?_) (by rfl) (fun W' hS' => ?_) ?_ -- 2
  rotate_left
  · have c1 := hS'.1.r.cell 0; have c2 := hS'.1.e.cell 0; simp only [List.getElem?_cons_zero] at c1 c2; clear hS'; (go_simp; first | with_reducible rfl | rfl)
  try simp only [Act.put, List.setIfInBounds_toArray, List.set_cons_zero, List.set_cons_succ]
  refine hd_pure (v := ?_) (by rfl) (fun W' hS' => ?_) ?_ -- 3
  rotate_left
  · have c1 := hS'.1.r.cell 0; have c2 := hS'.1.e.cell 0; simp only [List.getElem?_cons_zero] at c1 c2; clear hS'; (go_simp; first | with_reducible rfl | rfl)
  try simp only [Act.put, List.setIfInBounds_toArray, List.set_cons_zero, List.set_cons_succ]
  refine hd_pure (v := ?_) (by rfl) (fun W' hS' => ?_) ?_ -- 4
  rotate_left
  · have c1 := hS'.1.r.cell 0; have c2 := hS'.1.e.cell 0; simp only [List.getElem?_cons_zero] at c1 c2; clear hS'; (go_simp; first | with_reducible rfl | rfl)
  try simp only [Act.put, List.setIfInBounds_toArray, List.set_cons_zero, List.set_cons_succ]
  refine hd_pure (v := ?_) (by rfl) (fun W' hS' => ?_) ?_ -- 5
  rotate_left
  · have c1 := hS'.1.r.cell 0; have c2 := hS'.1.e.cell 0; simp only [List.getElem?_cons_zero] at c1 c2; clear hS'; (go_simp; first | with_reducible rfl | rfl)
  try simp only [Act.put, List.setIfInBounds_toArray, List.set_cons_zero, List.set_cons_succ]
  refine hd_pure (v := ?_) (by rfl) (fun W' hS' => ?_) ?_ -- 6
  rotate_left
  · have c1 := hS'.1.r.cell 0; have c2 := hS'.1.e.cell 0; simp only [List.getElem?_cons_zero] at c1 c2; clear hS'; (go_simp; first | with_reducible rfl | rfl)
  try simp only [Act.put, List.setIfInBounds_toArray, List.set_cons_zero, List.set_cons_succ]
  refine hd_pure (v := ?_) (by rfl) (fun W' hS' => ?_) ?_ -- 7
  rotate_left
  · have c1 := hS'.1.r.cell 0; have c2 := hS'.1.e.cell 0; simp only [List.getElem?_cons_zero] at c1 c2; clear hS'; (go_simp; first | with_reducible rfl | rfl)
  try simp only [Act.put, List.setIfInBounds_toArray, List.set_cons_zero, List.set_cons_succ]
  refine hd_sole (by rfl) (fun K hK => ?_) -- 8
  have hz1 := hSW.out (x := x) hew
  refine wp_store_mid 67 _ _ rfl w.heap.size 0 x.cells.toArray rfl rfl (hSW.b0.there (by rw [List.size_toArray, Vrp.cells_length]; decide) 0 (by rw [List.size_toArray, Vrp.cells_length]; decide)) (by rw [List.size_toArray, Vrp.cells_length]; exact info_vrp1) (all_oneCell_toArray (Vrp.one x)) ?_
  refine hK _ _ (⟨hz1.1, hz1.2.1⟩) ?_
  clear hK K
  intro hSW8
  try simp only [Act.put, List.setIfInBounds_toArray, List.set_cons_zero, List.set_cons_succ]
  refine hd_pure (v := ?_) (by rfl) (fun W' hS' => ?_) ?_ -- 9
  rotate_left
  · have c1 := hS'.1.r.cell 0; have c2 := hS'.1.e.cell 0; simp only [List.getElem?_cons_zero] at c1 c2; clear hS'; (go_simp; first | with_reducible rfl | rfl)
  try simp only [Act.put, List.setIfInBounds_toArray, List.set_cons_zero, List.set_cons_succ]
  refine hd_nil ?_
  skip
  refine wpList_nil (NoPanic.normal ?_)
  obtain ⟨hr1, hb1, hb0, hf1⟩ := hz1
  clear hSW hSW8 hL
  go_wp2_with fail
  exact bodyPost_ret (results_cell_one rfl _ w.heap.size 0 20 x.cells _ rfl hb0.range (Vrp.cells_length _) Tryz.underlying67 rfl info_vrp1) rfl ⟨by rw [HB.out]; rfl, ⟨A2, hr1, fun W B' hW => hrd W B' x r hW⟩, hf1⟩
end Go.Proofs.YtmoldmnhijcckaaGreat
