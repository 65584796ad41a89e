/- The contract of pdu.named. -/
import Derived.Test.YtmoldmnhijcckaaGreatMa02
import Derived.Test.YtmoldmnhijcckaaGreatMa00
import Derived.Test.YtmoldmnhijcckaaGreatMa01
import Derived.Deep.DeepCutAuto
set_option linter.unusedVariables false
set_option linter.unusedSectionVars false
set_option linter.unusedSimpArgs false
namespace Go.Proofs.YtmoldmnhijcckaaGreat
open Go.RowKit
/-- A message with what its kind names alone. -/
def namedOf (p : Pdu) : Pdu :=
  if p.kind = 0 ∨ p.kind = 1 ∨ p.kind = 7 then { bareP p.kind with session := p.session, serial := p.serial }
  else if p.kind = 3 then { bareP p.kind with session := p.session }
  else if p.kind = 4 ∨ p.kind = 6 then { bareP p.kind with add := p.add, v := p.v }
  else if p.kind = 10 then { bareP p.kind with code := p.code, text := p.text }
  else bareP p.kind
def Nmd (w : World) (g : Nat) (p q : Pdu) (W : World) : Prop :=
  Blk W g 69 p.cells ∧ Blk W (g + 1) 69 (bareP 0).cells ∧ Blk W (g + 2) 69 q.cells ∧ Below g w W
theorem Nmd.drew {w : World} {g : Nat} {p q : Pdu} {W : World} (h : Nmd w g p q W) : Nmd w g p q W.drew := ⟨h.1.drew, h.2.1.drew, h.2.2.1.drew, h.2.2.2.drew⟩
theorem Nmd.set {w : World} {g : Nat} {p q q' : Pdu} {W : World} (h : Nmd w g p q W) {i : Nat} {u : Value} (e : q.cells.set i u = q'.cells) : Nmd w g p q' (W.setCell ⟨g + 2, i, none⟩ u) :=
  ⟨h.1.far (by simp) _, h.2.1.far (by simp) _, by rw [← e]; exact h.2.2.1.set_ _ _, h.2.2.2.setCell (by simp) _⟩
theorem set_session (k s s' : Int) (n : UInt32) (a : Bool) (v : Vrp) (c : Int) (t : ByteArray) : (Pdu.cells ⟨k, s, n, a, v, c, t⟩).set 1 (.int .i64 s') = Pdu.cells ⟨k, s', n, a, v, c, t⟩ := rfl
theorem set_serial (k s : Int) (n n' : UInt32) (a : Bool) (v : Vrp) (c : Int) (t : ByteArray) : (Pdu.cells ⟨k, s, n, a, v, c, t⟩).set 2 (.int .u32 n'.toNat) = Pdu.cells ⟨k, s, n', a, v, c, t⟩ := rfl
theorem set_add (k s : Int) (n : UInt32) (a a' : Bool) (v : Vrp) (c : Int) (t : ByteArray) : (Pdu.cells ⟨k, s, n, a, v, c, t⟩).set 3 (.bool a') = Pdu.cells ⟨k, s, n, a', v, c, t⟩ := rfl
theorem set_code (k s : Int) (n : UInt32) (a : Bool) (v : Vrp) (c c' : Int) (t : ByteArray) : (Pdu.cells ⟨k, s, n, a, v, c, t⟩).set 24 (.int .i64 c') = Pdu.cells ⟨k, s, n, a, v, c', t⟩ := by
  simp only [Pdu.cells, List.set_cons_succ]
  rw [List.set_append_right _ _ (by simp [Vrp.cells_length]), Vrp.cells_length]; rfl
theorem set_text (k s : Int) (n : UInt32) (a : Bool) (v : Vrp) (c : Int) (t t' : ByteArray) : (Pdu.cells ⟨k, s, n, a, v, c, t⟩).set 25 (.string t') = Pdu.cells ⟨k, s, n, a, v, c, t'⟩ := by
  simp only [Pdu.cells, List.set_cons_succ]
  rw [List.set_append_right _ _ (by simp [Vrp.cells_length]), Vrp.cells_length]; rfl
theorem nmd_start (p : Pdu) (w : World) : Nmd w w.heap.size p (bareP p.kind) ((((w.alloc (.cells p.cells.toArray 69)).alloc (.cells (bareL 0).toArray 69)).alloc (.cells (bareL 0).toArray 69)).setCells (w.heap.size + 2) 0 (bareL p.kind)) :=
  ⟨Blk.setCells_far (by omega) _ _ (((Blk.new _ _ _).alloc _).alloc _), by rw [← bareL_eq]; exact Blk.setCells_far (by omega) _ _ ((blk_new' _ _ _ _ (by simp)).alloc _), by rw [← bareL_eq]; exact Blk.setCells_all (blk_new' _ _ _ _ (by simp)) rfl,
    Below.setCells (by omega) _ _ ((((Below.refl _ _).alloc (Nat.le_refl _) _).alloc (by simp) _).alloc (by simp; omega) _)⟩
theorem set_v (k s : Int) (n : UInt32) (a : Bool) (v v' : Vrp) (c : Int) (t : ByteArray) : (Pdu.cells ⟨k, s, n, a, v, c, t⟩).take 4 ++ v'.cells ++ (Pdu.cells ⟨k, s, n, a, v, c, t⟩).drop (4 + v'.cells.length) = Pdu.cells ⟨k, s, n, a, v', c, t⟩ := by
  have e : (Pdu.cells ⟨k, s, n, a, v, c, t⟩).drop (4 + v'.cells.length) = [.int .i64 c, .string t] := by
    rw [Vrp.cells_length]
    simp only [Pdu.cells, List.drop_succ_cons]
    rw [List.drop_append_of_le_length (by rw [Vrp.cells_length]; omega), List.drop_of_length_le (by rw [Vrp.cells_length]; omega)]
    rfl
  rw [e]
  simp only [Pdu.cells, List.take_succ_cons, List.take_zero, List.cons_append, List.nil_append, List.append_assoc]
theorem Nmd.setv {w : World} {g : Nat} {p : Pdu} {W : World} {k s : Int} {n : UInt32} {a : Bool} {v : Vrp} {c : Int} {t : ByteArray} (h : Nmd w g p ⟨k, s, n, a, v, c, t⟩ W) (v' : Vrp) : Nmd w g p ⟨k, s, n, a, v', c, t⟩ (W.setCells (g + 2) 4 v'.cells) :=
  ⟨Blk.setCells_far (by omega) _ _ h.1, Blk.setCells_far (by omega) _ _ h.2.1, by have := h.2.2.1.setCells v'.cells 4 (by rw [Vrp.cells_length, Pdu.cells_length]; omega); rwa [set_v] at this, Below.setCells (by omega) _ _ h.2.2.2⟩
/-- The walk's end. -/
theorem named_end {w : World} {g : Nat} {p q : Pdu} {W : World} (h : Nmd w g p q W) : Blk (W.setCells (g + 1) 0 q.cells) (g + 1) 69 q.cells ∧ Below g w (W.setCells (g + 1) 0 q.cells) :=
  ⟨h.2.1.setCells_all (by simp only [Pdu.cells_length]), Below.setCells (by omega) _ _ h.2.2.2⟩
set_option maxRecDepth 100000 in
set_option maxHeartbeats 1000000 in
theorem named_any (p : Pdu) (w : World) : Calls Tryz.prog 79 #[p.val] w fun e w' => e = .returned (namedOf p).val ∧ Below w.heap.size w w' := by
  obtain ⟨kind, session, serial, add, v, code, text⟩ := p
  simp only [Pdu.val]
  have c0 := Pdu.c0 ⟨kind, session, serial, add, v, code, text⟩
  go_enter Tryz.func79, Tryz.ntmps79
  go_upto_region 2 with (refine wpList_store_at rfl 69 _ _ rfl (w.heap.size + 2) 0 26 69 (bareL kind) (bareL 0) rfl rfl (blk_new' _ _ _ _ (by simp)) rfl (by decide) info_pdu (by rw [bareL_eq]; exact Pdu.one _) ?_)
  refine wp_gen (Nmd w w.heap.size ⟨kind, session, serial, add, v, code, text⟩ (bareP kind)) (nmd_start ⟨kind, session, serial, add, v, code, text⟩ w) ?_
  clear c0
  intro W hW
  have k0 := (hW.1.cell 0).trans (Pdu.c0 _)
  by_cases h : kind = 0 ∨ kind = 1 ∨ kind = 3 ∨ kind = 4 ∨ kind = 6 ∨ kind = 7 ∨ kind = 10
  · rcases h with rfl | rfl | rfl | rfl | rfl | rfl | rfl
    · have HR := Lib.hid (show namedOf ⟨0, session, serial, add, v, code, text⟩ = { bareP 0 with session := session, serial := serial } from by simp [namedOf])
      go_wp2_with fail
      clear k0
      refine reg_sch2 6 [(true, 0), (true, 1), (true, 2), (true, 3), (true, 4), (false, 5)] (by kernel_rfl) (by kernel_rfl) (fun W => Blk W w.heap.size 69 (Pdu.cells ⟨0, session, serial, add, v, code, text⟩)) (Nmd w w.heap.size ⟨0, session, serial, add, v, code, text⟩ (bareP 0)) ?_ ?_ ?_
      · exact hW.drew
      · exact fun _ h => h.1
      intro W hSW
      simp only [List.map_cons, List.map_nil, List.getD_cons_zero, List.getD_cons_succ, List.drop_succ_cons, List.drop_zero]
      refine hd_pure (v := ?_) (by rfl) (fun W' hS' => ?_) ?_ -- 0
      rotate_left
      · have c1 := (hS'.cell 1).trans (Pdu.c1 _); have c2 := (hS'.cell 2).trans (Pdu.c2 _); clear hS'; (go_simp; first | with_reducible rfl | rfl)
      try simp only [Act.put, List.setIfInBounds_toArray, List.set_cons_zero, List.set_cons_succ]
      refine hd_pure (v := ?_) (by rfl) (fun W' hS' => ?_) ?_ -- 1
      rotate_left
      · have c1 := (hS'.cell 1).trans (Pdu.c1 _); have c2 := (hS'.cell 2).trans (Pdu.c2 _); clear hS'; (go_simp; first | with_reducible rfl | rfl)
      try simp only [Act.put, List.setIfInBounds_toArray, List.set_cons_zero, List.set_cons_succ]
      refine hd_pure (v := ?_) (by rfl) (fun W' hS' => ?_) ?_ -- 2
      rotate_left
      · have c1 := (hS'.cell 1).trans (Pdu.c1 _); have c2 := (hS'.cell 2).trans (Pdu.c2 _); clear hS'; (go_simp; first | with_reducible rfl | rfl)
      try simp only [Act.put, List.setIfInBounds_toArray, List.set_cons_zero, List.set_cons_succ]
      refine hd_pure (v := ?_) (by rfl) (fun W' hS' => ?_) ?_ -- 3
      rotate_left
      · have c1 := (hS'.cell 1).trans (Pdu.c1 _); have c2 := (hS'.cell 2).trans (Pdu.c2 _); clear hS'; (go_simp; first | with_reducible rfl | rfl)
      try simp only [Act.put, List.setIfInBounds_toArray, List.set_cons_zero, List.set_cons_succ]
      refine hd_pure (v := ?_) (by rfl) (fun W' hS' => ?_) ?_ -- 4
      rotate_left
      · have c1 := (hS'.cell 1).trans (Pdu.c1 _); have c2 := (hS'.cell 2).trans (Pdu.c2 _); clear hS'; (go_simp; first | with_reducible rfl | rfl)
      try simp only [Act.put, List.setIfInBounds_toArray, List.set_cons_zero, List.set_cons_succ]
      refine hd_sole (by rfl) (fun K hK => ?_) -- 5
      have e1 := (hSW.2.2.1.cell 1).trans (Pdu.c1 _); have f1 := hSW.2.2.1.frozen 1
      go_simp
      clear e1 f1
      refine hK _ _ (hSW.1.far (by simp; omega) _) ?_
      clear hK K
      intro hSW5
      try simp only [Act.put, List.setIfInBounds_toArray, List.set_cons_zero, List.set_cons_succ]
      refine hd_nil ?_
      have hN := hSW.set (set_session _ _ session _ _ _ _ _); have e2 := (hN.2.2.1.cell 2).trans (Pdu.c2 _); have f2 := hN.2.2.1.frozen 2
      go_wp2_with fail
      refine NoPanic.normal ?_
      refine exit_gen (Nmd w w.heap.size ⟨0, session, serial, add, v, code, text⟩ ({ bareP 0 with session := session, serial := serial })) (hN.set (set_serial _ _ _ serial _ _ _ _)) ?_
      clear hSW hSW5 hN e2 f2 hW
      intro W2 hE
      go_wp2_with (first | (refine wpList_load_at rfl 69 _ rfl (w.heap.size + 2) 0 26 rfl _ _ hE.2.2.1.range (Pdu.cells_length _) Tryz.underlying69 rfl info_pdu ?_) | (refine wpList_store_at rfl 69 _ _ rfl (w.heap.size + 1) 0 26 69 _ _ rfl rfl hE.2.1 (Pdu.cells_length _) (by rw [Pdu.cells_length]; omega) info_pdu (Pdu.one _) ?_))
      obtain ⟨hr, hb⟩ := named_end hE
      exact bodyPost_ret (results_cell1 rfl _ (w.heap.size + 1) 0 26 _ _ rfl hr.range (Pdu.cells_length _) Tryz.underlying69 rfl info_pdu) rfl ⟨by rw [HR.out], hb⟩
    · have HR := Lib.hid (show namedOf ⟨1, session, serial, add, v, code, text⟩ = { bareP 1 with session := session, serial := serial } from by simp [namedOf])
      go_wp2_with fail
      clear k0
      refine reg_sch2 6 [(true, 0), (true, 1), (true, 2), (true, 3), (true, 4), (false, 5)] (by kernel_rfl) (by kernel_rfl) (fun W => Blk W w.heap.size 69 (Pdu.cells ⟨1, session, serial, add, v, code, text⟩)) (Nmd w w.heap.size ⟨1, session, serial, add, v, code, text⟩ (bareP 1)) ?_ ?_ ?_
      · exact hW.drew
      · exact fun _ h => h.1
      intro W hSW
      simp only [List.map_cons, List.map_nil, List.getD_cons_zero, List.getD_cons_succ, List.drop_succ_cons, List.drop_zero]
      refine hd_pure (v := ?_) (by rfl) (fun W' hS' => ?_) ?_ -- 0
      rotate_left
      · have c1 := (hS'.cell 1).trans (Pdu.c1 _); have c2 := (hS'.cell 2).trans (Pdu.c2 _); clear hS'; (go_simp; first | with_reducible rfl | rfl)
      try simp only [Act.put, List.setIfInBounds_toArray, List.set_cons_zero, List.set_cons_succ]
      refine hd_pure (v := ?_) (by rfl) (fun W' hS' => ?_) ?_ -- 1
      rotate_left
      · have c1 := (hS'.cell 1).trans (Pdu.c1 _); have c2 := (hS'.cell 2).trans (Pdu.c2 _); clear hS'; (go_simp; first | with_reducible rfl | rfl)
      try simp only [Act.put, List.setIfInBounds_toArray, List.set_cons_zero, List.set_cons_succ]
      refine hd_pure (v := ?_) (by rfl) (fun W' hS' => ?_) ?_ -- 2
      rotate_left
      · have c1 := (hS'.cell 1).trans (Pdu.c1 _); have c2 := (hS'.cell 2).trans (Pdu.c2 _); clear hS'; (go_simp; first | with_reducible rfl | rfl)
      try simp only [Act.put, List.setIfInBounds_toArray, List.set_cons_zero, List.set_cons_succ]
      refine hd_pure (v := ?_) (by rfl) (fun W' hS' => ?_) ?_ -- 3
      rotate_left
      · have c1 := (hS'.cell 1).trans (Pdu.c1 _); have c2 := (hS'.cell 2).trans (Pdu.c2 _); clear hS'; (go_simp; first | with_reducible rfl | rfl)
      try simp only [Act.put, List.setIfInBounds_toArray, List.set_cons_zero, List.set_cons_succ]
      refine hd_pure (v := ?_) (by rfl) (fun W' hS' => ?_) ?_ -- 4
      rotate_left
      · have c1 := (hS'.cell 1).trans (Pdu.c1 _); have c2 := (hS'.cell 2).trans (Pdu.c2 _); clear hS'; (go_simp; first | with_reducible rfl | rfl)
      try simp only [Act.put, List.setIfInBounds_toArray, List.set_cons_zero, List.set_cons_succ]
      refine hd_sole (by rfl) (fun K hK => ?_) -- 5
      have e1 := (hSW.2.2.1.cell 1).trans (Pdu.c1 _); have f1 := hSW.2.2.1.frozen 1
      go_simp
      clear e1 f1
      refine hK _ _ (hSW.1.far (by simp; omega) _) ?_
      clear hK K
      intro hSW5
      try simp only [Act.put, List.setIfInBounds_toArray, List.set_cons_zero, List.set_cons_succ]
      refine hd_nil ?_
      have hN := hSW.set (set_session _ _ session _ _ _ _ _); have e2 := (hN.2.2.1.cell 2).trans (Pdu.c2 _); have f2 := hN.2.2.1.frozen 2
      go_wp2_with fail
      refine NoPanic.normal ?_
      refine exit_gen (Nmd w w.heap.size ⟨1, session, serial, add, v, code, text⟩ ({ bareP 1 with session := session, serial := serial })) (hN.set (set_serial _ _ _ serial _ _ _ _)) ?_
      clear hSW hSW5 hN e2 f2 hW
      intro W2 hE
      go_wp2_with (first | (refine wpList_load_at rfl 69 _ rfl (w.heap.size + 2) 0 26 rfl _ _ hE.2.2.1.range (Pdu.cells_length _) Tryz.underlying69 rfl info_pdu ?_) | (refine wpList_store_at rfl 69 _ _ rfl (w.heap.size + 1) 0 26 69 _ _ rfl rfl hE.2.1 (Pdu.cells_length _) (by rw [Pdu.cells_length]; omega) info_pdu (Pdu.one _) ?_))
      obtain ⟨hr, hb⟩ := named_end hE
      exact bodyPost_ret (results_cell1 rfl _ (w.heap.size + 1) 0 26 _ _ rfl hr.range (Pdu.cells_length _) Tryz.underlying69 rfl info_pdu) rfl ⟨by rw [HR.out], hb⟩
    · have HR := Lib.hid (show namedOf ⟨3, session, serial, add, v, code, text⟩ = { bareP 3 with session := session } from by simp [namedOf])
      have k1 := (hW.1.cell 1).trans (Pdu.c1 _)
      have e1 := (hW.2.2.1.cell 1).trans (Pdu.c1 _)
      have f1 := hW.2.2.1.frozen 1
      go_upto_region 14 with fail
      refine wp_gen (Nmd w w.heap.size ⟨3, session, serial, add, v, code, text⟩ ({ bareP 3 with session := session })) (hW.set (set_session _ _ session _ _ _ _ _)) ?_
      clear k0 k1 e1 f1 hW
      intro W2 hE
      go_wp2_with (first | (refine wpList_load_at rfl 69 _ rfl (w.heap.size + 2) 0 26 rfl _ _ hE.2.2.1.range (Pdu.cells_length _) Tryz.underlying69 rfl info_pdu ?_) | (refine wpList_store_at rfl 69 _ _ rfl (w.heap.size + 1) 0 26 69 _ _ rfl rfl hE.2.1 (Pdu.cells_length _) (by rw [Pdu.cells_length]; omega) info_pdu (Pdu.one _) ?_))
      obtain ⟨hr, hb⟩ := named_end hE
      exact bodyPost_ret (results_cell1 rfl _ (w.heap.size + 1) 0 26 _ _ rfl hr.range (Pdu.cells_length _) Tryz.underlying69 rfl info_pdu) rfl ⟨by rw [HR.out], hb⟩
    · have HR := Lib.hid (show namedOf ⟨4, session, serial, add, v, code, text⟩ = { bareP 4 with add := add, v := v } from by simp [namedOf])
      go_wp2_with fail
      clear k0
      refine reg_sch2 6 [(true, 0), (true, 1), (true, 2), (true, 3), (true, 4), (false, 5)] (by kernel_rfl) (by kernel_rfl) (fun W => Blk W w.heap.size 69 (Pdu.cells ⟨4, session, serial, add, v, code, text⟩)) (Nmd w w.heap.size ⟨4, session, serial, add, v, code, text⟩ (bareP 4)) ?_ ?_ ?_
      · exact hW.drew
      · exact fun _ h => h.1
      intro W hSW
      simp only [List.map_cons, List.map_nil, List.getD_cons_zero, List.getD_cons_succ, List.drop_succ_cons, List.drop_zero]
      refine hd_pure (v := ?_) (by rfl) (fun W' hS' => ?_) ?_ -- 0
      rotate_left
      · have c3 := (hS'.cell 3).trans (Pdu.c3 _); clear hS'; (go_simp; first | with_reducible rfl | rfl)
      try simp only [Act.put, List.setIfInBounds_toArray, List.set_cons_zero, List.set_cons_succ]
      refine hd_pure (v := ?_) (by rfl) (fun W' hS' => ?_) ?_ -- 1
      rotate_left
      · have c3 := (hS'.cell 3).trans (Pdu.c3 _); clear hS'; (go_simp; first | with_reducible rfl | rfl)
      try simp only [Act.put, List.setIfInBounds_toArray, List.set_cons_zero, List.set_cons_succ]
      refine hd_pure (v := ?_) (by rfl) (fun W' hS' => ?_) ?_ -- 2
      rotate_left
      · have c3 := (hS'.cell 3).trans (Pdu.c3 _); clear hS'; (go_simp; first | with_reducible rfl | rfl)
      try simp only [Act.put, List.setIfInBounds_toArray, List.set_cons_zero, List.set_cons_succ]
      refine hd_pure (v := .agg v.cells.toArray) (by rfl) (fun W' hS' => exec_load_at 67 _ (by rfl) w.heap.size 4 20 (by rfl) _ _ hS'.pdu_vrp (Vrp.cells_length _) Tryz.underlying67 rfl info_vrp) ?_ -- 3
      try simp only [Act.put, List.setIfInBounds_toArray, List.set_cons_zero, List.set_cons_succ]
      refine hd_pure (v := ?_) (by rfl) (fun W' hS' => ?_) ?_ -- 4
      rotate_left
      · have c3 := (hS'.cell 3).trans (Pdu.c3 _); clear hS'; (go_simp; first | with_reducible rfl | rfl)
      try simp only [Act.put, List.setIfInBounds_toArray, List.set_cons_zero, List.set_cons_succ]
      refine hd_sole (by rfl) (fun K hK => ?_) -- 5
      have e1 := (hSW.2.2.1.cell 3).trans (Pdu.c3 _); have f1 := hSW.2.2.1.frozen 3
      go_simp
      clear e1 f1
      refine hK _ _ (hSW.1.far (by simp; omega) _) ?_
      clear hK K
      intro hSW5
      try simp only [Act.put, List.setIfInBounds_toArray, List.set_cons_zero, List.set_cons_succ]
      refine hd_nil ?_
      have hN := hSW.set (set_add _ _ _ _ add _ _ _)
      go_wp2_with (refine wpList_store_at rfl 67 _ _ rfl (w.heap.size + 2) 4 20 69 v.cells _ rfl rfl hN.2.2.1 (Vrp.cells_length _) (by rw [Pdu.cells_length]; omega) info_vrp (Vrp.one _) ?_)
      refine NoPanic.normal ?_
      refine exit_gen (Nmd w w.heap.size ⟨4, session, serial, add, v, code, text⟩ ({ bareP 4 with add := add, v := v })) (hN.setv v) ?_
      clear hSW hSW5 hN hW
      intro W2 hE
      go_wp2_with (first | (refine wpList_load_at rfl 69 _ rfl (w.heap.size + 2) 0 26 rfl _ _ hE.2.2.1.range (Pdu.cells_length _) Tryz.underlying69 rfl info_pdu ?_) | (refine wpList_store_at rfl 69 _ _ rfl (w.heap.size + 1) 0 26 69 _ _ rfl rfl hE.2.1 (Pdu.cells_length _) (by rw [Pdu.cells_length]; omega) info_pdu (Pdu.one _) ?_))
      obtain ⟨hr, hb⟩ := named_end hE
      exact bodyPost_ret (results_cell1 rfl _ (w.heap.size + 1) 0 26 _ _ rfl hr.range (Pdu.cells_length _) Tryz.underlying69 rfl info_pdu) rfl ⟨by rw [HR.out], hb⟩
    · have HR := Lib.hid (show namedOf ⟨6, session, serial, add, v, code, text⟩ = { bareP 6 with add := add, v := v } from by simp [namedOf])
      go_wp2_with fail
      clear k0
      refine reg_sch2 6 [(true, 0), (true, 1), (true, 2), (true, 3), (true, 4), (false, 5)] (by kernel_rfl) (by kernel_rfl) (fun W => Blk W w.heap.size 69 (Pdu.cells ⟨6, session, serial, add, v, code, text⟩)) (Nmd w w.heap.size ⟨6, session, serial, add, v, code, text⟩ (bareP 6)) ?_ ?_ ?_
      · exact hW.drew
      · exact fun _ h => h.1
      intro W hSW
      simp only [List.map_cons, List.map_nil, List.getD_cons_zero, List.getD_cons_succ, List.drop_succ_cons, List.drop_zero]
      refine hd_pure (v := ?_) (by rfl) (fun W' hS' => ?_) ?_ -- 0
      rotate_left
      · have c3 := (hS'.cell 3).trans (Pdu.c3 _); clear hS'; (go_simp; first | with_reducible rfl | rfl)
      try simp only [Act.put, List.setIfInBounds_toArray, List.set_cons_zero, List.set_cons_succ]
      refine hd_pure (v := ?_) (by rfl) (fun W' hS' => ?_) ?_ -- 1
      rotate_left
      · have c3 := (hS'.cell 3).trans (Pdu.c3 _); clear hS'; (go_simp; first | with_reducible rfl | rfl)
      try simp only [Act.put, List.setIfInBounds_toArray, List.set_cons_zero, List.set_cons_succ]
      refine hd_pure (v := ?_) (by rfl) (fun W' hS' => ?_) ?_ -- 2
      rotate_left
      · have c3 := (hS'.cell 3).trans (Pdu.c3 _); clear hS'; (go_simp; first | with_reducible rfl | rfl)
      try simp only [Act.put, List.setIfInBounds_toArray, List.set_cons_zero, List.set_cons_succ]
      refine hd_pure (v := .agg v.cells.toArray) (by rfl) (fun W' hS' => exec_load_at 67 _ (by rfl) w.heap.size 4 20 (by rfl) _ _ hS'.pdu_vrp (Vrp.cells_length _) Tryz.underlying67 rfl info_vrp) ?_ -- 3
      try simp only [Act.put, List.setIfInBounds_toArray, List.set_cons_zero, List.set_cons_succ]
      refine hd_pure (v := ?_) (by rfl) (fun W' hS' => ?_) ?_ -- 4
      rotate_left
      · have c3 := (hS'.cell 3).trans (Pdu.c3 _); clear hS'; (go_simp; first | with_reducible rfl | rfl)
      try simp only [Act.put, List.setIfInBounds_toArray, List.set_cons_zero, List.set_cons_succ]
      refine hd_sole (by rfl) (fun K hK => ?_) -- 5
      have e1 := (hSW.2.2.1.cell 3).trans (Pdu.c3 _); have f1 := hSW.2.2.1.frozen 3
      go_simp
      clear e1 f1
      refine hK _ _ (hSW.1.far (by simp; omega) _) ?_
      clear hK K
      intro hSW5
      try simp only [Act.put, List.setIfInBounds_toArray, List.set_cons_zero, List.set_cons_succ]
      refine hd_nil ?_
      have hN := hSW.set (set_add _ _ _ _ add _ _ _)
      go_wp2_with (refine wpList_store_at rfl 67 _ _ rfl (w.heap.size + 2) 4 20 69 v.cells _ rfl rfl hN.2.2.1 (Vrp.cells_length _) (by rw [Pdu.cells_length]; omega) info_vrp (Vrp.one _) ?_)
      refine NoPanic.normal ?_
      refine exit_gen (Nmd w w.heap.size ⟨6, session, serial, add, v, code, text⟩ ({ bareP 6 with add := add, v := v })) (hN.setv v) ?_
      clear hSW hSW5 hN hW
      intro W2 hE
      go_wp2_with (first | (refine wpList_load_at rfl 69 _ rfl (w.heap.size + 2) 0 26 rfl _ _ hE.2.2.1.range (Pdu.cells_length _) Tryz.underlying69 rfl info_pdu ?_) | (refine wpList_store_at rfl 69 _ _ rfl (w.heap.size + 1) 0 26 69 _ _ rfl rfl hE.2.1 (Pdu.cells_length _) (by rw [Pdu.cells_length]; omega) info_pdu (Pdu.one _) ?_))
      obtain ⟨hr, hb⟩ := named_end hE
      exact bodyPost_ret (results_cell1 rfl _ (w.heap.size + 1) 0 26 _ _ rfl hr.range (Pdu.cells_length _) Tryz.underlying69 rfl info_pdu) rfl ⟨by rw [HR.out], hb⟩
    · have HR := Lib.hid (show namedOf ⟨7, session, serial, add, v, code, text⟩ = { bareP 7 with session := session, serial := serial } from by simp [namedOf])
      go_wp2_with fail
      clear k0
      refine reg_sch2 6 [(true, 0), (true, 1), (true, 2), (true, 3), (true, 4), (false, 5)] (by kernel_rfl) (by kernel_rfl) (fun W => Blk W w.heap.size 69 (Pdu.cells ⟨7, session, serial, add, v, code, text⟩)) (Nmd w w.heap.size ⟨7, session, serial, add, v, code, text⟩ (bareP 7)) ?_ ?_ ?_
      · exact hW.drew
      · exact fun _ h => h.1
      intro W hSW
      simp only [List.map_cons, List.map_nil, List.getD_cons_zero, List.getD_cons_succ, List.drop_succ_cons, List.drop_zero]
      refine hd_pure (v := ?_) (by rfl) (fun W' hS' => ?_) ?_ -- 0
      rotate_left
      · have c1 := (hS'.cell 1).trans (Pdu.c1 _); have c2 := (hS'.cell 2).trans (Pdu.c2 _); clear hS'; (go_simp; first | with_reducible rfl | rfl)
      try simp only [Act.put, List.setIfInBounds_toArray, List.set_cons_zero, List.set_cons_succ]
      refine hd_pure (v := ?_) (by rfl) (fun W' hS' => ?_) ?_ -- 1
      rotate_left
      · have c1 := (hS'.cell 1).trans (Pdu.c1 _); have c2 := (hS'.cell 2).trans (Pdu.c2 _); clear hS'; (go_simp; first | with_reducible rfl | rfl)
      try simp only [Act.put, List.setIfInBounds_toArray, List.set_cons_zero, List.set_cons_succ]
      refine hd_pure (v := ?_) (by rfl) (fun W' hS' => ?_) ?_ -- 2
      rotate_left
      · have c1 := (hS'.cell 1).trans (Pdu.c1 _); have c2 := (hS'.cell 2).trans (Pdu.c2 _); clear hS'; (go_simp; first | with_reducible rfl | rfl)
      try simp only [Act.put, List.setIfInBounds_toArray, List.set_cons_zero, List.set_cons_succ]
      refine hd_pure (v := ?_) (by rfl) (fun W' hS' => ?_) ?_ -- 3
      rotate_left
      · have c1 := (hS'.cell 1).trans (Pdu.c1 _); have c2 := (hS'.cell 2).trans (Pdu.c2 _); clear hS'; (go_simp; first | with_reducible rfl | rfl)
      try simp only [Act.put, List.setIfInBounds_toArray, List.set_cons_zero, List.set_cons_succ]
      refine hd_pure (v := ?_) (by rfl) (fun W' hS' => ?_) ?_ -- 4
      rotate_left
      · have c1 := (hS'.cell 1).trans (Pdu.c1 _); have c2 := (hS'.cell 2).trans (Pdu.c2 _); clear hS'; (go_simp; first | with_reducible rfl | rfl)
      try simp only [Act.put, List.setIfInBounds_toArray, List.set_cons_zero, List.set_cons_succ]
      refine hd_sole (by rfl) (fun K hK => ?_) -- 5
      have e1 := (hSW.2.2.1.cell 1).trans (Pdu.c1 _); have f1 := hSW.2.2.1.frozen 1
      go_simp
      clear e1 f1
      refine hK _ _ (hSW.1.far (by simp; omega) _) ?_
      clear hK K
      intro hSW5
      try simp only [Act.put, List.setIfInBounds_toArray, List.set_cons_zero, List.set_cons_succ]
      refine hd_nil ?_
      have hN := hSW.set (set_session _ _ session _ _ _ _ _); have e2 := (hN.2.2.1.cell 2).trans (Pdu.c2 _); have f2 := hN.2.2.1.frozen 2
      go_wp2_with fail
      refine NoPanic.normal ?_
      refine exit_gen (Nmd w w.heap.size ⟨7, session, serial, add, v, code, text⟩ ({ bareP 7 with session := session, serial := serial })) (hN.set (set_serial _ _ _ serial _ _ _ _)) ?_
      clear hSW hSW5 hN e2 f2 hW
      intro W2 hE
      go_wp2_with (first | (refine wpList_load_at rfl 69 _ rfl (w.heap.size + 2) 0 26 rfl _ _ hE.2.2.1.range (Pdu.cells_length _) Tryz.underlying69 rfl info_pdu ?_) | (refine wpList_store_at rfl 69 _ _ rfl (w.heap.size + 1) 0 26 69 _ _ rfl rfl hE.2.1 (Pdu.cells_length _) (by rw [Pdu.cells_length]; omega) info_pdu (Pdu.one _) ?_))
      obtain ⟨hr, hb⟩ := named_end hE
      exact bodyPost_ret (results_cell1 rfl _ (w.heap.size + 1) 0 26 _ _ rfl hr.range (Pdu.cells_length _) Tryz.underlying69 rfl info_pdu) rfl ⟨by rw [HR.out], hb⟩
    · have HR := Lib.hid (show namedOf ⟨10, session, serial, add, v, code, text⟩ = { bareP 10 with code := code, text := text } from by simp [namedOf])
      go_wp2_with fail
      clear k0
      refine reg_sch2 6 [(true, 0), (true, 1), (true, 2), (true, 3), (true, 4), (false, 5)] (by kernel_rfl) (by kernel_rfl) (fun W => Blk W w.heap.size 69 (Pdu.cells ⟨10, session, serial, add, v, code, text⟩)) (Nmd w w.heap.size ⟨10, session, serial, add, v, code, text⟩ (bareP 10)) ?_ ?_ ?_
      · exact hW.drew
      · exact fun _ h => h.1
      intro W hSW
      simp only [List.map_cons, List.map_nil, List.getD_cons_zero, List.getD_cons_succ, List.drop_succ_cons, List.drop_zero]
      refine hd_pure (v := ?_) (by rfl) (fun W' hS' => ?_) ?_ -- 0
      rotate_left
      · have c1 := (hS'.cell 24).trans (Pdu.c24 _); have c2 := (hS'.cell 25).trans (Pdu.c25 _); clear hS'; (go_simp; first | with_reducible rfl | rfl)
      try simp only [Act.put, List.setIfInBounds_toArray, List.set_cons_zero, List.set_cons_succ]
      refine hd_pure (v := ?_) (by rfl) (fun W' hS' => ?_) ?_ -- 1
      rotate_left
      · have c1 := (hS'.cell 24).trans (Pdu.c24 _); have c2 := (hS'.cell 25).trans (Pdu.c25 _); clear hS'; (go_simp; first | with_reducible rfl | rfl)
      try simp only [Act.put, List.setIfInBounds_toArray, List.set_cons_zero, List.set_cons_succ]
      refine hd_pure (v := ?_) (by rfl) (fun W' hS' => ?_) ?_ -- 2
      rotate_left
      · have c1 := (hS'.cell 24).trans (Pdu.c24 _); have c2 := (hS'.cell 25).trans (Pdu.c25 _); clear hS'; (go_simp; first | with_reducible rfl | rfl)
      try simp only [Act.put, List.setIfInBounds_toArray, List.set_cons_zero, List.set_cons_succ]
      refine hd_pure (v := ?_) (by rfl) (fun W' hS' => ?_) ?_ -- 3
      rotate_left
      · have c1 := (hS'.cell 24).trans (Pdu.c24 _); have c2 := (hS'.cell 25).trans (Pdu.c25 _); clear hS'; (go_simp; first | with_reducible rfl | rfl)
      try simp only [Act.put, List.setIfInBounds_toArray, List.set_cons_zero, List.set_cons_succ]
      refine hd_pure (v := ?_) (by rfl) (fun W' hS' => ?_) ?_ -- 4
      rotate_left
      · have c1 := (hS'.cell 24).trans (Pdu.c24 _); have c2 := (hS'.cell 25).trans (Pdu.c25 _); clear hS'; (go_simp; first | with_reducible rfl | rfl)
      try simp only [Act.put, List.setIfInBounds_toArray, List.set_cons_zero, List.set_cons_succ]
      refine hd_sole (by rfl) (fun K hK => ?_) -- 5
      have e1 := (hSW.2.2.1.cell 24).trans (Pdu.c24 _); have f1 := hSW.2.2.1.frozen 24
      go_simp
      clear e1 f1
      refine hK _ _ (hSW.1.far (by simp; omega) _) ?_
      clear hK K
      intro hSW5
      try simp only [Act.put, List.setIfInBounds_toArray, List.set_cons_zero, List.set_cons_succ]
      refine hd_nil ?_
      have hN := hSW.set (set_code _ _ _ _ _ _ code _); have e2 := (hN.2.2.1.cell 25).trans (Pdu.c25 _); have f2 := hN.2.2.1.frozen 25
      go_wp2_with fail
      refine NoPanic.normal ?_
      refine exit_gen (Nmd w w.heap.size ⟨10, session, serial, add, v, code, text⟩ ({ bareP 10 with code := code, text := text })) (hN.set (set_text _ _ _ _ _ _ _ text)) ?_
      clear hSW hSW5 hN e2 f2 hW
      intro W2 hE
      go_wp2_with (first | (refine wpList_load_at rfl 69 _ rfl (w.heap.size + 2) 0 26 rfl _ _ hE.2.2.1.range (Pdu.cells_length _) Tryz.underlying69 rfl info_pdu ?_) | (refine wpList_store_at rfl 69 _ _ rfl (w.heap.size + 1) 0 26 69 _ _ rfl rfl hE.2.1 (Pdu.cells_length _) (by rw [Pdu.cells_length]; omega) info_pdu (Pdu.one _) ?_))
      obtain ⟨hr, hb⟩ := named_end hE
      exact bodyPost_ret (results_cell1 rfl _ (w.heap.size + 1) 0 26 _ _ rfl hr.range (Pdu.cells_length _) Tryz.underlying69 rfl info_pdu) rfl ⟨by rw [HR.out], hb⟩
  · obtain ⟨h0, h1, h3, h4, h6, h7, h10⟩ : kind ≠ 0 ∧ kind ≠ 1 ∧ kind ≠ 3 ∧ kind ≠ 4 ∧ kind ≠ 6 ∧ kind ≠ 7 ∧ kind ≠ 10 := by omega
    have HR := Lib.hid (show namedOf ⟨kind, session, serial, add, v, code, text⟩ = bareP kind from by simp [namedOf, h0, h1, h3, h4, h6, h7, h10])
    have b0 := beq_eq_false_iff_ne.2 h0; have b1 := beq_eq_false_iff_ne.2 h1; have b3 := beq_eq_false_iff_ne.2 h3; have b4 := beq_eq_false_iff_ne.2 h4; have b6 := beq_eq_false_iff_ne.2 h6; have b7 := beq_eq_false_iff_ne.2 h7; have b10 := beq_eq_false_iff_ne.2 h10
    clear h h0 h1 h3 h4 h6 h7 h10
    have hE := hW
    clear hW
    go_wp2_with (first | (refine wpList_load_at rfl 69 _ rfl (w.heap.size + 2) 0 26 rfl _ _ hE.2.2.1.range (Pdu.cells_length _) Tryz.underlying69 rfl info_pdu ?_) | (refine wpList_store_at rfl 69 _ _ rfl (w.heap.size + 1) 0 26 69 _ _ rfl rfl hE.2.1 (Pdu.cells_length _) (by rw [Pdu.cells_length]; omega) info_pdu (Pdu.one _) ?_))
    obtain ⟨hr, hb⟩ := named_end hE
    exact bodyPost_ret (results_cell1 rfl _ (w.heap.size + 1) 0 26 _ _ rfl hr.range (Pdu.cells_length _) Tryz.underlying69 rfl info_pdu) rfl ⟨by rw [HR.out], hb⟩
end Go.Proofs.YtmoldmnhijcckaaGreat
