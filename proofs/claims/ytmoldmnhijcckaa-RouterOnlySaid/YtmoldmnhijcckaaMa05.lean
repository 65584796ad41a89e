/- The cells of a message, one by one. -/
import Derived.Test.YtmoldmnhijcckaaMa03
import Derived.Test.YtmoldmnhijcckaaMa01
set_option linter.unusedVariables false
set_option linter.unusedSectionVars false
set_option linter.unusedSimpArgs false
namespace Go.Proofs.Ytmoldmnhijcckaa
open Go.RowKit
theorem Vrp.c1 (v : Vrp) : v.cells[1]? = some (.bool v.p.v6) := rfl
theorem Vrp.c18 (v : Vrp) : v.cells[18]? = some (.int .i64 v.p.len) := by
  simp only [Vrp.cells, List.getElem?_cons_succ]
  rw [List.getElem?_append_left (by simp [Pfx.cells_length]), Pfx.c17]
theorem Pdu.c0 (p : Pdu) : p.cells[0]? = some (.int .i64 p.kind) := rfl
theorem Pdu.c1 (p : Pdu) : p.cells[1]? = some (.int .i64 p.session) := rfl
theorem Pdu.c2 (p : Pdu) : p.cells[2]? = some (.int .u32 p.serial.toNat) := rfl
theorem Pdu.c3 (p : Pdu) : p.cells[3]? = some (.bool p.add) := rfl
theorem Pdu.cv (p : Pdu) (i : Nat) (h : i < 20) : p.cells[i + 4]? = p.v.cells[i]? := by
  simp only [Pdu.cells, List.getElem?_cons_succ]
  rw [List.getElem?_append_left (by rw [Vrp.cells_length]; exact h)]
theorem Pdu.c4 (p : Pdu) : p.cells[4]? = some (.int .u32 p.v.asn.toNat) := p.cv 0 (by omega)
theorem Pdu.c5 (p : Pdu) : p.cells[5]? = some (.bool p.v.p.v6) := p.cv 1 (by omega)
theorem Pdu.c22 (p : Pdu) : p.cells[22]? = some (.int .i64 p.v.p.len) := (p.cv 18 (by omega)).trans p.v.c18
theorem Pdu.c23 (p : Pdu) : p.cells[23]? = some (.int .i64 p.v.mx) := (p.cv 19 (by omega)).trans p.v.c19
theorem Pdu.c24 (p : Pdu) : p.cells[24]? = some (.int .i64 p.code) := by
  simp only [Pdu.cells, List.getElem?_cons_succ]
  rw [List.getElem?_append_right (by rw [Vrp.cells_length]; omega), Vrp.cells_length]; rfl
theorem Pdu.c25 (p : Pdu) : p.cells[25]? = some (.string p.text) := by
  simp only [Pdu.cells, List.getElem?_cons_succ]
  rw [List.getElem?_append_right (by rw [Vrp.cells_length]; omega), Vrp.cells_length]; rfl
theorem info_pdu : (Try.prog.info? 29).map (·.size) = some 26 := by kernel_rfl
theorem info_vrp : (Try.prog.info? 27).map (·.size) = some 20 := by kernel_rfl
theorem Blk.pdu_vrp {w : World} {g : Nat} {t : TypeId} {p : Pdu} (h : Blk w g t p.cells) : w.rangeAt g 4 p.v.cells := h.sub [.int .i64 p.kind, .int .i64 p.session, .int .u32 p.serial.toNat, .bool p.add] p.v.cells [.int .i64 p.code, .string p.text] 4 rfl rfl
theorem Blk.vrp_pfx {w : World} {g : Nat} {t : TypeId} {v : Vrp} (h : Blk w g t v.cells) : w.rangeAt g 1 v.p.cells := h.sub [.int .u32 v.asn.toNat] v.p.cells [.int .i64 v.mx] 1 rfl rfl
def zA16 : A16 := ⟨List.replicate 16 0, rfl⟩
def zPfxS : Pfx := ⟨false, zA16, 0⟩
def zVrpS : Vrp := ⟨0, zPfxS, 0⟩
/-- A message of which the kind alone is set. -/
def bareP (k : Int) : Pdu := ⟨k, 0, 0, false, zVrpS, 0, ByteArray.empty⟩
theorem stood29 : Try.prog.stoodInHeld 29 = false := by kernel_rfl
theorem isSome27 : (Try.prog.info? 27).isSome = true := by kernel_rfl
instance : DecidableEq Pdu := fun p q => decidable_of_iff (p.kind = q.kind ∧ p.session = q.session ∧ p.serial = q.serial ∧ p.add = q.add ∧ p.v = q.v ∧ p.code = q.code ∧ p.text = q.text) (by cases p; cases q; simp)
theorem beq_text (a b : ByteArray) : (a.toList == b.toList) = decide (a = b) := by
  rw [ByteArray.toList_eq, ByteArray.toList_eq, Bool.eq_iff_iff]
  obtain ⟨⟨x⟩⟩ := a
  obtain ⟨⟨y⟩⟩ := b
  simp
set_option maxRecDepth 100000 in
theorem eqIn_pdu (d : Nat) (p q : Pdu) (w : World) : (Op.equalIn (d + 5) 29 (.agg p.cells.toArray) (.agg q.cells.toArray)).run Try.prog w = .ok (decide (p = q)) w := by
  refine (eqA_of' Try.underlying29 stood29
    (eqf_cons' (by rfl) (part_one pk3 p.c0) (part_one pk3 q.c0) (run_equalIn_int w _ _ .i64 .i64 _ _ Try.underlying3)
    (eqf_cons' (by rfl) (part_one pk3 p.c1) (part_one pk3 q.c1) (run_equalIn_int w _ _ .i64 .i64 _ _ Try.underlying3)
    (eqf_cons' (by rfl) (part_one pk22 p.c2) (part_one pk22 q.c2) (run_equalIn_int w _ _ .u32 .u32 _ _ Try.underlying22)
    (eqf_cons' (by rfl) (part_one pk4 p.c3) (part_one pk4 q.c3) (run_equalIn_bool w _ _ _ _ Try.underlying4)
    (eqf_cons' (by rfl) (part_mid Try.underlying27 (.inr ⟨_, rfl⟩) cells27 isSome27 [.int .i64 p.kind, .int .i64 p.session, .int .u32 p.serial.toNat, .bool p.add] p.v.cells [.int .i64 p.code, .string p.text] 4 rfl rfl p.v.cells_length) (part_mid Try.underlying27 (.inr ⟨_, rfl⟩) cells27 isSome27 [.int .i64 q.kind, .int .i64 q.session, .int .u32 q.serial.toNat, .bool q.add] q.v.cells [.int .i64 q.code, .string q.text] 4 rfl rfl q.v.cells_length) (eqIn_vrp d p.v q.v w)
    (eqf_cons' (by rfl) (part_one pk3 p.c24) (part_one pk3 q.c24) (run_equalIn_int w _ _ .i64 .i64 _ _ Try.underlying3)
    (eqf_cons' (by rfl) (part_one pk9 p.c25) (part_one pk9 q.c25) (run_equalIn_string w _ _ _ _ Try.underlying9) eqf_nil')))))))).trans ?_
  refine congrArg (Result.ok · w) ?_
  rw [beq_text]
  obtain ⟨k, s, n, a, v, c, t⟩ := p
  obtain ⟨k', s', n', a', v', c', t'⟩ := q
  rw [Bool.eq_iff_iff]
  simp only [Bool.and_true, Bool.and_eq_true, beq_iff_eq, decide_eq_true_eq, Pdu.mk.injEq]
  exact ⟨fun ⟨h1, h2, h3, h4, h5, h6, h7⟩ => ⟨h1, h2, UInt32.toNat_inj.1 (by omega), h4, h5, h6, h7⟩, fun ⟨h1, h2, h3, h4, h5, h6, h7⟩ => ⟨h1, h2, by rw [h3], h4, h5, h6, h7⟩⟩
theorem eq_pdu (p q : Pdu) (w : World) : (Go.binOp .eql 29 (.agg p.cells.toArray) (.agg q.cells.toArray)).run Try.prog w = .ok (.bool (decide (p = q))) w := by
  rw [run_eql_struct, eqIn_pdu 9995]; rfl
theorem neq_pdu (p q : Pdu) (w : World) : (Go.binOp .neq 29 (.agg p.cells.toArray) (.agg q.cells.toArray)).run Try.prog w = .ok (.bool (!decide (p = q))) w := by
  rw [run_neq_struct, eqIn_pdu 9995]; rfl
/-- Its cells, written out. -/
abbrev bareL (k : Int) : List Value := [.int .i64 k, .int .i64 0, .int .u32 0, .bool false, .int .u32 0, .bool false, .int .u8 0, .int .u8 0, .int .u8 0, .int .u8 0, .int .u8 0, .int .u8 0, .int .u8 0, .int .u8 0, .int .u8 0, .int .u8 0, .int .u8 0, .int .u8 0, .int .u8 0, .int .u8 0, .int .u8 0, .int .u8 0, .int .i64 0, .int .i64 0, .int .i64 0, .string ⟨#[]⟩]
theorem bareL_eq (k : Int) : bareL k = (bareP k).cells := rfl
abbrev vrpL : List Value := [.int .u32 0, .bool false, .int .u8 0, .int .u8 0, .int .u8 0, .int .u8 0, .int .u8 0, .int .u8 0, .int .u8 0, .int .u8 0, .int .u8 0, .int .u8 0, .int .u8 0, .int .u8 0, .int .u8 0, .int .u8 0, .int .u8 0, .int .u8 0, .int .i64 0, .int .i64 0]
theorem vrpL_eq : vrpL = zVrpS.cells := rfl
abbrev pfxL : List Value := [.bool false, .int .u8 0, .int .u8 0, .int .u8 0, .int .u8 0, .int .u8 0, .int .u8 0, .int .u8 0, .int .u8 0, .int .u8 0, .int .u8 0, .int .u8 0, .int .u8 0, .int .u8 0, .int .u8 0, .int .u8 0, .int .u8 0, .int .i64 0]
theorem pfxL_eq : pfxL = zPfxS.cells := rfl
end Go.Proofs.Ytmoldmnhijcckaa
