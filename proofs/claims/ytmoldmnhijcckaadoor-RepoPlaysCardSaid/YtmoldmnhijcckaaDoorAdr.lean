/- Loads of many cells at whatever address. For whatever program. -/
import Derived.Test.YtmoldmnhijcckaaDoorGrd
set_option linter.unusedVariables false
set_option linter.unusedSectionVars false
set_option linter.unusedSimpArgs false
namespace Go.Proofs.YtmoldmnhijcckaaDoor
open Go Go.RowKit
/-- The cells cs lie from address ad on. -/
def AtAdr (w : World) (ad : Addr) (cs : List Value) : Prop := ∀ j v, cs[j]? = some v → w.cell? (ad.add j) = some v
section
variable {P : Program}
theorem run_loadVar_adr (w : World) (ad : Addr) (ty : TypeId) (cs : List Value) (n : Nat) (d : TypeDesc) (hc : AtAdr w ad cs) (hl' : cs.length = n)
    (hu : P.underlying ty = some d) (hd : d.isRow = true) (hi : (P.info? ty).map (·.size) = some n) :
    (loadVar ty ad).run P w = .ok (.agg cs.toArray) w := by
  subst hl'
  have hl : (loadCells ad cs.length).run P w = .ok cs.toArray w := run_loadCells_list (P := P) w ad cs hc
  cases hq : P.info? ty with
  | none => simp [hq] at hi
  | some i =>
    have hs : i.size = cs.length := by simpa [hq] using hi
    have hagg : (isAgg ty).run P w = .ok true w := by
      unfold isAgg
      rw [Sem.run_bind, run_underlying hu w]
      cases d <;> simp_all
    simp [loadVar, Sem.run_bind, hagg, sizeOf, typeInfo, hq, hs, hl]
theorem exec_load_adr {op : Oper} {a : Act} {w : World} (ty : TypeId) (x : Operand) (ho : op.op = .load ty x) (ad : Addr) (n : Nat) (hx : a.eval x = .pointer (some ad)) (vs : List Value) (d : TypeDesc)
    (hr : AtAdr w ad vs) (hl : vs.length = n) (hu : P.underlying ty = some d) (hd : d.isRow = true) (hi : (P.info? ty).map (·.size) = some n) : (execOp a.eval op).run P w = .ok (.value (.agg vs.toArray)) w := by
  unfold execOp
  simp only [ho, hx, Instr.loadAt, Instr.sureAddr, Sem.run_bind, Sem.run_pure, Result.andThen_ok, run_loadVar_adr w ad ty vs n d hr hl hu hd hi]
theorem wpList_load_adr {ops : Array Oper} {rest : List Oper} {op : Oper} {a : Act} {w : World} {Q : Exit → Act → World → Prop} (hw : Region.wanted op (yielded ops a.tmps) = true) (ty : TypeId) (x : Operand) (ho : op.op = .load ty x) (ad : Addr) (n : Nat) (hx : a.eval x = .pointer (some ad)) (vs : List Value) (d : TypeDesc)
    (hr : AtAdr w ad vs) (hl : vs.length = n) (hu : P.underlying ty = some d) (hd : d.isRow = true) (hi : (P.info? ty).map (·.size) = some n)
    (h : wpList P ops Q rest (a.put op.dst (.agg vs.toArray)) w) : wpList P ops Q (op :: rest) a w :=
  wpList_want hw fun K hK => by
    unfold Oper.wp execOp
    simp only [ho, hx, Instr.loadAt, Instr.sureAddr, Sem.run_bind, Sem.run_pure, Result.andThen_ok, run_loadVar_adr w ad ty vs n d hr hl hu hd hi]
    exact hK _ _ h
end
/-- An element of what is read. -/
theorem Reads.elem {α : Type} {w : World} {B size n : Nat} {ad : Addr} {cl : α → List Value} {xs : List α} (h : Reads w B size (some ad) n (xs.flatMap cl)) (hcl : ∀ a, (cl a).length = size) {k : Nat} (hk : k < xs.length) (hn : xs.length = n) : AtAdr w (ad.add (k * size)) (cl xs[k]) := by
  intro j v hv
  obtain ⟨ad', e, _, hc⟩ := h.2 (by omega)
  cases e
  rw [add_add']
  apply hc
  have hfl : ∀ l : List α, (l.flatMap cl).length = l.length * size := fun l => by
    induction l with
    | nil => simp
    | cons a l ih => rw [List.flatMap_cons, List.length_append, ih, hcl, List.length_cons, Nat.succ_mul]; omega
  have e : xs.flatMap cl = (xs.take k).flatMap cl ++ (cl xs[k] ++ (xs.drop (k + 1)).flatMap cl) := by
    have e0 : xs.take k ++ xs[k] :: xs.drop (k + 1) = xs := by rw [← List.drop_eq_getElem_cons hk, List.take_append_drop]
    have e1 := congrArg (List.flatMap cl) e0
    rw [List.flatMap_append, List.flatMap_cons] at e1
    exact e1.symm
  have hk2 : ((xs.take k).flatMap cl).length = k * size := by rw [hfl, List.length_take]; congr 1; omega
  rw [e, List.getElem?_append_right (by omega), hk2, Nat.add_sub_cancel_left, List.getElem?_append_left ((List.getElem?_eq_some_iff.1 hv).1), hv]
end Go.Proofs.YtmoldmnhijcckaaDoor
