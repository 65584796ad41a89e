/- Laws at operations that are guarded, the guard being met. For whatever program. -/
import Derived.Test.YtmoldmnhijcckaaDoorMem
import Derived.Test.YtmoldmnhijcckaaDoorApp
set_option linter.unusedVariables false
set_option linter.unusedSectionVars false
set_option linter.unusedSimpArgs false
namespace Go.Proofs.YtmoldmnhijcckaaDoor
open Go Go.RowKit
section
variable {P : Program} {ops : Array Oper} {rest : List Oper} {op : Oper} {a : Act} {w : World} {Q : Exit → Act → World → Prop}
theorem wpList_want (hw : Region.wanted op (yielded ops a.tmps) = true) (h : ∀ K : Act → World → Prop, (∀ a w, wpList P ops Q rest a w → K a w) → op.wp P a w K Q) : wpList P ops Q (op :: rest) a w :=
  wpList_step fun K hK => by rw [if_pos hw]; exact h K hK
theorem wpList_load_g (hw : Region.wanted op (yielded ops a.tmps) = true) (ty : TypeId) (x : Operand) (ho : op.op = .load ty x) (g o n : Nat) (hx : a.eval x = .pointer (some ⟨g, o, none⟩)) (vs : List Value) (d : TypeDesc)
    (hr : w.rangeAt g o vs) (hl : vs.length = n) (hu : P.underlying ty = some d) (hd : d.isRow = true) (hi : (P.info? ty).map (·.size) = some n)
    (h : wpList P ops Q rest (a.put op.dst (.agg vs.toArray)) w) : wpList P ops Q (op :: rest) a w :=
  wpList_want hw fun _ hK => wp_load_mid ty x ho g o hx vs d hr hu hd (by rw [hl]; exact hi) (hK _ _ h)
end
end Go.Proofs.YtmoldmnhijcckaaDoor
