/- A slice literal of one struct: a new block of just its cells. For whatever program. -/
import Derived.Test.YtmoldmnhijcckaaDoorGrd
import Derived.Great.BuildSlice
set_option linter.unusedVariables false
set_option linter.unusedSectionVars false
set_option linter.unusedSimpArgs false
namespace Go.Proofs.YtmoldmnhijcckaaDoor
open Go Go.RowKit
theorem fold_set : ∀ (l : List Value) (z : Array Value) (k : Nat), k + l.length ≤ z.size → (List.foldl (fun (cs : Array Value) (x : Value × Nat) => cs.setIfInBounds x.2 x.1) z (l.zipIdx k)).toList = z.toList.take k ++ l ++ z.toList.drop (k + l.length)
  | [], z, k, h => by simp
  | v :: l, z, k, h => by
    simp only [List.length_cons] at h
    rw [List.zipIdx_cons, List.foldl_cons, fold_set l _ (k + 1) (by simp; omega)]
    have hk : k < z.toList.length := by simp; omega
    simp only [Array.toList_setIfInBounds, List.length_cons]
    rw [List.drop_set_of_lt (by omega), List.take_set, List.take_succ_eq_append_getElem hk, List.set_append_right _ _ (by simp; omega)]
    have : min k z.size = k := by simp at hk; omega
    simp [this, Nat.add_assoc, Nat.add_comm 1]
theorem fold_all (l : List Value) (z : Array Value) (h : l.length = z.size) : List.foldl (fun (cs : Array Value) (x : Value × Nat) => cs.setIfInBounds x.2 x.1) z l.zipIdx = l.toArray := by
  apply Array.ext'
  rw [fold_set l z 0 (by omega)]
  simp [h]
theorem run_build1 {P : Program} (w : World) (t e : TypeId) (ie : TypeInfo) (z : Value) (cs : List Value) (hu : P.underlying t = some (.slice e)) (hie : P.info? e = some ie) (hz : ie.zero = some z) (hs : ie.size = cs.length) (hp : 0 < cs.length) (hsm : cs.length ≤ 1000) :
    (Instr.buildSlice t 1 #[(0, .agg cs.toArray)]).run P w = .ok (.slice (some ⟨w.heap.size, 0, none⟩) 1 1) (w.alloc (.cells cs.toArray e)) := by
  refine run_buildSlice w t e 1 _ _ ie z hu hie hz (by rw [hs]; omega) (by rw [hs]; omega) ?_
  have hc : (Value.agg cs.toArray).cells.size = cs.length := by simp [Value.cells]
  simp [Instr.fill, hs, Value.cells]
  exact fold_all cs _ (by simp)
theorem wpList_build1 {P : Program} {ops : Array Oper} {rest : List Oper} {o : Oper} {a : Act} {w : World} {Q : Exit → Act → World → Prop} (hg : o.guard = none) (t e : TypeId) (x : Operand) (ho : o.op = .buildSlice t 1 #[(0, x)]) (cs : List Value) (n : Nat) (hx : a.eval x = .agg cs.toArray) (hl : cs.length = n)
    (hu : P.underlying t = some (.slice e)) (hie : (P.info? e).map (·.size) = some n) (hz : ((P.info? e).bind (·.zero)).isSome = true) (hp : 0 < n) (hsm : n ≤ 1000)
    (h : wpList P ops Q rest (a.put o.dst (.slice (some ⟨w.heap.size, 0, none⟩) 1 1)) (w.alloc (.cells cs.toArray e))) : wpList P ops Q (o :: rest) a w := by
  cases hq : P.info? e with
  | none => simp [hq] at hie
  | some ie =>
    simp only [hq, Option.map_some, Option.some.injEq, Option.bind_some] at hie hz
    obtain ⟨z, hz⟩ := Option.isSome_iff_exists.1 hz
    refine wpList_plain hg fun K hK => ?_
    unfold Oper.wp execOp
    have hr := run_build1 (P := P) w t e ie z cs hu hq hz (by rw [hl]; exact hie) (by omega) (by omega)
    simp only [ho, List.map_toArray, List.map_cons, List.map_nil, hx, Sem.run_bind, hr, Result.andThen_ok]
    exact hK _ _ h
end Go.Proofs.YtmoldmnhijcckaaDoor
