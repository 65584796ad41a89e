/- Lists of texts that came in, opened. -/
import Derived.Test.YtmoldmnhijcckaaDoorOpnB
set_option linter.unusedVariables false
set_option linter.unusedSectionVars false
set_option linter.unusedSimpArgs false
set_option maxRecDepth 100000
namespace Go.Proofs.YtmoldmnhijcckaaDoor
open Go.RowKit Go.ChangeShapes Go.WideShapes Go.Deep
section
variable {H : Type} {enc : TypeId × Value → H} {w : World} {base : Nat} {spare : Nat → Bool} {held : Bool} {fuel : Nat} {cs : List Value} {x : DataW H × List MemPlace}
theorem flat_str (l : List ByteArray) : l.flatMap (fun s => [Value.string s]) = l.map Value.string := by rw [List.flatMap_def]; induction l <;> simp_all
instance : Inhabited ByteArray := ⟨ByteArray.empty⟩
theorem open_strs {r : Reach} {b0 : Nat} {v : Value} {d : DataW H} {p : List MemPlace} (hv : Value.okWide Tryd.prog w r b0 35 v) (h : DataW.Trod enc Tryd.prog w base spare held 35 v d p) :
    ∃ (A : Option Addr) (xs : List ByteArray) (c : Nat), v = .slice A xs.length c ∧ xs.length ≤ c ∧ c ≤ maxLen ∧ Reads w w.heap.size 1 A xs.length (xs.map Value.string) ∧ ∀ s ∈ xs, s.size ≤ maxLen := by
  obtain ⟨A, len, c, rfl⟩ := okWide_slice Tryd.underlying35 hv
  obtain ⟨fuel, hf⟩ := h
  obtain ⟨A', xs, c', hcs, h2, h3, h4, h5⟩ := trod_readsQ (cl := fun s : ByteArray => [Value.string s]) (Q := fun s => s.size ≤ maxLen) Tryd.underlying35 cells9 (by omega) (fun _ => rfl) (fun _ _ _ h => by obtain ⟨s, e, _, hs⟩ := DataW.trod_string Tryd.underlying9 h; exact ⟨s, e, hs⟩) hf
  have e : (Value.slice A len c) = .slice A' xs.length c' := by simpa [Value.cells] using hcs
  rw [flat_str] at h4
  exact ⟨A', xs, c', e, h2, h3, h4, h5⟩
end
end Go.Proofs.YtmoldmnhijcckaaDoor
