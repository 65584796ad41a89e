/- Maps keyed by strings that only grow: what they hold as a list, and what a look and a store of a new key do. For whatever program. -/
import Derived.Test.YtmoldmnhijcckaaDoorCut
import Derived.MapKept
import Derived.ChangeMaps4
import Derived.Laws.IdiomRangeMap
set_option linter.unusedVariables false
set_option linter.unusedSectionVars false
set_option linter.unusedSimpArgs false
namespace Go.Proofs.YtmoldmnhijcckaaDoor
open Go.RowKit
open Go.ChangeMaps (setBlock)
section
variable {P : Program}
def mapEsFrom (i : Nat) : List (ByteArray × Value) → List MapEntry
  | [] => []
  | kv :: l => ⟨.string kv.1, kv.2, i⟩ :: mapEsFrom (i + 1) l
theorem mapEsFrom_append (l r : List (ByteArray × Value)) : ∀ i, mapEsFrom i (l ++ r) = mapEsFrom i l ++ mapEsFrom (i + l.length) r := by
  induction l with
  | nil => intro i; rfl
  | cons a l ih => intro i; simp only [List.cons_append, mapEsFrom, ih, List.length_cons]; rw [show i + 1 + l.length = i + (l.length + 1) by omega]
def mapEs (l : List (ByteArray × Value)) : Array MapEntry := (mapEsFrom 0 l).toArray
/-- Block b is a map that holds l, in the order in which it was laid. -/
def MapAt (w : World) (b : Nat) (l : List (ByteArray × Value)) : Prop := w.heap[b]? = some (.map (mapEs l) l.length)
def findK (s : ByteArray) : List (ByteArray × Value) → Option Value
  | [] => none
  | kv :: l => if s == kv.1 then some kv.2 else findK s l
theorem findNow_str (s : ByteArray) : ∀ (l : List (ByteArray × Value)) (i n : Nat), (Instr.findNow .string (.string s) (mapEsFrom n l) i).map (fun o => o.map (·.2)) = some (findK s l)
  | [], _, _ => rfl
  | kv :: l, i, n => by
    simp only [mapEsFrom, Instr.findNow, Instr.sameNow, findK]
    cases h : s == kv.1
    · simp only [Bool.false_eq_true, if_false]
      exact findNow_str s l (i + 1) (n + 1)
    · simp
theorem findNow_some (s : ByteArray) (l : List (ByteArray × Value)) (i n : Nat) {v : Value} (h : findK s l = some v) : ∃ j, Instr.findNow .string (.string s) (mapEsFrom n l) i = some (some (j, v)) := by
  have e := findNow_str s l i n
  rw [h] at e
  cases h2 : Instr.findNow .string (.string s) (mapEsFrom n l) i with
  | none => rw [h2] at e; simp at e
  | some o => cases o with
    | none => rw [h2] at e; simp at e
    | some q => rw [h2] at e; simp at e; exact ⟨q.1, by rw [← e]⟩
theorem findNow_none (s : ByteArray) (l : List (ByteArray × Value)) (i n : Nat) (h : findK s l = none) : Instr.findNow .string (.string s) (mapEsFrom n l) i = some none := by
  have e := findNow_str s l i n
  rw [h] at e
  cases h2 : Instr.findNow .string (.string s) (mapEsFrom n l) i with
  | none => rw [h2] at e; simp at e
  | some o => cases o with
    | none => rfl
    | some q => rw [h2] at e; simp at e
variable {w : World} {t k e : TypeId} {b : Nat} {l : List (ByteArray × Value)}
theorem run_look_some (ht : P.underlying t = some (.map k e)) (hk : P.underlying k = some .string) (h : MapAt w b l) {s : ByteArray} {v : Value} (hf : findK s l = some v) (ok : Bool) :
    (Instr.lookup t (.map (some b)) (.string s) ok).run P w = .ok (if ok then .tuple #[v, .bool true] else v) w := by
  have hck : ∀ b, (Instr.checkKey b 10000 k (.string s)).run P w = .ok () w := fun b => MapKept.run_checkKey hk (k := .string s) (by trivial) b 9999
  obtain ⟨j, hj⟩ := findNow_some s l 0 0 hf
  simp [Instr.lookup, run_underlying ht, run_underlying hk, MapKept.run_getObj_map h, hck, Instr.findKey, mapEs, hj, Result.andThen]
theorem run_look_none (ht : P.underlying t = some (.map k e)) (hk : P.underlying k = some .string) (h : MapAt w b l) {s : ByteArray} {z : Value} (hz : (zeroValue e).run P w = .ok z w) (hf : findK s l = none) (ok : Bool) :
    (Instr.lookup t (.map (some b)) (.string s) ok).run P w = .ok (if ok then .tuple #[z, .bool false] else z) w := by
  have hck : ∀ b, (Instr.checkKey b 10000 k (.string s)).run P w = .ok () w := fun b => MapKept.run_checkKey hk (k := .string s) (by trivial) b 9999
  have hj := findNow_none s l 0 0 hf
  simp [Instr.lookup, run_underlying ht, run_underlying hk, MapKept.run_getObj_map h, hck, Instr.findKey, mapEs, hj, hz, Result.andThen]
theorem run_put_new (ht : P.underlying t = some (.map k e)) (hk : P.underlying k = some .string) (h : MapAt w b l) {s : ByteArray} (v : Value) (hf : findK s l = none) :
    (Instr.mapUpdate t (.map (some b)) (.string s) v).run P w = .ok () (setBlock w b (.map (mapEs (l ++ [(s, v)])) (l ++ [(s, v)]).length)) := by
  have hck : ∀ b, (Instr.checkKey b 10000 k (.string s)).run P w = .ok () w := fun b => MapKept.run_checkKey hk (k := .string s) (by trivial) b 9999
  have hj := findNow_none s l 0 0 hf
  simp [Instr.mapUpdate, run_underlying ht, run_underlying hk, MapKept.run_getObj_map h, hck, Instr.findKey, mapEs, hj, MapKept.run_setObj_map _ h, Result.andThen, setBlock, mapEsFrom_append, mapEsFrom]
theorem MapAt.lt (h : MapAt w b l) : b < w.heap.size := (Array.getElem?_eq_some_iff.1 h).1
theorem MapAt.put (h : MapAt w b l) (l' : List (ByteArray × Value)) : MapAt (setBlock w b (.map (mapEs l') l'.length)) b l' := by
  unfold MapAt setBlock
  simp [h.lt]
theorem MapAt.new (w : World) : MapAt (w.alloc (.map #[] 0)) w.heap.size [] := heap_alloc_new w _
theorem mapAt_new' (w : World) (g : Nat) (hg : w.heap.size = g) : MapAt (w.alloc (.map #[] 0)) g [] := by subst hg; exact heap_alloc_new w _
theorem MapAt.drew (h : MapAt w b l) : MapAt w.drew b l := h
theorem MapAt.alloc (h : MapAt w b l) (o : Obj) : MapAt (w.alloc o) b l := (Below.heap_alloc w o b h.lt).trans h
theorem MapAt.far (h : MapAt w b l) {p : Addr} (hp : b ≠ p.block) (u : Value) : MapAt (w.setCell p u) b l := (Below.heap_setCell w p u b hp).trans h
theorem MapAt.below {B : Nat} {w' : World} (h : MapAt w b l) (hb : Below B w w') (hg : b < B) : MapAt w' b l := (hb.block b hg).trans h
theorem MapAt.grown {w' : World} {row : Option Nat} (h : MapAt w b l) (hb : w.grownBy w' row) (hg : some b ≠ row) : MapAt w' b l := (hb.block b h.lt hg).trans h
theorem heap_setBlock_far (w : World) {b g : Nat} (o : Obj) (h : g ≠ b) : (setBlock w b o).heap[g]? = w.heap[g]? := by
  unfold setBlock
  simp [Array.getElem?_setIfInBounds_ne (Ne.symm h)]
theorem MapAt.setBlock_far (h : MapAt w b l) {g : Nat} (o : Obj) (hg : b ≠ g) : MapAt (setBlock w g o) b l := (heap_setBlock_far w o hg).trans h
theorem Blk.setBlock_far {g : Nat} {t : TypeId} {cs : List Value} (h : Blk w g t cs) (o : Obj) (hg : g ≠ b) : Blk (setBlock w b o) g t cs := (heap_setBlock_far w o hg).trans h
theorem Below.setBlock' {B : Nat} {w0 : World} (h : Below B w0 w) (o : Obj) (hg : B ≤ b) : Below B w0 (setBlock w b o) :=
  ⟨h.os, h.tape, h.output, by unfold setBlock; simpa using h.size, fun g hgB => (heap_setBlock_far w o (by omega)).trans (h.block g hgB)⟩
end
end Go.Proofs.YtmoldmnhijcckaaDoor
