/- Maps keyed by int, as what they hold at a key: look, put, delete. For whatever program. -/
import Derived.Test.YtmoldmnhijcckaaMa04
import Derived.MapKept
import Derived.ChangeMaps4
import Derived.Laws.IdiomRangeMap
set_option linter.unusedVariables false
set_option linter.unusedSectionVars false
set_option linter.unusedSimpArgs false
namespace Go.Proofs.Ytmoldmnhijcckaa
open Go.RowKit
open Go.ChangeMaps (setBlock)
def entI (e : Int × Value × Nat) : MapEntry := ⟨.int .i64 e.1, e.2.1, e.2.2⟩
def getI (es : List (Int × Value × Nat)) (k : Int) : Option Value := (es.find? fun e => k == e.1).map (·.2.1)
def MapI (w : World) (b : Nat) (f : Int → Option Value) : Prop := ∃ (es : List (Int × Value × Nat)) (n : Nat), w.heap[b]? = some (.map (es.map entI).toArray n) ∧ (es.map (·.1)).Nodup ∧ ∀ k, getI es k = f k
theorem findNow_int_none (k : Int) : ∀ (es : List (Int × Value × Nat)) (i : Nat), (∀ e ∈ es, e.1 ≠ k) → Instr.findNow (.int .i64) (.int .i64 k) (es.map entI) i = some none
  | [], _, _ => rfl
  | e :: es, i, h => by
    have h1 : (k == e.1) = false := beq_eq_false_iff_ne.2 (fun e2 => h e (by simp) e2.symm)
    simp only [List.map_cons, Instr.findNow, entI, Instr.sameNow, if_true, h1]
    exact findNow_int_none k es (i + 1) (fun e he => h e (by simp [he]))
theorem findNow_int_some (k : Int) (v : Value) (bn : Nat) (post : List (Int × Value × Nat)) : ∀ (pre : List (Int × Value × Nat)) (i : Nat), (∀ e ∈ pre, e.1 ≠ k) → Instr.findNow (.int .i64) (.int .i64 k) ((pre ++ (k, v, bn) :: post).map entI) i = some (some (i + pre.length, v))
  | [], i, _ => by simp [Instr.findNow, entI, Instr.sameNow]
  | e :: pre, i, h => by
    have h1 : (k == e.1) = false := beq_eq_false_iff_ne.2 (fun e2 => h e (by simp) e2.symm)
    simp only [List.cons_append, List.map_cons, Instr.findNow, entI, Instr.sameNow, if_true, h1]
    rw [findNow_int_some k v bn post pre (i + 1) (fun e he => h e (by simp [he]))]
    simp only [List.length_cons]
    congr 3
    omega
theorem getI_none {es : List (Int × Value × Nat)} {k : Int} (h : getI es k = none) : ∀ e ∈ es, e.1 ≠ k := by
  unfold getI at h
  rw [Option.map_eq_none_iff, List.find?_eq_none] at h
  intro e he e2
  exact h e he (by simp [e2])
theorem getI_some {es : List (Int × Value × Nat)} {k : Int} {v : Value} (h : getI es k = some v) : ∃ pre bn post, es = pre ++ (k, v, bn) :: post ∧ ∀ e ∈ pre, e.1 ≠ k := by
  unfold getI at h
  rw [Option.map_eq_some_iff] at h
  obtain ⟨⟨k', v', bn⟩, h1, h2⟩ := h
  obtain ⟨h3, pre, post, h4, h5⟩ := List.find?_eq_some_iff_append.1 h1
  simp only at h2
  subst h2
  have h6 : k = k' := by simpa using h3
  subst h6
  exact ⟨pre, bn, post, h4, fun e he e2 => by have := h5 e he; simp [e2] at this⟩
section
variable {P : Program} {w : World} {t kt e : TypeId} {b : Nat} {f : Int → Option Value}
theorem MapI.look_some (h : MapI w b f) (ht : P.underlying t = some (.map kt e)) (hk : P.underlying kt = some (.int .i64)) {k : Int} {v : Value} (hf : f k = some v) :
    (Instr.lookup t (.map (some b)) (.int .i64 k) true).run P w = .ok (.tuple #[v, .bool true]) w := by
  obtain ⟨es, n, hh, hnd, hg⟩ := h
  obtain ⟨pre, bn, post, rfl, hp⟩ := getI_some ((hg k).trans hf)
  have hck : ∀ b, (Instr.checkKey b 10000 kt (.int .i64 k)).run P w = .ok () w := fun b => MapKept.run_checkKey hk (k := .int .i64 k) (by trivial) b 9999
  have hj := findNow_int_some k v bn post pre 0 hp
  simp only [Nat.zero_add] at hj
  simp [Instr.lookup, run_underlying ht, run_underlying hk, MapKept.run_getObj_map hh, hck, Instr.findKey, Result.andThen]
  simp only [List.map_append, List.map_cons] at hj
  simp [hj]
theorem MapI.look_none (h : MapI w b f) (ht : P.underlying t = some (.map kt e)) (hk : P.underlying kt = some (.int .i64)) {k : Int} {z : Value} (hz : (zeroValue e).run P w = .ok z w) (hf : f k = none) :
    (Instr.lookup t (.map (some b)) (.int .i64 k) true).run P w = .ok (.tuple #[z, .bool false]) w := by
  obtain ⟨es, n, hh, hnd, hg⟩ := h
  have hp := getI_none ((hg k).trans hf)
  have hck : ∀ b, (Instr.checkKey b 10000 kt (.int .i64 k)).run P w = .ok () w := fun b => MapKept.run_checkKey hk (k := .int .i64 k) (by trivial) b 9999
  have hj := findNow_int_none k es 0 hp
  simp [Instr.lookup, run_underlying ht, run_underlying hk, MapKept.run_getObj_map hh, hck, Instr.findKey, hj, hz, Result.andThen]
def updI (f : Int → Option Value) (k : Int) (v : Option Value) : Int → Option Value := fun k' => if k' = k then v else f k'
theorem grown_setBlock (w : World) (b : Nat) (o : Obj) : w.grownBy (setBlock w b o) (some b) := by
  refine ⟨rfl, rfl, rfl, by unfold setBlock; simp, fun k hk hne => ?_⟩
  unfold setBlock
  exact Array.getElem?_setIfInBounds_ne (fun e => hne (by rw [e]))
theorem heap_setBlock_same {w : World} {b : Nat} {o o' : Obj} (h : w.heap[b]? = some o) : (setBlock w b o').heap[b]? = some o' := by
  have hlt : b < w.heap.size := (Array.getElem?_eq_some_iff.1 h).1
  unfold setBlock
  simp [hlt]
theorem MapI.put (h : MapI w b f) (ht : P.underlying t = some (.map kt e)) (hk : P.underlying kt = some (.int .i64)) (k : Int) (v : Value) :
    ∃ W, (Instr.mapUpdate t (.map (some b)) (.int .i64 k) v).run P w = .ok () W ∧ MapI W b (updI f k (some v)) ∧ w.grownBy W (some b) := by
  obtain ⟨es, n, hh, hnd, hg⟩ := h
  have hck : ∀ b, (Instr.checkKey b 10000 kt (.int .i64 k)).run P w = .ok () w := fun b => MapKept.run_checkKey hk (k := .int .i64 k) (by trivial) b 9999
  cases hf : f k with
  | none =>
    have hp := getI_none ((hg k).trans hf)
    have hj := findNow_int_none k es 0 hp
    refine ⟨setBlock w b (.map ((es ++ [(k, v, n)]).map entI).toArray (n + 1)), ?_, ⟨es ++ [(k, v, n)], n + 1, heap_setBlock_same hh, ?_, fun k' => ?_⟩, grown_setBlock _ _ _⟩
    · simp [Instr.mapUpdate, run_underlying ht, run_underlying hk, MapKept.run_getObj_map hh, hck, Instr.findKey, hj, MapKept.run_setObj_map _ hh, Result.andThen, setBlock, entI]
    · rw [List.map_append, List.nodup_append]
      refine ⟨hnd, by simp, fun a ha c hc => ?_⟩
      obtain ⟨x, hx, rfl⟩ := List.mem_map.1 ha
      have : c = k := by simpa using hc
      rw [this]
      exact hp x hx
    · unfold updI
      have hg' := hg k'
      unfold getI at hg' ⊢
      rw [List.find?_append]
      by_cases hkk : k' = k
      · subst hkk
        have : (es.find? fun e => k' == e.1) = none := List.find?_eq_none.2 fun x hx => by simpa using fun e => hp x hx e.symm
        rw [this, if_pos rfl]
        simp
      · rw [if_neg hkk, ← hg']
        have : (List.find? (fun e : Int × Value × Nat => k' == e.1) [(k, v, n)]) = none := by simp [hkk]
        rw [this, Option.or_none]
  | some v0 =>
    obtain ⟨pre, bn, post, rfl, hp⟩ := getI_some ((hg k).trans hf)
    have hj := findNow_int_some k v0 bn post pre 0 hp
    simp only [Nat.zero_add] at hj
    have hsb : Instr.sameBits 10000 (.int .i64 k) (.int .i64 k) = true := by simp [Instr.sameBits]
    refine ⟨setBlock w b (.map ((pre ++ (k, v, bn) :: post).map entI).toArray n), ?_, ⟨pre ++ (k, v, bn) :: post, n, heap_setBlock_same hh, ?_, fun k' => ?_⟩, grown_setBlock _ _ _⟩
    · have hmod : (((pre ++ (k, v0, bn) :: post).map entI).toArray.modify pre.length fun e => { e with key := Value.int .i64 k, val := v }) = ((pre ++ (k, v, bn) :: post).map entI).toArray := by
        apply Array.ext_getElem?
        intro i
        rw [Array.getElem?_modify]
        simp only [List.map_append, List.map_cons, List.getElem?_toArray]
        by_cases hi : pre.length = i
        · subst hi
          simp [entI]
        · rw [if_neg hi]
          by_cases hlt : i < pre.length
          · rw [List.getElem?_append_left (by simpa using hlt), List.getElem?_append_left (by simpa using hlt)]
          · obtain ⟨d, hd⟩ : ∃ d, i - pre.length = d + 1 := ⟨i - pre.length - 1, by omega⟩
            rw [List.getElem?_append_right (by simpa using Nat.le_of_not_lt hlt), List.getElem?_append_right (by simpa using Nat.le_of_not_lt hlt)]
            simp [hd]
      have hat : (((pre ++ (k, v0, bn) :: post).map entI).toArray[pre.length]?).map (·.key) = some (Value.int .i64 k) := by simp [entI]
      have hkt : (Instr.keyThatStays (.int .i64 k) (.int .i64 k)).run P w = .ok (.int .i64 k) w := by unfold Instr.keyThatStays; simp [hsb]
      unfold Instr.mapUpdate
      simp only [Sem.run_bind, run_underlying ht, Result.andThen_ok, MapKept.run_getObj_map hh, hck, Instr.findKey, run_underlying hk, hj, Sem.run_pure, hat, Option.getD_some, hkt, hmod, MapKept.run_setObj_map _ hh]
      rfl
    · simpa using hnd
    · unfold updI
      have hg' := hg k'
      unfold getI at hg' ⊢
      rw [List.find?_append] at hg' ⊢
      by_cases hkk : k' = k
      · subst hkk
        have : (pre.find? fun e => k' == e.1) = none := List.find?_eq_none.2 fun x hx => by simpa using fun e => hp x hx e.symm
        rw [this, if_pos rfl]
        simp
      · rw [if_neg hkk, ← hg']
        simp [hkk]
theorem MapI.del (h : MapI w b f) (ht : P.underlying t = some (.map kt e)) (hk : P.underlying kt = some (.int .i64)) (k : Int) {v0 : Value} (hf : f k = some v0) :
    ∃ W, (∀ ty kt2, (Builtin.delete_ #[t, kt2] ty #[.map (some b), .int .i64 k]).run P w = .ok (.tuple #[]) W) ∧ MapI W b (updI f k none) ∧ w.grownBy W (some b) := by
  obtain ⟨es, n, hh, hnd, hg⟩ := h
  have hck : ∀ b, (Instr.checkKey b 10000 kt (.int .i64 k)).run P w = .ok () w := fun b => MapKept.run_checkKey hk (k := .int .i64 k) (by trivial) b 9999
  obtain ⟨pre, bn, post, rfl, hp⟩ := getI_some ((hg k).trans hf)
  have hj := findNow_int_some k v0 bn post pre 0 hp
  simp only [Nat.zero_add] at hj
  have hpost : ∀ e ∈ post, e.1 ≠ k := fun e he e2 => by
    rw [List.map_append, List.nodup_append] at hnd
    have h2 := (List.nodup_cons.1 (show (k :: post.map (·.1)).Nodup by have := hnd.2.1; rwa [List.map_cons] at this)).1
    exact h2 (List.mem_map.2 ⟨e, he, e2⟩)
  refine ⟨setBlock w b (.map ((pre ++ post).map entI).toArray n), fun ty kt2 => ?_, ⟨pre ++ post, n, heap_setBlock_same hh, ?_, fun k' => ?_⟩, grown_setBlock _ _ _⟩
  · have her : (((pre ++ (k, v0, bn) :: post).map entI).toArray.eraseIdxIfInBounds pre.length) = ((pre ++ post).map entI).toArray := by
      unfold Array.eraseIdxIfInBounds
      rw [dif_pos (by simp)]
      apply Array.toList_inj.1
      simp [List.eraseIdx_append_of_length_le]
    unfold Builtin.delete_
    simp [run_underlying ht, run_underlying hk, MapKept.run_getObj_map hh, hck, Instr.findKey, Result.andThen]
    simp only [List.map_append, List.map_cons] at hj her
    have her2 : (List.map entI pre ++ entI (k, v0, bn) :: List.map entI post).eraseIdx pre.length = List.map entI pre ++ List.map entI post := by simp [List.eraseIdx_append_of_length_le]
    simp [hj, her2, MapKept.run_setObj_map _ hh, setBlock, Result.andThen]
  · rw [List.map_append, List.map_cons, List.nodup_append] at hnd
    rw [List.map_append, List.nodup_append]
    refine ⟨hnd.1, (List.nodup_cons.1 hnd.2.1).2, fun a ha c hc => hnd.2.2 a ha c (by simp [hc])⟩
  · unfold updI
    have hg' := hg k'
    unfold getI at hg' ⊢
    rw [List.find?_append] at hg' ⊢
    by_cases hkk : k' = k
    · subst hkk
      have h1 : (pre.find? fun e => k' == e.1) = none := List.find?_eq_none.2 fun x hx => by simpa using fun e => hp x hx e.symm
      have h2 : (post.find? fun e => k' == e.1) = none := List.find?_eq_none.2 fun x hx => by simpa using fun e => hpost x hx e.symm
      rw [h1, h2, if_pos rfl]
      rfl
    · rw [if_neg hkk, ← hg']
      simp [hkk]
end
end Go.Proofs.Ytmoldmnhijcckaa
