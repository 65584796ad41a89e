/- Blobs that came in, opened: each with its bytes. -/
import Derived.Test.YtmoldmnhijcckaaDoorOpn
import Derived.Test.YtmoldmnhijcckaaDoorRepN
set_option linter.unusedVariables false
set_option linter.unusedSectionVars false
set_option linter.unusedSimpArgs false
set_option maxRecDepth 100000
namespace Go.Proofs.YtmoldmnhijcckaaDoor
open Go.RowKit Go.ChangeShapes Go.WideShapes Go.Deep
section
variable {H : Type} {enc : TypeId × Value → H} {w : World} {base : Nat} {spare : Nat → Bool} {held : Bool} {fuel : Nat} {cs : List Value} {x : DataW H × List MemPlace}
theorem trod_readsQ {t e : TypeId} {size : Nat} {α : Type} [Inhabited α] {cl : α → List Value} {Q : α → Prop} (ht : Tryd.prog.underlying t = some (.slice e)) (hC : Tryd.prog.cellsOf e = size) (hs : 0 < size) (hlen : ∀ a, (cl a).length = size)
    (ho : ∀ fuel cs x, DataW.trod enc Tryd.prog w base spare held fuel e cs = some x → ∃ a, cs = cl a ∧ Q a) (hf : DataW.trod enc Tryd.prog w base spare held fuel t cs = some x) :
    ∃ (A : Option Addr) (xs : List α) (c : Nat), cs = [.slice A xs.length c] ∧ xs.length ≤ c ∧ c ≤ maxLen ∧ Reads w w.heap.size size A xs.length (xs.flatMap cl) ∧ ∀ a ∈ xs, Q a := by
  rcases open_slice ht hf with ⟨hcs, _⟩ | ⟨a, len, cap, m, n, D, Pl, hcs, _, hl, hm, hmm, _, hi⟩
  · exact ⟨none, [], 0, hcs, Nat.le_refl _, Nat.zero_le _, Reads.none_, fun a ha => by simp at ha⟩
  · have hlm : len ≤ m := by rw [hmm]; split <;> omega
    have hb : ∀ i, i < len → ∃ y : α, Q y ∧ ∀ j, j < size → w.cell? (a.add (i * size + j)) = (cl y)[j]? := fun i hil => by
      obtain ⟨cs', hc, ht'⟩ := hi i (by omega)
      rw [hC] at hc
      obtain ⟨y, rfl, hq⟩ := ho _ _ _ ht'
      obtain ⟨_, _, hat⟩ := World.cells?_some hc
      refine ⟨y, hq, fun j hj => ?_⟩
      rw [← Go.Deep.add_add]
      exact hat j hj
    obtain ⟨f, hf'⟩ := choose_lt hb
    refine ⟨some a, (List.range len).map f, cap, by simpa using hcs, by simpa using hl, hm, ?_, fun y hy => by
      obtain ⟨i, hi, rfl⟩ := List.mem_map.1 hy
      exact (hf' i (by simpa using hi)).1⟩
    rw [List.length_map, List.length_range]
    have hfl : ∀ (k : Nat), (((List.range k).map f).flatMap cl).length = k * size := fun k => by
      induction k with
      | zero => simp
      | succ k ih => rw [List.range_succ, List.map_append, List.flatMap_append, List.length_append, ih]; simp [hlen, Nat.succ_mul]
    have hat : ∀ (k : Nat), k ≤ len → ∀ j u, (((List.range k).map f).flatMap cl)[j]? = some u → w.cell? (a.add j) = some u := by
      intro k
      induction k with
      | zero => intro _ j u hu; simp at hu
      | succ k ih =>
        intro hk j u hu
        rw [List.range_succ, List.map_append, List.flatMap_append] at hu
        by_cases hj : j < k * size
        · rw [List.getElem?_append_left (by rw [hfl]; exact hj)] at hu
          exact ih (by omega) j u hu
        · rw [List.getElem?_append_right (by rw [hfl]; omega), hfl] at hu
          simp only [List.map_cons, List.map_nil, List.flatMap_cons, List.flatMap_nil, List.append_nil] at hu
          have hjs : j - k * size < size := by
            have := (List.getElem?_eq_some_iff.1 hu).1
            rwa [hlen] at this
          have := (hf' k (by omega)).2 (j - k * size) hjs
          rw [show k * size + (j - k * size) = j by omega] at this
          rw [this, hu]
    refine ⟨hfl len, fun hn => ⟨a, rfl, ?_, hat len (Nat.le_refl _)⟩⟩
    have h0 : (((List.range len).map f).flatMap cl)[0]? = some ((((List.range len).map f).flatMap cl)[0]'(by rw [hfl]; exact Nat.mul_pos hn hs)) := List.getElem?_eq_getElem _
    have := cell_blk_lt (hat len (Nat.le_refl _) 0 _ h0)
    rwa [add_blk] at this
theorem trod_bytes (hf : DataW.trod enc Tryd.prog w base spare held fuel 25 cs = some x) : ∃ (A : Option Addr) (bs : List UInt8) (c : Nat), cs = [.slice A bs.length c] ∧ bs.length ≤ c ∧ c ≤ maxLen ∧ Reads w w.heap.size 1 A bs.length (bs.map bv) := by
  obtain ⟨A, bs, c, h1, h2, h3, h4, _⟩ := trod_readsQ (Q := fun _ => True) (cl := fun b : UInt8 => [bv b]) Tryd.underlying25 cells5 (by omega) (fun _ => rfl) (fun _ _ _ h => by obtain ⟨b, hb⟩ := trod_u8 h; exact ⟨b, hb, trivial⟩) hf
  simp only [flat_one] at h4
  exact ⟨A, bs, c, h1, h2, h3, h4⟩
theorem cellsBlb : Tryd.prog.cellsOf 27 = 2 := by kernel_rfl
theorem trod_blb (h : DataW.trod enc Tryd.prog w base spare held fuel 27 cs = some x) : ∃ b : Blb, cs = b.cells ∧ Reads w w.heap.size 1 b.A b.bs.length (b.bs.map bv) ∧ b.u.size ≤ maxLen ∧ b.bs.length ≤ maxLen := by
  obtain ⟨xs, m, _, _, hl, hxl, hf⟩ := DataW.trod_struct Tryd.underlying27 h
  rw [cellsBlb] at hl
  replace hxl : xs.length = 2 := hxl
  have h0 := hf 0 _ rfl
  have h1 := hf 1 _ rfl
  rw [List.getElem?_eq_getElem (by omega)] at h0 h1
  obtain ⟨u, e0, _, hu⟩ := DataW.trod_string Tryd.underlying9 h0
  obtain ⟨A, bs, c, e1, hc1, hc2, hr⟩ := trod_bytes h1
  replace e0 : (cs.drop 0).take 1 = [.string u] := e0
  replace e1 : (cs.drop 1).take 1 = [.slice A bs.length c] := e1
  refine ⟨⟨u, A, c, bs⟩, ?_, hr, hu, by show bs.length ≤ maxLen; omega⟩
  rw [← List.drop_zero (l := cs), drop_split cs 0 1, e0, drop_split cs (0 + 1) 1, e1, List.drop_of_length_le (by omega)]
  simp [Blb.cells]
theorem open_blobs {r : Reach} {b0 : Nat} {v : Value} {d : DataW H} {p : List MemPlace} (hv : Value.okWide Tryd.prog w r b0 22 v) (h : DataW.Trod enc Tryd.prog w base spare held 22 v d p) :
    ∃ (A : Option Addr) (xs : List Blb) (c : Nat), v = .slice A xs.length c ∧ xs.length ≤ c ∧ c ≤ maxLen ∧ Reads w w.heap.size 2 A xs.length (xs.flatMap Blb.cells) ∧ ∀ b ∈ xs, Reads w w.heap.size 1 b.A b.bs.length (b.bs.map bv) ∧ b.u.size ≤ maxLen ∧ b.bs.length ≤ maxLen := by
  obtain ⟨A, len, c, rfl⟩ := okWide_slice Tryd.underlying22 hv
  obtain ⟨fuel, hf⟩ := h
  obtain ⟨A', xs, c', hcs, h2, h3, h4, h5⟩ := trod_readsQ (cl := Blb.cells) Tryd.underlying22 cellsBlb (by omega) Blb.len (fun _ _ _ h => trod_blb h) hf
  have e : (Value.slice A len c) = .slice A' xs.length c' := by simpa [Value.cells] using hcs
  exact ⟨A', xs, c', e, h2, h3, h4, h5⟩
theorem open_str {r : Reach} {b0 : Nat} {v : Value} {d : DataW H} {p : List MemPlace} (hv : Value.okWide Tryd.prog w r b0 9 v) (h : DataW.Trod enc Tryd.prog w base spare held 9 v d p) : ∃ s : ByteArray, v = .string s ∧ s.size ≤ maxLen := by
  obtain ⟨s, rfl⟩ := okWide_string Tryd.underlying9 hv
  obtain ⟨fuel, hf⟩ := h
  obtain ⟨t, e, _, ht⟩ := DataW.trod_string Tryd.underlying9 hf
  simp [Value.cells] at e
  subst e
  exact ⟨s, rfl, ht⟩
end
end Go.Proofs.YtmoldmnhijcckaaDoor
