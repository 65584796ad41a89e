/- Arguments that came in, opened: prefixes, rows' elements, messages (by value, and in slices), bytes, texts, numbers. No conditions. -/
import Derived.Test.YtmoldmnhijcckaaGreatMa02
import Derived.Test.YtmoldmnhijcckaaGreatMa00
import Derived.Test.YtmoldmnhijcckaaGreatMa01
import Derived.ProofKit
import Derived.OpenShut
import Derived.ShutString
import Derived.ChangeOld
import Derived.Below
import Derived.Deep.Slices
import Derived.Test.YtmoldmnhijcckaaGreatMa37
import Derived.Test.YtmoldmnhijcckaaGreatMa51
set_option linter.unusedVariables false
set_option linter.unusedSectionVars false
set_option linter.unusedSimpArgs false
set_option maxRecDepth 100000
namespace Go.Proofs.YtmoldmnhijcckaaGreat
open Go.RowKit Go.ChangeShapes Go.WideShapes Go.Deep
theorem cell_blk_lt {w : World} {p : Addr} {v : Value} (h : w.cell? p = some v) : p.block < w.heap.size := by
  rcases Nat.lt_or_ge p.block w.heap.size with h1 | h1
  · exact h1
  · unfold World.cell? at h
    simp [Array.getElem?_eq_none h1] at h
theorem u8_of_wf {n : Int} (h : (Lit.int .u8 n).wf = true) : ∃ b : UInt8, n = b.toNat := by
  have h1 : IntKind.u8.min ≤ n ∧ n ≤ IntKind.u8.max := by simpa [Lit.wf] using h
  have e1 : IntKind.u8.min = 0 := by decide
  have e2 : IntKind.u8.max = 255 := by decide
  exact ⟨UInt8.ofNat n.toNat, by rw [UInt8.toNat_ofNat']; omega⟩
theorem u32_of_wf {n : Int} (h : (Lit.int .u32 n).wf = true) : ∃ b : UInt32, n = b.toNat := by
  have h1 : IntKind.u32.min ≤ n ∧ n ≤ IntKind.u32.max := by simpa [Lit.wf] using h
  have e1 : IntKind.u32.min = 0 := by decide
  have e2 : IntKind.u32.max = 4294967295 := by decide
  exact ⟨UInt32.ofNat n.toNat, by rw [UInt32.toNat_ofNat']; omega⟩
theorem i64_of_wf {n : Int} (h : (Lit.int .i64 n).wf = true) : -9223372036854775808 ≤ n ∧ n ≤ 9223372036854775807 := by
  have h1 : IntKind.i64.min ≤ n ∧ n ≤ IntKind.i64.max := by simpa [Lit.wf] using h
  have e1 : IntKind.i64.min = -9223372036854775808 := by decide
  have e2 : IntKind.i64.max = 9223372036854775807 := by decide
  omega
theorem drop_split {α : Type} (cs : List α) (o n : Nat) : cs.drop o = (cs.drop o).take n ++ cs.drop (o + n) := by rw [← List.drop_drop, List.take_append_drop]
section
variable {H : Type} {enc : TypeId × Value → H} {w : World} {base : Nat} {spare : Nat → Bool} {held : Bool} {fuel : Nat} {cs : List Value} {x : DataW H × List MemPlace}
theorem cells5 : Tryz.prog.cellsOf 5 = 1 := by kernel_rfl
theorem cells3 : Tryz.prog.cellsOf 3 = 1 := by kernel_rfl
theorem cells4 : Tryz.prog.cellsOf 4 = 1 := by kernel_rfl
theorem cells22 : Tryz.prog.cellsOf 28 = 1 := by kernel_rfl
theorem cells9 : Tryz.prog.cellsOf 9 = 1 := by kernel_rfl
theorem cells29 : Tryz.prog.cellsOf 69 = 26 := by kernel_rfl
theorem trod_a16 (h : DataW.trod enc Tryz.prog w base spare held fuel 63 cs = some x) : ∃ a : A16, cs = a.cells := by
  obtain ⟨xs, m, _, _, hl, hxl, hi⟩ := DataW.trod_array Tryz.underlying63 h
  rw [cells23] at hl
  have hb : ∀ i, i < 16 → ∃ b : UInt8, cs[i]? = some (bv b) := fun i hi16 => by
    have h1 := hi i hi16
    rw [cells5, Nat.mul_one, List.getElem?_eq_getElem (by omega)] at h1
    obtain ⟨n, hn, _, hwf⟩ := DataW.trod_int Tryz.underlying5 h1
    obtain ⟨b, rfl⟩ := u8_of_wf hwf
    refine ⟨b, ?_⟩
    have h2 := congrArg (fun l => l[0]?) hn
    simpa [List.getElem?_take, List.getElem?_drop, bv] using h2
  obtain ⟨f, hf⟩ := choose_lt hb
  refine ⟨⟨(List.range 16).map f, by simp⟩, ?_⟩
  apply List.ext_getElem?
  intro i
  by_cases h16 : i < 16
  · rw [hf i h16]; simp [A16.cells, h16]
  · rw [List.getElem?_eq_none (by omega), List.getElem?_eq_none (by simp [A16.cells]; omega)]
theorem trod_pfx (h : DataW.trod enc Tryz.prog w base spare held fuel 65 cs = some x) : ∃ p : Pfx, cs = p.cells := by
  obtain ⟨xs, m, _, _, hl, hxl, hf⟩ := DataW.trod_struct Tryz.underlying65 h
  rw [cells25] at hl
  replace hxl : xs.length = 3 := hxl
  have h0 := hf 0 _ rfl
  have h1 := hf 1 _ rfl
  have h2 := hf 2 _ rfl
  rw [List.getElem?_eq_getElem (by omega)] at h0 h1 h2
  obtain ⟨b, e0, _⟩ := DataW.trod_bool Tryz.underlying4 h0
  obtain ⟨a, e1⟩ := trod_a16 h1
  obtain ⟨n, e2, _, _⟩ := DataW.trod_int Tryz.underlying3 h2
  replace e0 : (cs.drop 0).take 1 = [.bool b] := e0
  replace e1 : (cs.drop 1).take 16 = a.cells := e1
  replace e2 : (cs.drop 17).take 1 = [.int .i64 n] := e2
  refine ⟨⟨b, a, n⟩, ?_⟩
  rw [← List.drop_zero (l := cs), drop_split cs 0 1, e0, drop_split cs (0 + 1) 16, e1, drop_split cs (0 + 1 + 16) 1, e2, List.drop_of_length_le (by omega)]
  simp [Pfx.cells]
theorem trod_vrp (h : DataW.trod enc Tryz.prog w base spare held fuel 67 cs = some x) : ∃ p : Vrp, cs = p.cells := by
  obtain ⟨xs, m, _, _, hl, hxl, hf⟩ := DataW.trod_struct Tryz.underlying67 h
  rw [cells27] at hl
  replace hxl : xs.length = 3 := hxl
  have h0 := hf 0 _ rfl
  have h1 := hf 1 _ rfl
  have h2 := hf 2 _ rfl
  rw [List.getElem?_eq_getElem (by omega)] at h0 h1 h2
  obtain ⟨b, e0, _, hwf⟩ := DataW.trod_int Tryz.underlying28 h0
  obtain ⟨b, rfl⟩ := u32_of_wf hwf
  obtain ⟨a, e1⟩ := trod_pfx h1
  obtain ⟨n, e2, _, _⟩ := DataW.trod_int Tryz.underlying3 h2
  replace e0 : (cs.drop 0).take 1 = [.int .u32 b.toNat] := e0
  replace e1 : (cs.drop 1).take 18 = a.cells := e1
  replace e2 : (cs.drop 19).take 1 = [.int .i64 n] := e2
  refine ⟨⟨b, a, n⟩, ?_⟩
  rw [← List.drop_zero (l := cs), drop_split cs 0 1, e0, drop_split cs (0 + 1) 18, e1, drop_split cs (0 + 1 + 18) 1, e2, List.drop_of_length_le (by omega)]
  simp [Vrp.cells]
theorem trod_pdu (h : DataW.trod enc Tryz.prog w base spare held fuel 69 cs = some x) : ∃ p : Pdu, cs = p.cells ∧ p.text.size ≤ maxLen := by
  obtain ⟨xs, m, _, _, hl, hxl, hf⟩ := DataW.trod_struct Tryz.underlying69 h
  rw [cells29] at hl
  replace hxl : xs.length = 7 := hxl
  have h0 := hf 0 _ rfl
  have h1 := hf 1 _ rfl
  have h2 := hf 2 _ rfl
  have h3 := hf 3 _ rfl
  have h4 := hf 4 _ rfl
  have h5 := hf 5 _ rfl
  have h6 := hf 6 _ rfl
  rw [List.getElem?_eq_getElem (by omega)] at h0 h1 h2 h3 h4 h5 h6
  obtain ⟨k, e0, _, _⟩ := DataW.trod_int Tryz.underlying3 h0
  obtain ⟨s, e1, _, _⟩ := DataW.trod_int Tryz.underlying3 h1
  obtain ⟨n, e2, _, hwf⟩ := DataW.trod_int Tryz.underlying28 h2
  obtain ⟨n, rfl⟩ := u32_of_wf hwf
  obtain ⟨b, e3, _⟩ := DataW.trod_bool Tryz.underlying4 h3
  obtain ⟨v, e4⟩ := trod_vrp h4
  obtain ⟨c, e5, _, _⟩ := DataW.trod_int Tryz.underlying3 h5
  obtain ⟨t, e6, _, ht⟩ := DataW.trod_string Tryz.underlying9 h6
  replace e0 : (cs.drop 0).take 1 = [.int .i64 k] := e0
  replace e1 : (cs.drop 1).take 1 = [.int .i64 s] := e1
  replace e2 : (cs.drop 2).take 1 = [.int .u32 n.toNat] := e2
  replace e3 : (cs.drop 3).take 1 = [.bool b] := e3
  replace e4 : (cs.drop 4).take 20 = v.cells := e4
  replace e5 : (cs.drop 24).take 1 = [.int .i64 c] := e5
  replace e6 : (cs.drop 25).take 1 = [.string t] := e6
  refine ⟨⟨k, s, n, b, v, c, t⟩, ?_, ht⟩
  rw [← List.drop_zero (l := cs), drop_split cs 0 1, e0, drop_split cs (0 + 1) 1, e1, drop_split cs (0 + 1 + 1) 1, e2, drop_split cs (0 + 1 + 1 + 1) 1, e3, drop_split cs (0 + 1 + 1 + 1 + 1) 20, e4, drop_split cs (0 + 1 + 1 + 1 + 1 + 20) 1, e5, drop_split cs (0 + 1 + 1 + 1 + 1 + 20 + 1) 1, e6, List.drop_of_length_le (by omega)]
  simp [Pdu.cells]
theorem agg_eq {v : Value} {l : List Value} (h1 : ∃ cs, v = .agg cs) (h : v.cells.toList = l) : v = .agg l.toArray := by
  obtain ⟨cs, rfl⟩ := h1
  simp only [Value.cells] at h
  rw [← h]
/-- By value. -/
theorem open_pdu {r : Reach} {b0 : Nat} {v : Value} {d : DataW H} {p : List MemPlace} (hv : Value.okWide Tryz.prog w r b0 69 v) (h : DataW.Trod enc Tryz.prog w base spare held 69 v d p) : ∃ p : Pdu, v = p.val ∧ p.text.size ≤ maxLen := by
  obtain ⟨cs, rfl, _⟩ := okWide_struct Tryz.underlying69 hv
  obtain ⟨fuel, hf⟩ := h
  obtain ⟨p, hp, ht⟩ := trod_pdu hf
  exact ⟨p, agg_eq ⟨_, rfl⟩ hp, ht⟩
theorem open_pfx {r : Reach} {b0 : Nat} {v : Value} {d : DataW H} {p : List MemPlace} (hv : Value.okWide Tryz.prog w r b0 65 v) (h : DataW.Trod enc Tryz.prog w base spare held 65 v d p) : ∃ p : Pfx, v = p.val := by
  obtain ⟨cs, rfl, _⟩ := okWide_struct Tryz.underlying65 hv
  obtain ⟨fuel, hf⟩ := h
  obtain ⟨p, hp⟩ := trod_pfx hf
  exact ⟨p, agg_eq ⟨_, rfl⟩ hp⟩
theorem open_i64 {r : Reach} {b0 : Nat} {v : Value} {d : DataW H} {p : List MemPlace} (hv : Value.okWide Tryz.prog w r b0 3 v) (h : DataW.Trod enc Tryz.prog w base spare held 3 v d p) : ∃ n : Int, v = .int .i64 n ∧ -9223372036854775808 ≤ n ∧ n ≤ 9223372036854775807 := by
  obtain ⟨n, rfl⟩ := okWide_int Tryz.underlying3 hv
  obtain ⟨fuel, hf⟩ := h
  obtain ⟨m, hm, _, hwf⟩ := DataW.trod_int Tryz.underlying3 hf
  simp [Value.cells] at hm
  subst hm
  exact ⟨n, rfl, i64_of_wf hwf⟩
/-- A slice, its elements' cells one behind the other. -/
theorem open_reads {t e : TypeId} {size : Nat} {α : Type} [Inhabited α] {cl : α → List Value} (ht : Tryz.prog.underlying t = some (.slice e)) (hC : Tryz.prog.cellsOf e = size) (hs : 0 < size) (hlen : ∀ a, (cl a).length = size)
    (ho : ∀ fuel cs x, DataW.trod enc Tryz.prog w base spare held fuel e cs = some x → ∃ a, cs = cl a)
    {r : Reach} {b0 : Nat} {v : Value} {d : DataW H} {p : List MemPlace} (hv : Value.okWide Tryz.prog w r b0 t v) (h : DataW.Trod enc Tryz.prog w base spare held t v d p) :
    ∃ (A : Option Addr) (xs : List α) (c : Nat), v = .slice A xs.length c ∧ xs.length ≤ c ∧ c ≤ maxLen ∧ Reads w w.heap.size size A xs.length (xs.flatMap cl) := by
  obtain ⟨A, len, c, rfl⟩ := okWide_slice ht hv
  obtain ⟨fuel, hf⟩ := h
  rcases open_slice ht hf with ⟨hcs, _⟩ | ⟨a, len', cap, m, n, D, Pl, hcs, _, hl, hm, hmm, _, hi⟩
  · simp [Value.cells] at hcs
    obtain ⟨rfl, rfl, rfl⟩ := hcs
    exact ⟨none, [], 0, rfl, Nat.le_refl _, Nat.zero_le _, Reads.none_⟩
  · simp [Value.cells] at hcs
    obtain ⟨rfl, rfl, rfl⟩ := hcs
    have hlm : len ≤ m := by rw [hmm]; split <;> omega
    have hb : ∀ i, i < len → ∃ y : α, ∀ j, j < size → w.cell? (a.add (i * size + j)) = (cl y)[j]? := fun i hil => by
      obtain ⟨cs', hc, ht'⟩ := hi i (by omega)
      rw [hC] at hc
      obtain ⟨y, rfl⟩ := ho _ _ _ ht'
      obtain ⟨_, _, hat⟩ := World.cells?_some hc
      refine ⟨y, fun j hj => ?_⟩
      rw [← Go.Deep.add_add]
      exact hat j hj
    obtain ⟨f, hf'⟩ := choose_lt hb
    refine ⟨some a, (List.range len).map f, c, by simp, by simpa using hl, hm, ?_⟩
    rw [List.length_map, List.length_range]
    have hfl : ∀ (k : Nat), (((List.range k).map f).flatMap cl).length = k * size := fun k => by
      induction k with
      | zero => simp
      | succ k ih => rw [List.range_succ, List.map_append, List.flatMap_append, List.length_append, ih]; simp [hlen, Nat.succ_mul]
    have hat : ∀ (k : Nat), k ≤ len → ∀ j u, (((List.range k).map f).flatMap cl)[j]? = some u → w.cell? (a.add j) = some u := by
      intro k
      induction k with
      | zero => intro _ j u hu; simp at hu
      | succ k ih =>
        intro hk j u hu
        rw [List.range_succ, List.map_append, List.flatMap_append] at hu
        by_cases hj : j < k * size
        · rw [List.getElem?_append_left (by rw [hfl]; exact hj)] at hu
          exact ih (by omega) j u hu
        · rw [List.getElem?_append_right (by rw [hfl]; omega), hfl] at hu
          simp only [List.map_cons, List.map_nil, List.flatMap_cons, List.flatMap_nil, List.append_nil] at hu
          have hjs : j - k * size < size := by
            have := (List.getElem?_eq_some_iff.1 hu).1
            rwa [hlen] at this
          have := hf' k (by omega) (j - k * size) hjs
          rw [show k * size + (j - k * size) = j by omega] at this
          rw [this, hu]
    refine ⟨hfl len, fun hn => ⟨a, rfl, ?_, hat len (Nat.le_refl _)⟩⟩
    have h0 : (((List.range len).map f).flatMap cl)[0]? = some ((((List.range len).map f).flatMap cl)[0]'(by rw [hfl]; exact Nat.mul_pos hn hs)) := List.getElem?_eq_getElem _
    have := cell_blk_lt (hat len (Nat.le_refl _) 0 _ h0)
    rwa [add_blk] at this
theorem flat_one (bs : List UInt8) : bs.flatMap (fun b => [bv b]) = bs.map bv := by rw [List.flatMap_def]; induction bs <;> simp_all
theorem trod_u8 (h : DataW.trod enc Tryz.prog w base spare held fuel 5 cs = some x) : ∃ b : UInt8, cs = [bv b] := by
  obtain ⟨n, rfl, _, hwf⟩ := DataW.trod_int Tryz.underlying5 h
  obtain ⟨b, rfl⟩ := u8_of_wf hwf
  exact ⟨b, rfl⟩
theorem open_bytes {r : Reach} {b0 : Nat} {v : Value} {d : DataW H} {p : List MemPlace} (hv : Value.okWide Tryz.prog w r b0 29 v) (h : DataW.Trod enc Tryz.prog w base spare held 29 v d p) :
    ∃ (A : Option Addr) (bs : List UInt8) (c : Nat), v = .slice A bs.length c ∧ bs.length ≤ c ∧ c ≤ maxLen ∧ Reads w w.heap.size 1 A bs.length (bs.map bv) := by
  have := open_reads (cl := fun b : UInt8 => [bv b]) Tryz.underlying29 cells5 (by omega) (fun _ => rfl) (fun _ _ _ h => trod_u8 h) hv h
  simpa only [flat_one] using this
instance : Inhabited Pdu := ⟨bareP 0⟩
theorem open_pdus {r : Reach} {b0 : Nat} {v : Value} {d : DataW H} {p : List MemPlace} (hv : Value.okWide Tryz.prog w r b0 71 v) (h : DataW.Trod enc Tryz.prog w base spare held 71 v d p) :
    ∃ (A : Option Addr) (ps : List Pdu) (c : Nat), v = .slice A ps.length c ∧ ps.length ≤ c ∧ c ≤ maxLen ∧ Reads w w.heap.size 26 A ps.length (ps.flatMap Pdu.cells) :=
  open_reads (cl := Pdu.cells) Tryz.underlying71 cells29 (by omega) Pdu.cells_length (fun _ _ _ h => by obtain ⟨p, hp, _⟩ := trod_pdu h; exact ⟨p, hp⟩) hv h
end
end Go.Proofs.YtmoldmnhijcckaaGreat
/- Rows of rows that came in, opened; numbers of 32 bits. -/
set_option linter.unusedVariables false
set_option linter.unusedSectionVars false
set_option linter.unusedSimpArgs false
set_option maxRecDepth 100000
namespace Go.Proofs.YtmoldmnhijcckaaGreat
open Go.RowKit Go.ChangeShapes Go.WideShapes Go.Deep
section
variable {H : Type} {enc : TypeId × Value → H} {w : World} {base : Nat} {spare : Nat → Bool} {held : Bool} {fuel : Nat} {cs : List Value} {x : DataW H × List MemPlace}
theorem trod_readsQ {t e : TypeId} {size : Nat} {α : Type} [Inhabited α] {cl : α → List Value} {Q : α → Prop} (ht : Tryz.prog.underlying t = some (.slice e)) (hC : Tryz.prog.cellsOf e = size) (hs : 0 < size) (hlen : ∀ a, (cl a).length = size)
    (ho : ∀ fuel cs x, DataW.trod enc Tryz.prog w base spare held fuel e cs = some x → ∃ a, cs = cl a ∧ Q a) (hf : DataW.trod enc Tryz.prog w base spare held fuel t cs = some x) :
    ∃ (A : Option Addr) (xs : List α) (c : Nat), cs = [.slice A xs.length c] ∧ xs.length ≤ c ∧ c ≤ maxLen ∧ Reads w w.heap.size size A xs.length (xs.flatMap cl) ∧ ∀ a ∈ xs, Q a := by
  rcases open_slice ht hf with ⟨hcs, _⟩ | ⟨a, len, cap, m, n, D, Pl, hcs, _, hl, hm, hmm, _, hi⟩
  · exact ⟨none, [], 0, hcs, Nat.le_refl _, Nat.zero_le _, Reads.none_, fun a ha => by simp at ha⟩
  · have hlm : len ≤ m := by rw [hmm]; split <;> omega
    have hb : ∀ i, i < len → ∃ y : α, Q y ∧ ∀ j, j < size → w.cell? (a.add (i * size + j)) = (cl y)[j]? := fun i hil => by
      obtain ⟨cs', hc, ht'⟩ := hi i (by omega)
      rw [hC] at hc
      obtain ⟨y, rfl, hq⟩ := ho _ _ _ ht'
      obtain ⟨_, _, hat⟩ := World.cells?_some hc
      refine ⟨y, hq, fun j hj => ?_⟩
      rw [← Go.Deep.add_add]
      exact hat j hj
    obtain ⟨f, hf'⟩ := choose_lt hb
    refine ⟨some a, (List.range len).map f, cap, by simpa using hcs, by simpa using hl, hm, ?_, fun y hy => by
      obtain ⟨i, hi, rfl⟩ := List.mem_map.1 hy
      exact (hf' i (by simpa using hi)).1⟩
    rw [List.length_map, List.length_range]
    have hfl : ∀ (k : Nat), (((List.range k).map f).flatMap cl).length = k * size := fun k => by
      induction k with
      | zero => simp
      | succ k ih => rw [List.range_succ, List.map_append, List.flatMap_append, List.length_append, ih]; simp [hlen, Nat.succ_mul]
    have hat : ∀ (k : Nat), k ≤ len → ∀ j u, (((List.range k).map f).flatMap cl)[j]? = some u → w.cell? (a.add j) = some u := by
      intro k
      induction k with
      | zero => intro _ j u hu; simp at hu
      | succ k ih =>
        intro hk j u hu
        rw [List.range_succ, List.map_append, List.flatMap_append] at hu
        by_cases hj : j < k * size
        · rw [List.getElem?_append_left (by rw [hfl]; exact hj)] at hu
          exact ih (by omega) j u hu
        · rw [List.getElem?_append_right (by rw [hfl]; omega), hfl] at hu
          simp only [List.map_cons, List.map_nil, List.flatMap_cons, List.flatMap_nil, List.append_nil] at hu
          have hjs : j - k * size < size := by
            have := (List.getElem?_eq_some_iff.1 hu).1
            rwa [hlen] at this
          have := (hf' k (by omega)).2 (j - k * size) hjs
          rw [show k * size + (j - k * size) = j by omega] at this
          rw [this, hu]
    refine ⟨hfl len, fun hn => ⟨a, rfl, ?_, hat len (Nat.le_refl _)⟩⟩
    have h0 : (((List.range len).map f).flatMap cl)[0]? = some ((((List.range len).map f).flatMap cl)[0]'(by rw [hfl]; exact Nat.mul_pos hn hs)) := List.getElem?_eq_getElem _
    have := cell_blk_lt (hat len (Nat.le_refl _) 0 _ h0)
    rwa [add_blk] at this
instance : Inhabited Vrp := ⟨zVrpS⟩
theorem trod_vrps (hf : DataW.trod enc Tryz.prog w base spare held fuel 27 cs = some x) : ∃ y : SL, cs = [y.val] ∧ (y.l.length ≤ y.c ∧ y.c ≤ maxLen ∧ Reads w w.heap.size 20 y.A y.l.length (y.l.flatMap Vrp.cells)) := by
  obtain ⟨A, xs, c, h1, h2, h3, h4, _⟩ := trod_readsQ (Q := fun _ => True) (cl := Vrp.cells) Tryz.underlying27 cells27 (by omega) Vrp.cells_length (fun _ _ _ h => by obtain ⟨b, hb⟩ := trod_vrp h; exact ⟨b, hb, trivial⟩) hf
  exact ⟨⟨A, c, xs⟩, h1, h2, h3, h4⟩
theorem flat_sl (l : List SL) : l.flatMap (fun s => [s.val]) = l.map SL.val := by rw [List.flatMap_def]; induction l <;> simp_all
theorem cells_sl : Tryz.prog.cellsOf 27 = 1 := by kernel_rfl
theorem open_sls {r : Reach} {b0 : Nat} {v : Value} {d : DataW H} {p : List MemPlace} (hv : Value.okWide Tryz.prog w r b0 58 v) (h : DataW.Trod enc Tryz.prog w base spare held 58 v d p) :
    ∃ (A : Option Addr) (xs : List SL) (c : Nat), v = .slice A xs.length c ∧ xs.length ≤ c ∧ c ≤ maxLen ∧ Reads w w.heap.size 1 A xs.length (xs.map SL.val) ∧ ∀ y ∈ xs, y.l.length ≤ y.c ∧ y.c ≤ maxLen ∧ Reads w w.heap.size 20 y.A y.l.length (y.l.flatMap Vrp.cells) := by
  obtain ⟨A, len, c, rfl⟩ := okWide_slice Tryz.underlying58 hv
  obtain ⟨fuel, hf⟩ := h
  obtain ⟨A', xs, c', hcs, h2, h3, h4, h5⟩ := trod_readsQ (cl := fun s : SL => [s.val]) Tryz.underlying58 cells_sl (by omega) (fun _ => rfl) (fun _ _ _ h => trod_vrps h) hf
  have e : (Value.slice A len c) = .slice A' xs.length c' := by simpa [Value.cells] using hcs
  rw [flat_sl] at h4
  exact ⟨A', xs, c', e, h2, h3, h4, h5⟩
theorem open_u32 {r : Reach} {b0 : Nat} {v : Value} {d : DataW H} {p : List MemPlace} (hv : Value.okWide Tryz.prog w r b0 28 v) (h : DataW.Trod enc Tryz.prog w base spare held 28 v d p) : ∃ n : UInt32, v = .int .u32 n.toNat := by
  obtain ⟨n, rfl⟩ := okWide_int Tryz.underlying28 hv
  obtain ⟨fuel, hf⟩ := h
  obtain ⟨m, hm, _, hwf⟩ := DataW.trod_int Tryz.underlying28 hf
  simp [Value.cells] at hm
  subst hm
  obtain ⟨b, rfl⟩ := u32_of_wf hwf
  exact ⟨b, rfl⟩
end
end Go.Proofs.YtmoldmnhijcckaaGreat
/- Rows of whole numbers that came in, opened. -/
set_option linter.unusedVariables false
set_option linter.unusedSectionVars false
set_option linter.unusedSimpArgs false
set_option maxRecDepth 100000
namespace Go.Proofs.YtmoldmnhijcckaaGreat
open Go.RowKit Go.ChangeShapes Go.WideShapes Go.Deep
section
variable {H : Type} {enc : TypeId × Value → H} {w : World} {base : Nat} {spare : Nat → Bool} {held : Bool} {fuel : Nat} {cs : List Value} {x : DataW H × List MemPlace}
theorem trod_i64 (hf : DataW.trod enc Tryz.prog w base spare held fuel 3 cs = some x) : ∃ z : Int, cs = [ivZ z] := by
  obtain ⟨m, hm, _, _⟩ := DataW.trod_int Tryz.underlying3 hf
  exact ⟨m, hm⟩
theorem cells_int : Tryz.prog.cellsOf 3 = 1 := by kernel_rfl
theorem flat_iv (l : List Int) : l.flatMap (fun z => [ivZ z]) = l.map ivZ := by rw [List.flatMap_def]; induction l <;> simp_all
theorem open_ints {r : Reach} {b0 : Nat} {v : Value} {d : DataW H} {p : List MemPlace} (hv : Value.okWide Tryz.prog w r b0 59 v) (h : DataW.Trod enc Tryz.prog w base spare held 59 v d p) :
    ∃ (A : Option Addr) (xs : List Int) (c : Nat), v = .slice A xs.length c ∧ xs.length ≤ c ∧ c ≤ maxLen ∧ Reads w w.heap.size 1 A xs.length (xs.map ivZ) := by
  obtain ⟨A, xs, c, h1, h2, h3, h4⟩ := open_reads (cl := fun z : Int => [ivZ z]) Tryz.underlying59 cells_int (by omega) (fun _ => rfl) (fun _ _ _ h => trod_i64 h) hv h
  rw [flat_iv] at h4
  exact ⟨A, xs, c, h1, h2, h3, h4⟩
end
end Go.Proofs.YtmoldmnhijcckaaGreat
