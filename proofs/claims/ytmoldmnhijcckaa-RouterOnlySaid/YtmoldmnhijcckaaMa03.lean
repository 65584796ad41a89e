/- '==' and '!=' on prefixes, on a row's elements and on messages: the one Bool that says whether they are the same. -/
import Derived.Test.YtmoldmnhijcckaaProg
import Derived.Test.YtmoldmnhijcckaaMa00
import Derived.KernelRfl
import Derived.Laws.StructEq
import Derived.ChangeKeysEq
set_option linter.unusedVariables false
set_option linter.unusedSectionVars false
set_option linter.unusedSimpArgs false
namespace Go.Proofs.Ytmoldmnhijcckaa
open Go.RowKit
section
variable {P : Program} {d : Nat} {xs ys : Array Value} {f : Field} {fs : List Field} {a b : Value} {r s : Bool} {w : World}
theorem eqf_cons' (hn : (f.name == "_") = false) (ha : (part f.type xs f.offset).run P w = .ok a w) (hb : (part f.type ys f.offset).run P w = .ok b w) (he : (Op.equalIn d f.type a b).run P w = .ok r w) (hr : (Op.eqFields d xs ys fs).run P w = .ok s w) : (Op.eqFields d xs ys (f :: fs)).run P w = .ok (r && s) w := by
  have hn' : f.name ≠ "_" := by simpa using hn
  rw [Op.eqFields]
  simp only [if_pos hn', Sem.run_bind, ha, hb, he, Result.andThen_ok]
  cases r
  · simp
  · simpa using hr
theorem eqf_nil' : (Op.eqFields d xs ys []).run P w = .ok true w := by simp [Op.eqFields]
theorem eqA_of' {t : TypeId} {fs : Array Field} (hu : P.underlying t = some (.struct fs)) (hp : P.stoodInHeld t = false) (h : (Op.eqFields d xs ys fs.toList).run P w = .ok r w) : (Op.equalIn (d + 1) t (.agg xs) (.agg ys)).run P w = .ok r w := by
  have hf : P.fieldsOf t = fs := by simp [Program.fieldsOf, hu]
  rw [run_equalIn_struct (P := P) w d t xs ys (by rw [hf]; exact hu) hp, hf]
  exact h
theorem run_part_agg {e : TypeId} {i : TypeInfo} {kd : TypeDesc} (hu : P.underlying e = some kd) (hk : (∃ n e', kd = .array n e') ∨ (∃ fs, kd = .struct fs)) (hi : P.info? e = some i) (off : Nat) : (part e xs off).run P w = .ok (.agg (xs.extract off (off + P.cellsOf e))) w := by
  rcases hk with ⟨n, e', rfl⟩ | ⟨fs, rfl⟩ <;> simp [part, isAgg, run_underlying hu, run_sizeOf w hi]
theorem part_one {e : TypeId} (he : P.plainKey e = true) {l : List Value} {off : Nat} {v : Value} (hx : l[off]? = some v) : (part e l.toArray off).run P w = .ok v w := run_part_plain w he (by simpa using hx)
theorem ext_mid (pre mid post l : List Value) (o n : Nat) (e : l = pre ++ (mid ++ post)) (h : pre.length = o) (hn : o + mid.length = n) : l.toArray.extract o n = mid.toArray := by
  subst h; subst hn; subst e
  apply Array.ext'
  simp
theorem part_mid {e : TypeId} {kd : TypeDesc} (hu : P.underlying e = some kd) (hk : (∃ n e', kd = .array n e') ∨ (∃ fs, kd = .struct fs)) {n : Nat} (hc : P.cellsOf e = n) (hi : (P.info? e).isSome = true) {l : List Value} (pre mid post : List Value) (o : Nat) (el : l = pre ++ (mid ++ post)) (ho : pre.length = o) (hn : mid.length = n) :
    (part e l.toArray o).run P w = .ok (.agg mid.toArray) w := by
  obtain ⟨i, hi⟩ := Option.isSome_iff_exists.1 hi
  rw [run_part_agg hu hk hi, ext_mid pre mid post l o (o + P.cellsOf e) el ho (by rw [hc, hn])]
theorem eqItems_bytes {e : TypeId} (hu : P.underlying e = some (.int .u8)) (hc : P.cellsOf e = 1) (hk : P.plainKey e = true) (xs ys : List UInt8) (hl : xs.length = ys.length) :
    ∀ is : List Nat, (∀ i ∈ is, i < xs.length) → (Op.eqItems (d + 1) e (P.cellsOf e) (xs.map bv).toArray (ys.map bv).toArray is).run P w = .ok (is.all fun i => xs.getD i 0 == ys.getD i 0) w
  | [], _ => by simp [Op.eqItems]
  | i :: is, h => by
    have hi : i < xs.length := h i (by simp)
    have h1 : (part e (xs.map bv).toArray (i * P.cellsOf e)).run P w = .ok (bv (xs.getD i 0)) w := by
      rw [hc, Nat.mul_one]; exact part_one hk (by simp [List.getD_eq_getElem?_getD, hi])
    have h2 : (part e (ys.map bv).toArray (i * P.cellsOf e)).run P w = .ok (bv (ys.getD i 0)) w := by
      rw [hc, Nat.mul_one]; exact part_one hk (by simp [List.getD_eq_getElem?_getD, show i < ys.length by omega])
    have h3 : (Op.equalIn (d + 1) e (bv (xs.getD i 0)) (bv (ys.getD i 0))).run P w = .ok (xs.getD i 0 == ys.getD i 0) w := by
      unfold bv
      rw [run_equalIn_int w d e .u8 .u8 _ _ hu]
      congr 1
      rw [Bool.eq_iff_iff]
      simp only [beq_iff_eq]
      constructor
      · intro h; exact UInt8.toNat_inj.1 (by omega)
      · intro h; rw [h]
    simp only [Op.eqItems, Sem.run_bind, h1, h2, h3, Result.andThen_ok]
    cases hb : (xs.getD i 0 == ys.getD i 0)
    · have hb' : ¬ xs[i]?.getD 0 = ys[i]?.getD 0 := by simpa [List.getD_eq_getElem?_getD] using hb
      simp [hb']
    · have hb' : xs[i]?.getD 0 = ys[i]?.getD 0 := by simpa [List.getD_eq_getElem?_getD] using hb
      have := eqItems_bytes hu hc hk xs ys hl is (fun j hj => h j (by simp [hj]))
      simp only [Bool.not_true, Bool.false_eq_true, if_false, this]
      simp [hb']
theorem all_range_eq (xs ys : List UInt8) (hl : xs.length = ys.length) : ((List.range xs.length).all fun i => xs.getD i 0 == ys.getD i 0) = decide (xs = ys) := by
  rw [Bool.eq_iff_iff]
  simp only [List.all_eq_true, List.mem_range, beq_iff_eq, decide_eq_true_eq]
  constructor
  · intro h
    apply List.ext_getElem hl
    intro i h1 h2
    have := h i h1
    simpa [List.getD_eq_getElem?_getD, h1, h2] using this
  · rintro rfl _ _; rfl
end
theorem info5 : (Try.prog.info? 5).isSome = true := by kernel_rfl
theorem eq_a16 (d : Nat) (a b : A16) (w : World) : (Op.equalIn (d + 2) 23 (.agg a.cells.toArray) (.agg b.cells.toArray)).run Try.prog w = .ok (decide (a = b)) w := by
  obtain ⟨i, hi⟩ := Option.isSome_iff_exists.1 info5
  rw [run_equalIn_array w (d + 1) _ _ Try.underlying23 hi]
  have := eqItems_bytes (P := Try.prog) (d := d) (w := w) (e := 5) Try.underlying5 (by kernel_rfl) (by kernel_rfl) a.l b.l (by rw [a.h, b.h]) (List.range 16) (fun i hi => by rw [a.h]; simpa using hi)
  unfold A16.cells
  rw [this]
  have h2 := all_range_eq a.l b.l (by rw [a.h, b.h])
  rw [a.h] at h2
  have h3 : decide (a.l = b.l) = decide (a = b) := decide_eq_decide.2 ⟨A16.ext', fun h => by rw [h]⟩
  rw [h2, h3]
theorem stood25 : Try.prog.stoodInHeld 25 = false := by kernel_rfl
theorem stood27 : Try.prog.stoodInHeld 27 = false := by kernel_rfl
theorem pk3 : Try.prog.plainKey 3 = true := by kernel_rfl
theorem pk4 : Try.prog.plainKey 4 = true := by kernel_rfl
theorem pk22 : Try.prog.plainKey 22 = true := by kernel_rfl
theorem pk9 : Try.prog.plainKey 9 = true := by kernel_rfl
theorem info23 : (Try.prog.info? 23).isSome = true := by kernel_rfl
theorem info25 : (Try.prog.info? 25).isSome = true := by kernel_rfl
theorem info27 : (Try.prog.info? 27).isSome = true := by kernel_rfl
theorem cells23 : Try.prog.cellsOf 23 = 16 := by kernel_rfl
theorem cells25 : Try.prog.cellsOf 25 = 18 := by kernel_rfl
theorem cells27 : Try.prog.cellsOf 27 = 20 := by kernel_rfl
theorem Pfx.c0 (p : Pfx) : p.cells[0]? = some (.bool p.v6) := rfl
theorem Pfx.c17 (p : Pfx) : p.cells[17]? = some (.int .i64 p.len) := by
  simp only [Pfx.cells, List.getElem?_cons_succ]
  rw [List.getElem?_append_right (by simp [A16.cells_length])]
  simp [A16.cells_length]
theorem beq_int_decide (a b : Int) : (a == b) = decide (a = b) := by rw [Bool.eq_iff_iff]; simp
set_option maxRecDepth 100000 in
theorem eqIn_pfx (d : Nat) (p q : Pfx) (w : World) : (Op.equalIn (d + 3) 25 (.agg p.cells.toArray) (.agg q.cells.toArray)).run Try.prog w = .ok (decide (p = q)) w := by
  refine (eqA_of' Try.underlying25 stood25
    (eqf_cons' (by rfl) (part_one pk4 (Pfx.c0 p)) (part_one pk4 (Pfx.c0 q)) (run_equalIn_bool w _ _ _ _ Try.underlying4)
    (eqf_cons' (by rfl) (part_mid Try.underlying23 (.inl ⟨_, _, rfl⟩) cells23 info23 [.bool p.v6] p.a.cells [.int .i64 p.len] 1 rfl rfl p.a.cells_length) (part_mid Try.underlying23 (.inl ⟨_, _, rfl⟩) cells23 info23 [.bool q.v6] q.a.cells [.int .i64 q.len] 1 rfl rfl q.a.cells_length) (eq_a16 d p.a q.a w)
    (eqf_cons' (by rfl) (part_one pk3 (Pfx.c17 p)) (part_one pk3 (Pfx.c17 q)) (run_equalIn_int w _ _ .i64 .i64 _ _ Try.underlying3) eqf_nil')))).trans ?_
  refine congrArg (Result.ok · w) ?_
  obtain ⟨v, a, n⟩ := p
  obtain ⟨v', a', n'⟩ := q
  rw [Bool.eq_iff_iff]
  simp
theorem Vrp.c0 (p : Vrp) : p.cells[0]? = some (.int .u32 p.asn.toNat) := rfl
theorem Vrp.c19 (p : Vrp) : p.cells[19]? = some (.int .i64 p.mx) := by
  simp only [Vrp.cells, List.getElem?_cons_succ]
  rw [List.getElem?_append_right (by simp [Pfx.cells_length])]
  simp [Pfx.cells_length]
set_option maxRecDepth 100000 in
theorem eqIn_vrp (d : Nat) (p q : Vrp) (w : World) : (Op.equalIn (d + 4) 27 (.agg p.cells.toArray) (.agg q.cells.toArray)).run Try.prog w = .ok (decide (p = q)) w := by
  refine (eqA_of' Try.underlying27 stood27
    (eqf_cons' (by rfl) (part_one pk22 (Vrp.c0 p)) (part_one pk22 (Vrp.c0 q)) (run_equalIn_int w _ _ .u32 .u32 _ _ Try.underlying22)
    (eqf_cons' (by rfl) (part_mid Try.underlying25 (.inr ⟨_, rfl⟩) cells25 info25 [.int .u32 p.asn.toNat] p.p.cells [.int .i64 p.mx] 1 rfl rfl p.p.cells_length) (part_mid Try.underlying25 (.inr ⟨_, rfl⟩) cells25 info25 [.int .u32 q.asn.toNat] q.p.cells [.int .i64 q.mx] 1 rfl rfl q.p.cells_length) (eqIn_pfx d p.p q.p w)
    (eqf_cons' (by rfl) (part_one pk3 (Vrp.c19 p)) (part_one pk3 (Vrp.c19 q)) (run_equalIn_int w _ _ .i64 .i64 _ _ Try.underlying3) eqf_nil')))).trans ?_
  refine congrArg (Result.ok · w) ?_
  obtain ⟨v, a, n⟩ := p
  obtain ⟨v', a', n'⟩ := q
  rw [Bool.eq_iff_iff]
  simp only [Bool.and_true, Bool.and_eq_true, beq_iff_eq, decide_eq_true_eq, Vrp.mk.injEq]
  exact ⟨fun ⟨h1, h2, h3⟩ => ⟨UInt32.toNat_inj.1 (by omega), h2, h3⟩, fun ⟨h1, h2, h3⟩ => ⟨by rw [h1], h2, h3⟩⟩
theorem eq_pfx (p q : Pfx) (w : World) : (Go.binOp .eql 25 (.agg p.cells.toArray) (.agg q.cells.toArray)).run Try.prog w = .ok (.bool (decide (p = q))) w := by
  rw [run_eql_struct, eqIn_pfx 9997]; rfl
theorem neq_pfx (p q : Pfx) (w : World) : (Go.binOp .neq 25 (.agg p.cells.toArray) (.agg q.cells.toArray)).run Try.prog w = .ok (.bool (!decide (p = q))) w := by
  rw [run_neq_struct, eqIn_pfx 9997]; rfl
theorem eq_vrp (p q : Vrp) (w : World) : (Go.binOp .eql 27 (.agg p.cells.toArray) (.agg q.cells.toArray)).run Try.prog w = .ok (.bool (decide (p = q))) w := by
  rw [run_eql_struct, eqIn_vrp 9996]; rfl
theorem neq_vrp (p q : Vrp) (w : World) : (Go.binOp .neq 27 (.agg p.cells.toArray) (.agg q.cells.toArray)).run Try.prog w = .ok (.bool (!decide (p = q))) w := by
  rw [run_neq_struct, eqIn_vrp 9996]; rfl
end Go.Proofs.Ytmoldmnhijcckaa
