/- Maps keyed by api.Vrp whose every value is true, as the row of their keys: look, put, delete, the iterator's steps. -/
import Derived.Test.YtmoldmnhijcckaaGreatMa21
import Derived.Test.YtmoldmnhijcckaaGreatMa01
import Derived.Maps.RangeRun
import Derived.Maps.Range
set_option linter.unusedVariables false
set_option linter.unusedSectionVars false
set_option linter.unusedSimpArgs false
namespace Go.Proofs.YtmoldmnhijcckaaGreat
open Go.RowKit
open Go.ChangeMaps (setBlock)
def entV (e : Vrp × Nat) : MapEntry := ⟨.agg e.1.cells.toArray, .bool true, e.2⟩
structure EntsV (l : List (Vrp × Nat)) (n : Nat) (ks : List Vrp) : Prop where
  eq : l.map (·.1) = ks
  nd : ks.Nodup
  lt : ∀ e ∈ l, e.2 < n
  nb : (l.map (·.2)).Nodup
/-- A map of rows: its keys, in the order in which they came. -/
def MapV (w : World) (b : Nat) (ks : List Vrp) : Prop := ∃ (l : List (Vrp × Nat)) (n : Nat), w.heap[b]? = some (.map (l.map entV).toArray n) ∧ EntsV l n ks
theorem MapV.lt {w : World} {b : Nat} {ks : List Vrp} (h : MapV w b ks) : b < w.heap.size := by
  obtain ⟨l, n, hh, _⟩ := h
  exact (Array.getElem?_eq_some_iff.1 hh).1
theorem MapV.kept {w w' : World} {b : Nat} {ks : List Vrp} (h : MapV w b ks) (hk : w'.heap[b]? = w.heap[b]?) : MapV w' b ks := by
  obtain ⟨l, n, hh, h2⟩ := h
  exact ⟨l, n, hk.trans hh, h2⟩
theorem MapV.below {w w' : World} {b : Nat} {ks : List Vrp} (h : MapV w b ks) (hb : Below w.heap.size w w') : MapV w' b ks := h.kept (hb.block b h.lt)
/-! A key of this type is one. -/
theorem checkKey_u8 (em : Bool) (d : Nat) (v : Value) (w : World) : (Instr.checkKey em (d + 1) 5 v).run Tryz.prog w = .ok () w := by
  simp [Instr.checkKey, run_underlying Tryz.underlying5]
theorem checkKey_int (em : Bool) (d : Nat) (v : Value) (w : World) : (Instr.checkKey em (d + 1) 3 v).run Tryz.prog w = .ok () w := by
  simp [Instr.checkKey, run_underlying Tryz.underlying3]
theorem checkKey_u32 (em : Bool) (d : Nat) (v : Value) (w : World) : (Instr.checkKey em (d + 1) 28 v).run Tryz.prog w = .ok () w := by
  simp [Instr.checkKey, run_underlying Tryz.underlying28]
theorem checkKey_bool (em : Bool) (d : Nat) (v : Value) (w : World) : (Instr.checkKey em (d + 1) 4 v).run Tryz.prog w = .ok () w := by
  simp [Instr.checkKey, run_underlying Tryz.underlying4]
theorem checkKey_a16 (em : Bool) (d : Nat) (a : A16) (w : World) : (Instr.checkKey em (d + 2) 63 (.agg a.cells.toArray)).run Tryz.prog w = .ok () w := by
  obtain ⟨i, hi⟩ := Option.isSome_iff_exists.1 info5
  have hc : Tryz.prog.cellsOf 5 = 1 := by kernel_rfl
  have hk : Tryz.prog.plainKey 5 = true := by kernel_rfl
  rw [Instr.checkKey]
  simp only [Sem.run_bind, run_underlying Tryz.underlying63, Result.andThen_ok]
  simp only [Std.Legacy.Range.forIn_eq_forIn_range', Std.Legacy.Range.size, Nat.sub_zero, Nat.add_one_sub_one, Nat.div_one]
  have hall : ∀ j ∈ List.range' 0 16, j < 16 := fun j hj => by have := List.mem_range'_1.1 hj; omega
  generalize List.range' 0 16 = is at hall
  induction is with
  | nil => simp
  | cons j is ih =>
    have hj : j < a.l.length := by rw [a.h]; exact hall j (by simp)
    have p1 : (part 5 a.cells.toArray (j * Tryz.prog.cellsOf 5)).run Tryz.prog w = .ok (bv (a.l[j])) w := by
      rw [hc, Nat.mul_one]; exact part_one hk (by unfold A16.cells; simp [hj])
    simp only [List.forIn_cons, Sem.run_bind, run_sizeOf w hi, Result.andThen_ok, p1, checkKey_u8, Sem.run_pure]
    exact ih (fun y hy => hall y (by simp [hy]))
set_option maxRecDepth 100000 in
theorem checkKey_pfx (em : Bool) (d : Nat) (p : Pfx) (w : World) : (Instr.checkKey em (d + 3) 65 (.agg p.cells.toArray)).run Tryz.prog w = .ok () w := by
  have p0 := part_one (P := Tryz.prog) (w := w) pk4 (Pfx.c0 p)
  have p1 : (part 63 p.cells.toArray 1).run Tryz.prog w = .ok (.agg p.a.cells.toArray) w := part_mid (P := Tryz.prog) (w := w) Tryz.underlying63 (.inl ⟨_, _, rfl⟩) cells23 info23 [.bool p.v6] p.a.cells [.int .i64 p.len] 1 rfl rfl p.a.cells_length
  have p2 := part_one (P := Tryz.prog) (w := w) pk3 (Pfx.c17 p)
  rw [Instr.checkKey]
  simp only [Sem.run_bind, run_underlying Tryz.underlying65, Result.andThen_ok]
  rw [← Array.forIn_toList]
  simp only [List.forIn_cons, List.forIn_nil, Sem.run_bind, Result.andThen_ok, Sem.run_pure]
  simp [p0, p1, p2, checkKey_bool, checkKey_a16, checkKey_int, Result.andThen]
set_option maxRecDepth 100000 in
theorem checkKey_vrp (em : Bool) (d : Nat) (p : Vrp) (w : World) : (Instr.checkKey em (d + 4) 67 (.agg p.cells.toArray)).run Tryz.prog w = .ok () w := by
  have p0 := part_one (P := Tryz.prog) (w := w) pk22 (Vrp.c0 p)
  have p1 : (part 65 p.cells.toArray 1).run Tryz.prog w = .ok (.agg p.p.cells.toArray) w := part_mid (P := Tryz.prog) (w := w) Tryz.underlying65 (.inr ⟨_, rfl⟩) cells25 info25 [.int .u32 p.asn.toNat] p.p.cells [.int .i64 p.mx] 1 rfl rfl p.p.cells_length
  have p2 := part_one (P := Tryz.prog) (w := w) pk3 (Vrp.c19 p)
  rw [Instr.checkKey]
  simp only [Sem.run_bind, run_underlying Tryz.underlying67, Result.andThen_ok]
  rw [← Array.forIn_toList]
  simp only [List.forIn_cons, List.forIn_nil, Sem.run_bind, Result.andThen_ok, Sem.run_pure]
  simp [p0, p1, p2, checkKey_u32, checkKey_pfx, checkKey_int, Result.andThen]
/-! A key is found. -/
theorem ask_none (k : Vrp) (w : World) : ∀ (l : List (Vrp × Nat)) (i : Nat), (∀ e ∈ l, e.1 ≠ k) → (Instr.findAsking 67 (.agg k.cells.toArray) (l.map entV) i).run Tryz.prog w = .ok none w
  | [], _, _ => rfl
  | e :: l, i, h => by
    have h1 : decide (k = e.1) = false := decide_eq_false (fun e2 => h e (by simp) e2.symm)
    have h2 : (Op.equal 67 (.agg k.cells.toArray) (.agg e.1.cells.toArray)).run Tryz.prog w = .ok false w := by
      show (Op.equalIn (9996 + 4) _ _ _).run _ _ = _
      rw [eqIn_vrp, h1]
    simp only [List.map_cons, Instr.findAsking, entV, Sem.run_bind, h2, Result.andThen_ok]
    exact ask_none k w l (i + 1) (fun e he => h e (by simp [he]))
theorem ask_some (k : Vrp) (w : World) (bn : Nat) (post : List (Vrp × Nat)) : ∀ (pre : List (Vrp × Nat)) (i : Nat), (∀ e ∈ pre, e.1 ≠ k) → (Instr.findAsking 67 (.agg k.cells.toArray) ((pre ++ (k, bn) :: post).map entV) i).run Tryz.prog w = .ok (some (i + pre.length, .bool true)) w
  | [], i, _ => by
    have h2 : (Op.equal 67 (.agg k.cells.toArray) (.agg k.cells.toArray)).run Tryz.prog w = .ok true w := by
      show (Op.equalIn (9996 + 4) _ _ _).run _ _ = _
      rw [eqIn_vrp]; simp
    simp [Instr.findAsking, entV, h2, Result.andThen]
  | e :: pre, i, h => by
    have h1 : decide (k = e.1) = false := decide_eq_false (fun e2 => h e (by simp) e2.symm)
    have h2 : (Op.equal 67 (.agg k.cells.toArray) (.agg e.1.cells.toArray)).run Tryz.prog w = .ok false w := by
      show (Op.equalIn (9996 + 4) _ _ _).run _ _ = _
      rw [eqIn_vrp, h1]
    simp only [List.cons_append, List.map_cons, Instr.findAsking, entV, Sem.run_bind, h2, Result.andThen_ok]
    have := ask_some k w bn post pre (i + 1) (fun e he => h e (by simp [he]))
    rw [if_neg (by decide), List.length_cons, show i + (pre.length + 1) = i + 1 + pre.length by omega]
    exact this
theorem findKey_none (k : Vrp) (w : World) (l : List (Vrp × Nat)) (h : ∀ e ∈ l, e.1 ≠ k) : (Instr.findKey 67 (.agg k.cells.toArray) (l.map entV)).run Tryz.prog w = .ok none w := by
  unfold Instr.findKey
  simp only [Sem.run_bind, run_underlying Tryz.underlying67, Result.andThen_ok]
  cases l with
  | nil => rfl
  | cons e l => exact ask_none k w (e :: l) 0 h
theorem findKey_some (k : Vrp) (w : World) (bn : Nat) (pre post : List (Vrp × Nat)) (h : ∀ e ∈ pre, e.1 ≠ k) : (Instr.findKey 67 (.agg k.cells.toArray) ((pre ++ (k, bn) :: post).map entV)).run Tryz.prog w = .ok (some (pre.length, .bool true)) w := by
  unfold Instr.findKey
  simp only [Sem.run_bind, run_underlying Tryz.underlying67, Result.andThen_ok]
  have := ask_some k w bn post pre 0 h
  rw [Nat.zero_add] at this
  cases pre with
  | nil => exact this
  | cons e l => exact this
theorem EntsV.split {l : List (Vrp × Nat)} {n : Nat} {ks : List Vrp} (h : EntsV l n ks) {k : Vrp} (hk : k ∈ ks) : ∃ pre bn post, l = pre ++ (k, bn) :: post ∧ (∀ e ∈ pre, e.1 ≠ k) ∧ (∀ e ∈ post, e.1 ≠ k) := by
  rw [← h.eq] at hk
  obtain ⟨⟨k', bn⟩, he, rfl⟩ := List.mem_map.1 hk
  obtain ⟨pre, post, rfl⟩ := List.append_of_mem he
  have hnd := h.nd
  rw [← h.eq, List.map_append, List.map_cons, List.nodup_append] at hnd
  refine ⟨pre, bn, post, rfl, fun e he' e2 => hnd.2.2 e.1 (List.mem_map.2 ⟨e, he', rfl⟩) k' (by simp) e2, fun e he' e2 => (List.nodup_cons.1 hnd.2.1).1 (List.mem_map.2 ⟨e, he', e2⟩)⟩
theorem EntsV.fresh {l : List (Vrp × Nat)} {n : Nat} {ks : List Vrp} (h : EntsV l n ks) {k : Vrp} (hk : k ∉ ks) : ∀ e ∈ l, e.1 ≠ k := fun e he e2 => hk (by rw [← h.eq, ← e2]; exact List.mem_map.2 ⟨e, he, rfl⟩)
theorem MapV.look {w : World} {b : Nat} {ks : List Vrp} (h : MapV w b ks) (k : Vrp) : (Instr.lookup 76 (.map (some b)) (.agg k.cells.toArray) false).run Tryz.prog w = .ok (.bool (decide (k ∈ ks))) w := by
  obtain ⟨l, n, hh, hE⟩ := h
  have hck : ∀ b, (Instr.checkKey b 10000 67 (.agg k.cells.toArray)).run Tryz.prog w = .ok () w := fun b => checkKey_vrp b 9996 k w
  by_cases hk : k ∈ ks
  · obtain ⟨pre, bn, post, rfl, h1, _⟩ := hE.split hk
    have hf := findKey_some k w bn pre post h1
    rw [decide_eq_true hk]
    unfold Instr.lookup
    simp only [Sem.run_bind, run_underlying Tryz.underlying76, Result.andThen_ok, MapKept.run_getObj_map hh, hck, hf, Sem.run_pure]
    rfl
  · have hf := findKey_none k w l (hE.fresh hk)
    have hz := Tryz.zeroValue4 w
    rw [decide_eq_false hk]
    unfold Instr.lookup
    simp only [Sem.run_bind, run_underlying Tryz.underlying76, Result.andThen_ok, MapKept.run_getObj_map hh, hck, hf, hz, Sem.run_pure]
    rfl
theorem MapV.put {w : World} {b : Nat} {ks : List Vrp} (h : MapV w b ks) (k : Vrp) (hk : k ∉ ks) :
    ∃ W, (Instr.mapUpdate 76 (.map (some b)) (.agg k.cells.toArray) (.bool true)).run Tryz.prog w = .ok () W ∧ MapV W b (ks ++ [k]) ∧ w.grownBy W (some b) := by
  obtain ⟨l, n, hh, hE⟩ := h
  have hck : ∀ b, (Instr.checkKey b 10000 67 (.agg k.cells.toArray)).run Tryz.prog w = .ok () w := fun b => checkKey_vrp b 9996 k w
  have hf := findKey_none k w l (hE.fresh hk)
  refine ⟨setBlock w b (.map ((l ++ [(k, n)]).map entV).toArray (n + 1)), ?_, ⟨l ++ [(k, n)], n + 1, heap_setBlock_same hh, ⟨by rw [List.map_append, hE.eq]; rfl, ?_, ?_, ?_⟩⟩, grown_setBlock _ _ _⟩
  · unfold Instr.mapUpdate
    simp only [Sem.run_bind, run_underlying Tryz.underlying76, Result.andThen_ok, MapKept.run_getObj_map hh, hck, hf, Sem.run_pure]
    simp [MapKept.run_setObj_map _ hh, setBlock, entV]
  · rw [List.nodup_append]
    exact ⟨hE.nd, by simp, fun a ha c hc e => hk (by rw [List.mem_singleton] at hc; rw [← hc, ← e]; exact ha)⟩
  · intro e he
    rcases List.mem_append.1 he with he | he
    · have := hE.lt e he; omega
    · rw [List.mem_singleton] at he; subst he; simp
  · rw [List.map_append, List.nodup_append]
    refine ⟨hE.nb, by simp, fun a ha c hc e => ?_⟩
    obtain ⟨x, hx, rfl⟩ := List.mem_map.1 ha
    have := hE.lt x hx
    simp at hc
    omega
theorem MapV.del {w : World} {b : Nat} {ks : List Vrp} (h : MapV w b ks) (k : Vrp) (hk : k ∈ ks) :
    ∃ W, (∀ ty kt2, (Builtin.delete_ #[76, kt2] ty #[.map (some b), .agg k.cells.toArray]).run Tryz.prog w = .ok (.tuple #[]) W) ∧ MapV W b (ks.filter fun x => !decide (x = k)) ∧ w.grownBy W (some b) := by
  obtain ⟨l, n, hh, hE⟩ := h
  have hck : ∀ b, (Instr.checkKey b 10000 67 (.agg k.cells.toArray)).run Tryz.prog w = .ok () w := fun b => checkKey_vrp b 9996 k w
  obtain ⟨pre, bn, post, rfl, h1, h2⟩ := hE.split hk
  have hf := findKey_some k w bn pre post h1
  refine ⟨setBlock w b (.map ((pre ++ post).map entV).toArray n), fun ty kt2 => ?_, ⟨pre ++ post, n, heap_setBlock_same hh, ⟨?_, ?_, ?_, ?_⟩⟩, grown_setBlock _ _ _⟩
  · have her : (((pre ++ (k, bn) :: post).map entV).toArray.eraseIdxIfInBounds pre.length) = ((pre ++ post).map entV).toArray := by
      unfold Array.eraseIdxIfInBounds
      rw [dif_pos (by simp)]
      apply Array.toList_inj.1
      simp [List.eraseIdx_append_of_length_le]
    unfold Builtin.delete_
    simp only [Sem.run_bind, run_underlying Tryz.underlying76, Result.andThen_ok, MapKept.run_getObj_map hh, hck, hf, Sem.run_pure, List.getElem?_toArray, List.getElem?_cons_zero, List.getElem?_cons_succ]
    simp only [her, MapKept.run_setObj_map _ hh, Result.andThen_ok]
    rfl
  · rw [← hE.eq, List.map_append, List.map_append, List.map_cons, List.filter_append, List.filter_cons]
    have e1 : (pre.map (·.1)).filter (fun x => !decide (x = k)) = pre.map (·.1) := List.filter_eq_self.2 fun x hx => by obtain ⟨e, he, rfl⟩ := List.mem_map.1 hx; simp [h1 e he]
    have e2 : (post.map (·.1)).filter (fun x => !decide (x = k)) = post.map (·.1) := List.filter_eq_self.2 fun x hx => by obtain ⟨e, he, rfl⟩ := List.mem_map.1 hx; simp [h2 e he]
    rw [e1, e2]
    simp
  · exact hE.nd.sublist List.filter_sublist
  · exact fun e he => hE.lt e (by rcases List.mem_append.1 he with h | h <;> simp [h])
  · have := hE.nb
    rw [List.map_append, List.map_cons] at this
    rw [List.map_append]
    exact this.sublist (by simp)
/-- A new map. -/
theorem MapV.new (w : World) (b : Nat) (hb : w.heap.size = b) : MapV (w.alloc (.map #[] 0)) b [] := by
  subst hb
  exact ⟨[], 0, heap_alloc_new w _, ⟨rfl, List.nodup_nil, fun e he => absurd he (by simp), List.nodup_nil⟩⟩
/-- A copy of a map. -/
theorem MapV.copy {w : World} {b : Nat} {ks : List Vrp} (h : MapV w b ks) : ∃ o, w.heap[b]? = some o ∧ MapV (w.alloc o) w.heap.size ks ∧ MapV (w.alloc o) b ks := by
  have hlt := h.lt
  obtain ⟨l, n, hh, hE⟩ := h
  exact ⟨_, hh, ⟨l, n, heap_alloc_new w _, hE⟩, ⟨l, n, (Below.heap_alloc _ _ b hlt).trans hh, hE⟩⟩
/-! The iterator. -/
structure RanV (w : World) (b r : Nat) (ks done : List Vrp) : Prop where
  at_ : ∃ (l : List (Vrp × Nat)) (n since c0 : Nat) (seen : Array Nat) (dl : List (Vrp × Nat)), w.heap[b]? = some (.map (l.map entV).toArray n) ∧ EntsV l n ks ∧ w.heap[r]? = some (.mapIter (some b) since seen c0) ∧ (∀ e ∈ l, e.2 < since) ∧ since ≤ c0 ∧ since ≤ n ∧
    dl.map (·.1) = done ∧ dl.map (·.2) = seen.toList ∧ (∀ e ∈ dl, e ∈ l) ∧ seen.toList.Nodup
theorem leftOf_ents (l : List (Vrp × Nat)) (seen : Array Nat) : leftOf (l.map entV).toArray seen = ((l.filter fun e => !seen.contains e.2).map entV).toArray := by
  unfold leftOf
  apply Array.toList_inj.1
  rw [Array.toList_filter]
  simp only [List.filter_map]
  rfl
theorem nodup_of_map {α β : Type} (f : α → β) {l : List α} (h : (l.map f).Nodup) : l.Nodup := by
  rw [List.Nodup, List.pairwise_map] at h
  exact h.imp fun hab e => hab (by rw [e])
theorem map_inj_of_nodup {α β : Type} (f : α → β) : ∀ {l : List α} (_ : (l.map f).Nodup) {a b : α}, a ∈ l → b ∈ l → f a = f b → a = b
  | [], _, _, _, ha, _, _ => absurd ha (by simp)
  | x :: l, h, a, b, ha, hb, e => by
    rw [List.map_cons, List.nodup_cons] at h
    rcases List.mem_cons.1 ha with ea | ha'
    · rcases List.mem_cons.1 hb with eb | hb'
      · rw [ea, eb]
      · exact absurd (List.mem_map.2 ⟨b, hb', by rw [← e, ea]⟩) h.1
    · rcases List.mem_cons.1 hb with eb | hb'
      · exact absurd (List.mem_map.2 ⟨a, ha', by rw [e, eb]⟩) h.1
      · exact map_inj_of_nodup f h.2 ha' hb' e
theorem nodup_le {α : Type} [DecidableEq α] : ∀ {l m : List α}, l.Nodup → (∀ x ∈ l, x ∈ m) → l.length ≤ m.length
  | [], _, _, _ => by simp
  | x :: l, m, h, hs => by
    rw [List.nodup_cons] at h
    have hx : x ∈ m := hs x (by simp)
    have ih := nodup_le (l := l) (m := m.erase x) h.2 (fun y hy => (List.mem_erase_of_ne (fun e => h.1 (by rw [← e]; exact hy))).2 (hs y (by simp [hy])))
    rw [List.length_erase_of_mem hx] at ih
    have := List.length_pos_of_mem hx
    rw [List.length_cons]
    omega
theorem RanV.few {w : World} {b r : Nat} {ks done : List Vrp} (h : RanV w b r ks done) : done.Nodup ∧ (∀ x ∈ done, x ∈ ks) ∧ done.length ≤ ks.length := by
  obtain ⟨l, n, since, c0, seen, dl, hh, hE, hr, hs, h1, h2, hd, hb, hin, hnd⟩ := h.at_
  have hdl : dl.Nodup := nodup_of_map (·.2) (by rw [hb]; exact hnd)
  have hdn : done.Nodup := by
    rw [← hd, List.Nodup, List.pairwise_map]
    refine List.Pairwise.imp_of_mem (fun {a c} ha hc hne e => hne ?_) hdl
    exact map_inj_of_nodup (·.1) (by rw [hE.eq]; exact hE.nd) (hin a ha) (hin c hc) e
  have hsub : ∀ x ∈ done, x ∈ ks := fun x hx => by
    rw [← hd] at hx
    obtain ⟨e, he, rfl⟩ := List.mem_map.1 hx
    rw [← hE.eq]
    exact List.mem_map.2 ⟨e, hin e he, rfl⟩
  exact ⟨hdn, hsub, nodup_le hdn hsub⟩
theorem RanV.left {w : World} {b r : Nat} {ks done : List Vrp} (h : RanV w b r ks done) : ∃ (l : List (Vrp × Nat)) (seen : Array Nat), w.rangeLeft b r = (leftOf (l.map entV).toArray seen).size := by
  obtain ⟨l, n, since, c0, seen, dl, hh, hE, hr, _⟩ := h.at_
  exact ⟨l, seen, by unfold World.rangeLeft; rw [hh, hr]⟩
theorem heap_set_ne (w : World) {r b : Nat} (o : Obj) (h : r ≠ b) : (setBlock w r o).heap[b]? = w.heap[b]? := by
  unfold setBlock
  exact Array.getElem?_setIfInBounds_ne h
theorem filter_lt {α : Type} (p q : α → Bool) : ∀ (l : List α), (∀ x ∈ l, q x = true → p x = true) → (∃ x ∈ l, p x = true ∧ q x = false) → (l.filter q).length < (l.filter p).length
  | [], _, h => by obtain ⟨x, hx, _⟩ := h; cases hx
  | y :: l, hall, h => by
    have hle : ∀ l : List α, (∀ x ∈ l, q x = true → p x = true) → (l.filter q).length ≤ (l.filter p).length := fun l => by
      induction l with
      | nil => intro _; simp
      | cons z l ih =>
        intro hz
        have := ih (fun x hx => hz x (by simp [hx]))
        have hz1 := hz z (by simp)
        rw [List.filter_cons, List.filter_cons]
        cases hq : q z
        · cases hp : p z <;> simp <;> omega
        · rw [hz1 hq]; simp; omega
    have h2 := hle l (fun x hx => hall x (by simp [hx]))
    have hy := hall y (by simp)
    rw [List.filter_cons, List.filter_cons]
    obtain ⟨x, hx, hp, hq⟩ := h
    rcases List.mem_cons.1 hx with rfl | hx
    · rw [hp, hq]; simp; omega
    · have ih := filter_lt p q l (fun x hx => hall x (by simp [hx])) ⟨x, hx, hp, hq⟩
      cases hq : q y
      · cases hp : p y <;> simp <;> omega
      · rw [hy hq]; simp; omega
theorem RanV.next {w : World} {b r : Nat} {ks done : List Vrp} (h : RanV w b r ks done) (ty : TypeId) :
    ((∀ x ∈ ks, x ∈ done) ∧ (Instr.next (.pointer (some ⟨r, 0, none⟩)) false ty).run Tryz.prog w = .ok (.tuple #[.bool false]) w) ∨
    ∃ x w', x ∈ ks ∧ x ∉ done ∧ (Instr.next (.pointer (some ⟨r, 0, none⟩)) false ty).run Tryz.prog w = .ok (.tuple #[.bool true, .agg x.cells.toArray, .bool true]) w' ∧ RanV w' b r ks (done ++ [x]) ∧ w.grownBy w' (some r) ∧ w'.heap.size = w.heap.size ∧
      (Instr.entry (.pointer (some ⟨r, 0, none⟩))).run Tryz.prog w' = .ok (.tuple #[.agg x.cells.toArray, .bool true]) w' ∧ w'.rangeLeft b r < w.rangeLeft b r := by
  obtain ⟨l, n, since, c0, seen, dl, hh, hE, hr, hs, h1, h2, hd, hb, hin, hnd⟩ := h.at_
  have hrl : w.rangeLeft b r = (leftOf (l.map entV).toArray seen).size := by unfold World.rangeLeft; rw [hh, hr]
  have hseen : ∀ e ∈ l, seen.contains e.2 = true ↔ e ∈ dl := fun e he => by
    have hm : seen.contains e.2 = true ↔ e.2 ∈ dl.map (·.2) := by rw [hb]; simp
    rw [hm]
    refine ⟨fun hx => ?_, fun hx => List.mem_map.2 ⟨e, hx, rfl⟩⟩
    obtain ⟨d, hd', e2⟩ := List.mem_map.1 hx
    have := map_inj_of_nodup (·.2) hE.nb (hin d hd') he e2
    rw [← this]; exact hd'
  rcases run_next_at (P := Tryz.prog) w ty r b since c0 seen _ n hr hh (fun x hx => by
      simp only [List.mem_map] at hx
      obtain ⟨e, he, rfl⟩ := hx
      exact hs e he) h1 with ⟨h0, hrun⟩ | ⟨en, hen, w1, hw1, hrun⟩
  · refine .inl ⟨fun x hx => ?_, hrun⟩
    rw [leftOf_ents] at h0
    have h0' : l.filter (fun e => !seen.contains e.2) = [] := by simpa using h0
    rw [← hE.eq] at hx
    obtain ⟨e, he, rfl⟩ := List.mem_map.1 hx
    rw [← hd]
    refine List.mem_map.2 ⟨e, (hseen e he).1 ?_, rfl⟩
    have := List.filter_eq_nil_iff.1 h0' e he
    simpa using this
  · rw [leftOf_ents] at hen
    simp only [List.mem_map, List.mem_filter] at hen
    obtain ⟨e, ⟨he, hns⟩, rfl⟩ := hen
    have hnd2 : e ∉ dl := fun hx => by rw [(hseen e he).2 hx] at hns; cases hns
    have hns' : e.2 ∉ seen.toList := by
      intro hx
      have : seen.contains e.2 = true := by simpa using hx
      rw [this] at hns; cases hns
    have hrb : r ≠ b := fun e2 => by rw [e2, hh] at hr; cases hr
    have hw1' : w1.heap = w.heap ∧ w.grownBy w1 none := by
      rcases hw1 with rfl | rfl
      · exact ⟨rfl, ⟨rfl, rfl, rfl, Nat.le_refl _, fun _ _ _ => rfl⟩⟩
      · exact ⟨rfl, ⟨rfl, rfl, rfl, Nat.le_refl _, fun _ _ _ => rfl⟩⟩
    have hh2 : (setBlock w1 r (.mapIter (some b) since (seen.push e.2) n)).heap[b]? = some (.map (l.map entV).toArray n) := by rw [heap_set_ne _ _ hrb, hw1'.1]; exact hh
    have hr2 : (setBlock w1 r (.mapIter (some b) since (seen.push e.2) n)).heap[r]? = some (.mapIter (some b) since (seen.push e.2) n) := heap_setBlock_same (o := .mapIter (some b) since seen c0) (by rw [hw1'.1]; exact hr)
    refine .inr ⟨e.1, _, ?_, ?_, hrun, ⟨l, n, since, n, seen.push e.2, dl ++ [e], hh2, hE, hr2, hs, h2, h2, ?_, ?_, ?_, ?_⟩, ?_, ?_, ?_, ?_⟩
    · rw [← hE.eq]; exact List.mem_map.2 ⟨e, he, rfl⟩
    · intro hx
      rw [← hd] at hx
      obtain ⟨d, hd', e2⟩ := List.mem_map.1 hx
      have := map_inj_of_nodup (·.1) (by rw [hE.eq]; exact hE.nd) (hin d hd') he e2
      exact hnd2 (by rw [← this]; exact hd')
    · rw [List.map_append, hd]; rfl
    · rw [List.map_append, hb]; simp
    · intro d hd'
      rcases List.mem_append.1 hd' with hd' | hd'
      · exact hin d hd'
      · rw [List.mem_singleton] at hd'; rw [hd']; exact he
    · rw [Array.toList_push, List.nodup_append]
      exact ⟨hnd, by simp, fun a ha c hc e2 => hns' (by rw [List.mem_singleton] at hc; rw [← hc, ← e2]; exact ha)⟩
    · have hg := grown_setBlock w1 r (.mapIter (some b) since (seen.push e.2) n)
      exact ⟨hg.os.trans hw1'.2.os, hg.tape.trans hw1'.2.tape, hg.output.trans hw1'.2.output, Nat.le_trans hw1'.2.size hg.size, fun k hk hne => (hg.block k (by rw [hw1'.1]; exact hk) hne).trans (by rw [hw1'.1])⟩
    · unfold setBlock; simp [hw1'.1]
    · exact run_entry_at _ r b since seen _ n (entV e) hr2 hh2 (by simp only [List.mem_map]; exact ⟨e, he, rfl⟩) (by rw [List.map_map]; exact hE.nb)
    · have hrl2 : World.rangeLeft (setBlock w1 r (.mapIter (some b) since (seen.push e.2) n)) b r = (leftOf (l.map entV).toArray (seen.push e.2)).size := by unfold World.rangeLeft; rw [hh2, hr2]
      show World.rangeLeft (setBlock w1 r (.mapIter (some b) since (seen.push e.2) n)) b r < _
      rw [hrl, hrl2, leftOf_ents, leftOf_ents]
      simp only [List.size_toArray, List.length_map]
      refine filter_lt _ _ l (fun x hx hq => ?_) ⟨e, he, hns, by simp⟩
      simp at hq ⊢
      exact hq.1
theorem MapV.range {w : World} {b : Nat} {ks : List Vrp} (h : MapV w b ks) : ∃ w', (Instr.range 76 (.map (some b))).run Tryz.prog w = .ok (.pointer (some ⟨w.heap.size, 0, none⟩)) w' ∧ RanV w' b w.heap.size ks [] ∧ w.grownBy w' none ∧ w'.heap.size = w.heap.size + 1 := by
  have hlt := h.lt
  obtain ⟨l, n, hh, hE⟩ := h
  refine ⟨w.alloc (.mapIter (some b) n #[] n), ?_, ⟨l, n, n, n, #[], [], (Below.heap_alloc _ _ b hlt).trans hh, hE, heap_alloc_new w _, hE.lt, Nat.le_refl _, Nat.le_refl _, rfl, rfl, fun e he => absurd he (by simp), by simp⟩, World.grownBy_alloc w _ none, by simp⟩
  unfold Instr.range
  simp only [Sem.run_bind, run_underlying Tryz.underlying76, Result.andThen_ok, MapKept.run_getObj_map hh, Sem.run_pure]
  simp [go_sem]
end Go.Proofs.YtmoldmnhijcckaaGreat
