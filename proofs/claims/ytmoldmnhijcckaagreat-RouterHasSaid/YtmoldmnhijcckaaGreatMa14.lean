/- Maps as lists of keys and values: what looking up, storing, deleting do. For whatever program. -/
import Derived.Test.YtmoldmnhijcckaaGreatMa00
import Derived.MapKept
import Derived.ChangeMaps4
import Derived.Maps.Own
import Derived.Laws.StructEq
set_option linter.unusedVariables false
set_option linter.unusedSectionVars false
set_option linter.unusedSimpArgs false
set_option linter.unusedSimpArgs false
namespace Go.Proofs.YtmoldmnhijcckaaGreat
open Go Go.RowKit
section
variable {κ : Type} [DecidableEq κ]
/-- Where a key stands, and what it has. -/
def mfind (k : κ) : List (κ × Value) → Nat → Option (Nat × Value)
  | [], _ => none
  | (k', v) :: r, i => if k = k' then some (i, v) else mfind k r (i + 1)
def mput (k : κ) (v : Value) : List (κ × Value) → List (κ × Value)
  | [] => [(k, v)]
  | (k', v') :: r => if k = k' then (k, v) :: r else (k', v') :: mput k v r
def mdel (k : κ) : List (κ × Value) → List (κ × Value)
  | [] => []
  | (k', v') :: r => if k = k' then r else (k', v') :: mdel k r
def mget (k : κ) : List (κ × Value) → Option Value
  | [] => none
  | (k', v) :: r => if k = k' then some v else mget k r
/-- A type of keys: the walk of its values through the model's look-up. -/
structure KK (P : Program) (t : TypeId) (kv : κ → Value) : Prop where
  check : ∀ (e : Bool) (k : κ) (w : World), (Instr.checkKey e 10000 t (kv k)).run P w = .ok () w
  find : ∀ (k : κ) (m : List (κ × Value)) (es : List MapEntry) (w : World), es.map (fun e => (e.key, e.val)) = m.map (fun x => (kv x.1, x.2)) → (Instr.findKey t (kv k) es).run P w = .ok (mfind k m 0) w
  same : ∀ k, Instr.sameBits 10000 (kv k) (kv k) = true
def MapAt (w : World) (b : Nat) (kv : κ → Value) (m : List (κ × Value)) : Prop :=
  ∃ es clock, w.heap[b]? = some (.map es clock) ∧ es.toList.map (fun e => (e.key, e.val)) = m.map (fun x => (kv x.1, x.2)) ∧ (m.map (·.1)).Nodup ∧ (es.toList.map (·.born)).Pairwise (· < ·) ∧ ∀ e ∈ es.toList, e.born < clock

theorem mfind_get (k : κ) : ∀ (m : List (κ × Value)) (i : Nat), (mfind k m i).map (·.2) = mget k m
  | [], _ => rfl
  | (k', v) :: r, i => by
    simp only [mfind, mget]
    split
    · rfl
    · exact mfind_get k r (i + 1)
theorem mfind_none (k : κ) : ∀ (m : List (κ × Value)) (i : Nat) (v : Value), mfind k m i = none → mput k v m = m ++ [(k, v)] ∧ mdel k m = m ∧ k ∉ m.map (·.1)
  | [], _, _, _ => ⟨rfl, rfl, by simp⟩
  | (k', v') :: r, i, v, h => by
    simp only [mfind] at h
    split at h
    · cases h
    · rename_i hk
      obtain ⟨h1, h2, h3⟩ := mfind_none k r (i + 1) v h
      simp only [mput, mdel, if_neg hk, h1, h2]
      exact ⟨rfl, trivial, by simpa [hk] using h3⟩
theorem mfind_some (k : κ) : ∀ (m : List (κ × Value)) (i j : Nat) (u v : Value), mfind k m i = some (j, u) → i ≤ j ∧ j - i < m.length ∧ m[j - i]? = some (k, u) ∧ mput k v m = m.set (j - i) (k, v) ∧ mdel k m = m.eraseIdx (j - i)
  | [], _, _, _, _, h => by cases h
  | (k', v') :: r, i, j, u, v, h => by
    simp only [mfind] at h
    split at h
    · rename_i hk
      cases h
      subst hk
      simp [mput, mdel]
    · rename_i hk
      obtain ⟨h1, h2, h3, h4, h5⟩ := mfind_some k r (i + 1) j u v h
      have e : j - i = (j - (i + 1)) + 1 := by omega
      refine ⟨by omega, by simp; omega, by rw [e]; simpa using h3, ?_, ?_⟩
      · rw [e]; simp only [mput, if_neg hk, h4, List.set_cons_succ]
      · rw [e]; simp only [mdel, if_neg hk, h5, List.eraseIdx_cons_succ]
theorem mput_keys (k : κ) (v : Value) (m : List (κ × Value)) (h : (m.map (·.1)).Nodup) : ((mput k v m).map (·.1)).Nodup := by
  cases hf : mfind k m 0 with
  | none =>
    obtain ⟨h1, _, h3⟩ := mfind_none k m 0 v hf
    rw [h1, List.map_append, List.nodup_append]
    refine ⟨h, by simp, ?_⟩
    intro a ha b hb
    simp at hb
    subst hb
    intro e
    subst e
    exact h3 ha
  | some x =>
    obtain ⟨j, u⟩ := x
    obtain ⟨_, h2, h3, h4, _⟩ := mfind_some k m 0 j u v hf
    rw [h4, List.map_set]
    have : (m.map (·.1)).set (j - 0) (k, v).1 = m.map (·.1) := by
      apply List.ext_getElem?
      intro i
      rw [List.getElem?_set]
      split
      · rename_i he; subst he
        rw [Nat.sub_zero] at h2 h3; have h3' := (List.getElem?_eq_some_iff.1 h3).2; simp [h2, h3']
      · rfl
    rw [this]; exact h
theorem mdel_keys (k : κ) (m : List (κ × Value)) (h : (m.map (·.1)).Nodup) : ((mdel k m).map (·.1)).Nodup := by
  cases hf : mfind k m 0 with
  | none => rw [(mfind_none k m 0 undef hf).2.1]; exact h
  | some x =>
    obtain ⟨j, u⟩ := x
    rw [(mfind_some k m 0 j u undef hf).2.2.2.2]
    exact h.sublist ((List.eraseIdx_sublist _ _).map _)

variable {P : Program} {w w' : World} {b : Nat} {kv : κ → Value} {m : List (κ × Value)}
theorem MapAt.lt (h : MapAt w b kv m) : b < w.heap.size := by obtain ⟨es, c, h1, _⟩ := h; exact (Array.getElem?_eq_some_iff.1 h1).1
theorem MapAt.of_block (h : MapAt w b kv m) (hb : w'.heap[b]? = w.heap[b]?) : MapAt w' b kv m := by obtain ⟨es, c, h1, h2⟩ := h; exact ⟨es, c, hb.trans h1, h2⟩
theorem MapAt.below {B : Nat} (h : MapAt w b kv m) (hb : Below B w w') (hg : b < B) : MapAt w' b kv m := h.of_block (hb.block b hg)
theorem MapAt.drew (h : MapAt w b kv m) : MapAt w.drew b kv m := h
theorem MapAt.drewN (h : MapAt w b kv m) (n : Nat) : MapAt (w.drewN n) b kv m := h
theorem MapAt.alloc (h : MapAt w b kv m) (o : Obj) : MapAt (w.alloc o) b kv m := h.of_block (Below.heap_alloc w o b h.lt)
theorem MapAt.setCell (h : MapAt w b kv m) {p : Addr} (hp : b ≠ p.block) (u : Value) : MapAt (w.setCell p u) b kv m := h.of_block (Below.heap_setCell w p u b hp)
theorem MapAt.grown {row : Option Nat} (h : MapAt w b kv m) (hg : w.grownBy w' row) (hr : some b ≠ row) : MapAt w' b kv m := h.of_block (hg.block b h.lt hr)
theorem MapAt.new (w : World) (kv : κ → Value) : MapAt (w.alloc (.map #[] 0)) w.heap.size kv [] := ⟨#[], 0, heap_alloc_new w _, rfl, by simp, by simp, by simp⟩

theorem run_lookup_at {T K E : TypeId} (hT : P.underlying T = some (.map K E)) (kk : KK P K kv) (h : MapAt w b kv m) (z : Value) (hz : ∀ w, (zeroValue E).run P w = .ok z w) (k : κ) (ok : Bool) :
    (Instr.lookup T (.map (some b)) (kv k) ok).run P w = .ok (if ok then .tuple #[(mget k m).getD z, .bool (mget k m).isSome] else (mget k m).getD z) w := by
  obtain ⟨es, c, h1, h2, _⟩ := h
  have hf := kk.find k m es.toList w h2
  have hg := mfind_get k m 0
  cases hm : mfind k m 0 with
  | none =>
    rw [hm] at hf hg
    rw [← hg]
    simp [Instr.lookup, run_underlying hT, MapKept.run_getObj_map h1, kk.check, hf, hz, Result.andThen]
  | some x =>
    rw [hm] at hf hg
    rw [← hg]
    simp [Instr.lookup, run_underlying hT, MapKept.run_getObj_map h1, kk.check, hf, hz, Result.andThen]
theorem run_lookup_nil {T K E : TypeId} (hT : P.underlying T = some (.map K E)) (kk : KK P K kv) (z : Value) (hz : ∀ w, (zeroValue E).run P w = .ok z w) (k : κ) (ok : Bool) :
    (Instr.lookup T (.map none) (kv k) ok).run P w = .ok (if ok then .tuple #[z, .bool false] else z) w := by
  have hf := kk.find k [] [] w rfl
  simp [Instr.lookup, run_underlying hT, kk.check, hf, hz, Result.andThen, mfind]
def setBlk (w : World) (b : Nat) (o : Obj) : World := { w with heap := w.heap.setIfInBounds b o }
theorem setBlk_at (w : World) (b : Nat) (o : Obj) (hb : b < w.heap.size) : (setBlk w b o).heap[b]? = some o := by simp [setBlk, hb]
theorem setBlk_far (w : World) (b c : Nat) (o : Obj) (hb : b ≠ c) : (setBlk w b o).heap[c]? = w.heap[c]? := by simp [setBlk, hb]
theorem setBlk_grown (w : World) (b : Nat) (o : Obj) : w.grownBy (setBlk w b o) (some b) :=
  ⟨rfl, rfl, rfl, by simp [setBlk], fun k _ hk => setBlk_far w b k o (fun e => hk (by rw [e]))⟩
theorem run_update_at {T K E : TypeId} (hT : P.underlying T = some (.map K E)) (kk : KK P K kv) (h : MapAt w b kv m) (k : κ) (v : Value) :
    ∃ w', (Instr.mapUpdate T (.map (some b)) (kv k) v).run P w = .ok () w' ∧ MapAt w' b kv (mput k v m) ∧ w.grownBy w' (some b) ∧ w'.heap.size = w.heap.size := by
  have hlt := h.lt
  obtain ⟨es, c, h1, h2, h3, h4, h5⟩ := h
  have hf := kk.find k m es.toList w h2
  cases hm : mfind k m 0 with
  | none =>
    rw [hm] at hf
    refine ⟨setBlk w b (.map (es.push { key := kv k, val := v, born := c }) (c + 1)), ?_, ⟨_, _, setBlk_at w b _ hlt, ?_, mput_keys k v m h3, ?_, ?_⟩, setBlk_grown w b _, by simp [setBlk]⟩
    · simp [Instr.mapUpdate, run_underlying hT, MapKept.run_getObj_map h1, kk.check, hf, MapKept.run_setObj_map _ h1, Result.andThen, setBlk]
    · rw [(mfind_none k m 0 v hm).1]; simp [h2]
    · simp only [Array.toList_push, List.map_append, List.map_cons, List.map_nil, List.pairwise_append]
      refine ⟨h4, by simp, ?_⟩
      intro a ha d hd
      simp at hd ha
      obtain ⟨e, he, rfl⟩ := ha
      subst hd
      exact h5 e (by simpa using he)
    · intro e he
      simp at he
      rcases he with he | rfl
      · have := h5 e (by simpa using he); omega
      · simp
  | some x =>
    obtain ⟨j, u⟩ := x
    rw [hm] at hf
    obtain ⟨_, hj, hmj, hput, _⟩ := mfind_some k m 0 j u v hm
    rw [Nat.sub_zero] at hj hmj hput
    have hlen : es.size = m.length := by have := congrArg List.length h2; simpa using this
    have hej : j < es.size := by omega
    have hkey : es[j].key = kv k := by
      have := congrArg (fun l => l[j]?) h2
      simp [hmj, hej] at this
      exact this.1
    refine ⟨setBlk w b (.map (es.modify j fun e => { e with key := kv k, val := v }) c), ?_, ⟨_, _, setBlk_at w b _ hlt, ?_, mput_keys k v m h3, ?_, ?_⟩, setBlk_grown w b _, by simp [setBlk]⟩
    · simp [Instr.mapUpdate, run_underlying hT, MapKept.run_getObj_map h1, kk.check, hf, MapKept.run_setObj_map _ h1, Result.andThen, setBlk, hej, hkey, Instr.keyThatStays, kk.same]
    · rw [hput, List.map_set, ← h2]
      apply List.ext_getElem
      · simp
      · intro i hi1 hi2
        simp only [List.getElem_map, Array.getElem_toList, Array.getElem_modify, List.getElem_set]
        split <;> rename_i he
        · subst he; simp
        · simp
    · have : (es.modify j fun e => { e with key := kv k, val := v }).toList.map (·.born) = es.toList.map (·.born) := by
        apply List.ext_getElem
        · simp
        · intro i hi1 hi2
          simp only [List.getElem_map, Array.getElem_toList, Array.getElem_modify]
          split <;> rfl
      rw [this]; exact h4
    · intro e he
      obtain ⟨i, hi, rfl⟩ := List.mem_iff_getElem.1 he
      have hi' : i < es.size := by simpa using hi
      have := h5 es[i] (by simp)
      simp only [Array.getElem_toList, Array.getElem_modify]
      split <;> exact this
theorem run_delete_at {T K E : TypeId} {aT : Array TypeId} {ty : TypeId} (haT : aT[0]? = some T) (hT : P.underlying T = some (.map K E)) (kk : KK P K kv) (h : MapAt w b kv m) (k : κ) :
    ∃ w', (Builtin.delete_ aT ty #[.map (some b), kv k]).run P w = .ok (.tuple #[]) w' ∧ MapAt w' b kv (mdel k m) ∧ w.grownBy w' (some b) ∧ w'.heap.size = w.heap.size := by
  have hlt := h.lt
  obtain ⟨es, c, h1, h2, h3, h4, h5⟩ := h
  have hf := kk.find k m es.toList w h2
  cases hm : mfind k m 0 with
  | none =>
    rw [hm] at hf
    refine ⟨setBlk w b (.map es c), ?_, ⟨_, _, setBlk_at w b _ hlt, ?_, mdel_keys k m h3, h4, h5⟩, setBlk_grown w b _, by simp [setBlk]⟩
    · simp [Builtin.delete_, haT, run_underlying hT, MapKept.run_getObj_map h1, kk.check, hf, MapKept.run_setObj_map _ h1, Result.andThen, setBlk]
    · rw [(mfind_none k m 0 undef hm).2.1]; exact h2
  | some x =>
    obtain ⟨j, u⟩ := x
    rw [hm] at hf
    obtain ⟨_, hj, hmj, _, hdel⟩ := mfind_some k m 0 j u undef hm
    rw [Nat.sub_zero] at hj hmj hdel
    have hlen : es.size = m.length := by have := congrArg List.length h2; simpa using this
    have hej : j < es.size := by omega
    have hl : (es.eraseIdxIfInBounds j).toList = es.toList.eraseIdx j := by simp [Array.eraseIdxIfInBounds, hej]
    refine ⟨setBlk w b (.map (es.eraseIdxIfInBounds j) c), ?_, ⟨_, _, setBlk_at w b _ hlt, ?_, mdel_keys k m h3, ?_, ?_⟩, setBlk_grown w b _, by simp [setBlk]⟩
    · simp [Builtin.delete_, haT, run_underlying hT, MapKept.run_getObj_map h1, kk.check, hf, MapKept.run_setObj_map _ h1, Result.andThen, setBlk]
    · rw [hdel, hl, List.eraseIdx_eq_take_drop_succ, List.eraseIdx_eq_take_drop_succ, List.map_append, List.map_append, List.map_take, List.map_drop, List.map_take, List.map_drop, h2]
    · rw [hl]; exact h4.sublist ((List.eraseIdx_sublist _ _).map _)
    · rw [hl]; exact fun e he => h5 e ((List.eraseIdx_sublist _ _).subset he)
end
section
variable {κ : Type} [DecidableEq κ] {P : Program} {w : World} {b : Nat} {kv : κ → Value} {m : List (κ × Value)} {ops : Array Oper} {rest : List Oper} {o : Oper} {a : Act} {Q : Exit → Act → World → Prop} {K : Act → World → Prop}
theorem wp_update_at {T KT E : TypeId} (x k v : Operand) (ho : o.op = .insert T x k v ∨ o.op = .mapUpdate T x k v) (hT : P.underlying T = some (.map KT E)) (kk : KK P KT kv) (hx : a.eval x = .map (some b)) (key : κ) (hk : a.eval k = kv key) (val : Value) (hv : a.eval v = val) (h : MapAt w b kv m)
    (hn : ∀ w', MapAt w' b kv (mput key val m) → w.grownBy w' (some b) → w'.heap.size = w.heap.size → K (a.put o.dst undef) w') : o.wp P a w K Q := by
  obtain ⟨w', hr, h1, h2, h3⟩ := run_update_at (w := w) hT kk h key val
  unfold Oper.wp execOp
  rcases ho with ho | ho
  all_goals
    simp only [ho, hx, hk, hv, Sem.run_bind, Sem.run_pure, hr, Result.andThen_ok]
    exact hn w' h1 h2 h3
theorem wpList_update_at (hgd : o.guard = none) {T KT E : TypeId} (x k v : Operand) (ho : o.op = .insert T x k v ∨ o.op = .mapUpdate T x k v) (hT : P.underlying T = some (.map KT E)) (kk : KK P KT kv) (hx : a.eval x = .map (some b)) (key : κ) (hk : a.eval k = kv key) (val : Value) (hv : a.eval v = val) (h : MapAt w b kv m)
    (hn : ∀ w', MapAt w' b kv (mput key val m) → w.grownBy w' (some b) → w'.heap.size = w.heap.size → wpList P ops Q rest (a.put o.dst undef) w') : wpList P ops Q (o :: rest) a w :=
  wpList_plain hgd fun _ hK => wp_update_at x k v ho hT kk hx key hk val hv h fun w' h1 h2 h3 => hK _ _ (hn w' h1 h2 h3)
end
/-- Keys that are whole numbers. -/
theorem findNow_int (q : IntKind) (k : Int) : ∀ (m : List (Int × Value)) (es : List MapEntry) (i : Nat), es.map (fun e => (e.key, e.val)) = m.map (fun x => (Value.int q x.1, x.2)) → Instr.findNow (.int q) (.int q k) es i = some (mfind k m i)
  | [], es, i, h => by
    obtain rfl : es = [] := by simpa using h
    rfl
  | (k', v) :: r, [], i, h => by simp at h
  | (k', v) :: r, e :: es, i, h => by
    simp only [List.map_cons, List.cons.injEq, Prod.mk.injEq] at h
    obtain ⟨⟨h1, h2⟩, h3⟩ := h
    have ih := findNow_int q k r es (i + 1) h3
    simp only [Instr.findNow, h1, Instr.sameNow, if_true, mfind, ih, h2]
    by_cases hk : k = k'
    · subst hk; simp
    · have : (k == k') = false := by simpa using hk
      simp [this, hk]
theorem KK.int {P : Program} {t : TypeId} {q : IntKind} (ht : P.underlying t = some (.int q)) : KK P t (Value.int q) where
  check e k w := by
    rw [show (10000 : Nat) = 9999 + 1 from rfl, Instr.checkKey]
    simp [run_underlying ht]
  find k m es w h := by simp [Instr.findKey, run_underlying ht, findNow_int q k m es 0 h]
  same k := by simp [Instr.sameBits]
theorem beq_bytes (a b : ByteArray) : (a == b) = decide (a = b) := by
  rw [beq_toListBytes, ByteArray.toList_eq, ByteArray.toList_eq, Bool.eq_iff_iff]
  obtain ⟨⟨x⟩⟩ := a
  obtain ⟨⟨y⟩⟩ := b
  simp
theorem findNow_string (k : ByteArray) : ∀ (m : List (ByteArray × Value)) (es : List MapEntry) (i : Nat), es.map (fun e => (e.key, e.val)) = m.map (fun x => (Value.string x.1, x.2)) → Instr.findNow .string (.string k) es i = some (mfind k m i)
  | [], es, i, h => by
    obtain rfl : es = [] := by simpa using h
    rfl
  | (k', v) :: r, [], i, h => by simp at h
  | (k', v) :: r, e :: es, i, h => by
    simp only [List.map_cons, List.cons.injEq, Prod.mk.injEq] at h
    obtain ⟨⟨h1, h2⟩, h3⟩ := h
    have ih := findNow_string k r es (i + 1) h3
    simp only [Instr.findNow, h1, Instr.sameNow, mfind, ih, h2]
    rw [beq_bytes k k']
    by_cases hk : k = k'
    · subst hk; simp
    · simp [hk]
theorem KK.str {P : Program} {t : TypeId} (ht : P.underlying t = some .string) : KK P t Value.string where
  check e k w := by
    rw [show (10000 : Nat) = 9999 + 1 from rfl, Instr.checkKey]
    simp [run_underlying ht]
  find k m es w h := by simp [Instr.findKey, run_underlying ht, findNow_string k m es 0 h]
  same k := by simp [Instr.sameBits, beq_bytes]
end Go.Proofs.YtmoldmnhijcckaaGreat
/- The contract of pdu.lengths: the map that it makes, and what is looked up in it. -/
set_option linter.unusedVariables false
set_option linter.unusedSectionVars false
set_option linter.unusedSimpArgs false
namespace Go.Proofs.YtmoldmnhijcckaaGreat
open Go.RowKit
def iv (n : Int) : Value := .int .i64 n
def lenL : List (Int × Value) := [(0, iv 12), (1, iv 12), (2, iv 8), (3, iv 8), (4, iv 20), (6, iv 32), (7, iv 24), (8, iv 8), (10, iv 16)]
def lenOf (k : Int) : Int := if k = 0 ∨ k = 1 then 12 else if k = 2 ∨ k = 3 ∨ k = 8 then 8 else if k = 4 then 20 else if k = 6 then 32 else if k = 7 then 24 else if k = 10 then 16 else 0
def isKind (k : Int) : Bool := decide (k = 0 ∨ k = 1 ∨ k = 2 ∨ k = 3 ∨ k = 4 ∨ k = 6 ∨ k = 7 ∨ k = 8 ∨ k = 10)
theorem len_get (k : Int) : (mget k lenL).getD (iv 0) = iv (lenOf k) ∧ (mget k lenL).isSome = isKind k := by
  by_cases h : k = 0 ∨ k = 1 ∨ k = 2 ∨ k = 3 ∨ k = 4 ∨ k = 6 ∨ k = 7 ∨ k = 8 ∨ k = 10
  · rcases h with rfl | rfl | rfl | rfl | rfl | rfl | rfl | rfl | rfl <;> exact ⟨rfl, rfl⟩
  · obtain ⟨h0, h1, h2, h3, h4, h6, h7, h8, h10⟩ : k ≠ 0 ∧ k ≠ 1 ∧ k ≠ 2 ∧ k ≠ 3 ∧ k ≠ 4 ∧ k ≠ 6 ∧ k ≠ 7 ∧ k ≠ 8 ∧ k ≠ 10 := by omega
    simp [mget, lenL, lenOf, isKind, h0, h1, h2, h3, h4, h6, h7, h8, h10]
theorem kkInt : KK Tryz.prog 3 (Value.int .i64) := KK.int Tryz.underlying3
def MInt (w : World) (b : Nat) (m : List (Int × Value)) : Prop := MapAt w b (Value.int .i64) m
theorem zeroInt (w : World) : (zeroValue 3).run Tryz.prog w = .ok (.int .i64 0) w := by kernel_rfl
theorem run_len (w : World) (b : Nat) (h : MInt w b lenL) (k : Int) (ok : Bool) : (Instr.lookup 120 (.map (some b)) (.int .i64 k) ok).run Tryz.prog w = .ok (if ok then .tuple #[.int .i64 (lenOf k), .bool (isKind k)] else .int .i64 (lenOf k)) w := by
  have := run_lookup_at (w := w) Tryz.underlying120 kkInt h _ zeroInt k ok
  obtain ⟨h1, h2⟩ := len_get k
  unfold iv at h1
  rw [this, h1, h2]
set_option maxRecDepth 100000 in
set_option maxHeartbeats 1000000 in
theorem lengths_any (w : World) : Calls Tryz.prog 58 #[] w fun e w' => ∃ b, e = .returned (.map (some b)) ∧ MInt w' b lenL ∧ Below w.heap.size w w' := by
  have hmm := @run_makeMap Tryz.prog
  have hm : MapAt (w.alloc (.map #[] 0)) w.heap.size (Value.int .i64) [] := MapAt.new w _
  have hb : Below w.heap.size w (w.alloc (.map #[] 0)) := (Below.refl _ _).alloc (Nat.le_refl _) _
  go_enter Tryz.func58, Tryz.ntmps58
  go_wp2_with (refine wpList_update_at rfl _ _ _ (.inl rfl) Tryz.underlying120 kkInt rfl _ rfl _ rfl hm ?_; intro w1 hm1 hg1 _; replace hb := hb.grown hg1 hb.size (by simp); replace hm := hm1; clear hm1 hg1)
  go_ret
  exact ⟨_, rfl, hm, hb⟩
end Go.Proofs.YtmoldmnhijcckaaGreat
