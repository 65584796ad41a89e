/- Maps keyed by int, as what they hold at a key: look, put, delete. For whatever program. -/
import Derived.Test.YtmoldmnhijcckaaGreatMa02
import Derived.MapKept
import Derived.ChangeMaps4
import Derived.Laws.IdiomRangeMap
import Derived.Test.YtmoldmnhijcckaaGreatMa20
set_option linter.unusedVariables false
set_option linter.unusedSectionVars false
set_option linter.unusedSimpArgs false
namespace Go.Proofs.YtmoldmnhijcckaaGreat
open Go.RowKit
open Go.ChangeMaps (setBlock)
def entI (e : Int × Value × Nat) : MapEntry := ⟨.int .i64 e.1, e.2.1, e.2.2⟩
def getI (es : List (Int × Value × Nat)) (k : Int) : Option Value := (es.find? fun e => k == e.1).map (·.2.1)
def MapI (w : World) (b : Nat) (f : Int → Option Value) : Prop := ∃ (es : List (Int × Value × Nat)) (n : Nat), w.heap[b]? = some (.map (es.map entI).toArray n) ∧ (es.map (·.1)).Nodup ∧ ∀ k, getI es k = f k
theorem findNow_int_none (k : Int) : ∀ (es : List (Int × Value × Nat)) (i : Nat), (∀ e ∈ es, e.1 ≠ k) → Instr.findNow (.int .i64) (.int .i64 k) (es.map entI) i = some none
  | [], _, _ => rfl
  | e :: es, i, h => by
    have h1 : (k == e.1) = false := beq_eq_false_iff_ne.2 (fun e2 => h e (by simp) e2.symm)
    simp only [List.map_cons, Instr.findNow, entI, Instr.sameNow, if_true, h1]
    exact findNow_int_none k es (i + 1) (fun e he => h e (by simp [he]))
theorem findNow_int_some (k : Int) (v : Value) (bn : Nat) (post : List (Int × Value × Nat)) : ∀ (pre : List (Int × Value × Nat)) (i : Nat), (∀ e ∈ pre, e.1 ≠ k) → Instr.findNow (.int .i64) (.int .i64 k) ((pre ++ (k, v, bn) :: post).map entI) i = some (some (i + pre.length, v))
  | [], i, _ => by simp [Instr.findNow, entI, Instr.sameNow]
  | e :: pre, i, h => by
    have h1 : (k == e.1) = false := beq_eq_false_iff_ne.2 (fun e2 => h e (by simp) e2.symm)
    simp only [List.cons_append, List.map_cons, Instr.findNow, entI, Instr.sameNow, if_true, h1]
    rw [findNow_int_some k v bn post pre (i + 1) (fun e he => h e (by simp [he]))]
    simp only [List.length_cons]
    congr 3
    omega
theorem getI_none {es : List (Int × Value × Nat)} {k : Int} (h : getI es k = none) : ∀ e ∈ es, e.1 ≠ k := by
  unfold getI at h
  rw [Option.map_eq_none_iff, List.find?_eq_none] at h
  intro e he e2
  exact h e he (by simp [e2])
theorem getI_some {es : List (Int × Value × Nat)} {k : Int} {v : Value} (h : getI es k = some v) : ∃ pre bn post, es = pre ++ (k, v, bn) :: post ∧ ∀ e ∈ pre, e.1 ≠ k := by
  unfold getI at h
  rw [Option.map_eq_some_iff] at h
  obtain ⟨⟨k', v', bn⟩, h1, h2⟩ := h
  obtain ⟨h3, pre, post, h4, h5⟩ := List.find?_eq_some_iff_append.1 h1
  simp only at h2
  subst h2
  have h6 : k = k' := by simpa using h3
  subst h6
  exact ⟨pre, bn, post, h4, fun e he e2 => by have := h5 e he; simp [e2] at this⟩
section
variable {P : Program} {w : World} {t kt e : TypeId} {b : Nat} {f : Int → Option Value}
theorem MapI.look_some (h : MapI w b f) (ht : P.underlying t = some (.map kt e)) (hk : P.underlying kt = some (.int .i64)) {k : Int} {v : Value} (hf : f k = some v) :
    (Instr.lookup t (.map (some b)) (.int .i64 k) true).run P w = .ok (.tuple #[v, .bool true]) w := by
  obtain ⟨es, n, hh, hnd, hg⟩ := h
  obtain ⟨pre, bn, post, rfl, hp⟩ := getI_some ((hg k).trans hf)
  have hck : ∀ b, (Instr.checkKey b 10000 kt (.int .i64 k)).run P w = .ok () w := fun b => MapKept.run_checkKey hk (k := .int .i64 k) (by trivial) b 9999
  have hj := findNow_int_some k v bn post pre 0 hp
  simp only [Nat.zero_add] at hj
  simp [Instr.lookup, run_underlying ht, run_underlying hk, MapKept.run_getObj_map hh, hck, Instr.findKey, Result.andThen]
  simp only [List.map_append, List.map_cons] at hj
  simp [hj]
theorem MapI.look_none (h : MapI w b f) (ht : P.underlying t = some (.map kt e)) (hk : P.underlying kt = some (.int .i64)) {k : Int} {z : Value} (hz : (zeroValue e).run P w = .ok z w) (hf : f k = none) :
    (Instr.lookup t (.map (some b)) (.int .i64 k) true).run P w = .ok (.tuple #[z, .bool false]) w := by
  obtain ⟨es, n, hh, hnd, hg⟩ := h
  have hp := getI_none ((hg k).trans hf)
  have hck : ∀ b, (Instr.checkKey b 10000 kt (.int .i64 k)).run P w = .ok () w := fun b => MapKept.run_checkKey hk (k := .int .i64 k) (by trivial) b 9999
  have hj := findNow_int_none k es 0 hp
  simp [Instr.lookup, run_underlying ht, run_underlying hk, MapKept.run_getObj_map hh, hck, Instr.findKey, hj, hz, Result.andThen]
def updI (f : Int → Option Value) (k : Int) (v : Option Value) : Int → Option Value := fun k' => if k' = k then v else f k'
theorem grown_setBlock (w : World) (b : Nat) (o : Obj) : w.grownBy (setBlock w b o) (some b) := by
  refine ⟨rfl, rfl, rfl, by unfold setBlock; simp, fun k hk hne => ?_⟩
  unfold setBlock
  exact Array.getElem?_setIfInBounds_ne (fun e => hne (by rw [e]))
theorem heap_setBlock_same {w : World} {b : Nat} {o o' : Obj} (h : w.heap[b]? = some o) : (setBlock w b o').heap[b]? = some o' := by
  have hlt : b < w.heap.size := (Array.getElem?_eq_some_iff.1 h).1
  unfold setBlock
  simp [hlt]
theorem MapI.put (h : MapI w b f) (ht : P.underlying t = some (.map kt e)) (hk : P.underlying kt = some (.int .i64)) (k : Int) (v : Value) :
    ∃ W, (Instr.mapUpdate t (.map (some b)) (.int .i64 k) v).run P w = .ok () W ∧ MapI W b (updI f k (some v)) ∧ w.grownBy W (some b) := by
  obtain ⟨es, n, hh, hnd, hg⟩ := h
  have hck : ∀ b, (Instr.checkKey b 10000 kt (.int .i64 k)).run P w = .ok () w := fun b => MapKept.run_checkKey hk (k := .int .i64 k) (by trivial) b 9999
  cases hf : f k with
  | none =>
    have hp := getI_none ((hg k).trans hf)
    have hj := findNow_int_none k es 0 hp
    refine ⟨setBlock w b (.map ((es ++ [(k, v, n)]).map entI).toArray (n + 1)), ?_, ⟨es ++ [(k, v, n)], n + 1, heap_setBlock_same hh, ?_, fun k' => ?_⟩, grown_setBlock _ _ _⟩
    · simp [Instr.mapUpdate, run_underlying ht, run_underlying hk, MapKept.run_getObj_map hh, hck, Instr.findKey, hj, MapKept.run_setObj_map _ hh, Result.andThen, setBlock, entI]
    · rw [List.map_append, List.nodup_append]
      refine ⟨hnd, by simp, fun a ha c hc => ?_⟩
      obtain ⟨x, hx, rfl⟩ := List.mem_map.1 ha
      have : c = k := by simpa using hc
      rw [this]
      exact hp x hx
    · unfold updI
      have hg' := hg k'
      unfold getI at hg' ⊢
      rw [List.find?_append]
      by_cases hkk : k' = k
      · subst hkk
        have : (es.find? fun e => k' == e.1) = none := List.find?_eq_none.2 fun x hx => by simpa using fun e => hp x hx e.symm
        rw [this, if_pos rfl]
        simp
      · rw [if_neg hkk, ← hg']
        have : (List.find? (fun e : Int × Value × Nat => k' == e.1) [(k, v, n)]) = none := by simp [hkk]
        rw [this, Option.or_none]
  | some v0 =>
    obtain ⟨pre, bn, post, rfl, hp⟩ := getI_some ((hg k).trans hf)
    have hj := findNow_int_some k v0 bn post pre 0 hp
    simp only [Nat.zero_add] at hj
    have hsb : Instr.sameBits 10000 (.int .i64 k) (.int .i64 k) = true := by simp [Instr.sameBits]
    refine ⟨setBlock w b (.map ((pre ++ (k, v, bn) :: post).map entI).toArray n), ?_, ⟨pre ++ (k, v, bn) :: post, n, heap_setBlock_same hh, ?_, fun k' => ?_⟩, grown_setBlock _ _ _⟩
    · have hmod : (((pre ++ (k, v0, bn) :: post).map entI).toArray.modify pre.length fun e => { e with key := Value.int .i64 k, val := v }) = ((pre ++ (k, v, bn) :: post).map entI).toArray := by
        apply Array.ext_getElem?
        intro i
        rw [Array.getElem?_modify]
        simp only [List.map_append, List.map_cons, List.getElem?_toArray]
        by_cases hi : pre.length = i
        · subst hi
          simp [entI]
        · rw [if_neg hi]
          by_cases hlt : i < pre.length
          · rw [List.getElem?_append_left (by simpa using hlt), List.getElem?_append_left (by simpa using hlt)]
          · obtain ⟨d, hd⟩ : ∃ d, i - pre.length = d + 1 := ⟨i - pre.length - 1, by omega⟩
            rw [List.getElem?_append_right (by simpa using Nat.le_of_not_lt hlt), List.getElem?_append_right (by simpa using Nat.le_of_not_lt hlt)]
            simp [hd]
      have hat : (((pre ++ (k, v0, bn) :: post).map entI).toArray[pre.length]?).map (·.key) = some (Value.int .i64 k) := by simp [entI]
      have hkt : (Instr.keyThatStays (.int .i64 k) (.int .i64 k)).run P w = .ok (.int .i64 k) w := by unfold Instr.keyThatStays; simp [hsb]
      unfold Instr.mapUpdate
      simp only [Sem.run_bind, run_underlying ht, Result.andThen_ok, MapKept.run_getObj_map hh, hck, Instr.findKey, run_underlying hk, hj, Sem.run_pure, hat, Option.getD_some, hkt, hmod, MapKept.run_setObj_map _ hh]
      rfl
    · simpa using hnd
    · unfold updI
      have hg' := hg k'
      unfold getI at hg' ⊢
      rw [List.find?_append] at hg' ⊢
      by_cases hkk : k' = k
      · subst hkk
        have : (pre.find? fun e => k' == e.1) = none := List.find?_eq_none.2 fun x hx => by simpa using fun e => hp x hx e.symm
        rw [this, if_pos rfl]
        simp
      · rw [if_neg hkk, ← hg']
        simp [hkk]
theorem MapI.del (h : MapI w b f) (ht : P.underlying t = some (.map kt e)) (hk : P.underlying kt = some (.int .i64)) (k : Int) {v0 : Value} (hf : f k = some v0) :
    ∃ W, (∀ ty kt2, (Builtin.delete_ #[t, kt2] ty #[.map (some b), .int .i64 k]).run P w = .ok (.tuple #[]) W) ∧ MapI W b (updI f k none) ∧ w.grownBy W (some b) := by
  obtain ⟨es, n, hh, hnd, hg⟩ := h
  have hck : ∀ b, (Instr.checkKey b 10000 kt (.int .i64 k)).run P w = .ok () w := fun b => MapKept.run_checkKey hk (k := .int .i64 k) (by trivial) b 9999
  obtain ⟨pre, bn, post, rfl, hp⟩ := getI_some ((hg k).trans hf)
  have hj := findNow_int_some k v0 bn post pre 0 hp
  simp only [Nat.zero_add] at hj
  have hpost : ∀ e ∈ post, e.1 ≠ k := fun e he e2 => by
    rw [List.map_append, List.nodup_append] at hnd
    have h2 := (List.nodup_cons.1 (show (k :: post.map (·.1)).Nodup by have := hnd.2.1; rwa [List.map_cons] at this)).1
    exact h2 (List.mem_map.2 ⟨e, he, e2⟩)
  refine ⟨setBlock w b (.map ((pre ++ post).map entI).toArray n), fun ty kt2 => ?_, ⟨pre ++ post, n, heap_setBlock_same hh, ?_, fun k' => ?_⟩, grown_setBlock _ _ _⟩
  · have her : (((pre ++ (k, v0, bn) :: post).map entI).toArray.eraseIdxIfInBounds pre.length) = ((pre ++ post).map entI).toArray := by
      unfold Array.eraseIdxIfInBounds
      rw [dif_pos (by simp)]
      apply Array.toList_inj.1
      simp [List.eraseIdx_append_of_length_le]
    unfold Builtin.delete_
    simp [run_underlying ht, run_underlying hk, MapKept.run_getObj_map hh, hck, Instr.findKey, Result.andThen]
    simp only [List.map_append, List.map_cons] at hj her
    have her2 : (List.map entI pre ++ entI (k, v0, bn) :: List.map entI post).eraseIdx pre.length = List.map entI pre ++ List.map entI post := by simp [List.eraseIdx_append_of_length_le]
    simp [hj, her2, MapKept.run_setObj_map _ hh, setBlock, Result.andThen]
  · rw [List.map_append, List.map_cons, List.nodup_append] at hnd
    rw [List.map_append, List.nodup_append]
    refine ⟨hnd.1, (List.nodup_cons.1 hnd.2.1).2, fun a ha c hc => hnd.2.2 a ha c (by simp [hc])⟩
  · unfold updI
    have hg' := hg k'
    unfold getI at hg' ⊢
    rw [List.find?_append] at hg' ⊢
    by_cases hkk : k' = k
    · subst hkk
      have h1 : (pre.find? fun e => k' == e.1) = none := List.find?_eq_none.2 fun x hx => by simpa using fun e => hp x hx e.symm
      have h2 : (post.find? fun e => k' == e.1) = none := List.find?_eq_none.2 fun x hx => by simpa using fun e => hpost x hx e.symm
      rw [h1, h2, if_pos rfl]
      rfl
    · rw [if_neg hkk, ← hg']
      simp [hkk]
end
end Go.Proofs.YtmoldmnhijcckaaGreat
/- A cache in memory; session.last, remembered. -/
set_option linter.unusedVariables false
set_option linter.unusedSectionVars false
set_option linter.unusedSimpArgs false
namespace Go.Proofs.YtmoldmnhijcckaaGreat
open Go.RowKit
structure SetV where
  A : Option Addr
  c : Nat
  l : List Vrp
  sn : UInt32
instance : Inhabited SetV := ⟨⟨none, 0, [], 0⟩⟩
def SetV.cells (s : SetV) : List Value := [.slice s.A s.l.length s.c, .int .u32 s.sn.toNat]
theorem SetV.len (s : SetV) : s.cells.length = 2 := rfl
theorem SetV.one (s : SetV) : ∀ v ∈ s.cells, v.oneCell' = true := by intro v h; simp [SetV.cells] at h; rcases h with rfl | rfl <;> rfl
structure Lf where
  A : Option Addr
  c : Nat
  bs : List UInt8
def Lf.val (x : Lf) : Value := .slice x.A x.bs.length x.c
structure CA (W : World) (lo g b : Nat) (sess : Int) (serial : UInt32) (v : Value) (ss : List SetV) (f : Int → Option Lf) (many : Int) : Prop where
  blk : Blk W g 92 [.int .i64 sess, .int .u32 serial.toNat, v, .map (some b), .int .i64 many]
  row : W.ownsRow lo 100 2 v ss.length (ss.flatMap SetV.cells)
  sets : ∀ s ∈ ss, W.ownsRow lo 67 20 (.slice s.A s.l.length s.c) s.l.length (s.l.flatMap Vrp.cells)
  mp : MapI W b fun k => (f k).map Lf.val
  left : ∀ k x, f k = some x → Reads W W.heap.size 1 x.A x.bs.length (x.bs.map bv) ∧ x.bs.length ≤ x.c
  l1 : lo ≤ b
  l2 : b < g
theorem MapI.lt {w : World} {b : Nat} {f : Int → Option Value} (h : MapI w b f) : b < w.heap.size := by
  obtain ⟨es, n, hh, _⟩ := h
  exact (Array.getElem?_eq_some_iff.1 hh).1
theorem MapI.kept {w w' : World} {b : Nat} {f : Int → Option Value} (h : MapI w b f) (hk : w'.heap[b]? = w.heap[b]?) : MapI w' b f := by
  obtain ⟨es, n, hh, h2⟩ := h
  exact ⟨es, n, hk.trans hh, h2⟩
theorem CA.next {W W' : World} {lo g b : Nat} {sess : Int} {serial : UInt32} {v : Value} {ss : List SetV} {f : Int → Option Lf} {many : Int} (h : CA W lo g b sess serial v ss f many) (hb : Below W.heap.size W W') : CA W' lo g b sess serial v ss f many :=
  ⟨h.blk.below hb h.blk.lt, own_below h.row hb, fun s hs => own_below (h.sets s hs) hb, h.mp.kept (hb.block b h.mp.lt), fun k x hx => ⟨((h.left k x hx).1.below hb (Nat.le_refl _)).more hb.size, (h.left k x hx).2⟩, h.l1, h.l2⟩
theorem CA.drew {W : World} {lo g b : Nat} {sess : Int} {serial : UInt32} {v : Value} {ss : List SetV} {f : Int → Option Lf} {many : Int} (h : CA W lo g b sess serial v ss f many) : CA W.drew lo g b sess serial v ss f many := h.next (Below.refl _ _).drew
/-- Where the last set lies. -/
theorem CA.lastAt {W : World} {lo g b : Nat} {sess : Int} {serial : UInt32} {v : Value} {ss : List SetV} {f : Int → Option Lf} {many : Int} (h : CA W lo g b sess serial v ss f many) {s : SetV} (hs : ss.getLast? = some s) {gs n c : Nat} (hv : v = .slice (some ⟨gs, 0, none⟩) n c) :
    W.cell? ⟨gs, (ss.length - 1) * 2, none⟩ = some (.slice s.A s.l.length s.c) ∧ W.cell? ⟨gs, (ss.length - 1) * 2 + 1, none⟩ = some (.int .u32 s.sn.toNat) ∧ s ∈ ss := by
  subst hv
  have hne : ss ≠ [] := fun e => by rw [e] at hs; simp at hs
  have hlt : ss.length - 1 < ss.length := by have := List.length_pos_iff.2 hne; omega
  have hsl : ss[ss.length - 1] = s := by
    rw [List.getLast?_eq_getElem?, List.getElem?_eq_getElem hlt] at hs
    exact Option.some.inj hs
  have hn : ss.length = n := by
    have := h.row.2
    rcases this with ⟨e, _⟩ | ⟨_, _, _, e, _⟩
    · cases e
    · injection e with _ e2 _
      exact e2.symm
  subst hn
  have hat := (Reads.of_own h.row).elem SetV.len hlt rfl
  rw [hsl] at hat
  have h0 := hat 0 _ rfl
  have h1 := hat 1 _ rfl
  rw [add_plain', add_plain'] at h0 h1
  simp only [Nat.zero_add, Nat.add_zero] at h0 h1
  exact ⟨h0, h1, by rw [← hsl]; exact List.getElem_mem hlt⟩
def LastPost (v : Value) (ss : List SetV) (e : Ending) : Prop :=
  (ss = [] ∧ e = .returned (.pointer none)) ∨ ∃ s gs c, ss.getLast? = some s ∧ v = .slice (some ⟨gs, 0, none⟩) ss.length c ∧ e = .returned (.pointer (some ⟨gs, (ss.length - 1) * 2, none⟩))
set_option maxRecDepth 100000 in
set_option maxHeartbeats 1000000 in
theorem last_any (w : World) (lo g b : Nat) (sess : Int) (serial : UInt32) (v : Value) (ss : List SetV) (f : Int → Option Lf) (many : Int) (h : CA w lo g b sess serial v ss f many) (hl : ss.length ≤ 1000000) :
    Calls Tryz.prog 45 #[.pointer (some ⟨g, 0, none⟩)] w fun e w' => LastPost v ss e ∧ Below w.heap.size w w' := by
  have c2 := h.blk.cell 2
  simp only [List.getElem?_cons_zero, List.getElem?_cons_succ] at c2
  obtain ⟨A, c, rfl⟩ := own_slice' h.row
  by_cases hz : ss.length = 0
  · have he : ss = [] := List.eq_nil_of_length_eq_zero hz
    have HE := Lib.hid he
    have be0 : ((ss.length : Int) == 0) = true := by simp [hz]
    clear he hz
    go_enter Tryz.func45, Tryz.ntmps45
    go_wp2_with fail
    go_ret
    exact ⟨.inl ⟨HE.out, rfl⟩, Below.refl _ _⟩
  · obtain ⟨s, hs⟩ : ∃ s, ss.getLast? = some s := by
      cases h : ss.getLast? with
      | none => rw [List.getLast?_eq_none_iff] at h; rw [h] at hz; simp at hz
      | some y => exact ⟨y, rfl⟩
    obtain ⟨gs, rfl⟩ : ∃ gs, A = some ⟨gs, 0, none⟩ := by
      rcases h.row.2 with ⟨e, hz2⟩ | ⟨g', _, _, e, _⟩
      · omega
      · injection e with e1 _ _
        exact ⟨g', e1⟩
    have HS := Lib.hid hs
    have be0 : ((ss.length : Int) == 0) = false := beq_eq_false_iff_ne.2 (by omega)
    have hkm : IntKind.i64.wrap ((ss.length : Int) - 1) = ((ss.length - 1 : Nat) : Int) := by rw [IntWalk.i64_in _ (by omega)]; omega
    have hk3 : ((ss.length - 1 : Nat) : Int) < (ss.length : Int) := by omega
    have hk4 : (0 : Int) ≤ ((ss.length - 1 : Nat) : Int) := by omega
    clear hs
    go_enter Tryz.func45, Tryz.ntmps45
    go_upto_region 3 with fail
    refine reg_sch2 12 [(true, 0), (true, 1), (true, 2), (true, 3), (true, 4), (true, 5), (true, 6), (true, 7), (true, 8), (true, 9), (true, 10), (true, 11)] (by kernel_rfl) (by kernel_rfl) (fun W => CA W lo g b sess serial (.slice (some ⟨gs, 0, none⟩) ss.length c) ss f many ∧ Below w.heap.size w W) (fun W => CA W lo g b sess serial (.slice (some ⟨gs, 0, none⟩) ss.length c) ss f many ∧ Below w.heap.size w W) ?_ ?_ ?_
    · exact ⟨h.drew, (Below.refl _ _).drew⟩
    · exact fun _ h => h
    intro W hSW
    simp only [List.map_cons, List.map_nil, List.getD_cons_zero, List.getD_cons_succ, List.drop_succ_cons, List.drop_zero]
    refine hd_pure (v := ?_) (by rfl) (fun W' hS' => ?_) ?_ -- 0
    rotate_left
    · have c2 := hS'.1.blk.cell 2; simp only [List.getElem?_cons_zero, List.getElem?_cons_succ] at c2; clear hS'; (go_simp; first | with_reducible rfl | rfl)
    try simp only [Act.put, List.setIfInBounds_toArray, List.set_cons_zero, List.set_cons_succ]
    refine hd_pure (v := ?_) (by rfl) (fun W' hS' => ?_) ?_ -- 1
    rotate_left
    · have c2 := hS'.1.blk.cell 2; simp only [List.getElem?_cons_zero, List.getElem?_cons_succ] at c2; clear hS'; (go_simp; first | with_reducible rfl | rfl)
    try simp only [Act.put, List.setIfInBounds_toArray, List.set_cons_zero, List.set_cons_succ]
    refine hd_pure (v := ?_) (by rfl) (fun W' hS' => ?_) ?_ -- 2
    rotate_left
    · have c2 := hS'.1.blk.cell 2; simp only [List.getElem?_cons_zero, List.getElem?_cons_succ] at c2; clear hS'; (go_simp; first | with_reducible rfl | rfl)
    try simp only [Act.put, List.setIfInBounds_toArray, List.set_cons_zero, List.set_cons_succ]
    refine hd_pure (v := ?_) (by rfl) (fun W' hS' => ?_) ?_ -- 3
    rotate_left
    · have c2 := hS'.1.blk.cell 2; simp only [List.getElem?_cons_zero, List.getElem?_cons_succ] at c2; clear hS'; (go_simp; first | with_reducible rfl | rfl)
    try simp only [Act.put, List.setIfInBounds_toArray, List.set_cons_zero, List.set_cons_succ]
    refine hd_pure (v := ?_) (by rfl) (fun W' hS' => ?_) ?_ -- 4
    rotate_left
    · have c2 := hS'.1.blk.cell 2; simp only [List.getElem?_cons_zero, List.getElem?_cons_succ] at c2; clear hS'; (go_simp; first | with_reducible rfl | rfl)
    try simp only [Act.put, List.setIfInBounds_toArray, List.set_cons_zero, List.set_cons_succ]
    refine hd_pure (v := ?_) (by rfl) (fun W' hS' => ?_) ?_ -- 5
    rotate_left
    · have c2 := hS'.1.blk.cell 2; simp only [List.getElem?_cons_zero, List.getElem?_cons_succ] at c2; clear hS'; (go_simp; first | with_reducible rfl | rfl)
    try simp only [Act.put, List.setIfInBounds_toArray, List.set_cons_zero, List.set_cons_succ]
    refine hd_pure (v := ?_) (by rfl) (fun W' hS' => ?_) ?_ -- 6
    rotate_left
    · have c2 := hS'.1.blk.cell 2; simp only [List.getElem?_cons_zero, List.getElem?_cons_succ] at c2; clear hS'; (go_simp; first | with_reducible rfl | rfl)
    try simp only [Act.put, List.setIfInBounds_toArray, List.set_cons_zero, List.set_cons_succ]
    refine hd_pure (v := ?_) (by rfl) (fun W' hS' => ?_) ?_ -- 7
    rotate_left
    · have c2 := hS'.1.blk.cell 2; simp only [List.getElem?_cons_zero, List.getElem?_cons_succ] at c2; clear hS'; (go_simp; first | with_reducible rfl | rfl)
    try simp only [Act.put, List.setIfInBounds_toArray, List.set_cons_zero, List.set_cons_succ]
    refine hd_pure (v := ?_) (by rfl) (fun W' hS' => ?_) ?_ -- 8
    rotate_left
    · have c2 := hS'.1.blk.cell 2; simp only [List.getElem?_cons_zero, List.getElem?_cons_succ] at c2; clear hS'; (go_simp; first | with_reducible rfl | rfl)
    try simp only [Act.put, List.setIfInBounds_toArray, List.set_cons_zero, List.set_cons_succ]
    refine hd_pure (v := ?_) (by rfl) (fun W' hS' => ?_) ?_ -- 9
    rotate_left
    · have c2 := hS'.1.blk.cell 2; simp only [List.getElem?_cons_zero, List.getElem?_cons_succ] at c2; clear hS'; (go_simp; first | with_reducible rfl | rfl)
    try simp only [Act.put, List.setIfInBounds_toArray, List.set_cons_zero, List.set_cons_succ]
    refine hd_pure (v := ?_) (by rfl) (fun W' hS' => ?_) ?_ -- 10
    rotate_left
    · have c2 := hS'.1.blk.cell 2; simp only [List.getElem?_cons_zero, List.getElem?_cons_succ] at c2; clear hS'; (go_simp; first | with_reducible rfl | rfl)
    try simp only [Act.put, List.setIfInBounds_toArray, List.set_cons_zero, List.set_cons_succ]
    refine hd_pure (v := ?_) (by rfl) (fun W' hS' => ?_) ?_ -- 11
    rotate_left
    · have c2 := hS'.1.blk.cell 2; simp only [List.getElem?_cons_zero, List.getElem?_cons_succ] at c2; clear hS'; (go_simp; first | with_reducible rfl | rfl)
    try simp only [Act.put, List.setIfInBounds_toArray, List.set_cons_zero, List.set_cons_succ]
    refine hd_nil ?_
    have hb := hSW.2; clear hSW
    refine wpList_nil (NoPanic.normal ?_)
    go_wp2_with fail
    go_ret
    exact ⟨.inr ⟨s, gs, c, HS.out, rfl, rfl⟩, hb⟩
end Go.Proofs.YtmoldmnhijcckaaGreat
