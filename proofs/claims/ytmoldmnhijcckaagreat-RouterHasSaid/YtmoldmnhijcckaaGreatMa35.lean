/- session.Update ahead of any router. -/
import Derived.Test.YtmoldmnhijcckaaGreatMa34
set_option linter.unusedVariables false
set_option linter.unusedSectionVars false
set_option linter.unusedSimpArgs false
namespace Go.Proofs.YtmoldmnhijcckaaGreat
open Go.RowKit
theorem info_setO : (Tryz.prog.info? 100).map (fun i => (i.zero, i.size, i.bytes)) = some (some (.agg zSet.toArray), 2, 32) := by kernel_rfl
theorem sets_one (ts : List SetV) : ∀ u ∈ ts.flatMap SetV.cells, u.oneCell' = true := by
  intro u hu
  obtain ⟨x, _, h⟩ := List.mem_flatMap.1 hu
  exact SetV.one x u h
theorem wp_build1S {P : Program} {o : Oper} {a : Act} {w : World} {K : Act → World → Prop} {Q : Exit → Act → World → Prop} (t e : TypeId) (x : Operand) (ho : o.op = .buildSlice t 1 #[(0, x)]) (cs : List Value) (n : Nat) (hx : a.eval x = .agg cs.toArray) (hl : cs.length = n)
    (hu : P.underlying t = some (.slice e)) (hie : (P.info? e).map (·.size) = some n) (hz : ((P.info? e).bind (·.zero)).isSome = true) (hp : 0 < n) (hsm : n ≤ 1000)
    (h : K (a.put o.dst (.slice (some ⟨w.heap.size, 0, none⟩) 1 1)) (w.alloc (.cells cs.toArray e))) : o.wp P a w K Q := by
  cases hq : P.info? e with
  | none => simp [hq] at hie
  | some ie =>
    simp only [hq, Option.map_some, Option.some.injEq, Option.bind_some] at hie hz
    obtain ⟨z, hz⟩ := Option.isSome_iff_exists.1 hz
    unfold Oper.wp execOp
    have hr := run_build1 (P := P) w t e ie z cs hu hq hz (by rw [hl]; exact hie) (by omega) (by omega)
    simp only [ho, List.map_toArray, List.map_cons, List.map_nil, hx, Sem.run_bind, hr, Result.andThen_ok]
    exact h
set_option maxRecDepth 100000 in
set_option maxHeartbeats 1000000 in
theorem cloneS_any (ts : List SetV) (n : Nat) (hn : ts.length = n) (ad : Addr) (c B : Nat) (hlen : n ≤ 1000000) (w : World) (hB : B ≤ w.heap.size) (hr : Reads w B 2 (some ad) n (ts.flatMap SetV.cells)) :
    Calls Tryz.prog 47 #[.slice (some ad) n c] w fun e w' => ∃ A' c', e = .returned (.slice A' n c') ∧ w'.ownsRow w.heap.size 100 2 (.slice A' n c') n (ts.flatMap SetV.cells) ∧ Below w.heap.size w w' := by
  subst hn
  obtain ⟨i0, hi0, hz0, hz1, hz2⟩ := info_parts info_setO
  have hl0 := own_litV w w.heap.size 100 2 (Nat.le_refl _)
  have hbA : Below w.heap.size w (w.alloc (.cells #[] 100)) := (Below.refl _ _).alloc (Nat.le_refl _) _
  have hz : (Go.binOp .eql 90 (.slice (some ad) ts.length c) (.slice none 0 0)).run Tryz.prog w = .ok (.bool false) w := Lib.run_eql_slice_nil w _ _ (some ad) ts.length c 0 0 Tryz.underlying90
  go_enter Tryz.func47, Tryz.ntmps47
  go_wp2_with (at_builtin; go_must (refine wpList_append_any _ rfl _ _ 90 rfl w.heap.size 100 i0 _ 2 32 Tryz.underlying90 hi0 hz0 hz1 hz2 rfl (by omega) _ 0 _ rfl hl0 B (some ad) ts.length c _ rfl (hr.alloc hB _) (sets_one ts) (by simp only [maxLen]; omega) (by omega) (by simp) ?_; intro v4 w4 ho4 hg4 _; rw [Nat.zero_add, List.nil_append] at ho4; obtain ⟨A4, c4, rfl⟩ := own_slice' ho4; have hb4 := hbA.grown hg4 (by simp) (fun k hk => (own_base_le hl0 k hk).1); clear hg4))
  go_ret
  exact ⟨A4, c4, rfl, ho4, hb4⟩
def absS (ss : List SetV) : List (List Vrp × UInt32) := ss.map fun s => (s.l, s.sn)
def updS (l : List (List Vrp × UInt32)) : List (List Vrp × UInt32) := if 5 < l.length then l.drop 1 else l
def noLf : Int → Option Lf := fun _ => none
/-- No router has anything left. -/
def E0 (f : Int → Option Lf) : Prop := ∀ k x, f k = some x → x.bs = []
theorem E0.none_ : E0 noLf := fun k x hx => by cases hx
theorem E0.reads {f : Int → Option Lf} (h : E0 f) {k : Int} {x : Lf} (hx : f k = some x) (W : World) (hc : x.bs.length ≤ x.c) : Reads W W.heap.size 1 x.A x.bs.length (x.bs.map bv) ∧ x.bs.length ≤ x.c := by
  refine ⟨?_, hc⟩
  rw [h k x hx]
  exact ⟨rfl, fun hn => absurd hn (by simp)⟩
/-- What else an update leaves alone. -/
def KeepS (g : Nat) (w w' : World) : Prop := w.heap.size ≤ w'.heap.size ∧ ∀ k, k < w.heap.size → k ≠ g → (∀ cs, ¬ Blk w k 100 cs) → w'.heap[k]? = w.heap[k]?
theorem KeepS.refl (g : Nat) (w : World) : KeepS g w w := ⟨Nat.le_refl _, fun _ _ _ _ => rfl⟩
theorem KeepS.trans {g : Nat} {a b c : World} (h : KeepS g a b) (k : KeepS g b c) : KeepS g a c :=
  ⟨Nat.le_trans h.1 k.1, fun i hi h1 h2 => by
    have e := h.2 i hi h1 h2
    refine (k.2 i (Nat.lt_of_lt_of_le hi h.1) h1 fun cs hb => h2 cs ?_).trans e
    unfold Blk at hb ⊢
    rw [← e]; exact hb⟩
theorem KeepS.of (g : Nat) {w w' : World} (h : Below w.heap.size w w') : KeepS g w w' := ⟨h.size, fun k hk _ _ => h.block k hk⟩
theorem KeepS.cell (g i : Nat) (w : World) (u : Value) : KeepS g w (w.setCell ⟨g, i, none⟩ u) := ⟨by rw [World.size_setCell]; exact Nat.le_refl _, fun k _ hk _ => Below.heap_setCell w ⟨g, i, none⟩ u k hk⟩
theorem KeepS.cells (g : Nat) {w : World} {g7 i : Nat} {cs : List Value} (vs : List Value) (hB : Blk w g7 100 cs) : KeepS g w (w.setCells g7 i vs) :=
  ⟨(Below.setCells (Nat.zero_le g7) vs i (Below.refl 0 w)).size, fun k _ _ h2 => heap_setCells vs w i k (fun e => h2 cs (by rw [e]; exact hB))⟩
theorem KeepS.row (g : Nat) {w w' : World} {base n : Nat} {v : Value} {xs : List Value} (hr : w.ownsRow base 100 2 v n xs) (hg : w.grownBy w' v.ownBlock) : KeepS g w w' :=
  ⟨hg.size, fun k hk _ h2 => hg.block k hk fun e => by
    rcases hr.2 with ⟨rfl, _⟩ | ⟨g', cap, cur, rfl, _, hh, _⟩
    · simp [Value.ownBlock] at e
    · have e2 : k = g' := by simpa [Value.ownBlock] using e
      exact h2 cur.toList (by rw [e2]; exact hh)⟩
structure LoS (lo g : Nat) (w w' : World) : Prop where
  lo : Below lo w w'
  kp : KeepS g w w'
theorem LoS.trans {lo g : Nat} {a b c : World} (h : LoS lo g a b) (k : LoS lo g b c) : LoS lo g a c := ⟨h.lo.trans k.lo, h.kp.trans k.kp⟩
theorem LoS.then {lo g : Nat} {a b c : World} (h : LoS lo g a b) (hl : lo ≤ b.heap.size) (k : Below b.heap.size b c) : LoS lo g a c := h.trans ⟨k.mono hl, .of g k⟩
theorem LoS.setCell {lo g : Nat} {a b : World} (h : LoS lo g a b) (hg : lo ≤ g) (i : Nat) (u : Value) : LoS lo g a (b.setCell ⟨g, i, none⟩ u) := ⟨h.lo.setCell (p := ⟨g, i, none⟩) hg u, h.kp.trans (.cell g i b u)⟩
theorem LoS.row {lo g : Nat} {a b c : World} {base n : Nat} {v : Value} {xs : List Value} (h : LoS lo g a b) (hl : lo ≤ b.heap.size) (hb : lo ≤ base) (hr : b.ownsRow base 100 2 v n xs) (hg : b.grownBy c v.ownBlock) : LoS lo g a c :=
  ⟨Below.grown h.lo hg hl (fun k hk => Nat.le_trans hb (own_base_le hr k hk).1), h.kp.trans (.row g hr hg)⟩
theorem LoS.cells {lo g : Nat} {a b : World} {g7 i : Nat} {cs : List Value} (h : LoS lo g a b) (vs : List Value) (hl : lo ≤ g7) (hB : Blk b g7 100 cs) : LoS lo g a (b.setCells g7 i vs) := ⟨Below.setCells hl _ _ h.lo, h.kp.trans (.cells g vs hB)⟩
def UpdPostF (w : World) (lo g b : Nat) (sess : Int) (serial : UInt32) (v : Value) (ss : List SetV) (f : Int → Option Lf) (many : Int) (R : List Vrp) (e : Ending) (w' : World) : Prop :=
  ((ss.getLast?.map SetV.l = some R ∧ e = .returned (.tuple #[.bool false, .int .i64 0]) ∧ CA w' lo g b sess serial v ss f many) ∨
   (ss.getLast?.map SetV.l ≠ some R ∧ e = .returned (.tuple #[.bool true, .int .i64 0]) ∧ ∃ v' ss', absS ss' = updS (absS ss ++ [(R, serial + 1)]) ∧ CA w' lo g b sess (serial + 1) v' ss' f many)) ∧ LoS lo g w w'
def UpdPost (w : World) (lo g b : Nat) (sess : Int) (serial : UInt32) (v : Value) (ss : List SetV) (many : Int) (R : List Vrp) (e : Ending) (w' : World) : Prop :=
  ((ss.getLast?.map SetV.l = some R ∧ e = .returned (.tuple #[.bool false, .int .i64 0]) ∧ CA w' lo g b sess serial v ss noLf many) ∨
   (ss.getLast?.map SetV.l ≠ some R ∧ e = .returned (.tuple #[.bool true, .int .i64 0]) ∧ ∃ v' ss', absS ss' = updS (absS ss ++ [(R, serial + 1)]) ∧ CA w' lo g b sess (serial + 1) v' ss' noLf many)) ∧ Below lo w w'
theorem CA.setG {W : World} {lo g b : Nat} {sess : Int} {serial : UInt32} {v : Value} {ss : List SetV} {f : Int → Option Lf} (hf0 : E0 f) {many : Int} (h : CA W lo g b sess serial v ss f many) (i : Nat) (u : Value) {sn : UInt32} (hc : [Value.int .i64 sess, .int .u32 serial.toNat, v, .map (some b), .int .i64 many].set i u = [Value.int .i64 sess, .int .u32 sn.toNat, v, .map (some b), .int .i64 many]) :
    CA (W.setCell ⟨g, i, none⟩ u) lo g b sess sn v ss f many := by
  have hset : ∀ k, k ≠ g → (W.setCell ⟨g, i, none⟩ u).heap[k]? = W.heap[k]? := fun k hk => Below.heap_setCell W ⟨g, i, none⟩ u k hk
  have hl2 := h.l2
  exact ⟨by rw [← hc]; exact h.blk.set_ i u, own_kept h.row fun k hk => hset k (fun e => by subst e; exact own_blk_ne h.row h.blk (by decide) hk), fun s hs => own_kept (h.sets s hs) fun k hk => hset k (fun e => by subst e; exact own_blk_ne (h.sets s hs) h.blk (by decide) hk), h.mp.kept (hset b (by omega)), (fun k x hx => hf0.reads hx _ (h.left k x hx).2), h.l1, h.l2⟩
/-- Another row of sets is put into a cache. -/
theorem CA.setRow {W w7 : World} {lo g b : Nat} {sess : Int} {serial : UInt32} {v v7 : Value} {ss ss' : List SetV} {f : Int → Option Lf} (hf0 : E0 f) {many : Int} (h : CA W lo g b sess serial v ss f many) {row : Option Nat} (hg : W.grownBy w7 row) (hrg : row ≠ some g) (hrb : row ≠ some b)
    (ho : w7.ownsRow lo 100 2 v7 ss'.length (ss'.flatMap SetV.cells)) (hs : ∀ s ∈ ss', w7.ownsRow lo 67 20 (.slice s.A s.l.length s.c) s.l.length (s.l.flatMap Vrp.cells)) : CA (w7.setCell ⟨g, 2, none⟩ v7) lo g b sess serial v7 ss' f many := by
  have hset : ∀ k, k ≠ g → (w7.setCell ⟨g, 2, none⟩ v7).heap[k]? = w7.heap[k]? := fun k hk => Below.heap_setCell w7 ⟨g, 2, none⟩ v7 k hk
  have hl2 := h.l2
  have hB := h.blk.grown hg (fun e => hrg e.symm)
  exact ⟨hB.set_ 2 v7, own_kept ho fun k hk => hset k (fun e => by subst e; exact own_blk_ne ho hB (by decide) hk), fun s hs' => own_kept (hs s hs') fun k hk => hset k (fun e => by subst e; exact own_blk_ne (hs s hs') hB (by decide) hk), h.mp.kept ((hset b (by omega)).trans (hg.block b h.mp.lt (fun e => hrb e.symm))), (fun k x hx => hf0.reads hx _ (h.left k x hx).2), h.l1, h.l2⟩
end Go.Proofs.YtmoldmnhijcckaaGreat
