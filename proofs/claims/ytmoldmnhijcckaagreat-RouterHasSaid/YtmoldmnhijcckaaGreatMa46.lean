/- maps.Keys over a map of rows, slices.Collect behind it: the keys come, each once, in some order. -/
import Derived.Test.YtmoldmnhijcckaaGreatMa40
import Derived.Test.YtmoldmnhijcckaaGreatMa04
import Derived.Test.YtmoldmnhijcckaaGreatMa08
import Derived.Test.YtmoldmnhijcckaaGreatMa12
import Derived.RangeFuncNested
import Derived.RangeFuncBound
import Derived.RangeFuncCalls
import Derived.RangeFuncLeaves
import Derived.RangeFuncFrom
import Derived.RangeFuncBox
import Derived.Maps.AppendAt
import Derived.Shelf.Abstract
import Derived.Shelf.AbstractIn
import Derived.Shelf.RegionOpen
import Derived.Sort.MapsRangeIn
import Derived.WalkKit
import Derived.OwnWalkIn
import Derived.TacticsInMore
import Derived.RegionIn
import Derived.LoopNIn
import Derived.LoopIn
set_option linter.unusedVariables false
set_option linter.unusedSectionVars false
set_option linter.unusedSimpArgs false
namespace Go.Proofs.YtmoldmnhijcckaaGreat
open Go.RowKit Go.Shelf
section
variable {F : Fence} {n : Nat} {w : World} {ops : Array Oper} {rest : List Oper} {o : Oper} {a : Act} {Q : Exit → Act → World → Prop}
theorem wpListIn_range_V (hg : o.guard = none) (m : Operand) (hop : o.op = Op.range 76 m) (b : Nat) (ks : List Vrp) (hm : a.eval m = .map (some b)) (h : MapV w b ks)
    (hK : ∀ w', RanV w' b w.heap.size ks [] → w.grownBy w' none → w'.heap.size = w.heap.size + 1 → wpListIn F n Tryz.prog ops Q rest (a.put o.dst (.pointer (some ⟨w.heap.size, 0, none⟩))) w') : wpListIn F n Tryz.prog ops Q (o :: rest) a w := by
  refine wpListIn_plain hg fun K' hK' => ?_
  obtain ⟨w', hrun, r1, r2, r3⟩ := h.range
  unfold Oper.wpIn
  refine ⟨?_, ?_⟩
  · simp [Oper.about, hop]
  · rw [Oper.semAt_plain F _ _ (by rw [hop]; intro c hc'; cases hc')]
    simp [execOp, hop, hm, hrun, Result.andThen]
    exact hK' _ _ (hK w' r1 r2 r3)
theorem wpListIn_next_V (hg : o.guard = none) (it : Operand) (hop : o.op = Op.next it false) (b r : Nat) (ks done : List Vrp) (hit : a.eval it = .pointer (some ⟨r, 0, none⟩)) (h : RanV w b r ks done)
    (hDone : (∀ x ∈ ks, x ∈ done) → wpListIn F n Tryz.prog ops Q rest (a.put o.dst (.tuple #[.bool false])) w)
    (hMore : ∀ x w', x ∈ ks → x ∉ done → RanV w' b r ks (done ++ [x]) → w.grownBy w' (some r) → w'.heap.size = w.heap.size → (Instr.entry (.pointer (some ⟨r, 0, none⟩))).run Tryz.prog w' = .ok (.tuple #[.agg x.cells.toArray, .bool true]) w' → w'.rangeLeft b r < w.rangeLeft b r →
      wpListIn F n Tryz.prog ops Q rest (a.put o.dst (.tuple #[.bool true, .agg x.cells.toArray, .bool true])) w') : wpListIn F n Tryz.prog ops Q (o :: rest) a w := by
  refine wpListIn_plain hg fun K' hK' => ?_
  unfold Oper.wpIn
  refine ⟨by simp [Oper.about, hop], ?_⟩
  rw [Oper.semAt_plain F _ _ (by rw [hop]; intro c hc'; cases hc')]
  rcases h.next o.type with ⟨h0, hrun⟩ | ⟨x, w', hx, hnx, hrun, hrg, hgr, hsz, hen, hlt⟩
  · simp [execOp, hop, hit, hrun, Result.andThen]
    exact hK' _ _ (hDone h0)
  · simp [execOp, hop, hit, hrun, Result.andThen]
    exact hK' _ _ (hMore x w' hx hnx hrg hgr hsz hen hlt)
end
theorem wpListIn_load_at {F : Fence} {nF : Nat} {P : Program} {ops : Array Oper} {rest : List Oper} {op : Oper} {a : Act} {w : World} {Q : Exit → Act → World → Prop} (hgd : op.guard = none) (ty : TypeId) (x : Operand) (ho : op.op = .load ty x) (g o n : Nat) (hx : a.eval x = .pointer (some ⟨g, o, none⟩)) (vs : List Value) (d : TypeDesc)
    (hr : w.rangeAt g o vs) (hl : vs.length = n) (hu : P.underlying ty = some d) (hd : d.isRow = true) (hi : (P.info? ty).map (·.size) = some n)
    (h : wpListIn F nF P ops Q rest (a.put op.dst (.agg vs.toArray)) w) : wpListIn F nF P ops Q (op :: rest) a w := by
  refine wpListIn_plain hgd fun K hK => ?_
  have hrun := exec_load_at (P := P) (op := op) (a := a) (w := w) ty x ho g o n hx vs d hr hl hu hd hi
  unfold Oper.wpIn
  refine ⟨by simp [Oper.about, ho], ?_⟩
  rw [Oper.semAt_plain F _ _ (by rw [ho]; intro c hc'; cases hc')]
  simp only [hrun, Result.andThen_ok]
  exact hK _ _ h
theorem wpListIn_store_at {F : Fence} {nF : Nat} {P : Program} {ops : Array Oper} {rest : List Oper} {op : Oper} {a : Act} {w : World} {Q : Exit → Act → World → Prop} (hgd : op.guard = none) (ty : TypeId) (x y : Operand) (ho : op.op = .store ty x y) (g o n : Nat) (t : TypeId) (vs cs : List Value) (hx : a.eval x = .pointer (some ⟨g, o, none⟩)) (hy : a.eval y = .agg vs.toArray)
    (hB : Blk w g t cs) (hl : vs.length = n) (hn : o + n ≤ cs.length) (hi : (P.info? ty).map (·.size) = some n) (h1 : ∀ v ∈ vs, v.oneCell' = true)
    (h : wpListIn F nF P ops Q rest (a.put op.dst undef) (w.setCells g o vs)) : wpListIn F nF P ops Q (op :: rest) a w := by
  refine wpListIn_plain hgd fun K hK => ?_
  unfold Oper.wpIn
  refine ⟨by simp [Oper.about, ho], ?_⟩
  rw [Oper.semAt_plain F _ _ (by rw [ho]; intro c hc'; cases hc')]
  have hrun := run_storeVar_mid (P := P) w g o ty vs.toArray (hB.there (n := vs.toArray.size) (by rw [List.size_toArray]; omega) o (by rw [List.size_toArray]; omega)) (by simp only [List.size_toArray, hl]; exact hi) (all_oneCell_toArray h1)
  unfold execOp
  simp only [ho, hx, hy, Instr.storeAt, Instr.sureAddr, Sem.run_bind, Sem.run_pure, Result.andThen_ok, hrun]
  exact hK _ _ h
theorem keepsFrom_below {B : Nat} {W W' : World} (hb : Below W.heap.size W W') : KeepsFrom B W W' := ⟨hb.size, fun k o _ hk _ => (hb.block k (Array.getElem?_eq_some_iff.1 hk).1).trans hk⟩
theorem keepsWalks_below {W W' : World} (hb : Below W.heap.size W W') : KeepsWalks W W' := ⟨hb.size, fun k o hk _ => (hb.block k (Array.getElem?_eq_some_iff.1 hk).1).trans hk⟩
theorem keepsWalks_others {W W' : World} (h : KeepsOthers W W') : KeepsWalks W W' := ⟨h.size, fun k o hk hw => h.same k o hk (Obj.not_cells_of_walk hw)⟩
theorem RanV.of_walks {w w' : World} {b r : Nat} {ks done : List Vrp} (h : RanV w b r ks done) (hk : KeepsWalks w w') : RanV w' b r ks done := by
  obtain ⟨l, n, since, c0, seen, dl, hh, hE, hr, rest⟩ := h.at_
  exact ⟨l, n, since, c0, seen, dl, hk.same b _ hh rfl, hE, hk.same r _ hr rfl, rest⟩
theorem RanV.iter_walk {w : World} {b r : Nat} {ks done : List Vrp} (h : RanV w b r ks done) : ∃ o : Obj, w.heap[r]? = some o ∧ o.isWalk = true := by
  obtain ⟨l, n, since, c0, seen, dl, hh, hE, hr, rest⟩ := h.at_
  exact ⟨_, hr, rfl⟩
theorem RanV.left_walks {w w' : World} {b r : Nat} {ks done : List Vrp} (h : RanV w b r ks done) (hk : KeepsWalks w w') : w'.rangeLeft b r = w.rangeLeft b r := by
  obtain ⟨l, n, since, c0, seen, dl, hh, hE, hr, rest⟩ := h.at_
  unfold World.rangeLeft
  rw [hk.same b _ hh rfl, hk.same r _ hr rfl, hh, hr]
set_option maxRecDepth 100000 in
set_option maxHeartbeats 1000000 in
theorem keys1V_in (F : Fence) (n : Nat) (h10 : F.fn 69) (hro : F.round = none) (hn : 1 ≤ n) (l Bm b : Nat) (ks : List Vrp) (J Jx : List Vrp → World → Prop)
    (hY : ∀ pre x W, J pre W → pre.length < ks.length → YieldAt F (n - 1) Tryz.prog l #[.agg (Vrp.cells x).toArray] W fun e W' =>
      (e = .returned (.bool true) ∧ J (pre ++ [x]) W' ∧ KeepsWalks W W') ∨ (e = .returned (.bool false) ∧ Jx (pre ++ [x]) W'))
    (W : World) (hJ : AbidesFrom W.heap.size J) (hm : W.cell? ⟨Bm, 0, none⟩ = some (.map (some b))) (hM : MapV W b ks) (h0 : J [] W) :
    CallsIn F n Tryz.prog 69 #[.func (.yield l) #[] #[], .pointer (some ⟨Bm, 0, none⟩)] W fun e W' => (∃ v, e = .returned v) ∧
      ((∃ xs : List Vrp, (xs.Nodup ∧ ∀ x, x ∈ xs ↔ x ∈ ks) ∧ J xs W') ∨ (∃ pre : List Vrp, True ∧ Jx pre W')) := by
  refine callsIn_of_wp Tryz.func69 rfl h10 ?_ hro
  simp only [Tryz.ntmps69, List.size_toArray, List.length_cons, List.length_nil, Nat.reduceAdd, Nat.reduceSub, Array.replicate_succ, Array.replicate_zero, List.push_toArray, List.append_toArray, List.nil_append, List.cons_append]
  gi_wp2_with (first
    | (gi_at_range; refine wpListIn_range_V rfl _ rfl b ks rfl hM ?_; intro w0 hrg0 hg0 hs0)
    | gi_in)
  go_frame
  gi_loopw [3] (fun _ wr => ∃ (ss : List Vrp), RanV wr b W.heap.size ks ss ∧ J ss wr) (fun _ wr => wr.rangeLeft b W.heap.size)
  case atStart => exact ⟨[], hrg0, hJ [] W w0 none h0 hg0 (fun r e => by cases e)⟩
  case round =>
    obtain ⟨ss, hrg, hJs⟩ := hrel
    gi_wp2_with (first
      | (gi_at_next; refine wpListIn_next_V rfl _ rfl b W.heap.size ks ss rfl hrg ?_ ?_)
      | gi_in)
    · intro hall
      gi_wp2
      go_end0
      exact ⟨⟨_, rfl⟩, .inl ⟨ss, ⟨hrg.few.1, fun x => ⟨hrg.few.2.1 x, hall x⟩⟩, hJs⟩⟩
    · intro x w2 hx hnx hrg2 hg2 hs2 hen hlt
      have hJ2 : J ss w2 := hJ ss wr w2 (some W.heap.size) hJs hg2 (fun r e => by cases e; exact ⟨Nat.le_refl _, hrg.iter_walk⟩)
      have hlen : ss.length < ks.length := by have := hrg2.few.2.2; rw [List.length_append, List.length_singleton] at this; omega
      have hbX : Below w2.heap.size w2 ((w2.alloc (.cells #[.int .u32 0, .bool false, .int .u8 0, .int .u8 0, .int .u8 0, .int .u8 0, .int .u8 0, .int .u8 0, .int .u8 0, .int .u8 0, .int .u8 0, .int .u8 0, .int .u8 0, .int .u8 0, .int .u8 0, .int .u8 0, .int .u8 0, .int .u8 0, .int .i64 0, .int .i64 0] 67)).setCells w2.heap.size 0 x.cells) := Below.setCells (Nat.le_refl _) _ _ ((Below.refl _ _).alloc (Nat.le_refl _) _)
      have hX : Blk ((w2.alloc (.cells #[.int .u32 0, .bool false, .int .u8 0, .int .u8 0, .int .u8 0, .int .u8 0, .int .u8 0, .int .u8 0, .int .u8 0, .int .u8 0, .int .u8 0, .int .u8 0, .int .u8 0, .int .u8 0, .int .u8 0, .int .u8 0, .int .u8 0, .int .u8 0, .int .i64 0, .int .i64 0] 67)).setCells w2.heap.size 0 x.cells) w2.heap.size 67 x.cells := Blk.setCells_all (cs := (default : Vrp).cells) (Blk.new w2 67 (default : Vrp).cells) (Vrp.cells_length _)
      have hrX := hX.range
      have hJ3 := hJ ss w2 _ none hJ2 (grown_below hbX) (fun r e => by cases e)
      have hltX : World.rangeLeft ((w2.alloc (.cells #[.int .u32 0, .bool false, .int .u8 0, .int .u8 0, .int .u8 0, .int .u8 0, .int .u8 0, .int .u8 0, .int .u8 0, .int .u8 0, .int .u8 0, .int .u8 0, .int .u8 0, .int .u8 0, .int .u8 0, .int .u8 0, .int .u8 0, .int .u8 0, .int .i64 0, .int .i64 0] 67)).setCells w2.heap.size 0 x.cells) b W.heap.size < World.rangeLeft wr b W.heap.size := by have := hrg2.left_walks (keepsWalks_below hbX); rw [← this] at hlt; exact hlt
      replace hrg2 := hrg2.of_walks (keepsWalks_below hbX)
      obtain ⟨fn, tmps, assign, body, hy, hR⟩ := hY ss x _ hJ3 hlen
      clear hs2 hX
      gi_wp2_with (first
        | (refine wpListIn_store_at rfl 67 _ _ rfl w2.heap.size 0 20 67 x.cells (default : Vrp).cells rfl rfl (blk_new' _ _ _ _ rfl) (Vrp.cells_length _) (by decide) info_vrp (Vrp.one _) ?_)
        | (refine wpListIn_load_at rfl 67 _ rfl w2.heap.size 0 20 rfl _ _ hrX (Vrp.cells_length _) Tryz.underlying67 rfl info_vrp ?_))
      refine hR.mono ?_
      rintro e W3 (⟨rfl, hJ3, hk3⟩ | ⟨rfl, hJx3⟩)
      · gi_wp2
        have hrg3 := hrg2.of_walks hk3
        go_roundw
        case rel => exact ⟨ss ++ [x], hrg3, hJ3⟩
        case measure => rw [hrg2.left_walks hk3]; exact hltX
      · gi_wp2
        refine bodyPost_ret (results_none rfl _ _ _) rfl ?_
        exact ⟨⟨_, rfl⟩, .inr ⟨ss ++ [x], trivial, hJx3⟩⟩
theorem keysV_stops (F : Fence) (n : Nat) (h10 : F.fn 69) (hro : F.round = none) (hn : 1 ≤ n) (Bm b : Nat) (ks : List Vrp) (w : World) (hBm : Bm < w.heap.size) (hm : w.cell? ⟨Bm, 0, none⟩ = some (.map (some b))) (hM : MapV w b ks) :
    SeqStopsK F n Tryz.prog 69 #[.pointer (some ⟨Bm, 0, none⟩)] (fun x : Vrp => #[.agg x.cells.toArray]) KeepsWalks (fun xs => xs.Nodup ∧ ∀ x, x ∈ xs ↔ x ∈ ks) (fun _ => True) ks.length w := fun l J Jx W hW hJ _ hY h0 =>
  keys1V_in F n h10 hro hn l Bm b ks J Jx hY W hJ ((hW.cell (p := ⟨Bm, 0, none⟩) hBm).trans hm) (hM.below hW) h0
theorem wpListIn_build1 {F : Fence} {nF : Nat} {P : Program} {ops : Array Oper} {rest : List Oper} {o : Oper} {a : Act} {w : World} {Q : Exit → Act → World → Prop} (hg : o.guard = none) (t e : TypeId) (x : Operand) (ho : o.op = .buildSlice t 1 #[(0, x)]) (cs : List Value) (n : Nat) (hx : a.eval x = .agg cs.toArray) (hl : cs.length = n)
    (hu : P.underlying t = some (.slice e)) (hie : (P.info? e).map (·.size) = some n) (hz : ((P.info? e).bind (·.zero)).isSome = true) (hp : 0 < n) (hsm : n ≤ 1000)
    (h : wpListIn F nF P ops Q rest (a.put o.dst (.slice (some ⟨w.heap.size, 0, none⟩) 1 1)) (w.alloc (.cells cs.toArray e))) : wpListIn F nF P ops Q (o :: rest) a w := by
  cases hq : P.info? e with
  | none => simp [hq] at hie
  | some ie =>
    simp only [hq, Option.map_some, Option.some.injEq, Option.bind_some] at hie hz
    obtain ⟨z, hz⟩ := Option.isSome_iff_exists.1 hz
    refine wpListIn_plain hg fun K hK => ?_
    have hr := run_build1 (P := P) w t e ie z cs hu hq hz (by rw [hl]; exact hie) (by omega) (by omega)
    unfold Oper.wpIn
    refine ⟨by simp [Oper.about, ho], ?_⟩
    rw [Oper.semAt_plain F _ _ (by rw [ho]; intro c hc'; cases hc')]
    simp only [execOp, ho, List.map_toArray, List.map_cons, List.map_nil, hx, Sem.run_bind, hr, Result.andThen_ok]
    exact hK _ _ h
theorem blk_own (B : Nat) (g : Nat) (t : TypeId) (cs : List Value) (q : Prop) : OwnFrom B (fun (_ : Unit) W => Blk W g t cs ∧ q) := fun _ X Y row ⟨h, hq⟩ hg hr => ⟨(hg.block g h.lt fun e => by
  obtain ⟨_, o, ho, hc⟩ := hr g e.symm
  unfold Blk at h
  rw [h] at ho
  cases ho
  cases hc).trans h, hq⟩
/-- What AppendSeq holds in its slots while it goes through the keys. -/
def apTmps (Bm B0 Bx : Nat) (x : Vrp) : Array Value := #[.slice none 0 0, .func (.func 69) #[] #[.pointer (some ⟨Bm, 0, none⟩)], .pointer (some ⟨B0, 0, none⟩), undef, .slice none 0 0, .pointer (some ⟨Bx, 0, none⟩), .func (.func 69) #[] #[.pointer (some ⟨Bm, 0, none⟩)], .agg x.cells.toArray, undef, undef, undef, undef, undef]
set_option maxRecDepth 100000 in
set_option maxHeartbeats 4000000 in
theorem appendV_in (F : Fence) (n : Nat) (h11 : F.fn 68) (h10 : F.fn 69) (hro : F.round = none) (hn : 3 ≤ n) (Bm b : Nat) (ks : List Vrp) (hk6 : ks.length ≤ 1000000) (w : World) (hBm : Bm < w.heap.size) (hm : w.cell? ⟨Bm, 0, none⟩ = some (.map (some b))) (hM : MapV w b ks) :
    CallsIn F n Tryz.prog 68 #[.slice none 0 0, .func (.func 69) #[] #[.pointer (some ⟨Bm, 0, none⟩)]] w fun e w' => ∃ (v : Value) (xs : List Vrp), e = .returned v ∧ (xs.Nodup ∧ ∀ x, x ∈ xs ↔ x ∈ ks) ∧ w'.ownsRow w.heap.size 67 20 v xs.length (xs.flatMap Vrp.cells) ∧ Below w.heap.size w w' := by
  have h1 : 1 ≤ n := by omega
  obtain ⟨i0, hi0, hz0, hz1, hz2⟩ := info_parts info_vrpO
  refine callsIn_of_wp_marks Tryz.func68 rfl h11 ?_ hro
  simp only [Tryz.ntmps68, List.size_toArray, List.length_cons, List.length_nil, Nat.reduceAdd, Nat.reduceSub, Array.replicate_succ, Array.replicate_zero, List.push_toArray, List.append_toArray, List.nil_append, List.cons_append]
  gi_wp2
  have hb0 : Below w.heap.size w (w.alloc (.cells #[.slice none 0 0] 27)) := (Below.refl _ w).alloc (Nat.le_refl _) _
  refine wpIn_rangeFunc_ownH hro h1 (gf := 69) (lb := #[.pointer (some ⟨Bm, 0, none⟩)]) rfl h10 (enters_of Tryz.func69 (by kernel_rfl) rfl)
    (keysV_stops F (n - 1) h10 hro (by omega) Bm b ks _ (by simp; omega) ((hb0.cell (p := ⟨Bm, 0, none⟩) hBm).trans hm) (hM.kept (hb0.block b hM.lt))) walksK_t walksK_b (Below.refl _ _) (fun _ => rfl)
    (fun pre W => (∃ v, Boxed W w.heap.size 27 v ∧ W.ownsRow w.heap.size 67 20 v pre.length (pre.flatMap Vrp.cells) ∧ True) ∧ Below w.heap.size w W) (fun _ _ _ => False)
    (OwnFrom.and (Own.from (holdsRow_own w.heap.size w.heap.size 27 67 20 (fun pre : List Vrp => pre.length) (fun pre => pre.flatMap Vrp.cells) (fun _ _ => True)) _) (ownFrom_below (Nat.le_refl _) (by simp)))
    (fun _ _ _ _ _ hs _ _ => hs) ⟨⟨_, Boxed.new w _ _, World.ownsRow_nil _ _ _ _, trivial⟩, hb0⟩
    (fun x a' W => ∃ Bx, Blk W Bx 67 (Vrp.cells x) ∧ a' = { tmps := apTmps Bm w.heap.size Bx x, defers := [] })
    (fun x a' u X Y row ⟨Bx, hb, hq⟩ hg hr => ⟨Bx, blk_own _ Bx 67 (Vrp.cells x) _ () X Y row ⟨hb, hq⟩ hg hr⟩) ?assign ?body ?done ?stop
  case assign =>
    rintro l pre x W K ⟨⟨v, hv, hown, _⟩, hlo⟩ hK
    have hsem := @Oper.semAt_some
    have hbX : Below W.heap.size W ((W.alloc (.cells #[.int .u32 0, .bool false, .int .u8 0, .int .u8 0, .int .u8 0, .int .u8 0, .int .u8 0, .int .u8 0, .int .u8 0, .int .u8 0, .int .u8 0, .int .u8 0, .int .u8 0, .int .u8 0, .int .u8 0, .int .u8 0, .int .u8 0, .int .u8 0, .int .i64 0, .int .i64 0] 67)).setCells W.heap.size 0 x.cells) := Below.setCells (Nat.le_refl _) _ _ ((Below.refl _ _).alloc (Nat.le_refl _) _)
    have hX : Blk ((W.alloc (.cells #[.int .u32 0, .bool false, .int .u8 0, .int .u8 0, .int .u8 0, .int .u8 0, .int .u8 0, .int .u8 0, .int .u8 0, .int .u8 0, .int .u8 0, .int .u8 0, .int .u8 0, .int .u8 0, .int .u8 0, .int .u8 0, .int .u8 0, .int .u8 0, .int .i64 0, .int .i64 0] 67)).setCells W.heap.size 0 x.cells) W.heap.size 67 x.cells := Blk.setCells_all (cs := (default : Vrp).cells) (Blk.new W 67 (default : Vrp).cells) (Vrp.cells_length _)
    gi_wp2_with (refine wpListIn_store_at rfl 67 _ _ rfl W.heap.size 0 20 67 x.cells (default : Vrp).cells rfl rfl (blk_new' _ _ _ _ rfl) (Vrp.cells_length _) (by decide) info_vrp (Vrp.one _) ?_)
    exact hK _ _ (keepsFrom_below hbX) (keepsWalks_below hbX) ⟨⟨v, (hbX.block _ hv.lt).trans hv, own_below hown hbX, trivial⟩, below_then hlo (Nat.le_refl _) hbX⟩ ⟨W.heap.size, hX, rfl⟩
  case body =>
    rintro l pre x a' W hl6 hl7 ⟨⟨v, hv, hown, _⟩, hlo⟩ ⟨Bx, hX, rfl⟩ hlen
    have hsem := @Oper.semAt_some
    have hc := hv.cell
    have hf := hv.frozen
    have hrg := hX.range
    unfold apTmps
    gi_wp2_with (first
      | (refine wpListIn_load_at rfl 67 _ rfl Bx 0 20 rfl _ _ hrg (Vrp.cells_length _) Tryz.underlying67 rfl info_vrp ?_)
      | (refine wpListIn_build1 (by rfl) 27 67 _ (by rfl) x.cells 20 (by rfl) (Vrp.cells_length _) Tryz.underlying27 (by kernel_rfl) (by kernel_rfl) (by omega) (by omega) ?_)
      | (gi_at_builtin; refine wpListIn_append_own _ rfl _ _ 27 rfl w.heap.size 67 i0 _ 20 48 Tryz.underlying27 hi0 hz0 hz1 hz2 rfl (by omega) _ _ _ rfl (hown.alloc _) ⟨W.heap.size, 0, none⟩ 1 1 x.cells rfl (Vrp.cells_length _) (fun j u hu => by rw [add_plain', Nat.zero_add, (Blk.new W _ _).cell]; exact hu) (Vrp.one _) (by simp only [maxLen]; omega) (by omega) (by have := hlo.size; simp; omega) ?_; intro v3 w3 hown3 hg3 _; obtain ⟨A3, c3, rfl⟩ := own_slice' hown3; obtain ⟨hv3, hv4, hown4, hk4, hb4⟩ := hv.appended (by decide) hown hlo.size (Nat.le_refl _) hown3 hg3; have hc3 := hv3.cell; have hf3 := hv3.frozen))
    have hown5 : (w3.setCell ⟨w.heap.size, 0, none⟩ (Value.slice A3 (pre.length + 1) c3)).ownsRow w.heap.size 67 20 (Value.slice A3 (pre.length + 1) c3) (pre ++ [x]).length ((pre ++ [x]).flatMap Vrp.cells) := by
      rw [List.length_append, List.flatMap_append]
      simpa only [List.flatMap_cons, List.flatMap_nil, List.append_nil, List.length_singleton] using hown4
    refine ⟨hk4.from _, keepsWalks_others hk4, ⟨_, hv4, ?_⟩, hlo.trans hb4⟩
    first | exact hown5 | exact ⟨hown5, trivial⟩
  case done =>
    rintro D ys W hD hS ⟨⟨v, hv, hown, _⟩, hlo⟩ hK
    have hc := hv.cell
    gi_wp2
    refine ⟨by simp, .inl ⟨_, _, rfl, run_takeDeferred hK, ?_⟩⟩
    have hg := grownBy_putObj' W D (.deferred none)
    have hne : v.ownBlock ≠ some D := fun e => by
      rcases hown.2 with ⟨rfl, _⟩ | ⟨g', cap, cur, rfl, _, hgb, _⟩
      · simp [Value.ownBlock] at e
      · have e2 : g' = D := by simpa [Value.ownBlock] using e
        subst e2
        rw [hgb] at hK
        cases hK
    exact ⟨_, results_tmp rfl _ _ _, v, ys, rfl, hS, own_kept hown fun k hk => hg.block k (own_base_le hown k hk).2 (fun e => hne (by rw [hk, ← e])), hlo.grown hg hlo.size (fun k e => by cases e; simp at hD; omega)⟩
  case stop =>
    rintro D c pre W _ _ h _
    exact h.elim
end Go.Proofs.YtmoldmnhijcckaaGreat
