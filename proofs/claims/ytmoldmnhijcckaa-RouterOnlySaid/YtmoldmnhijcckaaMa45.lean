/- session.New, Open, Close. -/
import Derived.Test.YtmoldmnhijcckaaMa40
import Derived.Test.YtmoldmnhijcckaaMa44
set_option linter.unusedVariables false
set_option linter.unusedSectionVars false
set_option linter.unusedSimpArgs false
namespace Go.Proofs.Ytmoldmnhijcckaa
open Go.RowKit
theorem CA.start (w : World) (sess : Int) (serial : UInt32) : CA ((w.alloc (.map #[] 0)).alloc (.cells #[.int .i64 sess, .int .u32 serial.toNat, .slice none 0 0, .map (some w.heap.size), .int .i64 0] 110)) w.heap.size (w.heap.size + 1) w.heap.size sess serial (.slice none 0 0) [] (fun _ => none) 0 := by
  refine ⟨blk_new' _ _ [_, _, _, _, _] _ (by simp), World.ownsRow_nil _ _ _ _, fun s hs => absurd hs (by simp), ⟨[], 0, ?_, by simp, fun k => rfl⟩, fun k x hx => (by cases hx), Nat.le_refl _, Nat.lt_succ_self _⟩
  rw [Below.heap_alloc _ _ _ (by simp)]
  exact heap_alloc_new w _
set_option maxRecDepth 100000 in
set_option maxHeartbeats 1000000 in
theorem snew_any (sess : Int) (serial : UInt32) (h0 : 0 ≤ sess) (h1 : sess ≤ 65535) (w : World) : Calls Try.prog 59 #[.int .i64 sess, .int .u32 serial.toNat] w fun e w' =>
    ∃ g b, e = .returned (.tuple #[.pointer (some ⟨g, 0, none⟩), .int .i64 0]) ∧ CA w' w.heap.size g b sess serial (.slice none 0 0) [] (fun _ => none) 0 ∧ Below w.heap.size w w' := by
  have hC := CA.start w sess serial
  have hlo : Below w.heap.size w ((w.alloc (.map #[] 0)).alloc (.cells #[.int .i64 sess, .int .u32 serial.toNat, .slice none 0 0, .map (some w.heap.size), .int .i64 0] 110)) := ((Below.refl _ _).alloc (Nat.le_refl _) _).alloc (by simp) _
  have d0 : decide (sess < 0) = false := decide_eq_false (by omega)
  have d1 : decide ((65535 : Int) < sess) = false := decide_eq_false (by omega)
  have hmm := @run_makeMap Try.prog
  go_enter Try.func59, Try.ntmps59
  go_wp2_with fail
  exact bodyPost_ret (v := .tuple #[.pointer (some ⟨w.heap.size + 1, 0, none⟩), .int .i64 0]) (by simp [results, Try.results59, go_sem]) rfl ⟨_, _, rfl, hC, hlo⟩
theorem CA.many {W : World} {lo g b : Nat} {sess : Int} {serial : UInt32} {v : Value} {ss : List SetV} {f : Int → Option Lf} {many : Int} (h : CA W lo g b sess serial v ss f many) (m : Int) (hlg : lo ≤ g) : CA (W.setCell ⟨g, 4, none⟩ (.int .i64 m)) lo g b sess serial v ss f m := by
  have hset : ∀ k, k ≠ g → (W.setCell ⟨g, 4, none⟩ (.int .i64 m)).heap[k]? = W.heap[k]? := fun k hk => Below.heap_setCell W ⟨g, 4, none⟩ _ k hk
  have hl2 := h.l2
  refine ⟨h.blk.set_ 4 _, own_kept h.row fun k hk => hset k (fun e => by subst e; exact own_blk_ne h.row h.blk (by decide) hk), fun s hs => own_kept (h.sets s hs) fun k hk => hset k (fun e => by subst e; exact own_blk_ne (h.sets s hs) h.blk (by decide) hk), h.mp.kept (hset b (by omega)), fun k x hx => ⟨?_, (h.left k x hx).2⟩, h.l1, h.l2⟩
  have hr := (h.left k x hx).1
  refine ⟨hr.1, fun hn => ?_⟩
  obtain ⟨ad, e, hb, hc⟩ := hr.2 hn
  refine ⟨ad, e, by rw [World.size_setCell]; exact hb, fun j u hu => ?_⟩
  rw [World.cell?_setCell_other]
  · exact hc j u hu
  · intro e2
    have h1 := hc j u hu
    rw [← e2, h.blk.cell 4] at h1
    have hj : j < x.bs.length := by have := (List.getElem?_eq_some_iff.1 hu).1; simpa using this
    rw [List.getElem?_map, List.getElem?_eq_getElem hj] at hu
    have h2 := hu.trans h1.symm
    simp [bv] at h2
set_option maxRecDepth 100000 in
set_option maxHeartbeats 1000000 in
theorem open_any (w : World) (lo g b : Nat) (sess : Int) (serial : UInt32) (v : Value) (ss : List SetV) (f : Int → Option Lf) (many : Int) (h : CA w lo g b sess serial v ss f many) (h0 : 0 ≤ many) (h1 : many ≤ 1000000) :
    Calls Try.prog 33 #[.pointer (some ⟨g, 0, none⟩)] w fun e w' => e = .returned (.int .i64 many) ∧ CA w' lo g b sess serial v ss (fun k => if k = many then some ⟨none, 0, []⟩ else f k) (many + 1) ∧ Fr2 w w' g b := by
  have c4 := h.blk.cell 4
  have f4 := h.blk.frozen 4
  simp only [List.getElem?_cons_zero, List.getElem?_cons_succ] at c4
  have hlg : lo ≤ g := by have := h.l1; have := h.l2; omega
  have hw : IntKind.i64.wrap (many + 1) = many + 1 := IntWalk.i64_in _ (by omega)
  have hC2 := h.many (many + 1) hlg
  have cm := hC2.blk.cell 3
  simp only [List.getElem?_cons_zero, List.getElem?_cons_succ] at cm
  obtain ⟨w4, hrun, hM4, hG4⟩ := hC2.mp.put (P := Try.prog) Try.underlying108 Try.underlying3 many (.slice none 0 0)
  have hC4 := hC2.putLeft many (some ⟨none, 0, []⟩) (fun y hy => by cases hy; exact ⟨Reads.nil, Nat.le_refl _⟩) hM4 hG4
  have hF : Fr2 w w4 g b := (Fr2.of (grown_setCell (grown_refl w (some g)) 4 (.int .i64 (many + 1)))).trans (Fr2.of' hG4)
  clear h hC2 hM4 hG4
  go_enter Try.func33, Try.ntmps33
  go_wp2_with fail
  go_ret
  exact ⟨rfl, hC4, hF⟩
set_option maxRecDepth 100000 in
set_option maxHeartbeats 1000000 in
theorem close_any (id : Int) (w : World) (lo g b : Nat) (sess : Int) (serial : UInt32) (v : Value) (ss : List SetV) (f : Int → Option Lf) (many : Int) (h : CA w lo g b sess serial v ss f many) :
    Calls Try.prog 35 #[.pointer (some ⟨g, 0, none⟩), .int .i64 id] w fun e w' => e = .returned (.int .i64 (if (f id).isSome then 0 else 10)) ∧ CA w' lo g b sess serial v ss (fun k => if k = id then none else f k) many ∧ w.grownBy w' (some b) := by
  have cm := h.blk.cell 3
  simp only [List.getElem?_cons_zero, List.getElem?_cons_succ] at cm
  cases hf : f id with
  | none =>
    have hlook := h.mp.look_none Try.underlying108 Try.underlying3 (P := Try.prog) (k := id) (Try.zeroValue30 w) (by simp [hf])
    have hfe : (fun k => if k = id then (none : Option Lf) else f k) = f := by
      funext k
      by_cases hk : k = id
      · rw [hk, hf]; simp
      · simp [hk]
    have hC : CA w lo g b sess serial v ss (fun k => if k = id then none else f k) many := by rw [hfe]; exact h
    have HF := Lib.hid hf
    clear hf hfe
    go_enter Try.func35, Try.ntmps35
    go_wp2_with fail
    go_ret
    exact ⟨rfl, hC, grown_refl _ _⟩
  | some x =>
    have hlook := h.mp.look_some Try.underlying108 Try.underlying3 (P := Try.prog) (k := id) (v := x.val) (by simp [hf])
    unfold Lf.val at hlook
    obtain ⟨w7, hrun7, hM7, hG7⟩ := h.mp.del (P := Try.prog) Try.underlying108 Try.underlying3 id (v0 := x.val) (by simp [hf])
    have hC7 := h.putLeft id none (fun y hy => by cases hy) hM7 hG7
    have HF := Lib.hid hf
    clear hf hM7
    go_enter Try.func35, Try.ntmps35
    go_wp2_with fail
    go_ret
    exact ⟨rfl, hC7, hG7⟩
end Go.Proofs.Ytmoldmnhijcckaa
