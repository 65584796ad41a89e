/- The contracts of repo's ask (deferred) and Get. -/
import Derived.Test.YtmoldmnhijcckaaDoorRepN
import Derived.Test.YtmoldmnhijcckaaDoorAd4
import Derived.Defers
set_option linter.unusedVariables false
set_option linter.unusedSectionVars false
set_option linter.unusedSimpArgs false
namespace Go.Proofs.YtmoldmnhijcckaaDoor
open Go.RowKit
open Go.ChangeMaps (setBlock)
def askF (ks : List ByteArray) (u : ByteArray) : List ByteArray := if ks.any (fun k => u == k) then ks else ks ++ [u]
def askKv (k : ByteArray) : ByteArray × Value := (k, .bool true)
theorem findK_ask (u : ByteArray) : ∀ ks : List ByteArray, findK u (ks.map askKv) = if ks.any (fun k => u == k) then some (.bool true) else none
  | [] => rfl
  | k :: ks => by
    by_cases h : (u == k) = true
    · simp [findK, askKv, h]
    · have ih := findK_ask u ks
      simp only [Bool.not_eq_true] at h
      simp only [List.map_cons, findK, askKv, List.any_cons, h, Bool.false_eq_true, if_false, Bool.false_or]
      exact ih
/-- What a step of a repo leaves as it was: all blocks but its own two and the row of what was asked for. -/
structure Fr (w w' : World) (lo : Nat) (bad : Nat → Prop) : Prop where
  lo : Below lo w w'
  keep : ∀ k, k < w.heap.size → ¬ bad k → w'.heap[k]? = w.heap[k]?
theorem below_then' {lo : Nat} {w w1 w2 : World} (hlo : lo ≤ w.heap.size) (hb : Below w.heap.size w w1) (h : Below lo w1 w2) : Below lo w w2 := (hb.mono hlo).trans h
/-- The row of what was asked for does not lie in a block. -/
def AskOff (w : World) (g k : Nat) : Prop := ∀ v, w.cell? ⟨g, 2, none⟩ = some v → v.ownBlock ≠ some k
def badAt (w : World) (g b2 : Nat) (k : Nat) : Prop := k = g ∨ k = b2 ∨ ∃ v, w.cell? ⟨g, 2, none⟩ = some v ∧ v.ownBlock = some k
def metObj (ks : List ByteArray) : Obj := .map (mapEs (ks.map askKv)) (ks.map askKv).length
theorem RepoAt.asked {w W4 : World} {lo g b1 b2 : Nat} {es : List Blb} {ks : List ByteArray} (h : RepoAt w lo g b1 b2 es ks) (u : ByteArray) {v v4 : Value} {o : Obj} (hv : w.cell? ⟨g, 2, none⟩ = some v)
    (hg4 : ((setBlock w b2 (metObj (ks ++ [u]))).alloc o).grownBy W4 v.ownBlock) (ho4 : W4.ownsRow (g + 1) 9 1 v4 (ks.length + 1) ((ks ++ [u]).map Value.string)) :
    RepoAt (W4.setCell ⟨g, 2, none⟩ v4) lo g b1 b2 es (ks ++ [u]) ∧ Fr w (W4.setCell ⟨g, 2, none⟩ v4) lo (badAt w g b2) := by
  obtain ⟨v', hB, ho⟩ := h.blk
  have e : v' = v := by have := hB.cell 2; rw [hv] at this; simpa using this.symm
  subst e
  have l1 := h.l1
  have l2 := h.l2
  have l3 := h.l3
  have hlt := h.gsize
  have hsz : ((setBlock w b2 (metObj (ks ++ [u]))).alloc o).heap.size = w.heap.size + 1 := by rw [World.size_alloc]; unfold setBlock; simp
  have hkeep : ∀ k, k < w.heap.size → k ≠ g → k ≠ b2 → v'.ownBlock ≠ some k → (W4.setCell ⟨g, 2, none⟩ v4).heap[k]? = w.heap[k]? := fun k hk h1 h2 h3 => by
    rw [Below.heap_setCell W4 ⟨g, 2, none⟩ v4 k h1, hg4.block k (by omega) (fun e => h3 e.symm), Below.heap_alloc _ _ _ (by unfold setBlock; simpa using hk), heap_setBlock_far w _ h2]
  have hne1 : ∀ k, v'.ownBlock = some k → g + 1 ≤ k := fun k hk => (own_base_le ho k hk).1
  refine ⟨⟨⟨v4, ?_, own_kept (by simpa using ho4) fun k hk => Below.heap_setCell W4 _ v4 k (by have := (own_base_le ho4 k hk).1; show k ≠ g; omega)⟩, ?_, ?_, fun x hx => ⟨own_kept (h.rd x hx).1 fun k hk => ?_, (h.rd x hx).2⟩, l1, l2, l3⟩, ?_, fun k hk hb => hkeep k hk (fun e => hb (.inl e)) (fun e => hb (.inr (.inl e))) (fun e => hb (.inr (.inr ⟨_, hv, e⟩)))⟩
  · have := (((hB.setBlock_far (b := b2) (metObj (ks ++ [u])) (by omega)).alloc o).grown hg4 (fun e => by have := hne1 g e.symm; omega)).set_ 2 v4
    exact this
  · exact (hkeep b1 h.m1.lt (by omega) (by omega) (fun e => by have := hne1 b1 e; omega)).trans h.m1
  · have h1 : MapAt (setBlock w b2 (metObj (ks ++ [u]))) b2 ((ks ++ [u]).map askKv) := MapAt.put (l := ks.map askKv) h.m2 _
    exact ((h1.alloc o).grown hg4 (fun e => by have := hne1 b2 e.symm; omega)).far (by show b2 ≠ g; omega) v4
  · have hk2 := own_base_le (h.rd x hx).1 k hk
    exact hkeep k hk2.2 (by omega) (by omega) (own_own_ne (h.rd x hx).1 ho (by decide) k hk)
  · refine ⟨hg4.os, hg4.tape, hg4.output, ?_, fun k hk => hkeep k (by omega) (by omega) (by omega) (fun e => by have := hne1 k e; omega)⟩
    have := hg4.size
    show w.heap.size ≤ (W4.setCell ⟨g, 2, none⟩ v4).heap.size
    rw [World.size_setCell]
    omega
set_option maxRecDepth 100000 in
set_option maxHeartbeats 2000000 in
theorem ask_any (u : ByteArray) (w : World) (lo g b1 b2 : Nat) (es : List Blb) (ks : List ByteArray) (h : RepoAt w lo g b1 b2 es ks) (hk : ks.length ≤ 1000000) (md : FrameMode) :
    CallsD Tryd.prog 50 #[.pointer (some ⟨g, 0, none⟩), .string u] md w fun e u' w' => u' = md ∧ (e = .returned (.tuple #[]) ∧ RepoAt w' lo g b1 b2 es (askF ks u) ∧ Fr w w' lo (badAt w g b2) ∧ ∀ k, k < w.heap.size → AskOff w g k → AskOff w' g k) := by
  obtain ⟨v, hB, ho⟩ := h.blk
  have c1 : w.cell? ⟨g, 1, none⟩ = some (.map (some b2)) := hB.cell 1
  have c2 : w.cell? ⟨g, 2, none⟩ = some v := hB.cell 2
  cases hm : ks.any (fun k => u == k)
  · have hf : findK u (ks.map askKv) = none := by rw [findK_ask, hm]; rfl
    have hl := run_look_none (P := Tryd.prog) Tryd.underlying73 Tryd.underlying9 h.m2 (Tryd.zeroValue4 _) hf false
    have hput := run_put_new (P := Tryd.prog) (l := ks.map askKv) Tryd.underlying73 Tryd.underlying9 h.m2 (.bool true) hf
    go_enter_d Tryd.func50, Tryd.ntmps50
    go_upto_region 2 with fail
    have HK := Lib.hid (show askF ks u = ks ++ [u] by unfold askF; rw [hm]; rfl)
    have e1 : (Obj.map (mapEs (ks.map askKv ++ [(u, Value.bool true)])) (ks.length + 1)) = metObj (ks ++ [u]) := by unfold metObj; rw [List.map_append]; simp; rfl
    rw [e1]
    have c2' : (setBlock w b2 (metObj (ks ++ [u]))).cell? ⟨g, 2, none⟩ = some v := (hB.setBlock_far (b := b2) (metObj (ks ++ [u])) (by have := h.l3; omega)).cell 2
    have ho' : (setBlock w b2 (metObj (ks ++ [u]))).ownsRow (g + 1) 9 1 v ks.length (ks.map Value.string) := own_kept ho fun k hk => heap_setBlock_far w _ (by have := (own_base_le ho k hk).1; have := h.l3; omega)
    have hB' := hB.setBlock_far (b := b2) (metObj (ks ++ [u])) (by have := h.l3; omega)
    have hgW : g + 1 ≤ (setBlock w b2 (metObj (ks ++ [u]))).heap.size := hB'.lt
    have hgs := h.gsize
    clear hl hput hf hm c1 e1
    obtain ⟨i0, hi0, hz0, hz1, hz2⟩ := info_parts info_str
    generalize hW1 : setBlock w b2 (metObj (ks ++ [u])) = W1 at *
    go_wp2_with (at_builtin; go_must (refine wpList_append_any _ rfl _ _ 35 rfl (g + 1) 9 i0 _ 1 16 Tryd.underlying35 hi0 hz0 hz1 hz2 rfl (by omega) _ ks.length _ rfl (own_below ho' ((Below.refl _ _).alloc (Nat.le_refl _) _)) (W1.heap.size + 1) (some ⟨W1.heap.size, 0, none⟩) 1 1 _ rfl (reads_new1 _ _ rfl) (by intro u hu; simp at hu; subst hu; rfl) (by simp only [maxLen]; omega) (by omega) (by simp; omega) ?_; intro v4 w4 ho4 hg4 how4; obtain ⟨A4, c4, rfl⟩ := own_slice' ho4; have hB4 := (hB'.alloc (.cells #[.string u] 9)).grown hg4 (fun e => (own_blk_ne ho' hB' (by decide)) e.symm); have f2 := hB4.frozen 2; have c24 : w4.cell? ⟨g, 2, none⟩ = some v := hB4.cell 2; clear hB4))
    subst hW1
    have hfin := h.asked u c2 hg4 (by rw [List.map_append]; exact ho4)
    go_end0
    refine ⟨rfl, by rw [HK.out]; exact hfin.1, hfin.2, fun k hk hoff v' hv' => ?_⟩
    obtain ⟨v5, hB5, _⟩ := hfin.1.blk
    have e5 : v' = .slice A4 (ks.length + 1) c4 := by
      have h5 : (w4.setCell ⟨g, 2, none⟩ (.slice A4 (ks.length + 1) c4)).cell? ⟨g, 2, none⟩ = some (.slice A4 (ks.length + 1) c4) := World.cell?_setCell_same _ _ _ c24
      rw [hv'] at h5
      exact Option.some.inj h5
    subst e5
    rcases how4 with e | e
    · rw [e]; exact hoff v c2
    · rw [e]
      intro e2
      have : k = (setBlock w b2 (metObj (ks ++ [u]))).heap.size + 1 := by
        have := Option.some.inj e2
        rw [World.size_alloc] at this
        exact this.symm
      have h6 : (setBlock w b2 (metObj (ks ++ [u]))).heap.size = w.heap.size := by unfold setBlock; simp
      omega
  · have hf : findK u (ks.map askKv) = some (.bool true) := by rw [findK_ask, hm]; rfl
    have hl := run_look_some (P := Tryd.prog) Tryd.underlying73 Tryd.underlying9 h.m2 hf false
    have HK := Lib.hid (show askF ks u = ks by unfold askF; rw [hm]; rfl)
    clear hm hf
    go_enter_d Tryd.func50, Tryd.ntmps50
    go_wp2_with fail
    go_end0
    exact ⟨rfl, by rw [HK.out]; exact h, ⟨Below.refl _ _, fun _ _ _ => rfl⟩, fun _ _ h => h⟩
def getK (es : List Blb) (u : ByteArray) : Option (List UInt8) := (es.find? fun e => u == e.u).map (·.bs)
theorem findK_get (u : ByteArray) : ∀ es : List Blb, (findK u (es.map Blb.kv) = none ∧ getK es u = none) ∨ ∃ e ∈ es, findK u (es.map Blb.kv) = some (.slice e.A e.bs.length e.c) ∧ getK es u = some e.bs
  | [] => .inl ⟨rfl, rfl⟩
  | e :: es => by
    by_cases h : (u == e.u) = true
    · exact .inr ⟨e, by simp, by simp [findK, Blb.kv, h], by simp [getK, List.find?_cons, h]⟩
    · simp only [Bool.not_eq_true] at h
      have e1 : findK u ((e :: es).map Blb.kv) = findK u (es.map Blb.kv) := by simp only [List.map_cons, findK, Blb.kv, h, Bool.false_eq_true, if_false]
      have e2 : getK (e :: es) u = getK es u := by simp [getK, List.find?_cons, h]
      rw [e1, e2]
      rcases findK_get u es with h1 | ⟨x, hx, h1, h2⟩
      · exact .inl h1
      · exact .inr ⟨x, by simp [hx], h1, h2⟩
/-- What Get answers. -/
def GetPost (w : World) (lo g b1 b2 : Nat) (es : List Blb) (ks : List ByteArray) (u : ByteArray) (e : Ending) (w' : World) : Prop :=
  ∃ A c bs is, e = .returned (.tuple #[.slice A bs.length c, .bool is]) ∧ getK es u = (if is then some bs else none) ∧ (is = false → bs = []) ∧ w'.ownsRow w.heap.size 5 1 (.slice A bs.length c) bs.length (bs.map bv) ∧ RepoAt w' lo g b1 b2 es (askF ks u) ∧ Fr w w' lo (badAt w g b2) ∧ ∀ k, k < w.heap.size → AskOff w g k → AskOff w' g k
theorem Fr.behind {w w1 w2 : World} {lo g b2 : Nat} (hB : ∃ cs, Blk w g 75 cs) (hlo : lo ≤ w.heap.size) (hb : Below w.heap.size w w1) (h : Fr w1 w2 lo (badAt w1 g b2)) : Fr w w2 lo (badAt w g b2) := by
  obtain ⟨cs, hB⟩ := hB
  refine ⟨below_then' hlo hb h.lo, fun k hk hbad => (h.keep k (Nat.lt_of_lt_of_le hk hb.size) fun hb1 => hbad ?_).trans (hb.block k hk)⟩
  rcases hb1 with h1 | h1 | ⟨v, hv, h1⟩
  · exact .inl h1
  · exact .inr (.inl h1)
  · exact .inr (.inr ⟨v, by rw [← hv]; exact (hb.cell (p := ⟨g, 2, none⟩) hB.lt).symm, h1⟩)
set_option maxRecDepth 100000 in
set_option maxHeartbeats 2000000 in
theorem get_any (u : ByteArray) (w : World) (lo g b1 b2 : Nat) (es : List Blb) (ks : List ByteArray) (h : RepoAt w lo g b1 b2 es ks) (hk : ks.length ≤ 1000000) :
    Calls Tryd.prog 18 #[.pointer (some ⟨g, 0, none⟩), .string u] w (GetPost w lo g b1 b2 es ks u) := by
  obtain ⟨v, hB, ho⟩ := h.blk
  have c0 : w.cell? ⟨g, 0, none⟩ = some (.map (some b1)) := hB.cell 0
  have hmf : ∀ (fn : Fn) (first cap : Array Value) (w : World), (Instr.makeFunc fn first cap).run Tryd.prog w = .ok (.func fn first cap) w := fun _ _ _ _ => rfl
  rcases findK_get u es with ⟨hf, hg⟩ | ⟨x, hx, hf, hg⟩
  · have hl := run_look_none (P := Tryd.prog) Tryd.underlying72 Tryd.underlying9 h.m1 (Tryd.zeroValue25 _) hf true
    go_enter_defers Tryd.func18, Tryd.ntmps18
    go_wp2_with fail
    refine (clone_any [] none 0 0 (by simp) _ (Nat.zero_le _) Reads.none_).mono ?_
    rintro e w1 ⟨A1, c1, rfl, ho1, hb⟩
    have h1 := h.next hb
    go_wp2_with fail
    refine leaves_cons (f := 50) (args := #[.pointer (some ⟨g, 0, none⟩), .string u]) (by simp) (by simp [go_sem]) ?_
    refine (ask_any u w1 lo g b1 b2 es ks h1 hk .returning).mono ?_
    rintro e u' w2 ⟨rfl, rfl, h2, hfr, hoff⟩
    have hlow : lo ≤ w.heap.size := by have := h.l1; have := h.m1.lt; omega
    have hfr2 := Fr.behind ⟨_, hB⟩ hlow hb hfr
    refine ⟨.tuple #[.slice A1 ([] : List UInt8).length c1, .bool false], (by simp [results, Tryd.results18, go_sem]), A1, c1, ([] : List UInt8), false, rfl, (by rw [hg]; rfl), (fun _ => rfl), own_kept ho1 fun k hk => hfr.keep k (own_base_le ho1 k hk).2 fun hbad => ?_, h2, hfr2, fun k hk ho => hoff k (Nat.lt_of_lt_of_le hk hb.size) fun v hv => ho v (by rw [← hv]; exact (hb.cell (p := ⟨g, 2, none⟩) hB.lt).symm)⟩
    have hkk := (own_base_le ho1 k hk).1
    rcases hbad with e | e | ⟨v', hv', e⟩
    · have := hB.lt; omega
    · have := h.m2.lt; omega
    · have e2 := hb.cell (p := ⟨g, 2, none⟩) hB.lt
      rw [hv'] at e2
      have e3 := (hB.cell 2)
      rw [← e2] at e3
      obtain rfl : v' = v := by simpa using e3
      have := (own_base_le ho k e).2
      omega
  · have hl := run_look_some (P := Tryd.prog) Tryd.underlying72 Tryd.underlying9 h.m1 hf true
    go_enter_defers Tryd.func18, Tryd.ntmps18
    go_wp2_with fail
    refine (clone_any x.bs x.A x.c w.heap.size (h.rd x hx).2 _ (Nat.le_refl _) (Reads.of_own (h.rd x hx).1)).mono ?_
    rintro e w1 ⟨A1, c1, rfl, ho1, hb⟩
    have h1 := h.next hb
    go_wp2_with fail
    refine leaves_cons (f := 50) (args := #[.pointer (some ⟨g, 0, none⟩), .string u]) (by simp) (by simp [go_sem]) ?_
    refine (ask_any u w1 lo g b1 b2 es ks h1 hk .returning).mono ?_
    rintro e u' w2 ⟨rfl, rfl, h2, hfr, hoff⟩
    have hlow : lo ≤ w.heap.size := by have := h.l1; have := h.m1.lt; omega
    have hfr2 := Fr.behind ⟨_, hB⟩ hlow hb hfr
    refine ⟨.tuple #[.slice A1 x.bs.length c1, .bool true], (by simp [results, Tryd.results18, go_sem]), A1, c1, x.bs, true, rfl, (by rw [hg]; rfl), (fun e => by cases e), own_kept ho1 fun k hk => hfr.keep k (own_base_le ho1 k hk).2 fun hbad => ?_, h2, hfr2, fun k hk ho => hoff k (Nat.lt_of_lt_of_le hk hb.size) fun v hv => ho v (by rw [← hv]; exact (hb.cell (p := ⟨g, 2, none⟩) hB.lt).symm)⟩
    have hkk := (own_base_le ho1 k hk).1
    rcases hbad with e | e | ⟨v', hv', e⟩
    · have := hB.lt; omega
    · have := h.m2.lt; omega
    · have e2 := hb.cell (p := ⟨g, 2, none⟩) hB.lt
      rw [hv'] at e2
      have e3 := (hB.cell 2)
      rw [← e2] at e3
      obtain rfl : v' = v := by simpa using e3
      have := (own_base_le ho k e).2
      omega
end Go.Proofs.YtmoldmnhijcckaaDoor
