/- The order of a row's elements, and a row of them in a block of the call's own. No walk stands in this text. -/
import Derived.Test.YtmoldmnhijcckaaGreatMa06
import Derived.Test.YtmoldmnhijcckaaGreatMa04
import Derived.WalkSpells
import Derived.Deep.DeepCutAuto
import Derived.Deep.DeepMust
import Derived.Lib.SliceRun
set_option linter.unusedVariables false
set_option linter.unusedSectionVars false
set_option linter.unusedSimpArgs false
namespace Go.Proofs.YtmoldmnhijcckaaGreat
open Go.RowKit
structure CompF {α : Type} (f : α → α → Int) : Prop where
  bd : ∀ a b, f a b = -1 ∨ f a b = 0 ∨ f a b = 1
  anti : ∀ a b, f b a = - f a b
  trans : ∀ a b c, f a b = f b c → f a c = f a b
theorem CompF.zl {α : Type} {f : α → α → Int} (h : CompF f) {a b : α} (c : α) (e : f a b = 0) : f a c = f b c := by
  rcases h.bd b c with h1 | h1 | h1
  · rcases h.bd a c with h2 | h2 | h2
    · omega
    · have := h.trans b a c (by rw [h.anti a b]; omega); have := h.anti a b; omega
    · have := h.trans b c a (by rw [h.anti a c]; omega); have := h.anti a b; omega
  · have := h.trans a b c (by omega); omega
  · rcases h.bd a c with h2 | h2 | h2
    · have := h.trans b c a (by rw [h.anti a c]; omega); have := h.anti a b; omega
    · have := h.trans b a c (by rw [h.anti a b]; omega); have := h.anti a b; omega
    · omega
theorem CompF.zr {α : Type} {f : α → α → Int} (h : CompF f) {b c : α} (a : α) (e : f b c = 0) : f a b = f a c := by
  have h1 := h.zl a e
  have := h.anti a b
  have := h.anti a c
  omega
def lexF {α : Type} (f g : α → α → Int) (a b : α) : Int := if f a b = 0 then g a b else f a b
theorem CompF.lex {α : Type} {f g : α → α → Int} (hf : CompF f) (hg : CompF g) : CompF (lexF f g) := by
  refine ⟨fun a b => ?_, fun a b => ?_, fun a b c e => ?_⟩
  · unfold lexF
    split
    · exact hg.bd a b
    · exact hf.bd a b
  · unfold lexF
    have := hf.anti a b
    by_cases h : f a b = 0
    · rw [if_pos h, if_pos (by omega)]
      exact hg.anti a b
    · rw [if_neg h, if_neg (by omega)]
      exact this
  · unfold lexF at e ⊢
    by_cases h1 : f a b = 0
    · rw [if_pos h1] at e ⊢
      by_cases h2 : f b c = 0
      · rw [if_pos h2] at e
        rw [if_pos (by have := hf.zl c h1; omega)]
        exact hg.trans a b c e
      · rw [if_neg h2] at e
        have := hf.zl c h1
        rw [if_neg (by omega)]
        omega
    · rw [if_neg h1] at e ⊢
      by_cases h2 : f b c = 0
      · rw [if_pos h2] at e
        have := hf.zr a h2
        rw [if_neg (by omega)]
        omega
      · rw [if_neg h2] at e
        have := hf.trans a b c e
        rw [if_neg (by omega)]
        exact this
theorem CompF.map {α β : Type} {f : β → β → Int} (h : CompF f) (k : α → β) : CompF fun a b => f (k a) (k b) := ⟨fun a b => h.bd _ _, fun a b => h.anti _ _, fun a b c => h.trans _ _ _⟩
theorem compI : CompF cmpI := by
  refine ⟨fun a b => ?_, fun a b => ?_, fun a b c => ?_⟩
  · unfold cmpI; split <;> (try split) <;> simp
  · unfold cmpI; split <;> split <;> (try split) <;> omega
  · unfold cmpI; split <;> split <;> (try split) <;> (try split) <;> (try split) <;> omega
theorem cmpI_zero (a b : Int) : cmpI a b = 0 ↔ a = b := by unfold cmpI; split <;> (try split) <;> omega
theorem compP : CompF cmpOf := ⟨cmp_bd, fun a b => cmp_anti a b, fun a b c h => cmp_trans h⟩
theorem cmpV_lex (a b : Vrp) : cmpV a b = lexF (fun a b : Vrp => cmpOf a.p b.p) (lexF (fun a b : Vrp => cmpI a.mx b.mx) (fun a b : Vrp => cmpI a.asn.toNat b.asn.toNat)) a b := by
  unfold cmpV lexF
  simp only [orL]
  split
  · split
    · split <;> simp_all
    · rfl
  · rfl
theorem compV : CompF cmpV := by
  have h : cmpV = lexF (fun a b : Vrp => cmpOf a.p b.p) (lexF (fun a b : Vrp => cmpI a.mx b.mx) (fun a b : Vrp => cmpI a.asn.toNat b.asn.toNat)) := by
    funext a b
    exact cmpV_lex a b
  rw [h]
  exact (compP.map (fun v : Vrp => v.p)).lex ((compI.map (fun v : Vrp => v.mx)).lex (compI.map (fun v : Vrp => (v.asn.toNat : Int))))
theorem cmpV_zero {a b : Vrp} (h : cmpV a b = 0) : a = b := by
  rw [cmpV_lex] at h
  unfold lexF at h
  split at h
  · rename_i h1
    split at h
    · rename_i h2
      have e1 := (cmp_zero _ _).1 h1
      have e2 := (cmpI_zero _ _).1 h2
      have e3 := (cmpI_zero _ _).1 h
      obtain ⟨s, p, m⟩ := a
      obtain ⟨s', p', m'⟩ := b
      simp only at e1 e2 e3
      have e4 : s = s' := UInt32.toNat_inj.1 (by omega)
      rw [e1, e2, e4]
    · rename_i h2
      exact absurd h h2
  · rename_i h1
    exact absurd h h1
instance : Inhabited Vrp := ⟨⟨0, ⟨false, ⟨List.replicate 16 0, by simp⟩, 0⟩, 0⟩⟩
/-! A row in a block -/
theorem flatV_len (xs : List Vrp) : (xs.flatMap Vrp.cells).length = xs.length * 20 := by
  induction xs with
  | nil => rfl
  | cons a l ih => rw [List.flatMap_cons, List.length_append, ih, Vrp.cells_length, List.length_cons]; omega
theorem flatV_split (xs : List Vrp) {k : Nat} (hk : k < xs.length) : xs.flatMap Vrp.cells = (xs.take k).flatMap Vrp.cells ++ (xs[k].cells ++ (xs.drop (k + 1)).flatMap Vrp.cells) := by
  have e0 : xs.take k ++ xs[k] :: xs.drop (k + 1) = xs := by rw [← List.drop_eq_getElem_cons hk, List.take_append_drop]
  have e1 := congrArg (List.flatMap Vrp.cells) e0
  rw [List.flatMap_append, List.flatMap_cons] at e1
  exact e1.symm
theorem flatV_get (xs : List Vrp) (t : Nat) (ht : t < xs.length * 20) : (xs.flatMap Vrp.cells)[t]? = (xs[t / 20]'(by omega)).cells[t % 20]? := by
  have hk : t / 20 < xs.length := by omega
  have hl : ((xs.take (t / 20)).flatMap Vrp.cells).length = t / 20 * 20 := by rw [flatV_len, List.length_take]; omega
  rw [flatV_split xs hk, List.getElem?_append_right (by omega), hl, List.getElem?_append_left (by rw [Vrp.cells_length]; omega)]
  congr 1
  omega
/-- An element's cells. -/
theorem rowV_at {W : World} {g : Nat} {t : TypeId} {xs : List Vrp} {sp : List Value} (h : Blk W g t (xs.flatMap Vrp.cells ++ sp)) {k : Nat} (hk : k < xs.length) : W.rangeAt g (k * 20) xs[k].cells :=
  h.sub ((xs.take k).flatMap Vrp.cells) xs[k].cells ((xs.drop (k + 1)).flatMap Vrp.cells ++ sp) (k * 20) (by rw [flatV_split xs hk]; simp) (by rw [flatV_len, List.length_take]; congr 1; omega)
/-- An element set. -/
theorem rowV_put {W : World} {g : Nat} {t : TypeId} {xs : List Vrp} {sp : List Value} (h : Blk W g t (xs.flatMap Vrp.cells ++ sp)) {k : Nat} (hk : k < xs.length) (y : Vrp) : Blk (W.setCells g (k * 20) y.cells) g t ((xs.set k y).flatMap Vrp.cells ++ sp) := by
  have hl := Vrp.cells_length y
  have hA : ((xs.take k).flatMap Vrp.cells).length = k * 20 := by rw [flatV_len, List.length_take]; congr 1; omega
  have := Blk.setCells y.cells (k * 20) h (by rw [List.length_append, flatV_len, hl]; omega)
  have e1 : xs.flatMap Vrp.cells ++ sp = (xs.take k).flatMap Vrp.cells ++ (xs[k].cells ++ ((xs.drop (k + 1)).flatMap Vrp.cells ++ sp)) := by rw [flatV_split xs hk]; simp
  have e2 : (xs.set k y).flatMap Vrp.cells = (xs.take k).flatMap Vrp.cells ++ (y.cells ++ (xs.drop (k + 1)).flatMap Vrp.cells) := by
    rw [flatV_split (xs.set k y) (k := k) (by simpa using hk), List.take_set_of_le (Nat.le_refl _), List.drop_set_of_lt (Nat.lt_succ_self _)]
    simp
  rw [e1] at this
  have e3 : ((xs.take k).flatMap Vrp.cells ++ (xs[k].cells ++ ((xs.drop (k + 1)).flatMap Vrp.cells ++ sp))).drop (k * 20 + y.cells.length) = (xs.drop (k + 1)).flatMap Vrp.cells ++ sp := by
    rw [← hA, List.drop_append, hl, ← Vrp.cells_length xs[k], List.drop_append]
    simp
  rw [e3, ← hA, List.take_left' rfl, hA] at this
  rw [e2]
  simpa using this
end Go.Proofs.YtmoldmnhijcckaaGreat
/- Loads of many cells at whatever address. For whatever program. -/
set_option linter.unusedVariables false
set_option linter.unusedSectionVars false
set_option linter.unusedSimpArgs false
namespace Go.Proofs.YtmoldmnhijcckaaGreat
open Go Go.RowKit
/-- The cells cs lie from address ad on. -/
def AtAdr (w : World) (ad : Addr) (cs : List Value) : Prop := ∀ j v, cs[j]? = some v → w.cell? (ad.add j) = some v
section
variable {P : Program}
theorem run_loadVar_adr (w : World) (ad : Addr) (ty : TypeId) (cs : List Value) (n : Nat) (d : TypeDesc) (hc : AtAdr w ad cs) (hl' : cs.length = n)
    (hu : P.underlying ty = some d) (hd : d.isRow = true) (hi : (P.info? ty).map (·.size) = some n) :
    (loadVar ty ad).run P w = .ok (.agg cs.toArray) w := by
  subst hl'
  have hl : (loadCells ad cs.length).run P w = .ok cs.toArray w := run_loadCells_list (P := P) w ad cs hc
  cases hq : P.info? ty with
  | none => simp [hq] at hi
  | some i =>
    have hs : i.size = cs.length := by simpa [hq] using hi
    have hagg : (isAgg ty).run P w = .ok true w := by
      unfold isAgg
      rw [Sem.run_bind, run_underlying hu w]
      cases d <;> simp_all
    simp [loadVar, Sem.run_bind, hagg, sizeOf, typeInfo, hq, hs, hl]
theorem exec_load_adr {op : Oper} {a : Act} {w : World} (ty : TypeId) (x : Operand) (ho : op.op = .load ty x) (ad : Addr) (n : Nat) (hx : a.eval x = .pointer (some ad)) (vs : List Value) (d : TypeDesc)
    (hr : AtAdr w ad vs) (hl : vs.length = n) (hu : P.underlying ty = some d) (hd : d.isRow = true) (hi : (P.info? ty).map (·.size) = some n) : (execOp a.eval op).run P w = .ok (.value (.agg vs.toArray)) w := by
  unfold execOp
  simp only [ho, hx, Instr.loadAt, Instr.sureAddr, Sem.run_bind, Sem.run_pure, Result.andThen_ok, run_loadVar_adr w ad ty vs n d hr hl hu hd hi]
theorem wpList_load_adr {ops : Array Oper} {rest : List Oper} {op : Oper} {a : Act} {w : World} {Q : Exit → Act → World → Prop} (hw : Region.wanted op (yielded ops a.tmps) = true) (ty : TypeId) (x : Operand) (ho : op.op = .load ty x) (ad : Addr) (n : Nat) (hx : a.eval x = .pointer (some ad)) (vs : List Value) (d : TypeDesc)
    (hr : AtAdr w ad vs) (hl : vs.length = n) (hu : P.underlying ty = some d) (hd : d.isRow = true) (hi : (P.info? ty).map (·.size) = some n)
    (h : wpList P ops Q rest (a.put op.dst (.agg vs.toArray)) w) : wpList P ops Q (op :: rest) a w :=
  wpList_want hw fun K hK => by
    unfold Oper.wp execOp
    simp only [ho, hx, Instr.loadAt, Instr.sureAddr, Sem.run_bind, Sem.run_pure, Result.andThen_ok, run_loadVar_adr w ad ty vs n d hr hl hu hd hi]
    exact hK _ _ h
end
/-- An element of what is read. -/
theorem Reads.elem {α : Type} {w : World} {B size n : Nat} {ad : Addr} {cl : α → List Value} {xs : List α} (h : Reads w B size (some ad) n (xs.flatMap cl)) (hcl : ∀ a, (cl a).length = size) {k : Nat} (hk : k < xs.length) (hn : xs.length = n) : AtAdr w (ad.add (k * size)) (cl xs[k]) := by
  intro j v hv
  obtain ⟨ad', e, _, hc⟩ := h.2 (by omega)
  cases e
  rw [add_add']
  apply hc
  have hfl : ∀ l : List α, (l.flatMap cl).length = l.length * size := fun l => by
    induction l with
    | nil => simp
    | cons a l ih => rw [List.flatMap_cons, List.length_append, ih, hcl, List.length_cons, Nat.succ_mul]; omega
  have e : xs.flatMap cl = (xs.take k).flatMap cl ++ (cl xs[k] ++ (xs.drop (k + 1)).flatMap cl) := by
    have e0 : xs.take k ++ xs[k] :: xs.drop (k + 1) = xs := by rw [← List.drop_eq_getElem_cons hk, List.take_append_drop]
    have e1 := congrArg (List.flatMap cl) e0
    rw [List.flatMap_append, List.flatMap_cons] at e1
    exact e1.symm
  have hk2 : ((xs.take k).flatMap cl).length = k * size := by rw [hfl, List.length_take]; congr 1; omega
  rw [e, List.getElem?_append_right (by omega), hk2, Nat.add_sub_cancel_left, List.getElem?_append_left ((List.getElem?_eq_some_iff.1 hv).1), hv]
end Go.Proofs.YtmoldmnhijcckaaGreat
/- slices.Clone, IndexFunc, DeleteFunc at rows of api.Vrp. -/
set_option linter.unusedVariables false
set_option linter.unusedSectionVars false
set_option linter.unusedSimpArgs false
namespace Go.Proofs.YtmoldmnhijcckaaGreat
open Go.RowKit
theorem info_vrpO : (Tryz.prog.info? 67).map (fun i => (i.zero, i.size, i.bytes)) = some (some (.agg (default : Vrp).cells.toArray), 20, 48) := by kernel_rfl
theorem vrps_one (xs : List Vrp) : ∀ u ∈ xs.flatMap Vrp.cells, u.oneCell' = true := by
  intro u hu
  obtain ⟨x, _, h⟩ := List.mem_flatMap.1 hu
  exact Vrp.one x u h
theorem own_litV (w : World) (base : Nat) (e : TypeId) (size : Nat) (hb : base ≤ w.heap.size) : (w.alloc (.cells #[] e)).ownsRow base e size (.slice (some ⟨w.heap.size, 0, none⟩) 0 0) 0 [] :=
  World.ownsRow_lit (base := base) (e := e) (size := size) w #[] 0 hb (by simp) (by simp)
theorem own_capV {w : World} {base n c size : Nat} {e : TypeId} {A : Option Addr} {xs : List Value} (h : w.ownsRow base e size (.slice A n c) n xs) : n ≤ c := by
  rcases h.2 with ⟨h, rfl⟩ | ⟨g, cap, cur, h, _, _, hnc, _⟩
  · exact Nat.zero_le _
  · injection h with _ _ h
    subst h
    exact hnc
set_option maxRecDepth 100000 in
set_option maxHeartbeats 1000000 in
theorem cloneV_any (xs : List Vrp) (n : Nat) (hn : xs.length = n) (A : Option Addr) (c B : Nat) (hlen : n ≤ 1000000) (w : World) (hB : B ≤ w.heap.size) (hr : Reads w B 20 A n (xs.flatMap Vrp.cells)) :
    Calls Tryz.prog 54 #[.slice A n c] w fun e w' => ∃ A' c', e = .returned (.slice A' n c') ∧ w'.ownsRow w.heap.size 67 20 (.slice A' n c') n (xs.flatMap Vrp.cells) ∧ Below w.heap.size w w' := by
  subst hn
  cases A with
  | none =>
    have h0 : xs.length = 0 := by
      rcases Nat.eq_zero_or_pos xs.length with h | h
      · exact h
      · obtain ⟨ad, e, _⟩ := hr.2 h
        cases e
    have H0 := Lib.hid (List.eq_nil_of_length_eq_zero h0)
    clear hr
    have hz : (Go.binOp .eql 27 (.slice none xs.length c) (.slice none 0 0)).run Tryz.prog w = .ok (.bool true) w := Lib.run_eql_slice_nil w _ _ none xs.length c 0 0 Tryz.underlying27
    rw [h0] at hz ⊢
    clear h0
    go_enter Tryz.func54, Tryz.ntmps54
    go_wp2
    go_ret
    exact ⟨none, 0, rfl, by rw [H0.out]; exact World.ownsRow_nil _ _ _ _, Below.refl _ _⟩
  | some ad =>
    obtain ⟨i0, hi0, hz0, hz1, hz2⟩ := info_parts info_vrpO
    have hl0 := own_litV w w.heap.size 67 20 (Nat.le_refl _)
    have hbA : Below w.heap.size w (w.alloc (.cells #[] 67)) := (Below.refl _ _).alloc (Nat.le_refl _) _
    have hz : (Go.binOp .eql 27 (.slice (some ad) xs.length c) (.slice none 0 0)).run Tryz.prog w = .ok (.bool false) w := Lib.run_eql_slice_nil w _ _ (some ad) xs.length c 0 0 Tryz.underlying27
    go_enter Tryz.func54, Tryz.ntmps54
    go_wp2_with (at_builtin; go_must (refine wpList_append_any _ rfl _ _ 27 rfl w.heap.size 67 i0 _ 20 48 Tryz.underlying27 hi0 hz0 hz1 hz2 rfl (by omega) _ 0 _ rfl hl0 B (some ad) xs.length c _ rfl (hr.alloc hB _) (vrps_one xs) (by simp only [maxLen]; omega) (by omega) (by simp) ?_; intro v4 w4 ho4 hg4 _; rw [Nat.zero_add, List.nil_append] at ho4; obtain ⟨A4, c4, rfl⟩ := own_slice' ho4; have hb4 := hbA.grown hg4 (by simp) (fun k hk => (own_base_le hl0 k hk).1); clear hg4))
    go_ret
    exact ⟨A4, c4, rfl, ho4, hb4⟩
/-- Where the first one is that may not be. -/
def IdxPost (xs : List Vrp) (e : Ending) : Prop :=
  (∃ i, ∃ h : i < xs.length, e = .returned (.int .i64 i) ∧ vrpOk xs[i] = false ∧ ∀ t (ht : t < i), vrpOk (xs[t]'(by omega)) = true) ∨ (e = .returned (.int .i64 (-1)) ∧ ∀ x ∈ xs, vrpOk x = true)
def delFn : Value := .func (.func 95) #[] #[]
set_option maxRecDepth 100000 in
set_option maxHeartbeats 1000000 in
theorem idxV_any (xs : List Vrp) (A : Option Addr) (c B : Nat) (hlen : xs.length ≤ 1000000) (w : World) (hB : B ≤ w.heap.size) (hr : Reads w B 20 A xs.length (xs.flatMap Vrp.cells)) :
    Calls Tryz.prog 117 #[.slice A xs.length c, .func (.func 95) #[] #[]] w fun e w' => IdxPost xs e ∧ Below w.heap.size w w' := by
  have hlo := Below.refl w.heap.size w
  go_enter Tryz.func117, Tryz.ntmps117
  go_wp2_with fail
  go_loopw [5, 8] (fun v i wr => ∃ k : Nat, k ≤ xs.length ∧ i = .int .i64 k ∧ Below w.heap.size w wr ∧ Hid (∀ t (h : t < xs.length), t < k → vrpOk xs[t] = true)) (fun _ i _ => xs.length - (intOf i).toNat)
  case atStart => exact ⟨0, by omega, rfl, hlo, Lib.hid fun t _ h => by omega⟩
  case round =>
    clear hlo
    obtain ⟨k, hk, rfl, hlo, HM⟩ := hrel
    by_cases hlt : k < xs.length
    · have hk0 : (0 : Int) ≤ (k : Int) := by omega
      have hk1 : (k : Int) < (xs.length : Int) := by omega
      obtain ⟨ad, rfl, _, _⟩ := hr.2 (by omega)
      have hat : AtAdr wr (ad.add (k * 20)) xs[k].cells := (hr.below hlo hB).elem Vrp.cells_length hlt rfl
      cases hx : vrpOk xs[k]
      · have HX := Lib.hid hx
        clear hx
        go_wp2_with (refine wpList_load_adr (by rfl) 67 _ rfl (ad.add (k * 20)) 20 (by rfl) _ _ hat (Vrp.cells_length _) Tryz.underlying67 rfl info_vrp1 ?_)
        refine (row1_any xs[k] _).mono ?_
        rintro e w2 ⟨rfl, hb⟩
        rw [HX.out]
        replace hlo := below_then hlo (Nat.le_refl _) hb
        clear hb hat
        go_wp2_with fail
        go_ret
        exact ⟨.inl ⟨k, hlt, rfl, HX.out, fun t ht => HM.out t (by omega) ht⟩, hlo⟩
      · have HX := Lib.hid hx
        have HN := Lib.hid (show ∀ t (h : t < xs.length), t < k + 1 → vrpOk xs[t] = true from fun t h1 h2 => by
          by_cases h3 : t = k
          · subst h3; exact hx
          · exact HM.out t h1 (by omega))
        clear hx HM
        go_wp2_with (refine wpList_load_adr (by rfl) 67 _ rfl (ad.add (k * 20)) 20 (by rfl) _ _ hat (Vrp.cells_length _) Tryz.underlying67 rfl info_vrp1 ?_)
        refine (row1_any xs[k] _).mono ?_
        rintro e w2 ⟨rfl, hb⟩
        rw [HX.out]
        replace hlo := below_then hlo (Nat.le_refl _) hb
        clear hb hat
        go_wp2_with fail
        go_roundw
        case rel => exact ⟨k + 1, by omega, by go_num, hlo, HN⟩
        case measure => simp [intOf]; omega
    · have hkk : k = xs.length := by omega
      subst hkk
      clear hlt hk
      go_wp2_with fail
      go_ret
      exact ⟨.inr ⟨rfl, fun x hx => by
        obtain ⟨t, ht, rfl⟩ := List.getElem_of_mem hx
        exact HM.out t ht ht⟩, hlo⟩
end Go.Proofs.YtmoldmnhijcckaaGreat
