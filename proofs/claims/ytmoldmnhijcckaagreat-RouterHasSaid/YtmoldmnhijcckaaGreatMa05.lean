/- The contracts of bytes.Compare and addr.Cmp. -/
import Derived.Test.YtmoldmnhijcckaaGreatMa04
import Derived.Lib.UnsafeStr
import Derived.Lib.Bytealg
import Derived.Laws.Externs
import Derived.Deep.DeepMust
import Derived.Deep.DeepCutAuto
import Derived.Sort.Grow
set_option linter.unusedVariables false
set_option linter.unusedSectionVars false
set_option linter.unusedSimpArgs false
namespace Go.Proofs.YtmoldmnhijcckaaGreat
open Go.RowKit
theorem cmpL_lib : ∀ l r : List UInt8, Lib.compareBytes l r = cmpL l r
  | [], [] => rfl
  | [], _ :: _ => rfl
  | _ :: _, [] => rfl
  | a :: l, b :: r => by
    unfold Lib.compareBytes cmpL
    simp only [UInt8.lt_iff_toNat_lt, cmpL_lib l r]
theorem run_loadB {P : Program} {w : World} : ∀ (l : List UInt8) (a : Addr) (acc : ByteArray), (∀ j x, l[j]? = some x → w.cell? (a.add j) = some (.int .u8 x.toNat)) →
    (Extern.Bytes.loadBytes a l.length acc).run P w = .ok ⟨acc.data ++ l.toArray⟩ w
  | [], a, acc, _ => by simp [Extern.Bytes.loadBytes]
  | x :: l, a, acc, h => by
    have h0 : w.cell? a = some (.int .u8 x.toNat) := by
      have := h 0 x rfl
      simpa [Addr.add] using this
    have ih := run_loadB (P := P) l (a.add 1) (acc.push x) (fun j y hy => by
      have := h (j + 1) y (by simpa using hy)
      rw [add_add', Nat.add_comm 1 j]; exact this)
    have hx : ((x.toNat : Int).toNat).toUInt8 = x := by simp
    simp only [List.length_cons, Extern.Bytes.loadBytes, Sem.run_bind, run_load, h0, Result.andThen, hx]
    rw [ih]
    congr 1
    apply ByteArray.ext
    simp
theorem run_bytesOf_reads {P : Program} {w : World} {B n : Nat} {A : Option Addr} {bs : List UInt8} (h : Reads w B 1 A n (bs.map bv)) (c : Nat) : (Extern.Bytes.bytesOf (.slice A n c)).run P w = .ok ⟨bs.toArray⟩ w := by
  have hl : bs.length = n := by have := h.1; simpa using this
  cases A with
  | none =>
    have h0 : n = 0 := by
      rcases Nat.eq_zero_or_pos n with h0 | h0
      · exact h0
      · obtain ⟨ad, e, _⟩ := h.2 h0; cases e
    obtain rfl := List.eq_nil_of_length_eq_zero (hl.trans h0)
    rfl
  | some ad =>
    have hc : ∀ j x, bs[j]? = some x → w.cell? (ad.add j) = some (.int .u8 x.toNat) := fun j x hx => by
      obtain ⟨ad', e, _, hc⟩ := h.2 (by have := (List.getElem?_eq_some_iff.1 hx).1; omega)
      cases e
      exact hc j _ (by rw [List.getElem?_map, hx]; rfl)
    subst hl
    have := run_loadB (P := P) (w := w) bs ad .empty hc
    show Sem.run P (Extern.Bytes.loadBytes ad bs.length .empty) w = _
    rw [this]
    congr 1
    apply ByteArray.ext
    simp
theorem run_cmp {P : Program} {w : World} {B B' n n' : Nat} {A A' : Option Addr} {xs ys : List UInt8} (h : Reads w B 1 A n (xs.map bv)) (h' : Reads w B' 1 A' n' (ys.map bv)) (c c' : Nat) : (Extern.BytealgCompare.compare #[.slice A n c, .slice A' n' c']).run P w = .ok (.int .i64 (cmpL xs ys)) w := by
  change Sem.run P (do pure (goInt (Extern.BytealgCompare.cmp (← Extern.Bytes.bytesOf (.slice A n c)) (← Extern.Bytes.bytesOf (.slice A' n' c'))))) w = _
  simp only [Sem.run_bind, Sem.run_pure, run_bytesOf_reads h c, run_bytesOf_reads h' c', Result.andThen]
  rw [Lib.cmp_eq, cmpL_lib]
  rfl
theorem compare_any {w : World} {B B' n n' : Nat} {A A' : Option Addr} {xs ys : List UInt8} (h : Reads w B 1 A n (xs.map bv)) (h' : Reads w B' 1 A' n' (ys.map bv)) (c c' : Nat) :
    Calls Tryz.prog 151 #[.slice A n c, .slice A' n' c'] w fun e w' => e = .returned (.int .i64 (cmpL xs ys)) ∧ w = w' := by
  have hf := run_callFunc_extern (P := Tryz.prog) (f := 157) (fn := Tryz.f157) Tryz.func157 (by kernel_rfl) (by kernel_rfl) (by kernel_rfl) (e := Extern.BytealgCompare.compare) (by kernel_rfl) #[.slice A n c, .slice A' n' c'] w
  rw [run_cmp h h' c c'] at hf
  simp only [Result.andThen] at hf
  go_enter Tryz.func151, Tryz.ntmps151
  go_wp2
  go_ret
  exact ⟨rfl, rfl⟩
structure PQ (w : World) (p q : Pfx) (W : World) : Prop where
  b1 : Blk W w.heap.size 65 p.cells
  b2 : Blk W (w.heap.size + 1) 65 q.cells
  lo : Below w.heap.size w W
theorem PQ.next {w : World} {p q : Pfx} {W W' : World} (h : PQ w p q W) (hb : Below W.heap.size W W') : PQ w p q W' := ⟨h.b1.below hb h.b1.lt, h.b2.below hb h.b2.lt, below_then h.lo (Nat.le_refl _) hb⟩
theorem PQ.drew {w : World} {p q : Pfx} {W : World} (h : PQ w p q W) : PQ w p q W.drew := ⟨h.b1.drew, h.b2.drew, h.lo.drew⟩
theorem PQ.new (w : World) (p q : Pfx) : PQ w p q ((w.alloc (.cells p.cells.toArray 65)).alloc (.cells q.cells.toArray 65)) :=
  ⟨(Blk.new _ _ _).alloc _, blk_new' _ _ _ _ (by simp), ((Below.refl _ _).alloc (Nat.le_refl _) _).alloc (by simp) _⟩
theorem pfx_reads {W : World} {g : Nat} {t : TypeId} {p : Pfx} (h : Blk W g t p.cells) : Reads W (g + 1) 1 (some ⟨g, 1, none⟩) 16 (p.a.l.map bv) := by
  refine ⟨by simp [p.a.h], fun _ => ⟨_, rfl, by simp, fun j u hu => ?_⟩⟩
  have hj : j < 16 := by have := (List.getElem?_eq_some_iff.1 hu).1; simpa [p.a.h] using this
  rw [add_plain', h.cell, Pfx.cells_at _ hj, ← hu]
  have := p.a.h
  simp [A16.at, List.getD_eq_getElem?_getD, List.getElem?_eq_getElem (show j < p.a.l.length by omega)]
set_option maxRecDepth 100000 in
set_option maxHeartbeats 1000000 in
theorem cmp_01 (p q : Pfx) (hp : p.v6 = false) (hq : q.v6 = true) (w : World) : Calls Tryz.prog 139 #[p.val, q.val] w fun e w' => e = .returned (.int .i64 (cmpOf p q)) ∧ Below w.heap.size w w' := by
  simp only [Pfx.val]
  have hP := PQ.new w p q
  have c0 := (hP.b1.cell 0).trans (Pfx.c0 _)
  have k0 := (hP.b2.cell 0).trans (Pfx.c0 _)
  rw [hp] at c0
  rw [hq] at k0
  have HP := Lib.hid hp
  have HQ := Lib.hid hq
  clear hp hq
  go_enter Tryz.func139, Tryz.ntmps139
  go_wp2
  go_ret
  exact ⟨by simp only [cmpOf, HP.out, HQ.out]; rfl, hP.lo⟩
set_option maxRecDepth 100000 in
set_option maxHeartbeats 1000000 in
theorem cmp_10 (p q : Pfx) (hp : p.v6 = true) (hq : q.v6 = false) (w : World) : Calls Tryz.prog 139 #[p.val, q.val] w fun e w' => e = .returned (.int .i64 (cmpOf p q)) ∧ Below w.heap.size w w' := by
  simp only [Pfx.val]
  have hP := PQ.new w p q
  have c0 := (hP.b1.cell 0).trans (Pfx.c0 _)
  have k0 := (hP.b2.cell 0).trans (Pfx.c0 _)
  rw [hp] at c0
  rw [hq] at k0
  have HP := Lib.hid hp
  have HQ := Lib.hid hq
  clear hp hq
  go_enter Tryz.func139, Tryz.ntmps139
  go_wp2
  go_ret
  exact ⟨by simp only [cmpOf, HP.out, HQ.out]; rfl, hP.lo⟩
set_option maxRecDepth 100000 in
set_option maxHeartbeats 2000000 in
theorem cmp_sfalse (p q : Pfx) (hp : p.v6 = false) (hq : q.v6 = false) (w : World) : Calls Tryz.prog 139 #[p.val, q.val] w fun e w' => e = .returned (.int .i64 (cmpOf p q)) ∧ Below w.heap.size w w' := by
  have HC := Lib.hid (show cmpOf p q = if cmpL p.a.l q.a.l = 0 then cmpI p.len q.len else cmpL p.a.l q.a.l by unfold cmpOf; rw [if_pos (hp.trans hq.symm)])
  simp only [Pfx.val]
  have hP := PQ.new w p q
  have c0 := (hP.b1.cell 0).trans (Pfx.c0 _)
  have k0 := (hP.b2.cell 0).trans (Pfx.c0 _)
  rw [hp] at c0
  rw [hq] at k0
  have HP := Lib.hid hp
  have HQ := Lib.hid hq
  clear hp hq
  go_enter Tryz.func139, Tryz.ntmps139
  go_upto_region 5 with fail
  refine wp_gen (PQ w p q) hP ?_
  clear hP c0 k0
  intro W0 hP
  refine reg_sch2 6 [(true, 0), (true, 1), (true, 2), (true, 3), (false, 4), (true, 5)] (by kernel_rfl) (by kernel_rfl) (PQ w p q) (PQ w p q) ?_ ?_ ?_
  · exact hP.drew
  · exact fun _ h => h
  intro W hSW
  simp only [List.map_cons, List.map_nil, List.getD_cons_zero, List.getD_cons_succ, List.drop_succ_cons, List.drop_zero]
  refine hd_pure (v := ?_) (by rfl) (fun W' hS' => ?_) ?_ -- 0
  rotate_left
  · (go_simp; first | with_reducible rfl | rfl)
  try simp only [Act.put, List.setIfInBounds_toArray, List.set_cons_zero, List.set_cons_succ]
  refine hd_pure (v := ?_) (by rfl) (fun W' hS' => ?_) ?_ -- 1
  rotate_left
  · (go_simp; first | with_reducible rfl | rfl)
  try simp only [Act.put, List.setIfInBounds_toArray, List.set_cons_zero, List.set_cons_succ]
  refine hd_pure (v := ?_) (by rfl) (fun W' hS' => ?_) ?_ -- 2
  rotate_left
  · (go_simp; first | with_reducible rfl | rfl)
  try simp only [Act.put, List.setIfInBounds_toArray, List.set_cons_zero, List.set_cons_succ]
  refine hd_pure (v := ?_) (by rfl) (fun W' hS' => ?_) ?_ -- 3
  rotate_left
  · (go_simp; first | with_reducible rfl | rfl)
  try simp only [Act.put, List.setIfInBounds_toArray, List.set_cons_zero, List.set_cons_succ]
  refine hd_sole (by rfl) (fun K hK => ?_) -- 4
  go_simp
  refine (compare_any (pfx_reads hSW.b1) (pfx_reads hSW.b2) _ _).mono ?_; rintro e w' ⟨rfl, rfl⟩
  refine hK _ _ (hSW) ?_
  clear hK K hSW
  intro hSW
  try simp only [Act.put, List.setIfInBounds_toArray, List.set_cons_zero, List.set_cons_succ]
  refine hd_pure (v := ?_) (by rfl) (fun W' hS' => ?_) ?_ -- 5
  rotate_left
  · (go_simp; first | with_reducible rfl | rfl)
  try simp only [Act.put, List.setIfInBounds_toArray, List.set_cons_zero, List.set_cons_succ]
  refine hd_nil ?_
  replace hP := hSW; clear hSW
  refine wpList_nil (NoPanic.normal ?_)
  have c17 := (hP.b1.cell 17).trans (Pfx.c17 _)
  have k17 := (hP.b2.cell 17).trans (Pfx.c17 _)
  generalize cmpL p.a.l q.a.l = z at HC ⊢
  by_cases hz : z = 0
  · have b1 : (z != 0) = false := by simp [hz]
    have HZ := Lib.hid hz
    clear hz
    by_cases h1 : p.len < q.len
    · have d1 := decide_eq_true h1
      have H1 := Lib.hid h1
      clear h1
      go_wp2
      go_ret
      exact ⟨by rw [HC.out, if_pos HZ.out]; unfold cmpI; rw [if_pos H1.out]; rfl, hP.lo⟩
    · have d1 := decide_eq_false h1
      have H1 := Lib.hid h1
      clear h1
      by_cases h2 : q.len < p.len
      · have d2 := decide_eq_true h2
        have H2 := Lib.hid h2
        clear h2
        go_wp2
        go_ret
        exact ⟨by rw [HC.out, if_pos HZ.out]; unfold cmpI; rw [if_neg (Int.not_lt.2 H1.out), if_pos H2.out]; rfl, hP.lo⟩
      · have d2 := decide_eq_false h2
        have H2 := Lib.hid h2
        clear h2
        go_wp2
        go_ret
        exact ⟨by rw [HC.out, if_pos HZ.out]; unfold cmpI; rw [if_neg (Int.not_lt.2 H1.out), if_neg (Int.not_lt.2 H2.out)]; rfl, hP.lo⟩
  · have b1 : (z != 0) = true := by simp [hz]
    have HZ := Lib.hid hz
    clear hz
    go_wp2
    go_ret
    exact ⟨by rw [HC.out, if_neg HZ.out]; rfl, hP.lo⟩
set_option maxRecDepth 100000 in
set_option maxHeartbeats 2000000 in
theorem cmp_strue (p q : Pfx) (hp : p.v6 = true) (hq : q.v6 = true) (w : World) : Calls Tryz.prog 139 #[p.val, q.val] w fun e w' => e = .returned (.int .i64 (cmpOf p q)) ∧ Below w.heap.size w w' := by
  have HC := Lib.hid (show cmpOf p q = if cmpL p.a.l q.a.l = 0 then cmpI p.len q.len else cmpL p.a.l q.a.l by unfold cmpOf; rw [if_pos (hp.trans hq.symm)])
  simp only [Pfx.val]
  have hP := PQ.new w p q
  have c0 := (hP.b1.cell 0).trans (Pfx.c0 _)
  have k0 := (hP.b2.cell 0).trans (Pfx.c0 _)
  rw [hp] at c0
  rw [hq] at k0
  have HP := Lib.hid hp
  have HQ := Lib.hid hq
  clear hp hq
  go_enter Tryz.func139, Tryz.ntmps139
  go_upto_region 5 with fail
  refine wp_gen (PQ w p q) hP ?_
  clear hP c0 k0
  intro W0 hP
  refine reg_sch2 6 [(true, 0), (true, 1), (true, 2), (true, 3), (false, 4), (true, 5)] (by kernel_rfl) (by kernel_rfl) (PQ w p q) (PQ w p q) ?_ ?_ ?_
  · exact hP.drew
  · exact fun _ h => h
  intro W hSW
  simp only [List.map_cons, List.map_nil, List.getD_cons_zero, List.getD_cons_succ, List.drop_succ_cons, List.drop_zero]
  refine hd_pure (v := ?_) (by rfl) (fun W' hS' => ?_) ?_ -- 0
  rotate_left
  · (go_simp; first | with_reducible rfl | rfl)
  try simp only [Act.put, List.setIfInBounds_toArray, List.set_cons_zero, List.set_cons_succ]
  refine hd_pure (v := ?_) (by rfl) (fun W' hS' => ?_) ?_ -- 1
  rotate_left
  · (go_simp; first | with_reducible rfl | rfl)
  try simp only [Act.put, List.setIfInBounds_toArray, List.set_cons_zero, List.set_cons_succ]
  refine hd_pure (v := ?_) (by rfl) (fun W' hS' => ?_) ?_ -- 2
  rotate_left
  · (go_simp; first | with_reducible rfl | rfl)
  try simp only [Act.put, List.setIfInBounds_toArray, List.set_cons_zero, List.set_cons_succ]
  refine hd_pure (v := ?_) (by rfl) (fun W' hS' => ?_) ?_ -- 3
  rotate_left
  · (go_simp; first | with_reducible rfl | rfl)
  try simp only [Act.put, List.setIfInBounds_toArray, List.set_cons_zero, List.set_cons_succ]
  refine hd_sole (by rfl) (fun K hK => ?_) -- 4
  go_simp
  refine (compare_any (pfx_reads hSW.b1) (pfx_reads hSW.b2) _ _).mono ?_; rintro e w' ⟨rfl, rfl⟩
  refine hK _ _ (hSW) ?_
  clear hK K hSW
  intro hSW
  try simp only [Act.put, List.setIfInBounds_toArray, List.set_cons_zero, List.set_cons_succ]
  refine hd_pure (v := ?_) (by rfl) (fun W' hS' => ?_) ?_ -- 5
  rotate_left
  · (go_simp; first | with_reducible rfl | rfl)
  try simp only [Act.put, List.setIfInBounds_toArray, List.set_cons_zero, List.set_cons_succ]
  refine hd_nil ?_
  replace hP := hSW; clear hSW
  refine wpList_nil (NoPanic.normal ?_)
  have c17 := (hP.b1.cell 17).trans (Pfx.c17 _)
  have k17 := (hP.b2.cell 17).trans (Pfx.c17 _)
  generalize cmpL p.a.l q.a.l = z at HC ⊢
  by_cases hz : z = 0
  · have b1 : (z != 0) = false := by simp [hz]
    have HZ := Lib.hid hz
    clear hz
    by_cases h1 : p.len < q.len
    · have d1 := decide_eq_true h1
      have H1 := Lib.hid h1
      clear h1
      go_wp2
      go_ret
      exact ⟨by rw [HC.out, if_pos HZ.out]; unfold cmpI; rw [if_pos H1.out]; rfl, hP.lo⟩
    · have d1 := decide_eq_false h1
      have H1 := Lib.hid h1
      clear h1
      by_cases h2 : q.len < p.len
      · have d2 := decide_eq_true h2
        have H2 := Lib.hid h2
        clear h2
        go_wp2
        go_ret
        exact ⟨by rw [HC.out, if_pos HZ.out]; unfold cmpI; rw [if_neg (Int.not_lt.2 H1.out), if_pos H2.out]; rfl, hP.lo⟩
      · have d2 := decide_eq_false h2
        have H2 := Lib.hid h2
        clear h2
        go_wp2
        go_ret
        exact ⟨by rw [HC.out, if_pos HZ.out]; unfold cmpI; rw [if_neg (Int.not_lt.2 H1.out), if_neg (Int.not_lt.2 H2.out)]; rfl, hP.lo⟩
  · have b1 : (z != 0) = true := by simp [hz]
    have HZ := Lib.hid hz
    clear hz
    go_wp2
    go_ret
    exact ⟨by rw [HC.out, if_neg HZ.out]; rfl, hP.lo⟩
theorem cmp_any (p q : Pfx) (w : World) : Calls Tryz.prog 139 #[p.val, q.val] w fun e w' => e = .returned (.int .i64 (cmpOf p q)) ∧ Below w.heap.size w w' := by
  cases hp : p.v6 <;> cases hq : q.v6
  · exact cmp_sfalse p q hp hq w
  · exact cmp_01 p q hp hq w
  · exact cmp_10 p q hp hq w
  · exact cmp_strue p q hp hq w
end Go.Proofs.YtmoldmnhijcckaaGreat
/- addr.Cmp's contract with how many draws it makes: never fewer. -/
set_option linter.unusedVariables false
set_option linter.unusedSectionVars false
set_option linter.unusedSimpArgs false
namespace Go.Proofs.YtmoldmnhijcckaaGreat
open Go.RowKit
structure BelowD (B : Nat) (w w' : World) : Prop where
  lo : Below B w w'
  dr : w.drawn ≤ w'.drawn
theorem BelowD.refl (B : Nat) (w : World) : BelowD B w w := ⟨Below.refl _ _, Nat.le_refl _⟩
theorem BelowD.alloc {B : Nat} {w w' : World} (h : BelowD B w w') (hB : B ≤ w'.heap.size) (o : Obj) : BelowD B w (w'.alloc o) := ⟨h.lo.alloc hB o, h.dr⟩
theorem BelowD.drew {B : Nat} {w w' : World} (h : BelowD B w w') : BelowD B w w'.drew := ⟨h.lo.drew, Nat.le_succ_of_le h.dr⟩
theorem BelowD.then {w W W' : World} (h : BelowD w.heap.size w W) (hb : BelowD W.heap.size W W') : BelowD w.heap.size w W' := ⟨below_then h.lo (Nat.le_refl _) hb.lo, Nat.le_trans h.dr hb.dr⟩
/-- A world that has only grown. -/
theorem BelowD.grow {w w' : World} (h : BelowD w.heap.size w w') : ∃ q os, w' = Sort.grow (w.drewN q) os := by
  refine ⟨w'.drawn - w.drawn, w'.heap.extract w.heap.size w'.heap.size, ?_⟩
  have hh : w'.heap = w.heap ++ w'.heap.extract w.heap.size w'.heap.size := by
    apply Array.ext_getElem?
    intro i
    by_cases hi : i < w.heap.size
    · rw [h.lo.block i hi, Array.getElem?_append_left hi]
    · rw [Array.getElem?_append_right (by omega), Array.getElem?_extract]
      have hs := h.lo.size
      by_cases h2 : i < w'.heap.size
      · rw [if_pos (by omega)]
        congr 1
        omega
      · rw [if_neg (by omega), Array.getElem?_eq_none (by omega)]
  obtain ⟨hp, tp, dr, os, out⟩ := w'
  obtain ⟨hp0, tp0, dr0, os0, out0⟩ := w
  have h1 := h.lo.os
  have h2 := h.lo.tape
  have h3 := h.lo.output
  have h4 := h.dr
  simp only at h1 h2 h3 h4 hh
  subst h1
  subst h2
  subst h3
  unfold Sort.grow World.drewN
  simp only [World.mk.injEq]
  exact ⟨hh, trivial, by omega, trivial, trivial⟩
structure PD (w : World) (p q : Pfx) (W : World) : Prop where
  b1 : Blk W w.heap.size 65 p.cells
  b2 : Blk W (w.heap.size + 1) 65 q.cells
  lo : BelowD w.heap.size w W
theorem PD.next {w : World} {p q : Pfx} {W W' : World} (h : PD w p q W) (hb : BelowD W.heap.size W W') : PD w p q W' := ⟨h.b1.below hb.lo h.b1.lt, h.b2.below hb.lo h.b2.lt, h.lo.then hb⟩
theorem PD.drew {w : World} {p q : Pfx} {W : World} (h : PD w p q W) : PD w p q W.drew := ⟨h.b1.drew, h.b2.drew, h.lo.drew⟩
theorem PD.new (w : World) (p q : Pfx) : PD w p q ((w.alloc (.cells p.cells.toArray 65)).alloc (.cells q.cells.toArray 65)) :=
  ⟨(Blk.new _ _ _).alloc _, blk_new' _ _ _ _ (by simp), ((BelowD.refl _ _).alloc (Nat.le_refl _) _).alloc (by simp) _⟩
set_option maxRecDepth 100000 in
set_option maxHeartbeats 1000000 in
theorem cmpD_01 (p q : Pfx) (hp : p.v6 = false) (hq : q.v6 = true) (w : World) : Calls Tryz.prog 139 #[p.val, q.val] w fun e w' => e = .returned (.int .i64 (cmpOf p q)) ∧ BelowD w.heap.size w w' := by
  simp only [Pfx.val]
  have hP := PD.new w p q
  have c0 := (hP.b1.cell 0).trans (Pfx.c0 _)
  have k0 := (hP.b2.cell 0).trans (Pfx.c0 _)
  rw [hp] at c0
  rw [hq] at k0
  have HP := Lib.hid hp
  have HQ := Lib.hid hq
  clear hp hq
  go_enter Tryz.func139, Tryz.ntmps139
  go_wp2
  go_ret
  exact ⟨by simp only [cmpOf, HP.out, HQ.out]; rfl, hP.lo⟩
set_option maxRecDepth 100000 in
set_option maxHeartbeats 1000000 in
theorem cmpD_10 (p q : Pfx) (hp : p.v6 = true) (hq : q.v6 = false) (w : World) : Calls Tryz.prog 139 #[p.val, q.val] w fun e w' => e = .returned (.int .i64 (cmpOf p q)) ∧ BelowD w.heap.size w w' := by
  simp only [Pfx.val]
  have hP := PD.new w p q
  have c0 := (hP.b1.cell 0).trans (Pfx.c0 _)
  have k0 := (hP.b2.cell 0).trans (Pfx.c0 _)
  rw [hp] at c0
  rw [hq] at k0
  have HP := Lib.hid hp
  have HQ := Lib.hid hq
  clear hp hq
  go_enter Tryz.func139, Tryz.ntmps139
  go_wp2
  go_ret
  exact ⟨by simp only [cmpOf, HP.out, HQ.out]; rfl, hP.lo⟩
set_option maxRecDepth 100000 in
set_option maxHeartbeats 2000000 in
theorem cmpD_sfalse (p q : Pfx) (hp : p.v6 = false) (hq : q.v6 = false) (w : World) : Calls Tryz.prog 139 #[p.val, q.val] w fun e w' => e = .returned (.int .i64 (cmpOf p q)) ∧ BelowD w.heap.size w w' := by
  have HC := Lib.hid (show cmpOf p q = if cmpL p.a.l q.a.l = 0 then cmpI p.len q.len else cmpL p.a.l q.a.l by unfold cmpOf; rw [if_pos (hp.trans hq.symm)])
  simp only [Pfx.val]
  have hP := PD.new w p q
  have c0 := (hP.b1.cell 0).trans (Pfx.c0 _)
  have k0 := (hP.b2.cell 0).trans (Pfx.c0 _)
  rw [hp] at c0
  rw [hq] at k0
  have HP := Lib.hid hp
  have HQ := Lib.hid hq
  clear hp hq
  go_enter Tryz.func139, Tryz.ntmps139
  go_upto_region 5 with fail
  refine wp_gen (PD w p q) hP ?_
  clear hP c0 k0
  intro W0 hP
  refine reg_sch2 6 [(true, 0), (true, 1), (true, 2), (true, 3), (false, 4), (true, 5)] (by kernel_rfl) (by kernel_rfl) (PD w p q) (PD w p q) ?_ ?_ ?_
  · exact hP.drew
  · exact fun _ h => h
  intro W hSW
  simp only [List.map_cons, List.map_nil, List.getD_cons_zero, List.getD_cons_succ, List.drop_succ_cons, List.drop_zero]
  refine hd_pure (v := ?_) (by rfl) (fun W' hS' => ?_) ?_ -- 0
  rotate_left
  · (go_simp; first | with_reducible rfl | rfl)
  try simp only [Act.put, List.setIfInBounds_toArray, List.set_cons_zero, List.set_cons_succ]
  refine hd_pure (v := ?_) (by rfl) (fun W' hS' => ?_) ?_ -- 1
  rotate_left
  · (go_simp; first | with_reducible rfl | rfl)
  try simp only [Act.put, List.setIfInBounds_toArray, List.set_cons_zero, List.set_cons_succ]
  refine hd_pure (v := ?_) (by rfl) (fun W' hS' => ?_) ?_ -- 2
  rotate_left
  · (go_simp; first | with_reducible rfl | rfl)
  try simp only [Act.put, List.setIfInBounds_toArray, List.set_cons_zero, List.set_cons_succ]
  refine hd_pure (v := ?_) (by rfl) (fun W' hS' => ?_) ?_ -- 3
  rotate_left
  · (go_simp; first | with_reducible rfl | rfl)
  try simp only [Act.put, List.setIfInBounds_toArray, List.set_cons_zero, List.set_cons_succ]
  refine hd_sole (by rfl) (fun K hK => ?_) -- 4
  go_simp
  refine (compare_any (pfx_reads hSW.b1) (pfx_reads hSW.b2) _ _).mono ?_; rintro e w' ⟨rfl, rfl⟩
  refine hK _ _ (hSW) ?_
  clear hK K hSW
  intro hSW
  try simp only [Act.put, List.setIfInBounds_toArray, List.set_cons_zero, List.set_cons_succ]
  refine hd_pure (v := ?_) (by rfl) (fun W' hS' => ?_) ?_ -- 5
  rotate_left
  · (go_simp; first | with_reducible rfl | rfl)
  try simp only [Act.put, List.setIfInBounds_toArray, List.set_cons_zero, List.set_cons_succ]
  refine hd_nil ?_
  replace hP := hSW; clear hSW
  refine wpList_nil (NoPanic.normal ?_)
  have c17 := (hP.b1.cell 17).trans (Pfx.c17 _)
  have k17 := (hP.b2.cell 17).trans (Pfx.c17 _)
  generalize cmpL p.a.l q.a.l = z at HC ⊢
  by_cases hz : z = 0
  · have b1 : (z != 0) = false := by simp [hz]
    have HZ := Lib.hid hz
    clear hz
    by_cases h1 : p.len < q.len
    · have d1 := decide_eq_true h1
      have H1 := Lib.hid h1
      clear h1
      go_wp2
      go_ret
      exact ⟨by rw [HC.out, if_pos HZ.out]; unfold cmpI; rw [if_pos H1.out]; rfl, hP.lo⟩
    · have d1 := decide_eq_false h1
      have H1 := Lib.hid h1
      clear h1
      by_cases h2 : q.len < p.len
      · have d2 := decide_eq_true h2
        have H2 := Lib.hid h2
        clear h2
        go_wp2
        go_ret
        exact ⟨by rw [HC.out, if_pos HZ.out]; unfold cmpI; rw [if_neg (Int.not_lt.2 H1.out), if_pos H2.out]; rfl, hP.lo⟩
      · have d2 := decide_eq_false h2
        have H2 := Lib.hid h2
        clear h2
        go_wp2
        go_ret
        exact ⟨by rw [HC.out, if_pos HZ.out]; unfold cmpI; rw [if_neg (Int.not_lt.2 H1.out), if_neg (Int.not_lt.2 H2.out)]; rfl, hP.lo⟩
  · have b1 : (z != 0) = true := by simp [hz]
    have HZ := Lib.hid hz
    clear hz
    go_wp2
    go_ret
    exact ⟨by rw [HC.out, if_neg HZ.out]; rfl, hP.lo⟩
set_option maxRecDepth 100000 in
set_option maxHeartbeats 2000000 in
theorem cmpD_strue (p q : Pfx) (hp : p.v6 = true) (hq : q.v6 = true) (w : World) : Calls Tryz.prog 139 #[p.val, q.val] w fun e w' => e = .returned (.int .i64 (cmpOf p q)) ∧ BelowD w.heap.size w w' := by
  have HC := Lib.hid (show cmpOf p q = if cmpL p.a.l q.a.l = 0 then cmpI p.len q.len else cmpL p.a.l q.a.l by unfold cmpOf; rw [if_pos (hp.trans hq.symm)])
  simp only [Pfx.val]
  have hP := PD.new w p q
  have c0 := (hP.b1.cell 0).trans (Pfx.c0 _)
  have k0 := (hP.b2.cell 0).trans (Pfx.c0 _)
  rw [hp] at c0
  rw [hq] at k0
  have HP := Lib.hid hp
  have HQ := Lib.hid hq
  clear hp hq
  go_enter Tryz.func139, Tryz.ntmps139
  go_upto_region 5 with fail
  refine wp_gen (PD w p q) hP ?_
  clear hP c0 k0
  intro W0 hP
  refine reg_sch2 6 [(true, 0), (true, 1), (true, 2), (true, 3), (false, 4), (true, 5)] (by kernel_rfl) (by kernel_rfl) (PD w p q) (PD w p q) ?_ ?_ ?_
  · exact hP.drew
  · exact fun _ h => h
  intro W hSW
  simp only [List.map_cons, List.map_nil, List.getD_cons_zero, List.getD_cons_succ, List.drop_succ_cons, List.drop_zero]
  refine hd_pure (v := ?_) (by rfl) (fun W' hS' => ?_) ?_ -- 0
  rotate_left
  · (go_simp; first | with_reducible rfl | rfl)
  try simp only [Act.put, List.setIfInBounds_toArray, List.set_cons_zero, List.set_cons_succ]
  refine hd_pure (v := ?_) (by rfl) (fun W' hS' => ?_) ?_ -- 1
  rotate_left
  · (go_simp; first | with_reducible rfl | rfl)
  try simp only [Act.put, List.setIfInBounds_toArray, List.set_cons_zero, List.set_cons_succ]
  refine hd_pure (v := ?_) (by rfl) (fun W' hS' => ?_) ?_ -- 2
  rotate_left
  · (go_simp; first | with_reducible rfl | rfl)
  try simp only [Act.put, List.setIfInBounds_toArray, List.set_cons_zero, List.set_cons_succ]
  refine hd_pure (v := ?_) (by rfl) (fun W' hS' => ?_) ?_ -- 3
  rotate_left
  · (go_simp; first | with_reducible rfl | rfl)
  try simp only [Act.put, List.setIfInBounds_toArray, List.set_cons_zero, List.set_cons_succ]
  refine hd_sole (by rfl) (fun K hK => ?_) -- 4
  go_simp
  refine (compare_any (pfx_reads hSW.b1) (pfx_reads hSW.b2) _ _).mono ?_; rintro e w' ⟨rfl, rfl⟩
  refine hK _ _ (hSW) ?_
  clear hK K hSW
  intro hSW
  try simp only [Act.put, List.setIfInBounds_toArray, List.set_cons_zero, List.set_cons_succ]
  refine hd_pure (v := ?_) (by rfl) (fun W' hS' => ?_) ?_ -- 5
  rotate_left
  · (go_simp; first | with_reducible rfl | rfl)
  try simp only [Act.put, List.setIfInBounds_toArray, List.set_cons_zero, List.set_cons_succ]
  refine hd_nil ?_
  replace hP := hSW; clear hSW
  refine wpList_nil (NoPanic.normal ?_)
  have c17 := (hP.b1.cell 17).trans (Pfx.c17 _)
  have k17 := (hP.b2.cell 17).trans (Pfx.c17 _)
  generalize cmpL p.a.l q.a.l = z at HC ⊢
  by_cases hz : z = 0
  · have b1 : (z != 0) = false := by simp [hz]
    have HZ := Lib.hid hz
    clear hz
    by_cases h1 : p.len < q.len
    · have d1 := decide_eq_true h1
      have H1 := Lib.hid h1
      clear h1
      go_wp2
      go_ret
      exact ⟨by rw [HC.out, if_pos HZ.out]; unfold cmpI; rw [if_pos H1.out]; rfl, hP.lo⟩
    · have d1 := decide_eq_false h1
      have H1 := Lib.hid h1
      clear h1
      by_cases h2 : q.len < p.len
      · have d2 := decide_eq_true h2
        have H2 := Lib.hid h2
        clear h2
        go_wp2
        go_ret
        exact ⟨by rw [HC.out, if_pos HZ.out]; unfold cmpI; rw [if_neg (Int.not_lt.2 H1.out), if_pos H2.out]; rfl, hP.lo⟩
      · have d2 := decide_eq_false h2
        have H2 := Lib.hid h2
        clear h2
        go_wp2
        go_ret
        exact ⟨by rw [HC.out, if_pos HZ.out]; unfold cmpI; rw [if_neg (Int.not_lt.2 H1.out), if_neg (Int.not_lt.2 H2.out)]; rfl, hP.lo⟩
  · have b1 : (z != 0) = true := by simp [hz]
    have HZ := Lib.hid hz
    clear hz
    go_wp2
    go_ret
    exact ⟨by rw [HC.out, if_neg HZ.out]; rfl, hP.lo⟩
theorem cmpD_any (p q : Pfx) (w : World) : Calls Tryz.prog 139 #[p.val, q.val] w fun e w' => e = .returned (.int .i64 (cmpOf p q)) ∧ BelowD w.heap.size w w' := by
  cases hp : p.v6 <;> cases hq : q.v6
  · exact cmpD_sfalse p q hp hq w
  · exact cmpD_01 p q hp hq w
  · exact cmpD_10 p q hp hq w
  · exact cmpD_strue p q hp hq w
end Go.Proofs.YtmoldmnhijcckaaGreat
