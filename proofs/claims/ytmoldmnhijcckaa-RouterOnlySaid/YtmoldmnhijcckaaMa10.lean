/- addr.Cmp's contract with how many draws it makes: never fewer. -/
import Derived.Test.YtmoldmnhijcckaaMa09
import Derived.Sort.Grow
set_option linter.unusedVariables false
set_option linter.unusedSectionVars false
set_option linter.unusedSimpArgs false
namespace Go.Proofs.Ytmoldmnhijcckaa
open Go.RowKit
structure BelowD (B : Nat) (w w' : World) : Prop where
  lo : Below B w w'
  dr : w.drawn ≤ w'.drawn
theorem BelowD.refl (B : Nat) (w : World) : BelowD B w w := ⟨Below.refl _ _, Nat.le_refl _⟩
theorem BelowD.alloc {B : Nat} {w w' : World} (h : BelowD B w w') (hB : B ≤ w'.heap.size) (o : Obj) : BelowD B w (w'.alloc o) := ⟨h.lo.alloc hB o, h.dr⟩
theorem BelowD.drew {B : Nat} {w w' : World} (h : BelowD B w w') : BelowD B w w'.drew := ⟨h.lo.drew, Nat.le_succ_of_le h.dr⟩
theorem BelowD.then {w W W' : World} (h : BelowD w.heap.size w W) (hb : BelowD W.heap.size W W') : BelowD w.heap.size w W' := ⟨below_then h.lo (Nat.le_refl _) hb.lo, Nat.le_trans h.dr hb.dr⟩
/-- A world that has only grown. -/
theorem BelowD.grow {w w' : World} (h : BelowD w.heap.size w w') : ∃ q os, w' = Sort.grow (w.drewN q) os := by
  refine ⟨w'.drawn - w.drawn, w'.heap.extract w.heap.size w'.heap.size, ?_⟩
  have hh : w'.heap = w.heap ++ w'.heap.extract w.heap.size w'.heap.size := by
    apply Array.ext_getElem?
    intro i
    by_cases hi : i < w.heap.size
    · rw [h.lo.block i hi, Array.getElem?_append_left hi]
    · rw [Array.getElem?_append_right (by omega), Array.getElem?_extract]
      have hs := h.lo.size
      by_cases h2 : i < w'.heap.size
      · rw [if_pos (by omega)]
        congr 1
        omega
      · rw [if_neg (by omega), Array.getElem?_eq_none (by omega)]
  obtain ⟨hp, tp, dr, os, out⟩ := w'
  obtain ⟨hp0, tp0, dr0, os0, out0⟩ := w
  have h1 := h.lo.os
  have h2 := h.lo.tape
  have h3 := h.lo.output
  have h4 := h.dr
  simp only at h1 h2 h3 h4 hh
  subst h1
  subst h2
  subst h3
  unfold Sort.grow World.drewN
  simp only [World.mk.injEq]
  exact ⟨hh, trivial, by omega, trivial, trivial⟩
structure PD (w : World) (p q : Pfx) (W : World) : Prop where
  b1 : Blk W w.heap.size 25 p.cells
  b2 : Blk W (w.heap.size + 1) 25 q.cells
  lo : BelowD w.heap.size w W
theorem PD.next {w : World} {p q : Pfx} {W W' : World} (h : PD w p q W) (hb : BelowD W.heap.size W W') : PD w p q W' := ⟨h.b1.below hb.lo h.b1.lt, h.b2.below hb.lo h.b2.lt, h.lo.then hb⟩
theorem PD.drew {w : World} {p q : Pfx} {W : World} (h : PD w p q W) : PD w p q W.drew := ⟨h.b1.drew, h.b2.drew, h.lo.drew⟩
theorem PD.new (w : World) (p q : Pfx) : PD w p q ((w.alloc (.cells p.cells.toArray 25)).alloc (.cells q.cells.toArray 25)) :=
  ⟨(Blk.new _ _ _).alloc _, blk_new' _ _ _ _ (by simp), ((BelowD.refl _ _).alloc (Nat.le_refl _) _).alloc (by simp) _⟩
set_option maxRecDepth 100000 in
set_option maxHeartbeats 1000000 in
theorem cmpD_01 (p q : Pfx) (hp : p.v6 = false) (hq : q.v6 = true) (w : World) : Calls Try.prog 125 #[p.val, q.val] w fun e w' => e = .returned (.int .i64 (cmpOf p q)) ∧ BelowD w.heap.size w w' := by
  simp only [Pfx.val]
  have hP := PD.new w p q
  have c0 := (hP.b1.cell 0).trans (Pfx.c0 _)
  have k0 := (hP.b2.cell 0).trans (Pfx.c0 _)
  rw [hp] at c0
  rw [hq] at k0
  have HP := Lib.hid hp
  have HQ := Lib.hid hq
  clear hp hq
  go_enter Try.func125, Try.ntmps125
  go_wp2
  go_ret
  exact ⟨by simp only [cmpOf, HP.out, HQ.out]; rfl, hP.lo⟩
set_option maxRecDepth 100000 in
set_option maxHeartbeats 1000000 in
theorem cmpD_10 (p q : Pfx) (hp : p.v6 = true) (hq : q.v6 = false) (w : World) : Calls Try.prog 125 #[p.val, q.val] w fun e w' => e = .returned (.int .i64 (cmpOf p q)) ∧ BelowD w.heap.size w w' := by
  simp only [Pfx.val]
  have hP := PD.new w p q
  have c0 := (hP.b1.cell 0).trans (Pfx.c0 _)
  have k0 := (hP.b2.cell 0).trans (Pfx.c0 _)
  rw [hp] at c0
  rw [hq] at k0
  have HP := Lib.hid hp
  have HQ := Lib.hid hq
  clear hp hq
  go_enter Try.func125, Try.ntmps125
  go_wp2
  go_ret
  exact ⟨by simp only [cmpOf, HP.out, HQ.out]; rfl, hP.lo⟩
set_option maxRecDepth 100000 in
set_option maxHeartbeats 2000000 in
theorem cmpD_sfalse (p q : Pfx) (hp : p.v6 = false) (hq : q.v6 = false) (w : World) : Calls Try.prog 125 #[p.val, q.val] w fun e w' => e = .returned (.int .i64 (cmpOf p q)) ∧ BelowD w.heap.size w w' := by
  have HC := Lib.hid (show cmpOf p q = if cmpL p.a.l q.a.l = 0 then cmpI p.len q.len else cmpL p.a.l q.a.l by unfold cmpOf; rw [if_pos (hp.trans hq.symm)])
  simp only [Pfx.val]
  have hP := PD.new w p q
  have c0 := (hP.b1.cell 0).trans (Pfx.c0 _)
  have k0 := (hP.b2.cell 0).trans (Pfx.c0 _)
  rw [hp] at c0
  rw [hq] at k0
  have HP := Lib.hid hp
  have HQ := Lib.hid hq
  clear hp hq
  go_enter Try.func125, Try.ntmps125
  go_upto_region 5 with fail
  refine wp_gen (PD w p q) hP ?_
  clear hP c0 k0
  intro W0 hP
  refine reg_sch2 6 [(true, 0), (true, 1), (true, 2), (true, 3), (false, 4), (true, 5)] (by kernel_rfl) (by kernel_rfl) (PD w p q) (PD w p q) ?_ ?_ ?_
  · exact hP.drew
  · exact fun _ h => h
  intro W hSW
  simp only [List.map_cons, List.map_nil, List.getD_cons_zero, List.getD_cons_succ, List.drop_succ_cons, List.drop_zero]
  refine hd_pure (v := ?_) (by rfl) (fun W' hS' => ?_) ?_ -- 0
  rotate_left
  · (go_simp; first | with_reducible rfl | rfl)
  try simp only [Act.put, List.setIfInBounds_toArray, List.set_cons_zero, List.set_cons_succ]
  refine hd_pure (v := ?_) (by rfl) (fun W' hS' => ?_) ?_ -- 1
  rotate_left
  · (go_simp; first | with_reducible rfl | rfl)
  try simp only [Act.put, List.setIfInBounds_toArray, List.set_cons_zero, List.set_cons_succ]
  refine hd_pure (v := ?_) (by rfl) (fun W' hS' => ?_) ?_ -- 2
  rotate_left
  · (go_simp; first | with_reducible rfl | rfl)
  try simp only [Act.put, List.setIfInBounds_toArray, List.set_cons_zero, List.set_cons_succ]
  refine hd_pure (v := ?_) (by rfl) (fun W' hS' => ?_) ?_ -- 3
  rotate_left
  · (go_simp; first | with_reducible rfl | rfl)
  try simp only [Act.put, List.setIfInBounds_toArray, List.set_cons_zero, List.set_cons_succ]
  refine hd_sole (by rfl) (fun K hK => ?_) -- 4
  go_simp
  refine (compare_any (pfx_reads hSW.b1) (pfx_reads hSW.b2) _ _).mono ?_; rintro e w' ⟨rfl, rfl⟩
  refine hK _ _ (hSW) ?_
  clear hK K hSW
  intro hSW
  try simp only [Act.put, List.setIfInBounds_toArray, List.set_cons_zero, List.set_cons_succ]
  refine hd_pure (v := ?_) (by rfl) (fun W' hS' => ?_) ?_ -- 5
  rotate_left
  · (go_simp; first | with_reducible rfl | rfl)
  try simp only [Act.put, List.setIfInBounds_toArray, List.set_cons_zero, List.set_cons_succ]
  refine hd_nil ?_
  replace hP := hSW; clear hSW
  refine wpList_nil (NoPanic.normal ?_)
  have c17 := (hP.b1.cell 17).trans (Pfx.c17 _)
  have k17 := (hP.b2.cell 17).trans (Pfx.c17 _)
  generalize cmpL p.a.l q.a.l = z at HC ⊢
  by_cases hz : z = 0
  · have b1 : (z != 0) = false := by simp [hz]
    have HZ := Lib.hid hz
    clear hz
    by_cases h1 : p.len < q.len
    · have d1 := decide_eq_true h1
      have H1 := Lib.hid h1
      clear h1
      go_wp2
      go_ret
      exact ⟨by rw [HC.out, if_pos HZ.out]; unfold cmpI; rw [if_pos H1.out]; rfl, hP.lo⟩
    · have d1 := decide_eq_false h1
      have H1 := Lib.hid h1
      clear h1
      by_cases h2 : q.len < p.len
      · have d2 := decide_eq_true h2
        have H2 := Lib.hid h2
        clear h2
        go_wp2
        go_ret
        exact ⟨by rw [HC.out, if_pos HZ.out]; unfold cmpI; rw [if_neg (Int.not_lt.2 H1.out), if_pos H2.out]; rfl, hP.lo⟩
      · have d2 := decide_eq_false h2
        have H2 := Lib.hid h2
        clear h2
        go_wp2
        go_ret
        exact ⟨by rw [HC.out, if_pos HZ.out]; unfold cmpI; rw [if_neg (Int.not_lt.2 H1.out), if_neg (Int.not_lt.2 H2.out)]; rfl, hP.lo⟩
  · have b1 : (z != 0) = true := by simp [hz]
    have HZ := Lib.hid hz
    clear hz
    go_wp2
    go_ret
    exact ⟨by rw [HC.out, if_neg HZ.out]; rfl, hP.lo⟩
set_option maxRecDepth 100000 in
set_option maxHeartbeats 2000000 in
theorem cmpD_strue (p q : Pfx) (hp : p.v6 = true) (hq : q.v6 = true) (w : World) : Calls Try.prog 125 #[p.val, q.val] w fun e w' => e = .returned (.int .i64 (cmpOf p q)) ∧ BelowD w.heap.size w w' := by
  have HC := Lib.hid (show cmpOf p q = if cmpL p.a.l q.a.l = 0 then cmpI p.len q.len else cmpL p.a.l q.a.l by unfold cmpOf; rw [if_pos (hp.trans hq.symm)])
  simp only [Pfx.val]
  have hP := PD.new w p q
  have c0 := (hP.b1.cell 0).trans (Pfx.c0 _)
  have k0 := (hP.b2.cell 0).trans (Pfx.c0 _)
  rw [hp] at c0
  rw [hq] at k0
  have HP := Lib.hid hp
  have HQ := Lib.hid hq
  clear hp hq
  go_enter Try.func125, Try.ntmps125
  go_upto_region 5 with fail
  refine wp_gen (PD w p q) hP ?_
  clear hP c0 k0
  intro W0 hP
  refine reg_sch2 6 [(true, 0), (true, 1), (true, 2), (true, 3), (false, 4), (true, 5)] (by kernel_rfl) (by kernel_rfl) (PD w p q) (PD w p q) ?_ ?_ ?_
  · exact hP.drew
  · exact fun _ h => h
  intro W hSW
  simp only [List.map_cons, List.map_nil, List.getD_cons_zero, List.getD_cons_succ, List.drop_succ_cons, List.drop_zero]
  refine hd_pure (v := ?_) (by rfl) (fun W' hS' => ?_) ?_ -- 0
  rotate_left
  · (go_simp; first | with_reducible rfl | rfl)
  try simp only [Act.put, List.setIfInBounds_toArray, List.set_cons_zero, List.set_cons_succ]
  refine hd_pure (v := ?_) (by rfl) (fun W' hS' => ?_) ?_ -- 1
  rotate_left
  · (go_simp; first | with_reducible rfl | rfl)
  try simp only [Act.put, List.setIfInBounds_toArray, List.set_cons_zero, List.set_cons_succ]
  refine hd_pure (v := ?_) (by rfl) (fun W' hS' => ?_) ?_ -- 2
  rotate_left
  · (go_simp; first | with_reducible rfl | rfl)
  try simp only [Act.put, List.setIfInBounds_toArray, List.set_cons_zero, List.set_cons_succ]
  refine hd_pure (v := ?_) (by rfl) (fun W' hS' => ?_) ?_ -- 3
  rotate_left
  · (go_simp; first | with_reducible rfl | rfl)
  try simp only [Act.put, List.setIfInBounds_toArray, List.set_cons_zero, List.set_cons_succ]
  refine hd_sole (by rfl) (fun K hK => ?_) -- 4
  go_simp
  refine (compare_any (pfx_reads hSW.b1) (pfx_reads hSW.b2) _ _).mono ?_; rintro e w' ⟨rfl, rfl⟩
  refine hK _ _ (hSW) ?_
  clear hK K hSW
  intro hSW
  try simp only [Act.put, List.setIfInBounds_toArray, List.set_cons_zero, List.set_cons_succ]
  refine hd_pure (v := ?_) (by rfl) (fun W' hS' => ?_) ?_ -- 5
  rotate_left
  · (go_simp; first | with_reducible rfl | rfl)
  try simp only [Act.put, List.setIfInBounds_toArray, List.set_cons_zero, List.set_cons_succ]
  refine hd_nil ?_
  replace hP := hSW; clear hSW
  refine wpList_nil (NoPanic.normal ?_)
  have c17 := (hP.b1.cell 17).trans (Pfx.c17 _)
  have k17 := (hP.b2.cell 17).trans (Pfx.c17 _)
  generalize cmpL p.a.l q.a.l = z at HC ⊢
  by_cases hz : z = 0
  · have b1 : (z != 0) = false := by simp [hz]
    have HZ := Lib.hid hz
    clear hz
    by_cases h1 : p.len < q.len
    · have d1 := decide_eq_true h1
      have H1 := Lib.hid h1
      clear h1
      go_wp2
      go_ret
      exact ⟨by rw [HC.out, if_pos HZ.out]; unfold cmpI; rw [if_pos H1.out]; rfl, hP.lo⟩
    · have d1 := decide_eq_false h1
      have H1 := Lib.hid h1
      clear h1
      by_cases h2 : q.len < p.len
      · have d2 := decide_eq_true h2
        have H2 := Lib.hid h2
        clear h2
        go_wp2
        go_ret
        exact ⟨by rw [HC.out, if_pos HZ.out]; unfold cmpI; rw [if_neg (Int.not_lt.2 H1.out), if_pos H2.out]; rfl, hP.lo⟩
      · have d2 := decide_eq_false h2
        have H2 := Lib.hid h2
        clear h2
        go_wp2
        go_ret
        exact ⟨by rw [HC.out, if_pos HZ.out]; unfold cmpI; rw [if_neg (Int.not_lt.2 H1.out), if_neg (Int.not_lt.2 H2.out)]; rfl, hP.lo⟩
  · have b1 : (z != 0) = true := by simp [hz]
    have HZ := Lib.hid hz
    clear hz
    go_wp2
    go_ret
    exact ⟨by rw [HC.out, if_neg HZ.out]; rfl, hP.lo⟩
theorem cmpD_any (p q : Pfx) (w : World) : Calls Try.prog 125 #[p.val, q.val] w fun e w' => e = .returned (.int .i64 (cmpOf p q)) ∧ BelowD w.heap.size w w' := by
  cases hp : p.v6 <;> cases hq : q.v6
  · exact cmpD_sfalse p q hp hq w
  · exact cmpD_01 p q hp hq w
  · exact cmpD_10 p q hp hq w
  · exact cmpD_strue p q hp hq w
end Go.Proofs.Ytmoldmnhijcckaa
