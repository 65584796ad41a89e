/- The contracts of lanyardref10.Covers and lanyardref10.Cut. -/
import Derived.Test.YtmoldmnhijcckaaDoorRefT
set_option linter.unusedVariables false
set_option linter.unusedSectionVars false
set_option linter.unusedSimpArgs false
namespace Go.Proofs.YtmoldmnhijcckaaDoor
open Go.RowKit
set_option maxRecDepth 100000 in
set_option maxHeartbeats 1000000 in
theorem rcovers_no1 (p q : Pfx) (hp : pfxOk p = false) (w : World) : Calls Tryd.prog 37 #[p.val, q.val] w fun e w' => e = .returned (.bool (coversOf p q)) ∧ Below w.heap.size w w' := by
  have HC := Lib.hid (show coversOf p q = false by simp [coversOf, hp])
  have HP := Lib.hid hp
  clear hp
  simp only [Pfx.val]
  have hP := PQ.new w p q
  go_enter Tryd.func37, Tryd.ntmps37
  go_wp2_with (first | (refine wpList_load_g (by rfl) 50 _ rfl w.heap.size 0 18 rfl _ _ hP.b1.range (Pfx.cells_length _) Tryd.underlying50 rfl info_pfx ?_) | (refine wpList_load_g (by rfl) 50 _ rfl (w.heap.size + 1) 0 18 rfl _ _ hP.b2.range (Pfx.cells_length _) Tryd.underlying50 rfl info_pfx ?_))
  refine (rright_any p _).mono ?_
  rintro e w1 ⟨rfl, hb⟩
  replace hP := hP.next hb
  clear hb
  rw [HP.out]
  go_wp2_with (first | (refine wpList_load_g (by rfl) 50 _ rfl w.heap.size 0 18 rfl _ _ hP.b1.range (Pfx.cells_length _) Tryd.underlying50 rfl info_pfx ?_) | (refine wpList_load_g (by rfl) 50 _ rfl (w.heap.size + 1) 0 18 rfl _ _ hP.b2.range (Pfx.cells_length _) Tryd.underlying50 rfl info_pfx ?_))
  go_ret
  exact ⟨by rw [HC.out]; rfl, hP.lo⟩
set_option maxRecDepth 100000 in
set_option maxHeartbeats 1000000 in
theorem rcovers_no2 (p q : Pfx) (hp : pfxOk p = true) (hq : pfxOk q = false) (w : World) : Calls Tryd.prog 37 #[p.val, q.val] w fun e w' => e = .returned (.bool (coversOf p q)) ∧ Below w.heap.size w w' := by
  have HC := Lib.hid (show coversOf p q = false by simp [coversOf, hq])
  have HP := Lib.hid hp
  have HQ := Lib.hid hq
  clear hp hq
  simp only [Pfx.val]
  have hP := PQ.new w p q
  go_enter Tryd.func37, Tryd.ntmps37
  go_wp2_with (first | (refine wpList_load_g (by rfl) 50 _ rfl w.heap.size 0 18 rfl _ _ hP.b1.range (Pfx.cells_length _) Tryd.underlying50 rfl info_pfx ?_) | (refine wpList_load_g (by rfl) 50 _ rfl (w.heap.size + 1) 0 18 rfl _ _ hP.b2.range (Pfx.cells_length _) Tryd.underlying50 rfl info_pfx ?_))
  refine (rright_any p _).mono ?_
  rintro e w1 ⟨rfl, hb⟩
  replace hP := hP.next hb
  clear hb
  rw [HP.out]
  go_wp2_with (first | (refine wpList_load_g (by rfl) 50 _ rfl w.heap.size 0 18 rfl _ _ hP.b1.range (Pfx.cells_length _) Tryd.underlying50 rfl info_pfx ?_) | (refine wpList_load_g (by rfl) 50 _ rfl (w.heap.size + 1) 0 18 rfl _ _ hP.b2.range (Pfx.cells_length _) Tryd.underlying50 rfl info_pfx ?_))
  refine (rright_any q _).mono ?_
  rintro e w1 ⟨rfl, hb⟩
  replace hP := hP.next hb
  clear hb
  rw [HQ.out]
  go_wp2_with (first | (refine wpList_load_g (by rfl) 50 _ rfl w.heap.size 0 18 rfl _ _ hP.b1.range (Pfx.cells_length _) Tryd.underlying50 rfl info_pfx ?_) | (refine wpList_load_g (by rfl) 50 _ rfl (w.heap.size + 1) 0 18 rfl _ _ hP.b2.range (Pfx.cells_length _) Tryd.underlying50 rfl info_pfx ?_))
  go_ret
  exact ⟨by rw [HC.out]; rfl, hP.lo⟩
set_option maxRecDepth 100000 in
set_option maxHeartbeats 1000000 in
theorem rcovers_no3false (p q : Pfx) (hp : pfxOk p = true) (hq : pfxOk q = true) (h1 : p.v6 = false) (h2 : q.v6 = true) (w : World) : Calls Tryd.prog 37 #[p.val, q.val] w fun e w' => e = .returned (.bool (coversOf p q)) ∧ Below w.heap.size w w' := by
  have HC := Lib.hid (show coversOf p q = false by simp [coversOf, h1, h2])
  have HP := Lib.hid hp
  have HQ := Lib.hid hq
  have H1 := Lib.hid h1
  have H2 := Lib.hid h2
  clear hp hq h1 h2
  simp only [Pfx.val]
  have hP := PQ.new w p q
  go_enter Tryd.func37, Tryd.ntmps37
  go_wp2_with (first | (refine wpList_load_g (by rfl) 50 _ rfl w.heap.size 0 18 rfl _ _ hP.b1.range (Pfx.cells_length _) Tryd.underlying50 rfl info_pfx ?_) | (refine wpList_load_g (by rfl) 50 _ rfl (w.heap.size + 1) 0 18 rfl _ _ hP.b2.range (Pfx.cells_length _) Tryd.underlying50 rfl info_pfx ?_))
  refine (rright_any p _).mono ?_
  rintro e w1 ⟨rfl, hb⟩
  replace hP := hP.next hb
  clear hb
  rw [HP.out]
  go_wp2_with (first | (refine wpList_load_g (by rfl) 50 _ rfl w.heap.size 0 18 rfl _ _ hP.b1.range (Pfx.cells_length _) Tryd.underlying50 rfl info_pfx ?_) | (refine wpList_load_g (by rfl) 50 _ rfl (w.heap.size + 1) 0 18 rfl _ _ hP.b2.range (Pfx.cells_length _) Tryd.underlying50 rfl info_pfx ?_))
  refine (rright_any q _).mono ?_
  rintro e w1 ⟨rfl, hb⟩
  replace hP := hP.next hb
  clear hb
  rw [HQ.out]
  have c0 := (hP.b1.cell 0).trans (Pfx.c0 _)
  have k0 := (hP.b2.cell 0).trans (Pfx.c0 _)
  rw [H1.out] at c0
  rw [H2.out] at k0
  go_wp2_with (first | (refine wpList_load_g (by rfl) 50 _ rfl w.heap.size 0 18 rfl _ _ hP.b1.range (Pfx.cells_length _) Tryd.underlying50 rfl info_pfx ?_) | (refine wpList_load_g (by rfl) 50 _ rfl (w.heap.size + 1) 0 18 rfl _ _ hP.b2.range (Pfx.cells_length _) Tryd.underlying50 rfl info_pfx ?_))
  go_ret
  exact ⟨by rw [HC.out]; rfl, hP.lo⟩
set_option maxRecDepth 100000 in
set_option maxHeartbeats 1000000 in
theorem rcovers_no3true (p q : Pfx) (hp : pfxOk p = true) (hq : pfxOk q = true) (h1 : p.v6 = true) (h2 : q.v6 = false) (w : World) : Calls Tryd.prog 37 #[p.val, q.val] w fun e w' => e = .returned (.bool (coversOf p q)) ∧ Below w.heap.size w w' := by
  have HC := Lib.hid (show coversOf p q = false by simp [coversOf, h1, h2])
  have HP := Lib.hid hp
  have HQ := Lib.hid hq
  have H1 := Lib.hid h1
  have H2 := Lib.hid h2
  clear hp hq h1 h2
  simp only [Pfx.val]
  have hP := PQ.new w p q
  go_enter Tryd.func37, Tryd.ntmps37
  go_wp2_with (first | (refine wpList_load_g (by rfl) 50 _ rfl w.heap.size 0 18 rfl _ _ hP.b1.range (Pfx.cells_length _) Tryd.underlying50 rfl info_pfx ?_) | (refine wpList_load_g (by rfl) 50 _ rfl (w.heap.size + 1) 0 18 rfl _ _ hP.b2.range (Pfx.cells_length _) Tryd.underlying50 rfl info_pfx ?_))
  refine (rright_any p _).mono ?_
  rintro e w1 ⟨rfl, hb⟩
  replace hP := hP.next hb
  clear hb
  rw [HP.out]
  go_wp2_with (first | (refine wpList_load_g (by rfl) 50 _ rfl w.heap.size 0 18 rfl _ _ hP.b1.range (Pfx.cells_length _) Tryd.underlying50 rfl info_pfx ?_) | (refine wpList_load_g (by rfl) 50 _ rfl (w.heap.size + 1) 0 18 rfl _ _ hP.b2.range (Pfx.cells_length _) Tryd.underlying50 rfl info_pfx ?_))
  refine (rright_any q _).mono ?_
  rintro e w1 ⟨rfl, hb⟩
  replace hP := hP.next hb
  clear hb
  rw [HQ.out]
  have c0 := (hP.b1.cell 0).trans (Pfx.c0 _)
  have k0 := (hP.b2.cell 0).trans (Pfx.c0 _)
  rw [H1.out] at c0
  rw [H2.out] at k0
  go_wp2_with (first | (refine wpList_load_g (by rfl) 50 _ rfl w.heap.size 0 18 rfl _ _ hP.b1.range (Pfx.cells_length _) Tryd.underlying50 rfl info_pfx ?_) | (refine wpList_load_g (by rfl) 50 _ rfl (w.heap.size + 1) 0 18 rfl _ _ hP.b2.range (Pfx.cells_length _) Tryd.underlying50 rfl info_pfx ?_))
  go_ret
  exact ⟨by rw [HC.out]; rfl, hP.lo⟩
set_option maxRecDepth 100000 in
set_option maxHeartbeats 1000000 in
theorem rcovers_no4false (p q : Pfx) (hp : pfxOk p = true) (hq : pfxOk q = true) (h1 : p.v6 = false) (h2 : q.v6 = false) (hl : ¬ p.len ≤ q.len) (w : World) : Calls Tryd.prog 37 #[p.val, q.val] w fun e w' => e = .returned (.bool (coversOf p q)) ∧ Below w.heap.size w w' := by
  have HC := Lib.hid (show coversOf p q = false by simp [coversOf, hl])
  have HP := Lib.hid hp
  have HQ := Lib.hid hq
  have H1 := Lib.hid h1
  have H2 := Lib.hid h2
  have dl := decide_eq_true (show q.len < p.len by omega)
  clear hp hq h1 h2 hl
  simp only [Pfx.val]
  have hP := PQ.new w p q
  go_enter Tryd.func37, Tryd.ntmps37
  go_wp2_with (first | (refine wpList_load_g (by rfl) 50 _ rfl w.heap.size 0 18 rfl _ _ hP.b1.range (Pfx.cells_length _) Tryd.underlying50 rfl info_pfx ?_) | (refine wpList_load_g (by rfl) 50 _ rfl (w.heap.size + 1) 0 18 rfl _ _ hP.b2.range (Pfx.cells_length _) Tryd.underlying50 rfl info_pfx ?_))
  refine (rright_any p _).mono ?_
  rintro e w1 ⟨rfl, hb⟩
  replace hP := hP.next hb
  clear hb
  rw [HP.out]
  go_wp2_with (first | (refine wpList_load_g (by rfl) 50 _ rfl w.heap.size 0 18 rfl _ _ hP.b1.range (Pfx.cells_length _) Tryd.underlying50 rfl info_pfx ?_) | (refine wpList_load_g (by rfl) 50 _ rfl (w.heap.size + 1) 0 18 rfl _ _ hP.b2.range (Pfx.cells_length _) Tryd.underlying50 rfl info_pfx ?_))
  refine (rright_any q _).mono ?_
  rintro e w1 ⟨rfl, hb⟩
  replace hP := hP.next hb
  clear hb
  rw [HQ.out]
  have c0 := (hP.b1.cell 0).trans (Pfx.c0 _)
  have k0 := (hP.b2.cell 0).trans (Pfx.c0 _)
  have c17 := (hP.b1.cell 17).trans (Pfx.c17 _)
  have k17 := (hP.b2.cell 17).trans (Pfx.c17 _)
  rw [H1.out] at c0
  rw [H2.out] at k0
  go_wp2_with (first | (refine wpList_load_g (by rfl) 50 _ rfl w.heap.size 0 18 rfl _ _ hP.b1.range (Pfx.cells_length _) Tryd.underlying50 rfl info_pfx ?_) | (refine wpList_load_g (by rfl) 50 _ rfl (w.heap.size + 1) 0 18 rfl _ _ hP.b2.range (Pfx.cells_length _) Tryd.underlying50 rfl info_pfx ?_))
  go_ret
  exact ⟨by rw [HC.out]; rfl, hP.lo⟩
set_option maxRecDepth 100000 in
set_option maxHeartbeats 1000000 in
theorem rcovers_no4true (p q : Pfx) (hp : pfxOk p = true) (hq : pfxOk q = true) (h1 : p.v6 = true) (h2 : q.v6 = true) (hl : ¬ p.len ≤ q.len) (w : World) : Calls Tryd.prog 37 #[p.val, q.val] w fun e w' => e = .returned (.bool (coversOf p q)) ∧ Below w.heap.size w w' := by
  have HC := Lib.hid (show coversOf p q = false by simp [coversOf, hl])
  have HP := Lib.hid hp
  have HQ := Lib.hid hq
  have H1 := Lib.hid h1
  have H2 := Lib.hid h2
  have dl := decide_eq_true (show q.len < p.len by omega)
  clear hp hq h1 h2 hl
  simp only [Pfx.val]
  have hP := PQ.new w p q
  go_enter Tryd.func37, Tryd.ntmps37
  go_wp2_with (first | (refine wpList_load_g (by rfl) 50 _ rfl w.heap.size 0 18 rfl _ _ hP.b1.range (Pfx.cells_length _) Tryd.underlying50 rfl info_pfx ?_) | (refine wpList_load_g (by rfl) 50 _ rfl (w.heap.size + 1) 0 18 rfl _ _ hP.b2.range (Pfx.cells_length _) Tryd.underlying50 rfl info_pfx ?_))
  refine (rright_any p _).mono ?_
  rintro e w1 ⟨rfl, hb⟩
  replace hP := hP.next hb
  clear hb
  rw [HP.out]
  go_wp2_with (first | (refine wpList_load_g (by rfl) 50 _ rfl w.heap.size 0 18 rfl _ _ hP.b1.range (Pfx.cells_length _) Tryd.underlying50 rfl info_pfx ?_) | (refine wpList_load_g (by rfl) 50 _ rfl (w.heap.size + 1) 0 18 rfl _ _ hP.b2.range (Pfx.cells_length _) Tryd.underlying50 rfl info_pfx ?_))
  refine (rright_any q _).mono ?_
  rintro e w1 ⟨rfl, hb⟩
  replace hP := hP.next hb
  clear hb
  rw [HQ.out]
  have c0 := (hP.b1.cell 0).trans (Pfx.c0 _)
  have k0 := (hP.b2.cell 0).trans (Pfx.c0 _)
  have c17 := (hP.b1.cell 17).trans (Pfx.c17 _)
  have k17 := (hP.b2.cell 17).trans (Pfx.c17 _)
  rw [H1.out] at c0
  rw [H2.out] at k0
  go_wp2_with (first | (refine wpList_load_g (by rfl) 50 _ rfl w.heap.size 0 18 rfl _ _ hP.b1.range (Pfx.cells_length _) Tryd.underlying50 rfl info_pfx ?_) | (refine wpList_load_g (by rfl) 50 _ rfl (w.heap.size + 1) 0 18 rfl _ _ hP.b2.range (Pfx.cells_length _) Tryd.underlying50 rfl info_pfx ?_))
  go_ret
  exact ⟨by rw [HC.out]; rfl, hP.lo⟩
set_option maxRecDepth 100000 in
set_option maxHeartbeats 4000000 in
theorem rcovers_yesfalse (p q : Pfx) (hp : pfxOk p = true) (hq : pfxOk q = true) (h1 : p.v6 = false) (h2 : q.v6 = false) (hl : p.len ≤ q.len) (w : World) : Calls Tryd.prog 37 #[p.val, q.val] w fun e w' => e = .returned (.bool (coversOf p q)) ∧ Below w.heap.size w w' := by
  have HC := Lib.hid (show coversOf p q = true ↔ ∀ i : Nat, i < 128 → (i : Int) < p.len → bitAt p.a i = bitAt q.a i from ⟨fun e => ((covers_bits p q).1 e).2.2.2.2, fun e => (covers_bits p q).2 ⟨hp, hq, h1.trans h2.symm, hl, e⟩⟩)
  have hm : mostOf p.v6 ≤ 128 := by cases p.v6 <;> decide
  obtain ⟨hq1, hq2, _⟩ := (pfxOk_iff p).1 hp
  obtain ⟨l0, hl0⟩ := Int.eq_ofNat_of_zero_le hq1
  have hl128 : l0 ≤ 128 := by omega
  have HL := Lib.hid hl0
  have HP := Lib.hid hp
  have HQ := Lib.hid hq
  have H1 := Lib.hid h1
  have H2 := Lib.hid h2
  have dl := decide_eq_false (show ¬ q.len < p.len by omega)
  clear hp hq h1 h2 hl hq1 hq2 hm hl0
  simp only [Pfx.val]
  have hP := PQ.new w p q
  go_enter Tryd.func37, Tryd.ntmps37
  go_wp2_with (first | (refine wpList_load_g (by rfl) 50 _ rfl w.heap.size 0 18 rfl _ _ hP.b1.range (Pfx.cells_length _) Tryd.underlying50 rfl info_pfx ?_) | (refine wpList_load_g (by rfl) 50 _ rfl (w.heap.size + 1) 0 18 rfl _ _ hP.b2.range (Pfx.cells_length _) Tryd.underlying50 rfl info_pfx ?_))
  refine (rright_any p _).mono ?_
  rintro e w1 ⟨rfl, hb⟩
  replace hP := hP.next hb
  clear hb
  rw [HP.out]
  go_wp2_with (first | (refine wpList_load_g (by rfl) 50 _ rfl w.heap.size 0 18 rfl _ _ hP.b1.range (Pfx.cells_length _) Tryd.underlying50 rfl info_pfx ?_) | (refine wpList_load_g (by rfl) 50 _ rfl (w.heap.size + 1) 0 18 rfl _ _ hP.b2.range (Pfx.cells_length _) Tryd.underlying50 rfl info_pfx ?_))
  refine (rright_any q _).mono ?_
  rintro e w1 ⟨rfl, hb⟩
  replace hP := hP.next hb
  clear hb
  rw [HQ.out]
  have c0 := (hP.b1.cell 0).trans (Pfx.c0 _)
  have k0 := (hP.b2.cell 0).trans (Pfx.c0 _)
  have c17 := (hP.b1.cell 17).trans (Pfx.c17 _)
  have k17 := (hP.b2.cell 17).trans (Pfx.c17 _)
  rw [H1.out] at c0
  rw [H2.out] at k0
  go_wp2_with (first | (refine wpList_load_g (by rfl) 50 _ rfl w.heap.size 0 18 rfl _ _ hP.b1.range (Pfx.cells_length _) Tryd.underlying50 rfl info_pfx ?_) | (refine wpList_load_g (by rfl) 50 _ rfl (w.heap.size + 1) 0 18 rfl _ _ hP.b2.range (Pfx.cells_length _) Tryd.underlying50 rfl info_pfx ?_))
  clear c0 k0 c17 k17 dl
  go_loopw [5] (fun i wr => ∃ k : Nat, k ≤ l0 ∧ i = .int .i64 k ∧ PQ w p q wr ∧ Hid (∀ j : Nat, j < k → bitAt p.a j = bitAt q.a j)) (fun i _ => 128 - (intOf i).toNat)
  case atStart => exact ⟨0, Nat.zero_le _, rfl, hP, Lib.hid (fun j h => absurd h (by omega))⟩
  case round =>
    clear hP
    obtain ⟨k, hk, rfl, hP, HJ⟩ := hrel
    have c17 := (hP.b1.cell 17).trans (Pfx.c17 _)
    rw [HL.out] at c17
    by_cases hlt : k < l0
    · have hk8 : k < 128 := by omega
      have dk : decide ((k : Int) < (l0 : Int)) = true := decide_eq_true (by omega)
      obtain ⟨x, hx⟩ : ∃ x : Int, (bitAt p.a k : Int) = x := ⟨_, rfl⟩
      obtain ⟨y, hy⟩ : ∃ y : Int, (bitAt q.a k : Int) = y := ⟨_, rfl⟩
      have HX := Lib.hid hx
      have HY := Lib.hid hy
      clear hx hy
      by_cases hb : x = y
      · have b1 : (x != y) = false := by simp [hb]
        have HB := Lib.hid (show bitAt p.a k = bitAt q.a k by have e1 := HX.out; have e2 := HY.out; omega)
        clear hb
        go_wp2_with fail
        clear c17
        refine reg_sch2 9 [(true, 0), (true, 1), (true, 2), (true, 4), (true, 5), (true, 6), (false, 3), (false, 7), (true, 8)] (by kernel_rfl) (by kernel_rfl) (PQ w p q) (PQ w p q) ?_ ?_ ?_
        · exact hP.drew
        · exact fun _ h => h
        intro W hSW
        simp only [List.map_cons, List.map_nil, List.getD_cons_zero, List.getD_cons_succ, List.drop_succ_cons, List.drop_zero]
        refine hd_pure (v := ?_) (by rfl) (fun W' hS' => ?_) ?_ -- 0
        rotate_left
        · clear hS'; (go_simp; first | with_reducible rfl | rfl)
        try simp only [Act.put, List.setIfInBounds_toArray, List.set_cons_zero, List.set_cons_succ]
        refine hd_pure (v := .agg p.a.cells.toArray) (by rfl) (fun W' hS' => exec_load_at 48 _ (by rfl) w.heap.size 1 16 (by rfl) _ _ hS'.ad1 (A16.cells_length _) Tryd.underlying48 rfl info_a16) ?_ -- 1
        try simp only [Act.put, List.setIfInBounds_toArray, List.set_cons_zero, List.set_cons_succ]
        refine hd_pure (v := ?_) (by rfl) (fun W' hS' => ?_) ?_ -- 2
        rotate_left
        · clear hS'; (go_simp; first | with_reducible rfl | rfl)
        try simp only [Act.put, List.setIfInBounds_toArray, List.set_cons_zero, List.set_cons_succ]
        refine hd_pure (v := ?_) (by rfl) (fun W' hS' => ?_) ?_ -- 4
        rotate_left
        · clear hS'; (go_simp; first | with_reducible rfl | rfl)
        try simp only [Act.put, List.setIfInBounds_toArray, List.set_cons_zero, List.set_cons_succ]
        refine hd_pure (v := .agg q.a.cells.toArray) (by rfl) (fun W' hS' => exec_load_at 48 _ (by rfl) (w.heap.size + 1) 1 16 (by rfl) _ _ hS'.ad2 (A16.cells_length _) Tryd.underlying48 rfl info_a16) ?_ -- 5
        try simp only [Act.put, List.setIfInBounds_toArray, List.set_cons_zero, List.set_cons_succ]
        refine hd_pure (v := ?_) (by rfl) (fun W' hS' => ?_) ?_ -- 6
        rotate_left
        · clear hS'; (go_simp; first | with_reducible rfl | rfl)
        try simp only [Act.put, List.setIfInBounds_toArray, List.set_cons_zero, List.set_cons_succ]
        refine hd_sole (by rfl) (fun K hK => ?_) -- 3
        go_simp
        refine (bit_any p.a k hk8 _).mono ?_; rintro e w' ⟨rfl, hb⟩
        refine hK _ _ (hSW.next hb) ?_
        clear hK K hSW
        intro hSW
        clear hb; rw [HX.out]
        try simp only [Act.put, List.setIfInBounds_toArray, List.set_cons_zero, List.set_cons_succ]
        refine hd_sole (by rfl) (fun K hK => ?_) -- 7
        go_simp
        refine (bit_any q.a k hk8 _).mono ?_; rintro e w' ⟨rfl, hb⟩
        refine hK _ _ (hSW.next hb) ?_
        clear hK K hSW
        intro hSW
        clear hb; rw [HY.out]
        try simp only [Act.put, List.setIfInBounds_toArray, List.set_cons_zero, List.set_cons_succ]
        refine hd_pure (v := ?_) (by rfl) (fun W' hS' => ?_) ?_ -- 8
        rotate_left
        · clear hS'; (go_simp; first | with_reducible rfl | rfl)
        try simp only [Act.put, List.setIfInBounds_toArray, List.set_cons_zero, List.set_cons_succ]
        refine hd_nil ?_
        replace hP := hSW; clear hSW
        refine wpList_nil (NoPanic.normal ?_)
        go_wp2_with fail
        go_roundw
        case rel => exact ⟨k + 1, by omega, by go_num, hP, Lib.hid (fun j h => by
          by_cases hjk : j = k
          · subst hjk; exact HB.out
          · exact HJ.out j (by omega))⟩
        case measure => simp [intOf]; omega
      · have b1 : (x != y) = true := by simp [hb]
        have HB := Lib.hid (show coversOf p q = false by
          have e1 := HX.out
          have e2 := HY.out
          have e3 := HL.out
          cases e : coversOf p q
          · rfl
          · exact absurd (HC.out.1 e k hk8 (by omega)) (by omega))
        clear hb
        go_wp2_with fail
        clear c17
        refine reg_sch2 9 [(true, 0), (true, 1), (true, 2), (true, 4), (true, 5), (true, 6), (false, 3), (false, 7), (true, 8)] (by kernel_rfl) (by kernel_rfl) (PQ w p q) (PQ w p q) ?_ ?_ ?_
        · exact hP.drew
        · exact fun _ h => h
        intro W hSW
        simp only [List.map_cons, List.map_nil, List.getD_cons_zero, List.getD_cons_succ, List.drop_succ_cons, List.drop_zero]
        refine hd_pure (v := ?_) (by rfl) (fun W' hS' => ?_) ?_ -- 0
        rotate_left
        · clear hS'; (go_simp; first | with_reducible rfl | rfl)
        try simp only [Act.put, List.setIfInBounds_toArray, List.set_cons_zero, List.set_cons_succ]
        refine hd_pure (v := .agg p.a.cells.toArray) (by rfl) (fun W' hS' => exec_load_at 48 _ (by rfl) w.heap.size 1 16 (by rfl) _ _ hS'.ad1 (A16.cells_length _) Tryd.underlying48 rfl info_a16) ?_ -- 1
        try simp only [Act.put, List.setIfInBounds_toArray, List.set_cons_zero, List.set_cons_succ]
        refine hd_pure (v := ?_) (by rfl) (fun W' hS' => ?_) ?_ -- 2
        rotate_left
        · clear hS'; (go_simp; first | with_reducible rfl | rfl)
        try simp only [Act.put, List.setIfInBounds_toArray, List.set_cons_zero, List.set_cons_succ]
        refine hd_pure (v := ?_) (by rfl) (fun W' hS' => ?_) ?_ -- 4
        rotate_left
        · clear hS'; (go_simp; first | with_reducible rfl | rfl)
        try simp only [Act.put, List.setIfInBounds_toArray, List.set_cons_zero, List.set_cons_succ]
        refine hd_pure (v := .agg q.a.cells.toArray) (by rfl) (fun W' hS' => exec_load_at 48 _ (by rfl) (w.heap.size + 1) 1 16 (by rfl) _ _ hS'.ad2 (A16.cells_length _) Tryd.underlying48 rfl info_a16) ?_ -- 5
        try simp only [Act.put, List.setIfInBounds_toArray, List.set_cons_zero, List.set_cons_succ]
        refine hd_pure (v := ?_) (by rfl) (fun W' hS' => ?_) ?_ -- 6
        rotate_left
        · clear hS'; (go_simp; first | with_reducible rfl | rfl)
        try simp only [Act.put, List.setIfInBounds_toArray, List.set_cons_zero, List.set_cons_succ]
        refine hd_sole (by rfl) (fun K hK => ?_) -- 3
        go_simp
        refine (bit_any p.a k hk8 _).mono ?_; rintro e w' ⟨rfl, hb⟩
        refine hK _ _ (hSW.next hb) ?_
        clear hK K hSW
        intro hSW
        clear hb; rw [HX.out]
        try simp only [Act.put, List.setIfInBounds_toArray, List.set_cons_zero, List.set_cons_succ]
        refine hd_sole (by rfl) (fun K hK => ?_) -- 7
        go_simp
        refine (bit_any q.a k hk8 _).mono ?_; rintro e w' ⟨rfl, hb⟩
        refine hK _ _ (hSW.next hb) ?_
        clear hK K hSW
        intro hSW
        clear hb; rw [HY.out]
        try simp only [Act.put, List.setIfInBounds_toArray, List.set_cons_zero, List.set_cons_succ]
        refine hd_pure (v := ?_) (by rfl) (fun W' hS' => ?_) ?_ -- 8
        rotate_left
        · clear hS'; (go_simp; first | with_reducible rfl | rfl)
        try simp only [Act.put, List.setIfInBounds_toArray, List.set_cons_zero, List.set_cons_succ]
        refine hd_nil ?_
        replace hP := hSW; clear hSW
        refine wpList_nil (NoPanic.normal ?_)
        go_wp2_with fail
        go_ret
        exact ⟨by rw [HB.out]; rfl, hP.lo⟩
    · have dk : decide ((k : Int) < (l0 : Int)) = false := decide_eq_false (by omega)
      have HB := Lib.hid (show coversOf p q = true from HC.out.2 fun i h1 h2 => HJ.out i (by have e3 := HL.out; omega))
      go_wp2_with fail
      go_ret
      exact ⟨by rw [HB.out]; rfl, hP.lo⟩
set_option maxRecDepth 100000 in
set_option maxHeartbeats 4000000 in
theorem rcovers_yestrue (p q : Pfx) (hp : pfxOk p = true) (hq : pfxOk q = true) (h1 : p.v6 = true) (h2 : q.v6 = true) (hl : p.len ≤ q.len) (w : World) : Calls Tryd.prog 37 #[p.val, q.val] w fun e w' => e = .returned (.bool (coversOf p q)) ∧ Below w.heap.size w w' := by
  have HC := Lib.hid (show coversOf p q = true ↔ ∀ i : Nat, i < 128 → (i : Int) < p.len → bitAt p.a i = bitAt q.a i from ⟨fun e => ((covers_bits p q).1 e).2.2.2.2, fun e => (covers_bits p q).2 ⟨hp, hq, h1.trans h2.symm, hl, e⟩⟩)
  have hm : mostOf p.v6 ≤ 128 := by cases p.v6 <;> decide
  obtain ⟨hq1, hq2, _⟩ := (pfxOk_iff p).1 hp
  obtain ⟨l0, hl0⟩ := Int.eq_ofNat_of_zero_le hq1
  have hl128 : l0 ≤ 128 := by omega
  have HL := Lib.hid hl0
  have HP := Lib.hid hp
  have HQ := Lib.hid hq
  have H1 := Lib.hid h1
  have H2 := Lib.hid h2
  have dl := decide_eq_false (show ¬ q.len < p.len by omega)
  clear hp hq h1 h2 hl hq1 hq2 hm hl0
  simp only [Pfx.val]
  have hP := PQ.new w p q
  go_enter Tryd.func37, Tryd.ntmps37
  go_wp2_with (first | (refine wpList_load_g (by rfl) 50 _ rfl w.heap.size 0 18 rfl _ _ hP.b1.range (Pfx.cells_length _) Tryd.underlying50 rfl info_pfx ?_) | (refine wpList_load_g (by rfl) 50 _ rfl (w.heap.size + 1) 0 18 rfl _ _ hP.b2.range (Pfx.cells_length _) Tryd.underlying50 rfl info_pfx ?_))
  refine (rright_any p _).mono ?_
  rintro e w1 ⟨rfl, hb⟩
  replace hP := hP.next hb
  clear hb
  rw [HP.out]
  go_wp2_with (first | (refine wpList_load_g (by rfl) 50 _ rfl w.heap.size 0 18 rfl _ _ hP.b1.range (Pfx.cells_length _) Tryd.underlying50 rfl info_pfx ?_) | (refine wpList_load_g (by rfl) 50 _ rfl (w.heap.size + 1) 0 18 rfl _ _ hP.b2.range (Pfx.cells_length _) Tryd.underlying50 rfl info_pfx ?_))
  refine (rright_any q _).mono ?_
  rintro e w1 ⟨rfl, hb⟩
  replace hP := hP.next hb
  clear hb
  rw [HQ.out]
  have c0 := (hP.b1.cell 0).trans (Pfx.c0 _)
  have k0 := (hP.b2.cell 0).trans (Pfx.c0 _)
  have c17 := (hP.b1.cell 17).trans (Pfx.c17 _)
  have k17 := (hP.b2.cell 17).trans (Pfx.c17 _)
  rw [H1.out] at c0
  rw [H2.out] at k0
  go_wp2_with (first | (refine wpList_load_g (by rfl) 50 _ rfl w.heap.size 0 18 rfl _ _ hP.b1.range (Pfx.cells_length _) Tryd.underlying50 rfl info_pfx ?_) | (refine wpList_load_g (by rfl) 50 _ rfl (w.heap.size + 1) 0 18 rfl _ _ hP.b2.range (Pfx.cells_length _) Tryd.underlying50 rfl info_pfx ?_))
  clear c0 k0 c17 k17 dl
  go_loopw [5] (fun i wr => ∃ k : Nat, k ≤ l0 ∧ i = .int .i64 k ∧ PQ w p q wr ∧ Hid (∀ j : Nat, j < k → bitAt p.a j = bitAt q.a j)) (fun i _ => 128 - (intOf i).toNat)
  case atStart => exact ⟨0, Nat.zero_le _, rfl, hP, Lib.hid (fun j h => absurd h (by omega))⟩
  case round =>
    clear hP
    obtain ⟨k, hk, rfl, hP, HJ⟩ := hrel
    have c17 := (hP.b1.cell 17).trans (Pfx.c17 _)
    rw [HL.out] at c17
    by_cases hlt : k < l0
    · have hk8 : k < 128 := by omega
      have dk : decide ((k : Int) < (l0 : Int)) = true := decide_eq_true (by omega)
      obtain ⟨x, hx⟩ : ∃ x : Int, (bitAt p.a k : Int) = x := ⟨_, rfl⟩
      obtain ⟨y, hy⟩ : ∃ y : Int, (bitAt q.a k : Int) = y := ⟨_, rfl⟩
      have HX := Lib.hid hx
      have HY := Lib.hid hy
      clear hx hy
      by_cases hb : x = y
      · have b1 : (x != y) = false := by simp [hb]
        have HB := Lib.hid (show bitAt p.a k = bitAt q.a k by have e1 := HX.out; have e2 := HY.out; omega)
        clear hb
        go_wp2_with fail
        clear c17
        refine reg_sch2 9 [(true, 0), (true, 1), (true, 2), (true, 4), (true, 5), (true, 6), (false, 3), (false, 7), (true, 8)] (by kernel_rfl) (by kernel_rfl) (PQ w p q) (PQ w p q) ?_ ?_ ?_
        · exact hP.drew
        · exact fun _ h => h
        intro W hSW
        simp only [List.map_cons, List.map_nil, List.getD_cons_zero, List.getD_cons_succ, List.drop_succ_cons, List.drop_zero]
        refine hd_pure (v := ?_) (by rfl) (fun W' hS' => ?_) ?_ -- 0
        rotate_left
        · clear hS'; (go_simp; first | with_reducible rfl | rfl)
        try simp only [Act.put, List.setIfInBounds_toArray, List.set_cons_zero, List.set_cons_succ]
        refine hd_pure (v := .agg p.a.cells.toArray) (by rfl) (fun W' hS' => exec_load_at 48 _ (by rfl) w.heap.size 1 16 (by rfl) _ _ hS'.ad1 (A16.cells_length _) Tryd.underlying48 rfl info_a16) ?_ -- 1
        try simp only [Act.put, List.setIfInBounds_toArray, List.set_cons_zero, List.set_cons_succ]
        refine hd_pure (v := ?_) (by rfl) (fun W' hS' => ?_) ?_ -- 2
        rotate_left
        · clear hS'; (go_simp; first | with_reducible rfl | rfl)
        try simp only [Act.put, List.setIfInBounds_toArray, List.set_cons_zero, List.set_cons_succ]
        refine hd_pure (v := ?_) (by rfl) (fun W' hS' => ?_) ?_ -- 4
        rotate_left
        · clear hS'; (go_simp; first | with_reducible rfl | rfl)
        try simp only [Act.put, List.setIfInBounds_toArray, List.set_cons_zero, List.set_cons_succ]
        refine hd_pure (v := .agg q.a.cells.toArray) (by rfl) (fun W' hS' => exec_load_at 48 _ (by rfl) (w.heap.size + 1) 1 16 (by rfl) _ _ hS'.ad2 (A16.cells_length _) Tryd.underlying48 rfl info_a16) ?_ -- 5
        try simp only [Act.put, List.setIfInBounds_toArray, List.set_cons_zero, List.set_cons_succ]
        refine hd_pure (v := ?_) (by rfl) (fun W' hS' => ?_) ?_ -- 6
        rotate_left
        · clear hS'; (go_simp; first | with_reducible rfl | rfl)
        try simp only [Act.put, List.setIfInBounds_toArray, List.set_cons_zero, List.set_cons_succ]
        refine hd_sole (by rfl) (fun K hK => ?_) -- 3
        go_simp
        refine (bit_any p.a k hk8 _).mono ?_; rintro e w' ⟨rfl, hb⟩
        refine hK _ _ (hSW.next hb) ?_
        clear hK K hSW
        intro hSW
        clear hb; rw [HX.out]
        try simp only [Act.put, List.setIfInBounds_toArray, List.set_cons_zero, List.set_cons_succ]
        refine hd_sole (by rfl) (fun K hK => ?_) -- 7
        go_simp
        refine (bit_any q.a k hk8 _).mono ?_; rintro e w' ⟨rfl, hb⟩
        refine hK _ _ (hSW.next hb) ?_
        clear hK K hSW
        intro hSW
        clear hb; rw [HY.out]
        try simp only [Act.put, List.setIfInBounds_toArray, List.set_cons_zero, List.set_cons_succ]
        refine hd_pure (v := ?_) (by rfl) (fun W' hS' => ?_) ?_ -- 8
        rotate_left
        · clear hS'; (go_simp; first | with_reducible rfl | rfl)
        try simp only [Act.put, List.setIfInBounds_toArray, List.set_cons_zero, List.set_cons_succ]
        refine hd_nil ?_
        replace hP := hSW; clear hSW
        refine wpList_nil (NoPanic.normal ?_)
        go_wp2_with fail
        go_roundw
        case rel => exact ⟨k + 1, by omega, by go_num, hP, Lib.hid (fun j h => by
          by_cases hjk : j = k
          · subst hjk; exact HB.out
          · exact HJ.out j (by omega))⟩
        case measure => simp [intOf]; omega
      · have b1 : (x != y) = true := by simp [hb]
        have HB := Lib.hid (show coversOf p q = false by
          have e1 := HX.out
          have e2 := HY.out
          have e3 := HL.out
          cases e : coversOf p q
          · rfl
          · exact absurd (HC.out.1 e k hk8 (by omega)) (by omega))
        clear hb
        go_wp2_with fail
        clear c17
        refine reg_sch2 9 [(true, 0), (true, 1), (true, 2), (true, 4), (true, 5), (true, 6), (false, 3), (false, 7), (true, 8)] (by kernel_rfl) (by kernel_rfl) (PQ w p q) (PQ w p q) ?_ ?_ ?_
        · exact hP.drew
        · exact fun _ h => h
        intro W hSW
        simp only [List.map_cons, List.map_nil, List.getD_cons_zero, List.getD_cons_succ, List.drop_succ_cons, List.drop_zero]
        refine hd_pure (v := ?_) (by rfl) (fun W' hS' => ?_) ?_ -- 0
        rotate_left
        · clear hS'; (go_simp; first | with_reducible rfl | rfl)
        try simp only [Act.put, List.setIfInBounds_toArray, List.set_cons_zero, List.set_cons_succ]
        refine hd_pure (v := .agg p.a.cells.toArray) (by rfl) (fun W' hS' => exec_load_at 48 _ (by rfl) w.heap.size 1 16 (by rfl) _ _ hS'.ad1 (A16.cells_length _) Tryd.underlying48 rfl info_a16) ?_ -- 1
        try simp only [Act.put, List.setIfInBounds_toArray, List.set_cons_zero, List.set_cons_succ]
        refine hd_pure (v := ?_) (by rfl) (fun W' hS' => ?_) ?_ -- 2
        rotate_left
        · clear hS'; (go_simp; first | with_reducible rfl | rfl)
        try simp only [Act.put, List.setIfInBounds_toArray, List.set_cons_zero, List.set_cons_succ]
        refine hd_pure (v := ?_) (by rfl) (fun W' hS' => ?_) ?_ -- 4
        rotate_left
        · clear hS'; (go_simp; first | with_reducible rfl | rfl)
        try simp only [Act.put, List.setIfInBounds_toArray, List.set_cons_zero, List.set_cons_succ]
        refine hd_pure (v := .agg q.a.cells.toArray) (by rfl) (fun W' hS' => exec_load_at 48 _ (by rfl) (w.heap.size + 1) 1 16 (by rfl) _ _ hS'.ad2 (A16.cells_length _) Tryd.underlying48 rfl info_a16) ?_ -- 5
        try simp only [Act.put, List.setIfInBounds_toArray, List.set_cons_zero, List.set_cons_succ]
        refine hd_pure (v := ?_) (by rfl) (fun W' hS' => ?_) ?_ -- 6
        rotate_left
        · clear hS'; (go_simp; first | with_reducible rfl | rfl)
        try simp only [Act.put, List.setIfInBounds_toArray, List.set_cons_zero, List.set_cons_succ]
        refine hd_sole (by rfl) (fun K hK => ?_) -- 3
        go_simp
        refine (bit_any p.a k hk8 _).mono ?_; rintro e w' ⟨rfl, hb⟩
        refine hK _ _ (hSW.next hb) ?_
        clear hK K hSW
        intro hSW
        clear hb; rw [HX.out]
        try simp only [Act.put, List.setIfInBounds_toArray, List.set_cons_zero, List.set_cons_succ]
        refine hd_sole (by rfl) (fun K hK => ?_) -- 7
        go_simp
        refine (bit_any q.a k hk8 _).mono ?_; rintro e w' ⟨rfl, hb⟩
        refine hK _ _ (hSW.next hb) ?_
        clear hK K hSW
        intro hSW
        clear hb; rw [HY.out]
        try simp only [Act.put, List.setIfInBounds_toArray, List.set_cons_zero, List.set_cons_succ]
        refine hd_pure (v := ?_) (by rfl) (fun W' hS' => ?_) ?_ -- 8
        rotate_left
        · clear hS'; (go_simp; first | with_reducible rfl | rfl)
        try simp only [Act.put, List.setIfInBounds_toArray, List.set_cons_zero, List.set_cons_succ]
        refine hd_nil ?_
        replace hP := hSW; clear hSW
        refine wpList_nil (NoPanic.normal ?_)
        go_wp2_with fail
        go_ret
        exact ⟨by rw [HB.out]; rfl, hP.lo⟩
    · have dk : decide ((k : Int) < (l0 : Int)) = false := decide_eq_false (by omega)
      have HB := Lib.hid (show coversOf p q = true from HC.out.2 fun i h1 h2 => HJ.out i (by have e3 := HL.out; omega))
      go_wp2_with fail
      go_ret
      exact ⟨by rw [HB.out]; rfl, hP.lo⟩
theorem rcovers_any (p q : Pfx) (w : World) : Calls Tryd.prog 37 #[p.val, q.val] w fun e w' => e = .returned (.bool (coversOf p q)) ∧ Below w.heap.size w w' := by
  cases hp : pfxOk p
  · exact rcovers_no1 p q hp w
  · cases hq : pfxOk q
    · exact rcovers_no2 p q hp hq w
    · cases h1 : p.v6 <;> cases h2 : q.v6
      · by_cases hl : p.len ≤ q.len
        · exact rcovers_yesfalse p q hp hq h1 h2 hl w
        · exact rcovers_no4false p q hp hq h1 h2 hl w
      · exact rcovers_no3false p q hp hq h1 h2 w
      · exact rcovers_no3true p q hp hq h1 h2 w
      · by_cases hl : p.len ≤ q.len
        · exact rcovers_yestrue p q hp hq h1 h2 hl w
        · exact rcovers_no4true p q hp hq h1 h2 hl w
end Go.Proofs.YtmoldmnhijcckaaDoor
