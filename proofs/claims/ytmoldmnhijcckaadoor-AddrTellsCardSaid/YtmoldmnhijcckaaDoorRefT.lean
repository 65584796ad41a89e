/- The contracts of lanyardref10.CmpAddr, lanyardref10.Cmp. -/
import Derived.Test.YtmoldmnhijcckaaDoorRefX
import Derived.Test.YtmoldmnhijcckaaDoorRefB
import Derived.Test.YtmoldmnhijcckaaDoorRefC
import Derived.Test.YtmoldmnhijcckaaDoorCov
set_option linter.unusedVariables false
set_option linter.unusedSectionVars false
set_option linter.unusedSimpArgs false
namespace Go.Proofs.YtmoldmnhijcckaaDoor
open Go.RowKit
structure AB (w : World) (a b : A16) (W : World) : Prop where
  b1 : Blk W w.heap.size 48 a.cells
  b2 : Blk W (w.heap.size + 1) 48 b.cells
  lo : Below w.heap.size w W
theorem AB.drew {w : World} {a b : A16} {W : World} (h : AB w a b W) : AB w a b W.drew := ⟨h.b1.drew, h.b2.drew, h.lo.drew⟩
theorem AB.new (w : World) (a b : A16) : AB w a b ((w.alloc (.cells a.cells.toArray 48)).alloc (.cells b.cells.toArray 48)) :=
  ⟨(Blk.new _ _ _).alloc _, blk_new' _ _ _ _ (by simp), ((Below.refl _ _).alloc (Nat.le_refl _) _).alloc (by simp) _⟩
set_option maxRecDepth 100000 in
set_option maxHeartbeats 2000000 in
theorem cmpAddr_any (a b : A16) (w : World) : Calls Tryd.prog 74 #[.agg a.cells.toArray, .agg b.cells.toArray] w fun e w' => e = .returned (.int .i64 (cmpL a.l b.l)) ∧ Below w.heap.size w w' := by
  have hP := AB.new w a b
  go_enter Tryd.func74, Tryd.ntmps74
  go_wp2_with fail
  go_loopw [5] (fun i wr => ∃ k : Nat, k ≤ 16 ∧ i = .int .i64 k ∧ AB w a b wr ∧ Hid (cmpL a.l b.l = cmpL (a.l.drop k) (b.l.drop k))) (fun i _ => 16 - (intOf i).toNat)
  case atStart => exact ⟨0, by omega, rfl, hP, Lib.hid (by simp)⟩
  case round =>
    clear hP
    obtain ⟨k, hk, rfl, hP, HE⟩ := hrel
    by_cases hlt : k < 16
    · have hk0 : (0 : Int) ≤ (k : Int) := by omega
      have hk1 : (k : Int) < 16 := by omega
      have HS := Lib.hid (cmpL_at a b k hlt)
      obtain ⟨x, hx⟩ : ∃ x : Int, ((a.at k).toNat : Int) = x := ⟨_, rfl⟩
      obtain ⟨y, hy⟩ : ∃ y : Int, ((b.at k).toNat : Int) = y := ⟨_, rfl⟩
      have HX := Lib.hid hx
      have HY := Lib.hid hy
      clear hx hy
      go_wp2_with fail
      by_cases h1 : x < y
      · have d1 := decide_eq_true h1
        have H1 := Lib.hid (show cmpL a.l b.l = -1 by have e1 := HX.out; have e2 := HY.out; rw [HE.out, HS.out, if_pos (by omega)])
        clear h1
        refine reg_sch2 7 [(true, 0), (true, 1), (true, 2), (true, 3), (true, 4), (true, 5), (true, 6)] (by kernel_rfl) (by kernel_rfl) (AB w a b) (AB w a b) ?_ ?_ ?_
        · exact hP.drew
        · exact fun _ h => h
        intro W hSW
        simp only [List.map_cons, List.map_nil, List.getD_cons_zero, List.getD_cons_succ, List.drop_succ_cons, List.drop_zero]
        refine hd_pure (v := ?_) (by rfl) (fun W' hS' => ?_) ?_ -- 0
        rotate_left
        · have c1 := (hS'.b1.cell k).trans (a16_cell a k hlt); have c2 := (hS'.b2.cell k).trans (a16_cell b k hlt); rw [HX.out] at c1; rw [HY.out] at c2; clear hS'; (go_simp; first | with_reducible rfl | rfl)
        try simp only [Act.put, List.setIfInBounds_toArray, List.set_cons_zero, List.set_cons_succ]
        refine hd_pure (v := ?_) (by rfl) (fun W' hS' => ?_) ?_ -- 1
        rotate_left
        · have c1 := (hS'.b1.cell k).trans (a16_cell a k hlt); have c2 := (hS'.b2.cell k).trans (a16_cell b k hlt); rw [HX.out] at c1; rw [HY.out] at c2; clear hS'; (go_simp; first | with_reducible rfl | rfl)
        try simp only [Act.put, List.setIfInBounds_toArray, List.set_cons_zero, List.set_cons_succ]
        refine hd_pure (v := ?_) (by rfl) (fun W' hS' => ?_) ?_ -- 2
        rotate_left
        · have c1 := (hS'.b1.cell k).trans (a16_cell a k hlt); have c2 := (hS'.b2.cell k).trans (a16_cell b k hlt); rw [HX.out] at c1; rw [HY.out] at c2; clear hS'; (go_simp; first | with_reducible rfl | rfl)
        try simp only [Act.put, List.setIfInBounds_toArray, List.set_cons_zero, List.set_cons_succ]
        refine hd_pure (v := ?_) (by rfl) (fun W' hS' => ?_) ?_ -- 3
        rotate_left
        · have c1 := (hS'.b1.cell k).trans (a16_cell a k hlt); have c2 := (hS'.b2.cell k).trans (a16_cell b k hlt); rw [HX.out] at c1; rw [HY.out] at c2; clear hS'; (go_simp; first | with_reducible rfl | rfl)
        try simp only [Act.put, List.setIfInBounds_toArray, List.set_cons_zero, List.set_cons_succ]
        refine hd_pure (v := ?_) (by rfl) (fun W' hS' => ?_) ?_ -- 4
        rotate_left
        · have c1 := (hS'.b1.cell k).trans (a16_cell a k hlt); have c2 := (hS'.b2.cell k).trans (a16_cell b k hlt); rw [HX.out] at c1; rw [HY.out] at c2; clear hS'; (go_simp; first | with_reducible rfl | rfl)
        try simp only [Act.put, List.setIfInBounds_toArray, List.set_cons_zero, List.set_cons_succ]
        refine hd_pure (v := ?_) (by rfl) (fun W' hS' => ?_) ?_ -- 5
        rotate_left
        · have c1 := (hS'.b1.cell k).trans (a16_cell a k hlt); have c2 := (hS'.b2.cell k).trans (a16_cell b k hlt); rw [HX.out] at c1; rw [HY.out] at c2; clear hS'; (go_simp; first | with_reducible rfl | rfl)
        try simp only [Act.put, List.setIfInBounds_toArray, List.set_cons_zero, List.set_cons_succ]
        refine hd_pure (v := ?_) (by rfl) (fun W' hS' => ?_) ?_ -- 6
        rotate_left
        · have c1 := (hS'.b1.cell k).trans (a16_cell a k hlt); have c2 := (hS'.b2.cell k).trans (a16_cell b k hlt); rw [HX.out] at c1; rw [HY.out] at c2; clear hS'; (go_simp; first | with_reducible rfl | rfl)
        try simp only [Act.put, List.setIfInBounds_toArray, List.set_cons_zero, List.set_cons_succ]
        refine hd_nil ?_
        replace hP := hSW; clear hSW
        refine wpList_nil (NoPanic.normal ?_)
        go_wp2_with fail
        go_ret
        exact ⟨by rw [H1.out]; rfl, hP.lo⟩
      · have d1 := decide_eq_false h1
        have H1 := Lib.hid h1
        clear h1
        refine reg_sch2 7 [(true, 0), (true, 1), (true, 2), (true, 3), (true, 4), (true, 5), (true, 6)] (by kernel_rfl) (by kernel_rfl) (AB w a b) (AB w a b) ?_ ?_ ?_
        · exact hP.drew
        · exact fun _ h => h
        intro W hSW
        simp only [List.map_cons, List.map_nil, List.getD_cons_zero, List.getD_cons_succ, List.drop_succ_cons, List.drop_zero]
        refine hd_pure (v := ?_) (by rfl) (fun W' hS' => ?_) ?_ -- 0
        rotate_left
        · have c1 := (hS'.b1.cell k).trans (a16_cell a k hlt); have c2 := (hS'.b2.cell k).trans (a16_cell b k hlt); rw [HX.out] at c1; rw [HY.out] at c2; clear hS'; (go_simp; first | with_reducible rfl | rfl)
        try simp only [Act.put, List.setIfInBounds_toArray, List.set_cons_zero, List.set_cons_succ]
        refine hd_pure (v := ?_) (by rfl) (fun W' hS' => ?_) ?_ -- 1
        rotate_left
        · have c1 := (hS'.b1.cell k).trans (a16_cell a k hlt); have c2 := (hS'.b2.cell k).trans (a16_cell b k hlt); rw [HX.out] at c1; rw [HY.out] at c2; clear hS'; (go_simp; first | with_reducible rfl | rfl)
        try simp only [Act.put, List.setIfInBounds_toArray, List.set_cons_zero, List.set_cons_succ]
        refine hd_pure (v := ?_) (by rfl) (fun W' hS' => ?_) ?_ -- 2
        rotate_left
        · have c1 := (hS'.b1.cell k).trans (a16_cell a k hlt); have c2 := (hS'.b2.cell k).trans (a16_cell b k hlt); rw [HX.out] at c1; rw [HY.out] at c2; clear hS'; (go_simp; first | with_reducible rfl | rfl)
        try simp only [Act.put, List.setIfInBounds_toArray, List.set_cons_zero, List.set_cons_succ]
        refine hd_pure (v := ?_) (by rfl) (fun W' hS' => ?_) ?_ -- 3
        rotate_left
        · have c1 := (hS'.b1.cell k).trans (a16_cell a k hlt); have c2 := (hS'.b2.cell k).trans (a16_cell b k hlt); rw [HX.out] at c1; rw [HY.out] at c2; clear hS'; (go_simp; first | with_reducible rfl | rfl)
        try simp only [Act.put, List.setIfInBounds_toArray, List.set_cons_zero, List.set_cons_succ]
        refine hd_pure (v := ?_) (by rfl) (fun W' hS' => ?_) ?_ -- 4
        rotate_left
        · have c1 := (hS'.b1.cell k).trans (a16_cell a k hlt); have c2 := (hS'.b2.cell k).trans (a16_cell b k hlt); rw [HX.out] at c1; rw [HY.out] at c2; clear hS'; (go_simp; first | with_reducible rfl | rfl)
        try simp only [Act.put, List.setIfInBounds_toArray, List.set_cons_zero, List.set_cons_succ]
        refine hd_pure (v := ?_) (by rfl) (fun W' hS' => ?_) ?_ -- 5
        rotate_left
        · have c1 := (hS'.b1.cell k).trans (a16_cell a k hlt); have c2 := (hS'.b2.cell k).trans (a16_cell b k hlt); rw [HX.out] at c1; rw [HY.out] at c2; clear hS'; (go_simp; first | with_reducible rfl | rfl)
        try simp only [Act.put, List.setIfInBounds_toArray, List.set_cons_zero, List.set_cons_succ]
        refine hd_pure (v := ?_) (by rfl) (fun W' hS' => ?_) ?_ -- 6
        rotate_left
        · have c1 := (hS'.b1.cell k).trans (a16_cell a k hlt); have c2 := (hS'.b2.cell k).trans (a16_cell b k hlt); rw [HX.out] at c1; rw [HY.out] at c2; clear hS'; (go_simp; first | with_reducible rfl | rfl)
        try simp only [Act.put, List.setIfInBounds_toArray, List.set_cons_zero, List.set_cons_succ]
        refine hd_nil ?_
        replace hP := hSW; clear hSW
        refine wpList_nil (NoPanic.normal ?_)
        go_wp2_with fail
        by_cases h2 : y < x
        · have d2 := decide_eq_true h2
          have H2 := Lib.hid (show cmpL a.l b.l = 1 by have e1 := HX.out; have e2 := HY.out; rw [HE.out, HS.out, if_neg (by omega), if_pos (by omega)])
          clear h2
          refine reg_sch2 7 [(true, 0), (true, 1), (true, 2), (true, 3), (true, 4), (true, 5), (true, 6)] (by kernel_rfl) (by kernel_rfl) (AB w a b) (AB w a b) ?_ ?_ ?_
          · exact hP.drew
          · exact fun _ h => h
          intro W hSW
          simp only [List.map_cons, List.map_nil, List.getD_cons_zero, List.getD_cons_succ, List.drop_succ_cons, List.drop_zero]
          refine hd_pure (v := ?_) (by rfl) (fun W' hS' => ?_) ?_ -- 0
          rotate_left
          · have c1 := (hS'.b1.cell k).trans (a16_cell a k hlt); have c2 := (hS'.b2.cell k).trans (a16_cell b k hlt); rw [HX.out] at c1; rw [HY.out] at c2; clear hS'; (go_simp; first | with_reducible rfl | rfl)
          try simp only [Act.put, List.setIfInBounds_toArray, List.set_cons_zero, List.set_cons_succ]
          refine hd_pure (v := ?_) (by rfl) (fun W' hS' => ?_) ?_ -- 1
          rotate_left
          · have c1 := (hS'.b1.cell k).trans (a16_cell a k hlt); have c2 := (hS'.b2.cell k).trans (a16_cell b k hlt); rw [HX.out] at c1; rw [HY.out] at c2; clear hS'; (go_simp; first | with_reducible rfl | rfl)
          try simp only [Act.put, List.setIfInBounds_toArray, List.set_cons_zero, List.set_cons_succ]
          refine hd_pure (v := ?_) (by rfl) (fun W' hS' => ?_) ?_ -- 2
          rotate_left
          · have c1 := (hS'.b1.cell k).trans (a16_cell a k hlt); have c2 := (hS'.b2.cell k).trans (a16_cell b k hlt); rw [HX.out] at c1; rw [HY.out] at c2; clear hS'; (go_simp; first | with_reducible rfl | rfl)
          try simp only [Act.put, List.setIfInBounds_toArray, List.set_cons_zero, List.set_cons_succ]
          refine hd_pure (v := ?_) (by rfl) (fun W' hS' => ?_) ?_ -- 3
          rotate_left
          · have c1 := (hS'.b1.cell k).trans (a16_cell a k hlt); have c2 := (hS'.b2.cell k).trans (a16_cell b k hlt); rw [HX.out] at c1; rw [HY.out] at c2; clear hS'; (go_simp; first | with_reducible rfl | rfl)
          try simp only [Act.put, List.setIfInBounds_toArray, List.set_cons_zero, List.set_cons_succ]
          refine hd_pure (v := ?_) (by rfl) (fun W' hS' => ?_) ?_ -- 4
          rotate_left
          · have c1 := (hS'.b1.cell k).trans (a16_cell a k hlt); have c2 := (hS'.b2.cell k).trans (a16_cell b k hlt); rw [HX.out] at c1; rw [HY.out] at c2; clear hS'; (go_simp; first | with_reducible rfl | rfl)
          try simp only [Act.put, List.setIfInBounds_toArray, List.set_cons_zero, List.set_cons_succ]
          refine hd_pure (v := ?_) (by rfl) (fun W' hS' => ?_) ?_ -- 5
          rotate_left
          · have c1 := (hS'.b1.cell k).trans (a16_cell a k hlt); have c2 := (hS'.b2.cell k).trans (a16_cell b k hlt); rw [HX.out] at c1; rw [HY.out] at c2; clear hS'; (go_simp; first | with_reducible rfl | rfl)
          try simp only [Act.put, List.setIfInBounds_toArray, List.set_cons_zero, List.set_cons_succ]
          refine hd_pure (v := ?_) (by rfl) (fun W' hS' => ?_) ?_ -- 6
          rotate_left
          · have c1 := (hS'.b1.cell k).trans (a16_cell a k hlt); have c2 := (hS'.b2.cell k).trans (a16_cell b k hlt); rw [HX.out] at c1; rw [HY.out] at c2; clear hS'; (go_simp; first | with_reducible rfl | rfl)
          try simp only [Act.put, List.setIfInBounds_toArray, List.set_cons_zero, List.set_cons_succ]
          refine hd_nil ?_
          replace hP := hSW; clear hSW
          refine wpList_nil (NoPanic.normal ?_)
          go_wp2_with fail
          go_ret
          exact ⟨by rw [H2.out]; rfl, hP.lo⟩
        · have d2 := decide_eq_false h2
          have H2 := Lib.hid (show cmpL a.l b.l = cmpL (a.l.drop (k + 1)) (b.l.drop (k + 1)) by have e1 := HX.out; have e2 := HY.out; have e3 := H1.out; rw [HE.out, HS.out, if_neg (by omega), if_neg (by omega)])
          clear h2
          refine reg_sch2 7 [(true, 0), (true, 1), (true, 2), (true, 3), (true, 4), (true, 5), (true, 6)] (by kernel_rfl) (by kernel_rfl) (AB w a b) (AB w a b) ?_ ?_ ?_
          · exact hP.drew
          · exact fun _ h => h
          intro W hSW
          simp only [List.map_cons, List.map_nil, List.getD_cons_zero, List.getD_cons_succ, List.drop_succ_cons, List.drop_zero]
          refine hd_pure (v := ?_) (by rfl) (fun W' hS' => ?_) ?_ -- 0
          rotate_left
          · have c1 := (hS'.b1.cell k).trans (a16_cell a k hlt); have c2 := (hS'.b2.cell k).trans (a16_cell b k hlt); rw [HX.out] at c1; rw [HY.out] at c2; clear hS'; (go_simp; first | with_reducible rfl | rfl)
          try simp only [Act.put, List.setIfInBounds_toArray, List.set_cons_zero, List.set_cons_succ]
          refine hd_pure (v := ?_) (by rfl) (fun W' hS' => ?_) ?_ -- 1
          rotate_left
          · have c1 := (hS'.b1.cell k).trans (a16_cell a k hlt); have c2 := (hS'.b2.cell k).trans (a16_cell b k hlt); rw [HX.out] at c1; rw [HY.out] at c2; clear hS'; (go_simp; first | with_reducible rfl | rfl)
          try simp only [Act.put, List.setIfInBounds_toArray, List.set_cons_zero, List.set_cons_succ]
          refine hd_pure (v := ?_) (by rfl) (fun W' hS' => ?_) ?_ -- 2
          rotate_left
          · have c1 := (hS'.b1.cell k).trans (a16_cell a k hlt); have c2 := (hS'.b2.cell k).trans (a16_cell b k hlt); rw [HX.out] at c1; rw [HY.out] at c2; clear hS'; (go_simp; first | with_reducible rfl | rfl)
          try simp only [Act.put, List.setIfInBounds_toArray, List.set_cons_zero, List.set_cons_succ]
          refine hd_pure (v := ?_) (by rfl) (fun W' hS' => ?_) ?_ -- 3
          rotate_left
          · have c1 := (hS'.b1.cell k).trans (a16_cell a k hlt); have c2 := (hS'.b2.cell k).trans (a16_cell b k hlt); rw [HX.out] at c1; rw [HY.out] at c2; clear hS'; (go_simp; first | with_reducible rfl | rfl)
          try simp only [Act.put, List.setIfInBounds_toArray, List.set_cons_zero, List.set_cons_succ]
          refine hd_pure (v := ?_) (by rfl) (fun W' hS' => ?_) ?_ -- 4
          rotate_left
          · have c1 := (hS'.b1.cell k).trans (a16_cell a k hlt); have c2 := (hS'.b2.cell k).trans (a16_cell b k hlt); rw [HX.out] at c1; rw [HY.out] at c2; clear hS'; (go_simp; first | with_reducible rfl | rfl)
          try simp only [Act.put, List.setIfInBounds_toArray, List.set_cons_zero, List.set_cons_succ]
          refine hd_pure (v := ?_) (by rfl) (fun W' hS' => ?_) ?_ -- 5
          rotate_left
          · have c1 := (hS'.b1.cell k).trans (a16_cell a k hlt); have c2 := (hS'.b2.cell k).trans (a16_cell b k hlt); rw [HX.out] at c1; rw [HY.out] at c2; clear hS'; (go_simp; first | with_reducible rfl | rfl)
          try simp only [Act.put, List.setIfInBounds_toArray, List.set_cons_zero, List.set_cons_succ]
          refine hd_pure (v := ?_) (by rfl) (fun W' hS' => ?_) ?_ -- 6
          rotate_left
          · have c1 := (hS'.b1.cell k).trans (a16_cell a k hlt); have c2 := (hS'.b2.cell k).trans (a16_cell b k hlt); rw [HX.out] at c1; rw [HY.out] at c2; clear hS'; (go_simp; first | with_reducible rfl | rfl)
          try simp only [Act.put, List.setIfInBounds_toArray, List.set_cons_zero, List.set_cons_succ]
          refine hd_nil ?_
          replace hP := hSW; clear hSW
          refine wpList_nil (NoPanic.normal ?_)
          go_wp2_with fail
          go_roundw
          case rel => exact ⟨k + 1, by omega, by go_num, hP, H2⟩
          case measure => simp [intOf]; omega
    · have hk16 : k = 16 := by omega
      subst hk16
      have H2 := Lib.hid (show cmpL a.l b.l = 0 by rw [HE.out]; exact cmpL_end a b)
      clear hlt hk
      go_wp2_with fail
      go_ret
      exact ⟨by rw [H2.out]; rfl, hP.lo⟩
theorem PQ.ad1 {w : World} {p q : Pfx} {W : World} (h : PQ w p q W) : W.rangeAt w.heap.size 1 p.a.cells := h.b1.sub [.bool p.v6] p.a.cells [.int .i64 p.len] 1 rfl rfl
theorem PQ.ad2 {w : World} {p q : Pfx} {W : World} (h : PQ w p q W) : W.rangeAt (w.heap.size + 1) 1 q.a.cells := h.b2.sub [.bool q.v6] q.a.cells [.int .i64 q.len] 1 rfl rfl
set_option maxRecDepth 100000 in
set_option maxHeartbeats 1000000 in
theorem rcmp_01 (p q : Pfx) (hp : p.v6 = false) (hq : q.v6 = true) (w : World) : Calls Tryd.prog 39 #[p.val, q.val] w fun e w' => e = .returned (.int .i64 (cmpOf p q)) ∧ Below w.heap.size w w' := by
  simp only [Pfx.val]
  have hP := PQ.new w p q
  have c0 := (hP.b1.cell 0).trans (Pfx.c0 _)
  have k0 := (hP.b2.cell 0).trans (Pfx.c0 _)
  rw [hp] at c0
  rw [hq] at k0
  have HP := Lib.hid hp
  have HQ := Lib.hid hq
  clear hp hq
  go_enter Tryd.func39, Tryd.ntmps39
  go_wp2
  go_ret
  exact ⟨by simp only [cmpOf, HP.out, HQ.out]; rfl, hP.lo⟩
set_option maxRecDepth 100000 in
set_option maxHeartbeats 1000000 in
theorem rcmp_10 (p q : Pfx) (hp : p.v6 = true) (hq : q.v6 = false) (w : World) : Calls Tryd.prog 39 #[p.val, q.val] w fun e w' => e = .returned (.int .i64 (cmpOf p q)) ∧ Below w.heap.size w w' := by
  simp only [Pfx.val]
  have hP := PQ.new w p q
  have c0 := (hP.b1.cell 0).trans (Pfx.c0 _)
  have k0 := (hP.b2.cell 0).trans (Pfx.c0 _)
  rw [hp] at c0
  rw [hq] at k0
  have HP := Lib.hid hp
  have HQ := Lib.hid hq
  clear hp hq
  go_enter Tryd.func39, Tryd.ntmps39
  go_wp2
  go_ret
  exact ⟨by simp only [cmpOf, HP.out, HQ.out]; rfl, hP.lo⟩
set_option maxRecDepth 100000 in
set_option maxHeartbeats 2000000 in
theorem rcmp_sfalse (p q : Pfx) (hp : p.v6 = false) (hq : q.v6 = false) (w : World) : Calls Tryd.prog 39 #[p.val, q.val] w fun e w' => e = .returned (.int .i64 (cmpOf p q)) ∧ Below w.heap.size w w' := by
  have HC := Lib.hid (show cmpOf p q = if cmpL p.a.l q.a.l = 0 then cmpI p.len q.len else cmpL p.a.l q.a.l by unfold cmpOf; rw [if_pos (hp.trans hq.symm)])
  simp only [Pfx.val]
  have hP := PQ.new w p q
  have c0 := (hP.b1.cell 0).trans (Pfx.c0 _)
  have k0 := (hP.b2.cell 0).trans (Pfx.c0 _)
  rw [hp] at c0
  rw [hq] at k0
  have HP := Lib.hid hp
  have HQ := Lib.hid hq
  clear hp hq
  go_enter Tryd.func39, Tryd.ntmps39
  go_wp2_with (first | (refine wpList_load_at rfl 48 _ rfl w.heap.size 1 16 rfl _ _ hP.ad1 (A16.cells_length _) Tryd.underlying48 rfl info_a16 ?_) | (refine wpList_load_at rfl 48 _ rfl (w.heap.size + 1) 1 16 rfl _ _ hP.ad2 (A16.cells_length _) Tryd.underlying48 rfl info_a16 ?_))
  refine (cmpAddr_any p.a q.a _).mono ?_
  rintro e w3 ⟨rfl, hb3⟩
  replace hP := hP.next hb3
  clear hb3 c0 k0
  have c17 := (hP.b1.cell 17).trans (Pfx.c17 _)
  have k17 := (hP.b2.cell 17).trans (Pfx.c17 _)
  generalize cmpL p.a.l q.a.l = z at HC ⊢
  by_cases hz : z = 0
  · have b1 : (z == 0) = true := by simp [hz]
    have HZ := Lib.hid hz
    clear hz
    by_cases h1 : p.len < q.len
    · have d1 := decide_eq_true h1
      have H1 := Lib.hid h1
      clear h1
      go_wp2
      go_ret
      exact ⟨by rw [HC.out, if_pos HZ.out]; unfold cmpI; rw [if_pos H1.out]; rfl, hP.lo⟩
    · have d1 := decide_eq_false h1
      have H1 := Lib.hid h1
      clear h1
      by_cases h2 : q.len < p.len
      · have d2 := decide_eq_true h2
        have H2 := Lib.hid h2
        clear h2
        go_wp2
        go_ret
        exact ⟨by rw [HC.out, if_pos HZ.out]; unfold cmpI; rw [if_neg (Int.not_lt.2 H1.out), if_pos H2.out]; rfl, hP.lo⟩
      · have d2 := decide_eq_false h2
        have H2 := Lib.hid h2
        clear h2
        go_wp2
        go_ret
        exact ⟨by rw [HC.out, if_pos HZ.out]; unfold cmpI; rw [if_neg (Int.not_lt.2 H1.out), if_neg (Int.not_lt.2 H2.out), HZ.out]; rfl, hP.lo⟩
  · have b1 : (z == 0) = false := by simp [hz]
    have HZ := Lib.hid hz
    clear hz
    go_wp2
    go_ret
    exact ⟨by rw [HC.out, if_neg HZ.out]; rfl, hP.lo⟩
set_option maxRecDepth 100000 in
set_option maxHeartbeats 2000000 in
theorem rcmp_strue (p q : Pfx) (hp : p.v6 = true) (hq : q.v6 = true) (w : World) : Calls Tryd.prog 39 #[p.val, q.val] w fun e w' => e = .returned (.int .i64 (cmpOf p q)) ∧ Below w.heap.size w w' := by
  have HC := Lib.hid (show cmpOf p q = if cmpL p.a.l q.a.l = 0 then cmpI p.len q.len else cmpL p.a.l q.a.l by unfold cmpOf; rw [if_pos (hp.trans hq.symm)])
  simp only [Pfx.val]
  have hP := PQ.new w p q
  have c0 := (hP.b1.cell 0).trans (Pfx.c0 _)
  have k0 := (hP.b2.cell 0).trans (Pfx.c0 _)
  rw [hp] at c0
  rw [hq] at k0
  have HP := Lib.hid hp
  have HQ := Lib.hid hq
  clear hp hq
  go_enter Tryd.func39, Tryd.ntmps39
  go_wp2_with (first | (refine wpList_load_at rfl 48 _ rfl w.heap.size 1 16 rfl _ _ hP.ad1 (A16.cells_length _) Tryd.underlying48 rfl info_a16 ?_) | (refine wpList_load_at rfl 48 _ rfl (w.heap.size + 1) 1 16 rfl _ _ hP.ad2 (A16.cells_length _) Tryd.underlying48 rfl info_a16 ?_))
  refine (cmpAddr_any p.a q.a _).mono ?_
  rintro e w3 ⟨rfl, hb3⟩
  replace hP := hP.next hb3
  clear hb3 c0 k0
  have c17 := (hP.b1.cell 17).trans (Pfx.c17 _)
  have k17 := (hP.b2.cell 17).trans (Pfx.c17 _)
  generalize cmpL p.a.l q.a.l = z at HC ⊢
  by_cases hz : z = 0
  · have b1 : (z == 0) = true := by simp [hz]
    have HZ := Lib.hid hz
    clear hz
    by_cases h1 : p.len < q.len
    · have d1 := decide_eq_true h1
      have H1 := Lib.hid h1
      clear h1
      go_wp2
      go_ret
      exact ⟨by rw [HC.out, if_pos HZ.out]; unfold cmpI; rw [if_pos H1.out]; rfl, hP.lo⟩
    · have d1 := decide_eq_false h1
      have H1 := Lib.hid h1
      clear h1
      by_cases h2 : q.len < p.len
      · have d2 := decide_eq_true h2
        have H2 := Lib.hid h2
        clear h2
        go_wp2
        go_ret
        exact ⟨by rw [HC.out, if_pos HZ.out]; unfold cmpI; rw [if_neg (Int.not_lt.2 H1.out), if_pos H2.out]; rfl, hP.lo⟩
      · have d2 := decide_eq_false h2
        have H2 := Lib.hid h2
        clear h2
        go_wp2
        go_ret
        exact ⟨by rw [HC.out, if_pos HZ.out]; unfold cmpI; rw [if_neg (Int.not_lt.2 H1.out), if_neg (Int.not_lt.2 H2.out), HZ.out]; rfl, hP.lo⟩
  · have b1 : (z == 0) = false := by simp [hz]
    have HZ := Lib.hid hz
    clear hz
    go_wp2
    go_ret
    exact ⟨by rw [HC.out, if_neg HZ.out]; rfl, hP.lo⟩
theorem rcmp_any (p q : Pfx) (w : World) : Calls Tryd.prog 39 #[p.val, q.val] w fun e w' => e = .returned (.int .i64 (cmpOf p q)) ∧ Below w.heap.size w w' := by
  cases hp : p.v6 <;> cases hq : q.v6
  · exact rcmp_sfalse p q hp hq w
  · exact rcmp_01 p q hp hq w
  · exact rcmp_10 p q hp hq w
  · exact rcmp_strue p q hp hq w
end Go.Proofs.YtmoldmnhijcckaaDoor
