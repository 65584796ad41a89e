/- The contracts of lanyardref21.Light and lanyardref02.Same. -/
import Derived.Test.YtmoldmnhijcckaaDoorRepA
set_option linter.unusedVariables false
set_option linter.unusedSectionVars false
set_option linter.unusedSimpArgs false
namespace Go.Proofs.YtmoldmnhijcckaaDoor
open Go.RowKit
attribute [local go_sem high] run_imax run_imin
theorem add_nil' (a : Addr) : a.add 0 = a := by unfold Addr.add; simp
def lightN (l : List Blb) : Nat := (l.map fun b => min b.u.size 100000 + min b.bs.length 100000).sum
def lightB (xs : List Blb) : Bool := decide (xs.length ≤ 60) && decide (lightN (xs.take 100) < 60000)
theorem lightN_snoc (l : List Blb) (x : Blb) : lightN (l ++ [x]) = lightN l + (min x.u.size 100000 + min x.bs.length 100000) := by unfold lightN; simp
theorem lightN_le (l : List Blb) : lightN l ≤ l.length * 200000 := by
  unfold lightN
  induction l with
  | nil => simp
  | cons a l ih => simp only [List.map_cons, List.sum_cons, List.length_cons, Nat.succ_mul]; omega
theorem lightN_mem : ∀ (l : List Blb) (x : Blb), x ∈ l → min x.u.size 100000 + min x.bs.length 100000 ≤ lightN l
  | a :: l, x, h => by
    rcases List.mem_cons.1 h with rfl | h
    · unfold lightN; simp
    · have := lightN_mem l x h
      unfold lightN at *
      simp only [List.map_cons, List.sum_cons]
      omega
theorem light_fine {xs : List Blb} (h : lightB xs = true) : xs.length ≤ 60 ∧ ∀ x ∈ xs, x.u.size < 60000 ∧ x.bs.length < 60000 := by
  unfold lightB at h
  simp only [Bool.and_eq_true, decide_eq_true_eq] at h
  refine ⟨h.1, fun x hx => ?_⟩
  have h1 := lightN_mem (xs.take 100) x (by rw [List.take_of_length_le (by omega)]; exact hx)
  omega
set_option maxRecDepth 100000 in
set_option maxHeartbeats 4000000 in
theorem light_any (xs : List Blb) (A : Option Addr) (c : Nat) (hc : xs.length ≤ c) (hn : xs.length ≤ 9223372036854775807) (hsz : ∀ x ∈ xs, x.u.size ≤ 9223372036854775807 ∧ x.bs.length ≤ 9223372036854775807) (w : World) (hr : Reads w w.heap.size 2 A xs.length (xs.flatMap Blb.cells)) :
    Calls Tryd.prog 16 #[.slice A xs.length c] w fun e w' => e = .returned (.bool (lightB xs)) ∧ Below w.heap.size w w' := by
  have hlo := Below.refl w.heap.size w
  go_enter Tryd.func16, Tryd.ntmps16
  go_wp2_with fail
  go_loopw [3, 4] (fun v3 i wr => ∃ k : Nat, k ≤ xs.length ∧ k ≤ 100 ∧ i = .int .i64 k ∧ Below w.heap.size w wr ∧ v3 = .int .i64 (lightN (xs.take k))) (fun _ i _ => xs.length - (intOf i).toNat)
  case atStart => exact ⟨0, by omega, by omega, rfl, hlo, rfl⟩
  case round =>
    clear hlo
    obtain ⟨k, hk, hk100, rfl, hlo, rfl⟩ := hrel
    have hle := lightN_le (xs.take k)
    rw [List.length_take] at hle
    by_cases hlt : k < xs.length ∧ k < 100
    · obtain ⟨hl1, hl2⟩ := hlt
      obtain ⟨ad, rfl, _, _⟩ := hr.2 (by omega)
      have hat : ∀ W, Below w.heap.size w W → AtAdr W (ad.add (k * 2)) xs[k].cells := fun W hW => (hr.below hW (Nat.le_refl _)).elem Blb.len hl1 rfl
      obtain ⟨hx1, hx2⟩ := hsz xs[k] (List.getElem_mem hl1)
      have HT := Lib.hid (show lightN (xs.take (k + 1)) = lightN (xs.take k) + (min xs[k].u.size 100000 + min xs[k].bs.length 100000) by rw [List.take_succ_eq_append_getElem hl1, lightN_snoc])
      generalize xs[k] = x at hat hx1 hx2 HT
      have hk0 : (0 : Int) ≤ (k : Int) := by omega
      have hk1 : (k : Int) < (xs.length : Int) := by omega
      have hk2 : (k : Int) < 100 := by omega
      have m1 : min (x.u.size : Int) 100000 = ((min x.u.size 100000 : Nat) : Int) := by omega
      have m2 : min (x.bs.length : Int) 100000 = ((min x.bs.length 100000 : Nat) : Int) := by omega
      go_wp2_with fail
      generalize lightN (xs.take k) = N at hle HT ⊢
      generalize hp1 : min x.u.size 100000 = p1 at m1 HT
      generalize hp2 : min x.bs.length 100000 = p2 at m2 HT
      have hp1' : p1 ≤ 100000 := by omega
      have hp2' : p2 ≤ 100000 := by omega
      clear hp1 hp2
      have hNb : N ≤ 20000000 := by omega
      have e1 : IntKind.i64.wrap ((N : Int) + (p1 : Int)) = (N : Int) + (p1 : Int) := IntWalk.i64_in _ (by omega)
      have e2 : IntKind.i64.wrap ((N : Int) + (p1 : Int) + (p2 : Int)) = (N : Int) + (p1 : Int) + (p2 : Int) := IntWalk.i64_in _ (by omega)
      refine reg_sch2 18 [(true, 0), (true, 1), (true, 2), (true, 3), (true, 4), (true, 5), (true, 6), (true, 7), (true, 8), (true, 9), (true, 10), (true, 11), (true, 12), (true, 13), (true, 14), (true, 15), (true, 16), (true, 17)] (by kernel_rfl) (by kernel_rfl) (fun W => Below w.heap.size w W) (fun W => Below w.heap.size w W) ?_ ?_ ?_
      · exact hlo.drew
      · exact fun _ h => h
      intro W hSW
      simp only [List.map_cons, List.map_nil, List.getD_cons_zero, List.getD_cons_succ, List.drop_succ_cons, List.drop_zero]
      refine hd_pure (v := ?_) (by rfl) (fun W' hS' => ?_) ?_ -- 0
      rotate_left
      · have c0 := hat _ hS' 0 _ rfl; have c1 := hat _ hS' 1 _ rfl; rw [add_nil'] at c0; rw [add_pos _ (by decide)] at c1; clear hS'; (go_simp; first | with_reducible rfl | rfl)
      try simp only [Act.put, List.setIfInBounds_toArray, List.set_cons_zero, List.set_cons_succ]
      refine hd_pure (v := ?_) (by rfl) (fun W' hS' => ?_) ?_ -- 1
      rotate_left
      · have c0 := hat _ hS' 0 _ rfl; have c1 := hat _ hS' 1 _ rfl; rw [add_nil'] at c0; rw [add_pos _ (by decide)] at c1; clear hS'; (go_simp; first | with_reducible rfl | rfl)
      try simp only [Act.put, List.setIfInBounds_toArray, List.set_cons_zero, List.set_cons_succ]
      refine hd_pure (v := ?_) (by rfl) (fun W' hS' => ?_) ?_ -- 2
      rotate_left
      · have c0 := hat _ hS' 0 _ rfl; have c1 := hat _ hS' 1 _ rfl; rw [add_nil'] at c0; rw [add_pos _ (by decide)] at c1; clear hS'; (go_simp; first | with_reducible rfl | rfl)
      try simp only [Act.put, List.setIfInBounds_toArray, List.set_cons_zero, List.set_cons_succ]
      refine hd_pure (v := ?_) (by rfl) (fun W' hS' => ?_) ?_ -- 3
      rotate_left
      · have c0 := hat _ hS' 0 _ rfl; have c1 := hat _ hS' 1 _ rfl; rw [add_nil'] at c0; rw [add_pos _ (by decide)] at c1; clear hS'; (go_simp; first | with_reducible rfl | rfl)
      try simp only [Act.put, List.setIfInBounds_toArray, List.set_cons_zero, List.set_cons_succ]
      refine hd_pure (v := ?_) (by rfl) (fun W' hS' => ?_) ?_ -- 4
      rotate_left
      · have c0 := hat _ hS' 0 _ rfl; have c1 := hat _ hS' 1 _ rfl; rw [add_nil'] at c0; rw [add_pos _ (by decide)] at c1; clear hS'; (go_simp; first | with_reducible rfl | rfl)
      try simp only [Act.put, List.setIfInBounds_toArray, List.set_cons_zero, List.set_cons_succ]
      refine hd_pure (v := ?_) (by rfl) (fun W' hS' => ?_) ?_ -- 5
      rotate_left
      · have c0 := hat _ hS' 0 _ rfl; have c1 := hat _ hS' 1 _ rfl; rw [add_nil'] at c0; rw [add_pos _ (by decide)] at c1; clear hS'; (go_simp; first | with_reducible rfl | rfl)
      try simp only [Act.put, List.setIfInBounds_toArray, List.set_cons_zero, List.set_cons_succ]
      refine hd_pure (v := ?_) (by rfl) (fun W' hS' => ?_) ?_ -- 6
      rotate_left
      · have c0 := hat _ hS' 0 _ rfl; have c1 := hat _ hS' 1 _ rfl; rw [add_nil'] at c0; rw [add_pos _ (by decide)] at c1; clear hS'; (go_simp; first | with_reducible rfl | rfl)
      try simp only [Act.put, List.setIfInBounds_toArray, List.set_cons_zero, List.set_cons_succ]
      refine hd_pure (v := ?_) (by rfl) (fun W' hS' => ?_) ?_ -- 7
      rotate_left
      · have c0 := hat _ hS' 0 _ rfl; have c1 := hat _ hS' 1 _ rfl; rw [add_nil'] at c0; rw [add_pos _ (by decide)] at c1; clear hS'; (go_simp; first | with_reducible rfl | rfl)
      try simp only [Act.put, List.setIfInBounds_toArray, List.set_cons_zero, List.set_cons_succ]
      refine hd_pure (v := ?_) (by rfl) (fun W' hS' => ?_) ?_ -- 8
      rotate_left
      · have c0 := hat _ hS' 0 _ rfl; have c1 := hat _ hS' 1 _ rfl; rw [add_nil'] at c0; rw [add_pos _ (by decide)] at c1; clear hS'; (go_simp; first | with_reducible rfl | rfl)
      try simp only [Act.put, List.setIfInBounds_toArray, List.set_cons_zero, List.set_cons_succ]
      refine hd_pure (v := ?_) (by rfl) (fun W' hS' => ?_) ?_ -- 9
      rotate_left
      · have c0 := hat _ hS' 0 _ rfl; have c1 := hat _ hS' 1 _ rfl; rw [add_nil'] at c0; rw [add_pos _ (by decide)] at c1; clear hS'; (go_simp; first | with_reducible rfl | rfl)
      try simp only [Act.put, List.setIfInBounds_toArray, List.set_cons_zero, List.set_cons_succ]
      refine hd_pure (v := ?_) (by rfl) (fun W' hS' => ?_) ?_ -- 10
      rotate_left
      · have c0 := hat _ hS' 0 _ rfl; have c1 := hat _ hS' 1 _ rfl; rw [add_nil'] at c0; rw [add_pos _ (by decide)] at c1; clear hS'; (go_simp; first | with_reducible rfl | rfl)
      try simp only [Act.put, List.setIfInBounds_toArray, List.set_cons_zero, List.set_cons_succ]
      refine hd_pure (v := ?_) (by rfl) (fun W' hS' => ?_) ?_ -- 11
      rotate_left
      · have c0 := hat _ hS' 0 _ rfl; have c1 := hat _ hS' 1 _ rfl; rw [add_nil'] at c0; rw [add_pos _ (by decide)] at c1; clear hS'; (go_simp; first | with_reducible rfl | rfl)
      try simp only [Act.put, List.setIfInBounds_toArray, List.set_cons_zero, List.set_cons_succ]
      refine hd_pure (v := ?_) (by rfl) (fun W' hS' => ?_) ?_ -- 12
      rotate_left
      · have c0 := hat _ hS' 0 _ rfl; have c1 := hat _ hS' 1 _ rfl; rw [add_nil'] at c0; rw [add_pos _ (by decide)] at c1; clear hS'; (go_simp; first | with_reducible rfl | rfl)
      try simp only [Act.put, List.setIfInBounds_toArray, List.set_cons_zero, List.set_cons_succ]
      refine hd_pure (v := ?_) (by rfl) (fun W' hS' => ?_) ?_ -- 13
      rotate_left
      · have c0 := hat _ hS' 0 _ rfl; have c1 := hat _ hS' 1 _ rfl; rw [add_nil'] at c0; rw [add_pos _ (by decide)] at c1; clear hS'; (go_simp; first | with_reducible rfl | rfl)
      try simp only [Act.put, List.setIfInBounds_toArray, List.set_cons_zero, List.set_cons_succ]
      refine hd_pure (v := ?_) (by rfl) (fun W' hS' => ?_) ?_ -- 14
      rotate_left
      · have c0 := hat _ hS' 0 _ rfl; have c1 := hat _ hS' 1 _ rfl; rw [add_nil'] at c0; rw [add_pos _ (by decide)] at c1; clear hS'; (go_simp; first | with_reducible rfl | rfl)
      try simp only [Act.put, List.setIfInBounds_toArray, List.set_cons_zero, List.set_cons_succ]
      refine hd_pure (v := ?_) (by rfl) (fun W' hS' => ?_) ?_ -- 15
      rotate_left
      · have c0 := hat _ hS' 0 _ rfl; have c1 := hat _ hS' 1 _ rfl; rw [add_nil'] at c0; rw [add_pos _ (by decide)] at c1; clear hS'; (go_simp; first | with_reducible rfl | rfl)
      try simp only [Act.put, List.setIfInBounds_toArray, List.set_cons_zero, List.set_cons_succ]
      refine hd_pure (v := ?_) (by rfl) (fun W' hS' => ?_) ?_ -- 16
      rotate_left
      · have c0 := hat _ hS' 0 _ rfl; have c1 := hat _ hS' 1 _ rfl; rw [add_nil'] at c0; rw [add_pos _ (by decide)] at c1; clear hS'; (go_simp; first | with_reducible rfl | rfl)
      try simp only [Act.put, List.setIfInBounds_toArray, List.set_cons_zero, List.set_cons_succ]
      refine hd_pure (v := ?_) (by rfl) (fun W' hS' => ?_) ?_ -- 17
      rotate_left
      · have c0 := hat _ hS' 0 _ rfl; have c1 := hat _ hS' 1 _ rfl; rw [add_nil'] at c0; rw [add_pos _ (by decide)] at c1; clear hS'; (go_simp; first | with_reducible rfl | rfl)
      try simp only [Act.put, List.setIfInBounds_toArray, List.set_cons_zero, List.set_cons_succ]
      refine hd_nil ?_
      replace hlo := hSW; clear hSW
      refine wpList_nil (NoPanic.normal ?_)
      go_wp2_with fail
      go_roundw
      case rel => exact ⟨k + 1, by omega, by omega, by go_num, hlo, by rw [HT.out]; go_num⟩
      case measure => simp [intOf]; omega
    · have HF := Lib.hid (show xs.take k = xs.take 100 by
        by_cases h1 : k < xs.length
        · rw [show k = 100 by omega]
        · rw [List.take_of_length_le (by omega), List.take_of_length_le (by omega)])
      have HB := Lib.hid (show lightB xs = (decide (xs.length ≤ 60) && decide (lightN (xs.take k) < 60000)) by unfold lightB; rw [HF.out])
      generalize lightN (xs.take k) = N at hle HB ⊢
      obtain ⟨b6, hb6⟩ : ∃ b, decide ((xs.length : Int) ≤ 60) = b := ⟨_, rfl⟩
      obtain ⟨b7, hb7⟩ : ∃ b, decide ((N : Int) < 60000) = b := ⟨_, rfl⟩
      have HX := Lib.hid (show lightB xs = (b6 && b7) by
        rw [HB.out, ← hb6, ← hb7]
        have q1 : decide (xs.length ≤ 60) = decide ((xs.length : Int) ≤ 60) := by rw [Bool.eq_iff_iff]; simp only [decide_eq_true_eq]; omega
        have q2 : decide (N < 60000) = decide ((N : Int) < 60000) := by rw [Bool.eq_iff_iff]; simp only [decide_eq_true_eq]; omega
        rw [q1, q2])
      have hexit : (k < xs.length ∧ 100 ≤ k) ∨ xs.length ≤ k := by omega
      clear hlt HB
      rcases hexit with ⟨h1, h2⟩ | h1
      · have i1 : (k : Int) < (xs.length : Int) := by omega
        have i2 : decide ((k : Int) < 100) = false := decide_eq_false (by omega)
        cases b6
        · go_wp2_with fail
          go_ret
          refine ⟨?_, hlo⟩
          rw [HX.out]
          try rw [hb7]
          rfl
        · go_wp2_with fail
          go_ret
          refine ⟨?_, hlo⟩
          rw [HX.out]
          try rw [hb7]
          rfl
      · obtain rfl : k = xs.length := by omega
        clear hle h1 hk hr hsz hn hc
        cases b6
        · go_wp2_with fail
          go_ret
          refine ⟨?_, hlo⟩
          rw [HX.out]
          rfl
        · go_wp2_with fail
          go_ret
          refine ⟨?_, hlo⟩
          rw [HX.out]
          try rw [hb7]
          rfl
end Go.Proofs.YtmoldmnhijcckaaDoor
