/- The contract of lanyardref21.Same. -/
import Derived.Test.YtmoldmnhijcckaaDoorR21
import Derived.Test.YtmoldmnhijcckaaDoorRfW
set_option linter.unusedVariables false
set_option linter.unusedSectionVars false
set_option linter.unusedSimpArgs false
namespace Go.Proofs.YtmoldmnhijcckaaDoor
open Go.RowKit
def prOf (x : Blb) : ByteArray × List UInt8 := (x.u, x.bs)
theorem bs_eq (x y : List UInt8) : ((⟨x.toArray⟩ : ByteArray).toList == (⟨y.toArray⟩ : ByteArray).toList) = decide (x = y) := by
  rw [eqS]
  by_cases h : x = y
  · subst h; simp
  · rw [decide_eq_false h]
    exact decide_eq_false fun e => h (by
      have := congrArg (fun b : ByteArray => b.data.toList) e
      simpa using this)
set_option maxRecDepth 100000 in
set_option maxHeartbeats 4000000 in
theorem same21_any (xs ys : List Blb) (A A' : Option Addr) (c c' B : Nat) (w : World) (hB : B ≤ w.heap.size) (hl : xs.length ≤ 1000000) (hr : Reads w B 2 A xs.length (xs.flatMap Blb.cells)) (hr' : Reads w B 2 A' ys.length (ys.flatMap Blb.cells))
    (hb : ∀ x ∈ xs, Reads w B 1 x.A x.bs.length (x.bs.map bv)) (hb' : ∀ x ∈ ys, Reads w B 1 x.A x.bs.length (x.bs.map bv)) :
    Calls Tryd.prog 25 #[.slice A xs.length c, .slice A' ys.length c'] w fun e w' => e = .returned (.bool (decide (xs.map prOf = ys.map prOf))) ∧ Below w.heap.size w w' := by
  have hlo := Below.refl w.heap.size w
  by_cases he : xs.length = ys.length
  · go_enter Tryd.func25, Tryd.ntmps25
    have b0 : ((xs.length : Int) != (ys.length : Int)) = false := by simp [he]
    have HE := Lib.hid he
    clear he
    go_wp2_with fail
    clear b0
    go_loopw [5] (fun i wr => ∃ k : Nat, k ≤ xs.length ∧ i = .int .i64 k ∧ Below w.heap.size w wr ∧ Hid ((xs.take k).map prOf = (ys.take k).map prOf)) (fun i _ => xs.length - (intOf i).toNat)
    case atStart => exact ⟨0, by omega, rfl, hlo, Lib.hid rfl⟩
    case round =>
      clear hlo
      obtain ⟨k, hk, rfl, hlo, HT⟩ := hrel
      by_cases hlt : k < xs.length
      · have hlt' : k < ys.length := by have := HE.out; omega
        obtain ⟨ad, rfl, _, _⟩ := hr.2 (by omega)
        obtain ⟨ad', rfl, _, _⟩ := hr'.2 (by omega)
        have hk0 : (0 : Int) ≤ (k : Int) := by omega
        have hk1 : (k : Int) < (xs.length : Int) := by omega
        have hk2 : (k : Int) < (ys.length : Int) := by omega
        have r1 : ∀ W, Below w.heap.size w W → AtAdr W (ad.add (k * 2)) xs[k].cells := fun W hW => (hr.below (hW.mono hB) (Nat.le_refl _)).elem Blb.len hlt rfl
        have r2 : ∀ W, Below w.heap.size w W → AtAdr W (ad'.add (k * 2)) ys[k].cells := fun W hW => (hr'.below (hW.mono hB) (Nat.le_refl _)).elem Blb.len hlt' rfl
        have q1 : ∀ W, Below w.heap.size w W → (convert 25 9 (.slice xs[k].A xs[k].bs.length xs[k].c)).run Tryd.prog W = .ok (.string ⟨xs[k].bs.toArray⟩) W := fun W hW => reads_strD ((hb xs[k] (List.getElem_mem hlt)).below (hW.mono hB) (Nat.le_refl _)) _
        have q2 : ∀ W, Below w.heap.size w W → (convert 25 9 (.slice ys[k].A ys[k].bs.length ys[k].c)).run Tryd.prog W = .ok (.string ⟨ys[k].bs.toArray⟩) W := fun W hW => reads_strD ((hb' ys[k] (List.getElem_mem hlt')).below (hW.mono hB) (Nat.le_refl _)) _
        have HX := Lib.hid (show (xs.take (k + 1)).map prOf = (xs.take k).map prOf ++ [prOf xs[k]] by rw [List.take_succ_eq_append_getElem hlt, List.map_append]; rfl)
        have HY := Lib.hid (show (ys.take (k + 1)).map prOf = (ys.take k).map prOf ++ [prOf ys[k]] by rw [List.take_succ_eq_append_getElem hlt', List.map_append]; rfl)
        have HG := Lib.hid (show xs.map prOf = ys.map prOf → prOf xs[k] = prOf ys[k] from fun e => by
          have h1 : (xs.map prOf)[k]? = (ys.map prOf)[k]? := by rw [e]
          simpa [hlt, hlt'] using h1)
        generalize xs[k] = x at r1 q1 HX HG
        generalize ys[k] = y at r2 q2 HY HG
        by_cases hxy : x.u = y.u
        · have b1 : (x.u.toList == y.u.toList) = true := by rw [eqS]; exact decide_eq_true hxy
          by_cases hbb : x.bs = y.bs
          · have b2 : ((⟨x.bs.toArray⟩ : ByteArray).toList == (⟨y.bs.toArray⟩ : ByteArray).toList) = true := by rw [bs_eq]; exact decide_eq_true hbb
            have b3 : (x.bs == y.bs) = true := beq_iff_eq.2 hbb
            have HN := Lib.hid (show (xs.take (k + 1)).map prOf = (ys.take (k + 1)).map prOf by rw [HX.out, HY.out, HT.out]; simp [prOf, hxy, hbb])
            clear HX HY HG HT hxy hbb
            go_upto_region 6 with fail
            refine reg_sch2 26 [(true, 0), (true, 1), (true, 2), (true, 3), (true, 4), (true, 5), (true, 6), (true, 7), (true, 8), (true, 9), (true, 10), (true, 11), (true, 12), (true, 13), (true, 14), (true, 15), (true, 16), (true, 17), (true, 18), (true, 19), (true, 20), (true, 21), (true, 22), (true, 23), (true, 24), (true, 25)] (by kernel_rfl) (by kernel_rfl) (fun W => Below w.heap.size w W) (fun W => Below w.heap.size w W) ?_ ?_ ?_
            · exact hlo.drew
            · exact fun _ h => h
            intro W hSW
            simp only [List.map_cons, List.map_nil, List.getD_cons_zero, List.getD_cons_succ, List.drop_succ_cons, List.drop_zero]
            refine hd_pure (v := ?_) (by rfl) (fun W' hS' => ?_) ?_ -- 0
            rotate_left
            · have c1 := r1 _ hS' 0 _ rfl; have c2 := r2 _ hS' 0 _ rfl; have c3 := r1 _ hS' 1 _ rfl; have c4 := r2 _ hS' 1 _ rfl; have k1 := q1 _ hS'; have k2 := q2 _ hS'; rw [add_nil'] at c1 c2; rw [add_pos _ (by decide)] at c3 c4; clear hS'; (go_simp; first | with_reducible rfl | rfl)
            try simp only [Act.put, List.setIfInBounds_toArray, List.set_cons_zero, List.set_cons_succ]
            refine hd_pure (v := ?_) (by rfl) (fun W' hS' => ?_) ?_ -- 1
            rotate_left
            · have c1 := r1 _ hS' 0 _ rfl; have c2 := r2 _ hS' 0 _ rfl; have c3 := r1 _ hS' 1 _ rfl; have c4 := r2 _ hS' 1 _ rfl; have k1 := q1 _ hS'; have k2 := q2 _ hS'; rw [add_nil'] at c1 c2; rw [add_pos _ (by decide)] at c3 c4; clear hS'; (go_simp; first | with_reducible rfl | rfl)
            try simp only [Act.put, List.setIfInBounds_toArray, List.set_cons_zero, List.set_cons_succ]
            refine hd_pure (v := ?_) (by rfl) (fun W' hS' => ?_) ?_ -- 2
            rotate_left
            · have c1 := r1 _ hS' 0 _ rfl; have c2 := r2 _ hS' 0 _ rfl; have c3 := r1 _ hS' 1 _ rfl; have c4 := r2 _ hS' 1 _ rfl; have k1 := q1 _ hS'; have k2 := q2 _ hS'; rw [add_nil'] at c1 c2; rw [add_pos _ (by decide)] at c3 c4; clear hS'; (go_simp; first | with_reducible rfl | rfl)
            try simp only [Act.put, List.setIfInBounds_toArray, List.set_cons_zero, List.set_cons_succ]
            refine hd_pure (v := ?_) (by rfl) (fun W' hS' => ?_) ?_ -- 3
            rotate_left
            · have c1 := r1 _ hS' 0 _ rfl; have c2 := r2 _ hS' 0 _ rfl; have c3 := r1 _ hS' 1 _ rfl; have c4 := r2 _ hS' 1 _ rfl; have k1 := q1 _ hS'; have k2 := q2 _ hS'; rw [add_nil'] at c1 c2; rw [add_pos _ (by decide)] at c3 c4; clear hS'; (go_simp; first | with_reducible rfl | rfl)
            try simp only [Act.put, List.setIfInBounds_toArray, List.set_cons_zero, List.set_cons_succ]
            refine hd_pure (v := ?_) (by rfl) (fun W' hS' => ?_) ?_ -- 4
            rotate_left
            · have c1 := r1 _ hS' 0 _ rfl; have c2 := r2 _ hS' 0 _ rfl; have c3 := r1 _ hS' 1 _ rfl; have c4 := r2 _ hS' 1 _ rfl; have k1 := q1 _ hS'; have k2 := q2 _ hS'; rw [add_nil'] at c1 c2; rw [add_pos _ (by decide)] at c3 c4; clear hS'; (go_simp; first | with_reducible rfl | rfl)
            try simp only [Act.put, List.setIfInBounds_toArray, List.set_cons_zero, List.set_cons_succ]
            refine hd_pure (v := ?_) (by rfl) (fun W' hS' => ?_) ?_ -- 5
            rotate_left
            · have c1 := r1 _ hS' 0 _ rfl; have c2 := r2 _ hS' 0 _ rfl; have c3 := r1 _ hS' 1 _ rfl; have c4 := r2 _ hS' 1 _ rfl; have k1 := q1 _ hS'; have k2 := q2 _ hS'; rw [add_nil'] at c1 c2; rw [add_pos _ (by decide)] at c3 c4; clear hS'; (go_simp; first | with_reducible rfl | rfl)
            try simp only [Act.put, List.setIfInBounds_toArray, List.set_cons_zero, List.set_cons_succ]
            refine hd_pure (v := ?_) (by rfl) (fun W' hS' => ?_) ?_ -- 6
            rotate_left
            · have c1 := r1 _ hS' 0 _ rfl; have c2 := r2 _ hS' 0 _ rfl; have c3 := r1 _ hS' 1 _ rfl; have c4 := r2 _ hS' 1 _ rfl; have k1 := q1 _ hS'; have k2 := q2 _ hS'; rw [add_nil'] at c1 c2; rw [add_pos _ (by decide)] at c3 c4; clear hS'; (go_simp; first | with_reducible rfl | rfl)
            try simp only [Act.put, List.setIfInBounds_toArray, List.set_cons_zero, List.set_cons_succ]
            refine hd_pure (v := ?_) (by rfl) (fun W' hS' => ?_) ?_ -- 7
            rotate_left
            · have c1 := r1 _ hS' 0 _ rfl; have c2 := r2 _ hS' 0 _ rfl; have c3 := r1 _ hS' 1 _ rfl; have c4 := r2 _ hS' 1 _ rfl; have k1 := q1 _ hS'; have k2 := q2 _ hS'; rw [add_nil'] at c1 c2; rw [add_pos _ (by decide)] at c3 c4; clear hS'; (go_simp; first | with_reducible rfl | rfl)
            try simp only [Act.put, List.setIfInBounds_toArray, List.set_cons_zero, List.set_cons_succ]
            refine hd_pure (v := ?_) (by rfl) (fun W' hS' => ?_) ?_ -- 8
            rotate_left
            · have c1 := r1 _ hS' 0 _ rfl; have c2 := r2 _ hS' 0 _ rfl; have c3 := r1 _ hS' 1 _ rfl; have c4 := r2 _ hS' 1 _ rfl; have k1 := q1 _ hS'; have k2 := q2 _ hS'; rw [add_nil'] at c1 c2; rw [add_pos _ (by decide)] at c3 c4; clear hS'; (go_simp; first | with_reducible rfl | rfl)
            try simp only [Act.put, List.setIfInBounds_toArray, List.set_cons_zero, List.set_cons_succ]
            refine hd_pure (v := ?_) (by rfl) (fun W' hS' => ?_) ?_ -- 9
            rotate_left
            · have c1 := r1 _ hS' 0 _ rfl; have c2 := r2 _ hS' 0 _ rfl; have c3 := r1 _ hS' 1 _ rfl; have c4 := r2 _ hS' 1 _ rfl; have k1 := q1 _ hS'; have k2 := q2 _ hS'; rw [add_nil'] at c1 c2; rw [add_pos _ (by decide)] at c3 c4; clear hS'; (go_simp; first | with_reducible rfl | rfl)
            try simp only [Act.put, List.setIfInBounds_toArray, List.set_cons_zero, List.set_cons_succ]
            refine hd_pure (v := ?_) (by rfl) (fun W' hS' => ?_) ?_ -- 10
            rotate_left
            · have c1 := r1 _ hS' 0 _ rfl; have c2 := r2 _ hS' 0 _ rfl; have c3 := r1 _ hS' 1 _ rfl; have c4 := r2 _ hS' 1 _ rfl; have k1 := q1 _ hS'; have k2 := q2 _ hS'; rw [add_nil'] at c1 c2; rw [add_pos _ (by decide)] at c3 c4; clear hS'; (go_simp; first | with_reducible rfl | rfl)
            try simp only [Act.put, List.setIfInBounds_toArray, List.set_cons_zero, List.set_cons_succ]
            refine hd_pure (v := ?_) (by rfl) (fun W' hS' => ?_) ?_ -- 11
            rotate_left
            · have c1 := r1 _ hS' 0 _ rfl; have c2 := r2 _ hS' 0 _ rfl; have c3 := r1 _ hS' 1 _ rfl; have c4 := r2 _ hS' 1 _ rfl; have k1 := q1 _ hS'; have k2 := q2 _ hS'; rw [add_nil'] at c1 c2; rw [add_pos _ (by decide)] at c3 c4; clear hS'; (go_simp; first | with_reducible rfl | rfl)
            try simp only [Act.put, List.setIfInBounds_toArray, List.set_cons_zero, List.set_cons_succ]
            refine hd_pure (v := ?_) (by rfl) (fun W' hS' => ?_) ?_ -- 12
            rotate_left
            · have c1 := r1 _ hS' 0 _ rfl; have c2 := r2 _ hS' 0 _ rfl; have c3 := r1 _ hS' 1 _ rfl; have c4 := r2 _ hS' 1 _ rfl; have k1 := q1 _ hS'; have k2 := q2 _ hS'; rw [add_nil'] at c1 c2; rw [add_pos _ (by decide)] at c3 c4; clear hS'; (go_simp; first | with_reducible rfl | rfl)
            try simp only [Act.put, List.setIfInBounds_toArray, List.set_cons_zero, List.set_cons_succ]
            refine hd_pure (v := ?_) (by rfl) (fun W' hS' => ?_) ?_ -- 13
            rotate_left
            · have c1 := r1 _ hS' 0 _ rfl; have c2 := r2 _ hS' 0 _ rfl; have c3 := r1 _ hS' 1 _ rfl; have c4 := r2 _ hS' 1 _ rfl; have k1 := q1 _ hS'; have k2 := q2 _ hS'; rw [add_nil'] at c1 c2; rw [add_pos _ (by decide)] at c3 c4; clear hS'; (go_simp; first | with_reducible rfl | rfl)
            try simp only [Act.put, List.setIfInBounds_toArray, List.set_cons_zero, List.set_cons_succ]
            refine hd_pure (v := ?_) (by rfl) (fun W' hS' => ?_) ?_ -- 14
            rotate_left
            · have c1 := r1 _ hS' 0 _ rfl; have c2 := r2 _ hS' 0 _ rfl; have c3 := r1 _ hS' 1 _ rfl; have c4 := r2 _ hS' 1 _ rfl; have k1 := q1 _ hS'; have k2 := q2 _ hS'; rw [add_nil'] at c1 c2; rw [add_pos _ (by decide)] at c3 c4; clear hS'; (go_simp; first | with_reducible rfl | rfl)
            try simp only [Act.put, List.setIfInBounds_toArray, List.set_cons_zero, List.set_cons_succ]
            refine hd_pure (v := ?_) (by rfl) (fun W' hS' => ?_) ?_ -- 15
            rotate_left
            · have c1 := r1 _ hS' 0 _ rfl; have c2 := r2 _ hS' 0 _ rfl; have c3 := r1 _ hS' 1 _ rfl; have c4 := r2 _ hS' 1 _ rfl; have k1 := q1 _ hS'; have k2 := q2 _ hS'; rw [add_nil'] at c1 c2; rw [add_pos _ (by decide)] at c3 c4; clear hS'; (go_simp; first | with_reducible rfl | rfl)
            try simp only [Act.put, List.setIfInBounds_toArray, List.set_cons_zero, List.set_cons_succ]
            refine hd_pure (v := ?_) (by rfl) (fun W' hS' => ?_) ?_ -- 16
            rotate_left
            · have c1 := r1 _ hS' 0 _ rfl; have c2 := r2 _ hS' 0 _ rfl; have c3 := r1 _ hS' 1 _ rfl; have c4 := r2 _ hS' 1 _ rfl; have k1 := q1 _ hS'; have k2 := q2 _ hS'; rw [add_nil'] at c1 c2; rw [add_pos _ (by decide)] at c3 c4; clear hS'; (go_simp; first | with_reducible rfl | rfl)
            try simp only [Act.put, List.setIfInBounds_toArray, List.set_cons_zero, List.set_cons_succ]
            refine hd_pure (v := ?_) (by rfl) (fun W' hS' => ?_) ?_ -- 17
            rotate_left
            · have c1 := r1 _ hS' 0 _ rfl; have c2 := r2 _ hS' 0 _ rfl; have c3 := r1 _ hS' 1 _ rfl; have c4 := r2 _ hS' 1 _ rfl; have k1 := q1 _ hS'; have k2 := q2 _ hS'; rw [add_nil'] at c1 c2; rw [add_pos _ (by decide)] at c3 c4; clear hS'; (go_simp; first | with_reducible rfl | rfl)
            try simp only [Act.put, List.setIfInBounds_toArray, List.set_cons_zero, List.set_cons_succ]
            refine hd_pure (v := ?_) (by rfl) (fun W' hS' => ?_) ?_ -- 18
            rotate_left
            · have c1 := r1 _ hS' 0 _ rfl; have c2 := r2 _ hS' 0 _ rfl; have c3 := r1 _ hS' 1 _ rfl; have c4 := r2 _ hS' 1 _ rfl; have k1 := q1 _ hS'; have k2 := q2 _ hS'; rw [add_nil'] at c1 c2; rw [add_pos _ (by decide)] at c3 c4; clear hS'; (go_simp; first | with_reducible rfl | rfl)
            try simp only [Act.put, List.setIfInBounds_toArray, List.set_cons_zero, List.set_cons_succ]
            refine hd_pure (v := ?_) (by rfl) (fun W' hS' => ?_) ?_ -- 19
            rotate_left
            · have c1 := r1 _ hS' 0 _ rfl; have c2 := r2 _ hS' 0 _ rfl; have c3 := r1 _ hS' 1 _ rfl; have c4 := r2 _ hS' 1 _ rfl; have k1 := q1 _ hS'; have k2 := q2 _ hS'; rw [add_nil'] at c1 c2; rw [add_pos _ (by decide)] at c3 c4; clear hS'; (go_simp; first | with_reducible rfl | rfl)
            try simp only [Act.put, List.setIfInBounds_toArray, List.set_cons_zero, List.set_cons_succ]
            refine hd_pure (v := ?_) (by rfl) (fun W' hS' => ?_) ?_ -- 20
            rotate_left
            · have c1 := r1 _ hS' 0 _ rfl; have c2 := r2 _ hS' 0 _ rfl; have c3 := r1 _ hS' 1 _ rfl; have c4 := r2 _ hS' 1 _ rfl; have k1 := q1 _ hS'; have k2 := q2 _ hS'; rw [add_nil'] at c1 c2; rw [add_pos _ (by decide)] at c3 c4; clear hS'; (go_simp; first | with_reducible rfl | rfl)
            try simp only [Act.put, List.setIfInBounds_toArray, List.set_cons_zero, List.set_cons_succ]
            refine hd_pure (v := ?_) (by rfl) (fun W' hS' => ?_) ?_ -- 21
            rotate_left
            · have c1 := r1 _ hS' 0 _ rfl; have c2 := r2 _ hS' 0 _ rfl; have c3 := r1 _ hS' 1 _ rfl; have c4 := r2 _ hS' 1 _ rfl; have k1 := q1 _ hS'; have k2 := q2 _ hS'; rw [add_nil'] at c1 c2; rw [add_pos _ (by decide)] at c3 c4; clear hS'; (go_simp; first | with_reducible rfl | rfl)
            try simp only [Act.put, List.setIfInBounds_toArray, List.set_cons_zero, List.set_cons_succ]
            refine hd_pure (v := ?_) (by rfl) (fun W' hS' => ?_) ?_ -- 22
            rotate_left
            · have c1 := r1 _ hS' 0 _ rfl; have c2 := r2 _ hS' 0 _ rfl; have c3 := r1 _ hS' 1 _ rfl; have c4 := r2 _ hS' 1 _ rfl; have k1 := q1 _ hS'; have k2 := q2 _ hS'; rw [add_nil'] at c1 c2; rw [add_pos _ (by decide)] at c3 c4; clear hS'; (go_simp; first | with_reducible rfl | rfl)
            try simp only [Act.put, List.setIfInBounds_toArray, List.set_cons_zero, List.set_cons_succ]
            refine hd_pure (v := ?_) (by rfl) (fun W' hS' => ?_) ?_ -- 23
            rotate_left
            · have c1 := r1 _ hS' 0 _ rfl; have c2 := r2 _ hS' 0 _ rfl; have c3 := r1 _ hS' 1 _ rfl; have c4 := r2 _ hS' 1 _ rfl; have k1 := q1 _ hS'; have k2 := q2 _ hS'; rw [add_nil'] at c1 c2; rw [add_pos _ (by decide)] at c3 c4; clear hS'; (go_simp; first | with_reducible rfl | rfl)
            try simp only [Act.put, List.setIfInBounds_toArray, List.set_cons_zero, List.set_cons_succ]
            refine hd_pure (v := ?_) (by rfl) (fun W' hS' => ?_) ?_ -- 24
            rotate_left
            · have c1 := r1 _ hS' 0 _ rfl; have c2 := r2 _ hS' 0 _ rfl; have c3 := r1 _ hS' 1 _ rfl; have c4 := r2 _ hS' 1 _ rfl; have k1 := q1 _ hS'; have k2 := q2 _ hS'; rw [add_nil'] at c1 c2; rw [add_pos _ (by decide)] at c3 c4; clear hS'; (go_simp; first | with_reducible rfl | rfl)
            try simp only [Act.put, List.setIfInBounds_toArray, List.set_cons_zero, List.set_cons_succ]
            refine hd_pure (v := ?_) (by rfl) (fun W' hS' => ?_) ?_ -- 25
            rotate_left
            · have c1 := r1 _ hS' 0 _ rfl; have c2 := r2 _ hS' 0 _ rfl; have c3 := r1 _ hS' 1 _ rfl; have c4 := r2 _ hS' 1 _ rfl; have k1 := q1 _ hS'; have k2 := q2 _ hS'; rw [add_nil'] at c1 c2; rw [add_pos _ (by decide)] at c3 c4; clear hS'; (go_simp; first | with_reducible rfl | rfl)
            try simp only [Act.put, List.setIfInBounds_toArray, List.set_cons_zero, List.set_cons_succ]
            refine hd_nil ?_
            replace hlo := hSW; clear hSW
            refine wpList_nil (NoPanic.normal ?_)
            go_wp2_with fail
            go_roundw
            case rel => exact ⟨k + 1, by omega, by go_num, hlo, HN⟩
            case measure => simp [intOf]; omega
          · have b2 : ((⟨x.bs.toArray⟩ : ByteArray).toList == (⟨y.bs.toArray⟩ : ByteArray).toList) = false := by rw [bs_eq]; exact decide_eq_false hbb
            have b3 : (x.bs == y.bs) = false := beq_eq_false_iff_ne.2 hbb
            have HF := Lib.hid (show decide (xs.map prOf = ys.map prOf) = false from decide_eq_false fun e => hbb (congrArg Prod.snd (HG.out e)))
            clear HX HY HG HT hxy hbb
            go_upto_region 6 with fail
            refine reg_sch2 26 [(true, 0), (true, 1), (true, 2), (true, 3), (true, 4), (true, 5), (true, 6), (true, 7), (true, 8), (true, 9), (true, 10), (true, 11), (true, 12), (true, 13), (true, 14), (true, 15), (true, 16), (true, 17), (true, 18), (true, 19), (true, 20), (true, 21), (true, 22), (true, 23), (true, 24), (true, 25)] (by kernel_rfl) (by kernel_rfl) (fun W => Below w.heap.size w W) (fun W => Below w.heap.size w W) ?_ ?_ ?_
            · exact hlo.drew
            · exact fun _ h => h
            intro W hSW
            simp only [List.map_cons, List.map_nil, List.getD_cons_zero, List.getD_cons_succ, List.drop_succ_cons, List.drop_zero]
            refine hd_pure (v := ?_) (by rfl) (fun W' hS' => ?_) ?_ -- 0
            rotate_left
            · have c1 := r1 _ hS' 0 _ rfl; have c2 := r2 _ hS' 0 _ rfl; have c3 := r1 _ hS' 1 _ rfl; have c4 := r2 _ hS' 1 _ rfl; have k1 := q1 _ hS'; have k2 := q2 _ hS'; rw [add_nil'] at c1 c2; rw [add_pos _ (by decide)] at c3 c4; clear hS'; (go_simp; first | with_reducible rfl | rfl)
            try simp only [Act.put, List.setIfInBounds_toArray, List.set_cons_zero, List.set_cons_succ]
            refine hd_pure (v := ?_) (by rfl) (fun W' hS' => ?_) ?_ -- 1
            rotate_left
            · have c1 := r1 _ hS' 0 _ rfl; have c2 := r2 _ hS' 0 _ rfl; have c3 := r1 _ hS' 1 _ rfl; have c4 := r2 _ hS' 1 _ rfl; have k1 := q1 _ hS'; have k2 := q2 _ hS'; rw [add_nil'] at c1 c2; rw [add_pos _ (by decide)] at c3 c4; clear hS'; (go_simp; first | with_reducible rfl | rfl)
            try simp only [Act.put, List.setIfInBounds_toArray, List.set_cons_zero, List.set_cons_succ]
            refine hd_pure (v := ?_) (by rfl) (fun W' hS' => ?_) ?_ -- 2
            rotate_left
            · have c1 := r1 _ hS' 0 _ rfl; have c2 := r2 _ hS' 0 _ rfl; have c3 := r1 _ hS' 1 _ rfl; have c4 := r2 _ hS' 1 _ rfl; have k1 := q1 _ hS'; have k2 := q2 _ hS'; rw [add_nil'] at c1 c2; rw [add_pos _ (by decide)] at c3 c4; clear hS'; (go_simp; first | with_reducible rfl | rfl)
            try simp only [Act.put, List.setIfInBounds_toArray, List.set_cons_zero, List.set_cons_succ]
            refine hd_pure (v := ?_) (by rfl) (fun W' hS' => ?_) ?_ -- 3
            rotate_left
            · have c1 := r1 _ hS' 0 _ rfl; have c2 := r2 _ hS' 0 _ rfl; have c3 := r1 _ hS' 1 _ rfl; have c4 := r2 _ hS' 1 _ rfl; have k1 := q1 _ hS'; have k2 := q2 _ hS'; rw [add_nil'] at c1 c2; rw [add_pos _ (by decide)] at c3 c4; clear hS'; (go_simp; first | with_reducible rfl | rfl)
            try simp only [Act.put, List.setIfInBounds_toArray, List.set_cons_zero, List.set_cons_succ]
            refine hd_pure (v := ?_) (by rfl) (fun W' hS' => ?_) ?_ -- 4
            rotate_left
            · have c1 := r1 _ hS' 0 _ rfl; have c2 := r2 _ hS' 0 _ rfl; have c3 := r1 _ hS' 1 _ rfl; have c4 := r2 _ hS' 1 _ rfl; have k1 := q1 _ hS'; have k2 := q2 _ hS'; rw [add_nil'] at c1 c2; rw [add_pos _ (by decide)] at c3 c4; clear hS'; (go_simp; first | with_reducible rfl | rfl)
            try simp only [Act.put, List.setIfInBounds_toArray, List.set_cons_zero, List.set_cons_succ]
            refine hd_pure (v := ?_) (by rfl) (fun W' hS' => ?_) ?_ -- 5
            rotate_left
            · have c1 := r1 _ hS' 0 _ rfl; have c2 := r2 _ hS' 0 _ rfl; have c3 := r1 _ hS' 1 _ rfl; have c4 := r2 _ hS' 1 _ rfl; have k1 := q1 _ hS'; have k2 := q2 _ hS'; rw [add_nil'] at c1 c2; rw [add_pos _ (by decide)] at c3 c4; clear hS'; (go_simp; first | with_reducible rfl | rfl)
            try simp only [Act.put, List.setIfInBounds_toArray, List.set_cons_zero, List.set_cons_succ]
            refine hd_pure (v := ?_) (by rfl) (fun W' hS' => ?_) ?_ -- 6
            rotate_left
            · have c1 := r1 _ hS' 0 _ rfl; have c2 := r2 _ hS' 0 _ rfl; have c3 := r1 _ hS' 1 _ rfl; have c4 := r2 _ hS' 1 _ rfl; have k1 := q1 _ hS'; have k2 := q2 _ hS'; rw [add_nil'] at c1 c2; rw [add_pos _ (by decide)] at c3 c4; clear hS'; (go_simp; first | with_reducible rfl | rfl)
            try simp only [Act.put, List.setIfInBounds_toArray, List.set_cons_zero, List.set_cons_succ]
            refine hd_pure (v := ?_) (by rfl) (fun W' hS' => ?_) ?_ -- 7
            rotate_left
            · have c1 := r1 _ hS' 0 _ rfl; have c2 := r2 _ hS' 0 _ rfl; have c3 := r1 _ hS' 1 _ rfl; have c4 := r2 _ hS' 1 _ rfl; have k1 := q1 _ hS'; have k2 := q2 _ hS'; rw [add_nil'] at c1 c2; rw [add_pos _ (by decide)] at c3 c4; clear hS'; (go_simp; first | with_reducible rfl | rfl)
            try simp only [Act.put, List.setIfInBounds_toArray, List.set_cons_zero, List.set_cons_succ]
            refine hd_pure (v := ?_) (by rfl) (fun W' hS' => ?_) ?_ -- 8
            rotate_left
            · have c1 := r1 _ hS' 0 _ rfl; have c2 := r2 _ hS' 0 _ rfl; have c3 := r1 _ hS' 1 _ rfl; have c4 := r2 _ hS' 1 _ rfl; have k1 := q1 _ hS'; have k2 := q2 _ hS'; rw [add_nil'] at c1 c2; rw [add_pos _ (by decide)] at c3 c4; clear hS'; (go_simp; first | with_reducible rfl | rfl)
            try simp only [Act.put, List.setIfInBounds_toArray, List.set_cons_zero, List.set_cons_succ]
            refine hd_pure (v := ?_) (by rfl) (fun W' hS' => ?_) ?_ -- 9
            rotate_left
            · have c1 := r1 _ hS' 0 _ rfl; have c2 := r2 _ hS' 0 _ rfl; have c3 := r1 _ hS' 1 _ rfl; have c4 := r2 _ hS' 1 _ rfl; have k1 := q1 _ hS'; have k2 := q2 _ hS'; rw [add_nil'] at c1 c2; rw [add_pos _ (by decide)] at c3 c4; clear hS'; (go_simp; first | with_reducible rfl | rfl)
            try simp only [Act.put, List.setIfInBounds_toArray, List.set_cons_zero, List.set_cons_succ]
            refine hd_pure (v := ?_) (by rfl) (fun W' hS' => ?_) ?_ -- 10
            rotate_left
            · have c1 := r1 _ hS' 0 _ rfl; have c2 := r2 _ hS' 0 _ rfl; have c3 := r1 _ hS' 1 _ rfl; have c4 := r2 _ hS' 1 _ rfl; have k1 := q1 _ hS'; have k2 := q2 _ hS'; rw [add_nil'] at c1 c2; rw [add_pos _ (by decide)] at c3 c4; clear hS'; (go_simp; first | with_reducible rfl | rfl)
            try simp only [Act.put, List.setIfInBounds_toArray, List.set_cons_zero, List.set_cons_succ]
            refine hd_pure (v := ?_) (by rfl) (fun W' hS' => ?_) ?_ -- 11
            rotate_left
            · have c1 := r1 _ hS' 0 _ rfl; have c2 := r2 _ hS' 0 _ rfl; have c3 := r1 _ hS' 1 _ rfl; have c4 := r2 _ hS' 1 _ rfl; have k1 := q1 _ hS'; have k2 := q2 _ hS'; rw [add_nil'] at c1 c2; rw [add_pos _ (by decide)] at c3 c4; clear hS'; (go_simp; first | with_reducible rfl | rfl)
            try simp only [Act.put, List.setIfInBounds_toArray, List.set_cons_zero, List.set_cons_succ]
            refine hd_pure (v := ?_) (by rfl) (fun W' hS' => ?_) ?_ -- 12
            rotate_left
            · have c1 := r1 _ hS' 0 _ rfl; have c2 := r2 _ hS' 0 _ rfl; have c3 := r1 _ hS' 1 _ rfl; have c4 := r2 _ hS' 1 _ rfl; have k1 := q1 _ hS'; have k2 := q2 _ hS'; rw [add_nil'] at c1 c2; rw [add_pos _ (by decide)] at c3 c4; clear hS'; (go_simp; first | with_reducible rfl | rfl)
            try simp only [Act.put, List.setIfInBounds_toArray, List.set_cons_zero, List.set_cons_succ]
            refine hd_pure (v := ?_) (by rfl) (fun W' hS' => ?_) ?_ -- 13
            rotate_left
            · have c1 := r1 _ hS' 0 _ rfl; have c2 := r2 _ hS' 0 _ rfl; have c3 := r1 _ hS' 1 _ rfl; have c4 := r2 _ hS' 1 _ rfl; have k1 := q1 _ hS'; have k2 := q2 _ hS'; rw [add_nil'] at c1 c2; rw [add_pos _ (by decide)] at c3 c4; clear hS'; (go_simp; first | with_reducible rfl | rfl)
            try simp only [Act.put, List.setIfInBounds_toArray, List.set_cons_zero, List.set_cons_succ]
            refine hd_pure (v := ?_) (by rfl) (fun W' hS' => ?_) ?_ -- 14
            rotate_left
            · have c1 := r1 _ hS' 0 _ rfl; have c2 := r2 _ hS' 0 _ rfl; have c3 := r1 _ hS' 1 _ rfl; have c4 := r2 _ hS' 1 _ rfl; have k1 := q1 _ hS'; have k2 := q2 _ hS'; rw [add_nil'] at c1 c2; rw [add_pos _ (by decide)] at c3 c4; clear hS'; (go_simp; first | with_reducible rfl | rfl)
            try simp only [Act.put, List.setIfInBounds_toArray, List.set_cons_zero, List.set_cons_succ]
            refine hd_pure (v := ?_) (by rfl) (fun W' hS' => ?_) ?_ -- 15
            rotate_left
            · have c1 := r1 _ hS' 0 _ rfl; have c2 := r2 _ hS' 0 _ rfl; have c3 := r1 _ hS' 1 _ rfl; have c4 := r2 _ hS' 1 _ rfl; have k1 := q1 _ hS'; have k2 := q2 _ hS'; rw [add_nil'] at c1 c2; rw [add_pos _ (by decide)] at c3 c4; clear hS'; (go_simp; first | with_reducible rfl | rfl)
            try simp only [Act.put, List.setIfInBounds_toArray, List.set_cons_zero, List.set_cons_succ]
            refine hd_pure (v := ?_) (by rfl) (fun W' hS' => ?_) ?_ -- 16
            rotate_left
            · have c1 := r1 _ hS' 0 _ rfl; have c2 := r2 _ hS' 0 _ rfl; have c3 := r1 _ hS' 1 _ rfl; have c4 := r2 _ hS' 1 _ rfl; have k1 := q1 _ hS'; have k2 := q2 _ hS'; rw [add_nil'] at c1 c2; rw [add_pos _ (by decide)] at c3 c4; clear hS'; (go_simp; first | with_reducible rfl | rfl)
            try simp only [Act.put, List.setIfInBounds_toArray, List.set_cons_zero, List.set_cons_succ]
            refine hd_pure (v := ?_) (by rfl) (fun W' hS' => ?_) ?_ -- 17
            rotate_left
            · have c1 := r1 _ hS' 0 _ rfl; have c2 := r2 _ hS' 0 _ rfl; have c3 := r1 _ hS' 1 _ rfl; have c4 := r2 _ hS' 1 _ rfl; have k1 := q1 _ hS'; have k2 := q2 _ hS'; rw [add_nil'] at c1 c2; rw [add_pos _ (by decide)] at c3 c4; clear hS'; (go_simp; first | with_reducible rfl | rfl)
            try simp only [Act.put, List.setIfInBounds_toArray, List.set_cons_zero, List.set_cons_succ]
            refine hd_pure (v := ?_) (by rfl) (fun W' hS' => ?_) ?_ -- 18
            rotate_left
            · have c1 := r1 _ hS' 0 _ rfl; have c2 := r2 _ hS' 0 _ rfl; have c3 := r1 _ hS' 1 _ rfl; have c4 := r2 _ hS' 1 _ rfl; have k1 := q1 _ hS'; have k2 := q2 _ hS'; rw [add_nil'] at c1 c2; rw [add_pos _ (by decide)] at c3 c4; clear hS'; (go_simp; first | with_reducible rfl | rfl)
            try simp only [Act.put, List.setIfInBounds_toArray, List.set_cons_zero, List.set_cons_succ]
            refine hd_pure (v := ?_) (by rfl) (fun W' hS' => ?_) ?_ -- 19
            rotate_left
            · have c1 := r1 _ hS' 0 _ rfl; have c2 := r2 _ hS' 0 _ rfl; have c3 := r1 _ hS' 1 _ rfl; have c4 := r2 _ hS' 1 _ rfl; have k1 := q1 _ hS'; have k2 := q2 _ hS'; rw [add_nil'] at c1 c2; rw [add_pos _ (by decide)] at c3 c4; clear hS'; (go_simp; first | with_reducible rfl | rfl)
            try simp only [Act.put, List.setIfInBounds_toArray, List.set_cons_zero, List.set_cons_succ]
            refine hd_pure (v := ?_) (by rfl) (fun W' hS' => ?_) ?_ -- 20
            rotate_left
            · have c1 := r1 _ hS' 0 _ rfl; have c2 := r2 _ hS' 0 _ rfl; have c3 := r1 _ hS' 1 _ rfl; have c4 := r2 _ hS' 1 _ rfl; have k1 := q1 _ hS'; have k2 := q2 _ hS'; rw [add_nil'] at c1 c2; rw [add_pos _ (by decide)] at c3 c4; clear hS'; (go_simp; first | with_reducible rfl | rfl)
            try simp only [Act.put, List.setIfInBounds_toArray, List.set_cons_zero, List.set_cons_succ]
            refine hd_pure (v := ?_) (by rfl) (fun W' hS' => ?_) ?_ -- 21
            rotate_left
            · have c1 := r1 _ hS' 0 _ rfl; have c2 := r2 _ hS' 0 _ rfl; have c3 := r1 _ hS' 1 _ rfl; have c4 := r2 _ hS' 1 _ rfl; have k1 := q1 _ hS'; have k2 := q2 _ hS'; rw [add_nil'] at c1 c2; rw [add_pos _ (by decide)] at c3 c4; clear hS'; (go_simp; first | with_reducible rfl | rfl)
            try simp only [Act.put, List.setIfInBounds_toArray, List.set_cons_zero, List.set_cons_succ]
            refine hd_pure (v := ?_) (by rfl) (fun W' hS' => ?_) ?_ -- 22
            rotate_left
            · have c1 := r1 _ hS' 0 _ rfl; have c2 := r2 _ hS' 0 _ rfl; have c3 := r1 _ hS' 1 _ rfl; have c4 := r2 _ hS' 1 _ rfl; have k1 := q1 _ hS'; have k2 := q2 _ hS'; rw [add_nil'] at c1 c2; rw [add_pos _ (by decide)] at c3 c4; clear hS'; (go_simp; first | with_reducible rfl | rfl)
            try simp only [Act.put, List.setIfInBounds_toArray, List.set_cons_zero, List.set_cons_succ]
            refine hd_pure (v := ?_) (by rfl) (fun W' hS' => ?_) ?_ -- 23
            rotate_left
            · have c1 := r1 _ hS' 0 _ rfl; have c2 := r2 _ hS' 0 _ rfl; have c3 := r1 _ hS' 1 _ rfl; have c4 := r2 _ hS' 1 _ rfl; have k1 := q1 _ hS'; have k2 := q2 _ hS'; rw [add_nil'] at c1 c2; rw [add_pos _ (by decide)] at c3 c4; clear hS'; (go_simp; first | with_reducible rfl | rfl)
            try simp only [Act.put, List.setIfInBounds_toArray, List.set_cons_zero, List.set_cons_succ]
            refine hd_pure (v := ?_) (by rfl) (fun W' hS' => ?_) ?_ -- 24
            rotate_left
            · have c1 := r1 _ hS' 0 _ rfl; have c2 := r2 _ hS' 0 _ rfl; have c3 := r1 _ hS' 1 _ rfl; have c4 := r2 _ hS' 1 _ rfl; have k1 := q1 _ hS'; have k2 := q2 _ hS'; rw [add_nil'] at c1 c2; rw [add_pos _ (by decide)] at c3 c4; clear hS'; (go_simp; first | with_reducible rfl | rfl)
            try simp only [Act.put, List.setIfInBounds_toArray, List.set_cons_zero, List.set_cons_succ]
            refine hd_pure (v := ?_) (by rfl) (fun W' hS' => ?_) ?_ -- 25
            rotate_left
            · have c1 := r1 _ hS' 0 _ rfl; have c2 := r2 _ hS' 0 _ rfl; have c3 := r1 _ hS' 1 _ rfl; have c4 := r2 _ hS' 1 _ rfl; have k1 := q1 _ hS'; have k2 := q2 _ hS'; rw [add_nil'] at c1 c2; rw [add_pos _ (by decide)] at c3 c4; clear hS'; (go_simp; first | with_reducible rfl | rfl)
            try simp only [Act.put, List.setIfInBounds_toArray, List.set_cons_zero, List.set_cons_succ]
            refine hd_nil ?_
            replace hlo := hSW; clear hSW
            refine wpList_nil (NoPanic.normal ?_)
            go_wp2_with fail
            go_ret
            exact ⟨by rw [HF.out]; rfl, hlo⟩
        · have b1 : (x.u.toList == y.u.toList) = false := by rw [eqS]; exact decide_eq_false hxy
          have HF := Lib.hid (show decide (xs.map prOf = ys.map prOf) = false from decide_eq_false fun e => hxy (congrArg Prod.fst (HG.out e)))
          clear HX HY HG HT hxy
          go_upto_region 6 with fail
          refine reg_sch2 26 [(true, 0), (true, 1), (true, 2), (true, 3), (true, 4), (true, 5), (true, 6), (true, 7), (true, 8), (true, 9), (true, 10), (true, 11), (true, 12), (true, 13), (true, 14), (true, 15), (true, 16), (true, 17), (true, 18), (true, 19), (true, 20), (true, 21), (true, 22), (true, 23), (true, 24), (true, 25)] (by kernel_rfl) (by kernel_rfl) (fun W => Below w.heap.size w W) (fun W => Below w.heap.size w W) ?_ ?_ ?_
          · exact hlo.drew
          · exact fun _ h => h
          intro W hSW
          simp only [List.map_cons, List.map_nil, List.getD_cons_zero, List.getD_cons_succ, List.drop_succ_cons, List.drop_zero]
          refine hd_pure (v := ?_) (by rfl) (fun W' hS' => ?_) ?_ -- 0
          rotate_left
          · have c1 := r1 _ hS' 0 _ rfl; have c2 := r2 _ hS' 0 _ rfl; rw [add_nil'] at c1 c2; clear hS'; (go_simp; first | with_reducible rfl | rfl)
          try simp only [Act.put, List.setIfInBounds_toArray, List.set_cons_zero, List.set_cons_succ]
          refine hd_pure (v := ?_) (by rfl) (fun W' hS' => ?_) ?_ -- 1
          rotate_left
          · have c1 := r1 _ hS' 0 _ rfl; have c2 := r2 _ hS' 0 _ rfl; rw [add_nil'] at c1 c2; clear hS'; (go_simp; first | with_reducible rfl | rfl)
          try simp only [Act.put, List.setIfInBounds_toArray, List.set_cons_zero, List.set_cons_succ]
          refine hd_pure (v := ?_) (by rfl) (fun W' hS' => ?_) ?_ -- 2
          rotate_left
          · have c1 := r1 _ hS' 0 _ rfl; have c2 := r2 _ hS' 0 _ rfl; rw [add_nil'] at c1 c2; clear hS'; (go_simp; first | with_reducible rfl | rfl)
          try simp only [Act.put, List.setIfInBounds_toArray, List.set_cons_zero, List.set_cons_succ]
          refine hd_pure (v := ?_) (by rfl) (fun W' hS' => ?_) ?_ -- 3
          rotate_left
          · have c1 := r1 _ hS' 0 _ rfl; have c2 := r2 _ hS' 0 _ rfl; rw [add_nil'] at c1 c2; clear hS'; (go_simp; first | with_reducible rfl | rfl)
          try simp only [Act.put, List.setIfInBounds_toArray, List.set_cons_zero, List.set_cons_succ]
          refine hd_pure (v := ?_) (by rfl) (fun W' hS' => ?_) ?_ -- 4
          rotate_left
          · have c1 := r1 _ hS' 0 _ rfl; have c2 := r2 _ hS' 0 _ rfl; rw [add_nil'] at c1 c2; clear hS'; (go_simp; first | with_reducible rfl | rfl)
          try simp only [Act.put, List.setIfInBounds_toArray, List.set_cons_zero, List.set_cons_succ]
          refine hd_pure (v := ?_) (by rfl) (fun W' hS' => ?_) ?_ -- 5
          rotate_left
          · have c1 := r1 _ hS' 0 _ rfl; have c2 := r2 _ hS' 0 _ rfl; rw [add_nil'] at c1 c2; clear hS'; (go_simp; first | with_reducible rfl | rfl)
          try simp only [Act.put, List.setIfInBounds_toArray, List.set_cons_zero, List.set_cons_succ]
          refine hd_pure (v := ?_) (by rfl) (fun W' hS' => ?_) ?_ -- 6
          rotate_left
          · have c1 := r1 _ hS' 0 _ rfl; have c2 := r2 _ hS' 0 _ rfl; rw [add_nil'] at c1 c2; clear hS'; (go_simp; first | with_reducible rfl | rfl)
          try simp only [Act.put, List.setIfInBounds_toArray, List.set_cons_zero, List.set_cons_succ]
          refine hd_pure (v := ?_) (by rfl) (fun W' hS' => ?_) ?_ -- 7
          rotate_left
          · have c1 := r1 _ hS' 0 _ rfl; have c2 := r2 _ hS' 0 _ rfl; rw [add_nil'] at c1 c2; clear hS'; (go_simp; first | with_reducible rfl | rfl)
          try simp only [Act.put, List.setIfInBounds_toArray, List.set_cons_zero, List.set_cons_succ]
          refine hd_pure (v := ?_) (by rfl) (fun W' hS' => ?_) ?_ -- 8
          rotate_left
          · have c1 := r1 _ hS' 0 _ rfl; have c2 := r2 _ hS' 0 _ rfl; rw [add_nil'] at c1 c2; clear hS'; (go_simp; first | with_reducible rfl | rfl)
          try simp only [Act.put, List.setIfInBounds_toArray, List.set_cons_zero, List.set_cons_succ]
          refine hd_pure (v := ?_) (by rfl) (fun W' hS' => ?_) ?_ -- 9
          rotate_left
          · have c1 := r1 _ hS' 0 _ rfl; have c2 := r2 _ hS' 0 _ rfl; rw [add_nil'] at c1 c2; clear hS'; (go_simp; first | with_reducible rfl | rfl)
          try simp only [Act.put, List.setIfInBounds_toArray, List.set_cons_zero, List.set_cons_succ]
          refine hd_pure (v := ?_) (by rfl) (fun W' hS' => ?_) ?_ -- 10
          rotate_left
          · have c1 := r1 _ hS' 0 _ rfl; have c2 := r2 _ hS' 0 _ rfl; rw [add_nil'] at c1 c2; clear hS'; (go_simp; first | with_reducible rfl | rfl)
          try simp only [Act.put, List.setIfInBounds_toArray, List.set_cons_zero, List.set_cons_succ]
          refine hd_pure (v := ?_) (by rfl) (fun W' hS' => ?_) ?_ -- 11
          rotate_left
          · have c1 := r1 _ hS' 0 _ rfl; have c2 := r2 _ hS' 0 _ rfl; rw [add_nil'] at c1 c2; clear hS'; (go_simp; first | with_reducible rfl | rfl)
          try simp only [Act.put, List.setIfInBounds_toArray, List.set_cons_zero, List.set_cons_succ]
          refine hd_skip (by rfl) ?_
          try simp only [Act.put, List.setIfInBounds_toArray, List.set_cons_zero, List.set_cons_succ]
          refine hd_skip (by rfl) ?_
          try simp only [Act.put, List.setIfInBounds_toArray, List.set_cons_zero, List.set_cons_succ]
          refine hd_skip (by rfl) ?_
          try simp only [Act.put, List.setIfInBounds_toArray, List.set_cons_zero, List.set_cons_succ]
          refine hd_skip (by rfl) ?_
          try simp only [Act.put, List.setIfInBounds_toArray, List.set_cons_zero, List.set_cons_succ]
          refine hd_skip (by rfl) ?_
          try simp only [Act.put, List.setIfInBounds_toArray, List.set_cons_zero, List.set_cons_succ]
          refine hd_skip (by rfl) ?_
          try simp only [Act.put, List.setIfInBounds_toArray, List.set_cons_zero, List.set_cons_succ]
          refine hd_skip (by rfl) ?_
          try simp only [Act.put, List.setIfInBounds_toArray, List.set_cons_zero, List.set_cons_succ]
          refine hd_skip (by rfl) ?_
          try simp only [Act.put, List.setIfInBounds_toArray, List.set_cons_zero, List.set_cons_succ]
          refine hd_skip (by rfl) ?_
          try simp only [Act.put, List.setIfInBounds_toArray, List.set_cons_zero, List.set_cons_succ]
          refine hd_skip (by rfl) ?_
          try simp only [Act.put, List.setIfInBounds_toArray, List.set_cons_zero, List.set_cons_succ]
          refine hd_skip (by rfl) ?_
          try simp only [Act.put, List.setIfInBounds_toArray, List.set_cons_zero, List.set_cons_succ]
          refine hd_skip (by rfl) ?_
          try simp only [Act.put, List.setIfInBounds_toArray, List.set_cons_zero, List.set_cons_succ]
          refine hd_skip (by rfl) ?_
          try simp only [Act.put, List.setIfInBounds_toArray, List.set_cons_zero, List.set_cons_succ]
          refine hd_pure (v := ?_) (by rfl) (fun W' hS' => ?_) ?_ -- 25
          rotate_left
          · have c1 := r1 _ hS' 0 _ rfl; have c2 := r2 _ hS' 0 _ rfl; rw [add_nil'] at c1 c2; clear hS'; (go_simp; first | with_reducible rfl | rfl)
          try simp only [Act.put, List.setIfInBounds_toArray, List.set_cons_zero, List.set_cons_succ]
          refine hd_nil ?_
          replace hlo := hSW; clear hSW
          refine wpList_nil (NoPanic.normal ?_)
          go_wp2_with fail
          go_ret
          exact ⟨by rw [HF.out]; rfl, hlo⟩
      · have hkk : k = xs.length := by omega
        subst hkk
        have HF := Lib.hid (show decide (xs.map prOf = ys.map prOf) = true from decide_eq_true (by have := HT.out; rw [List.take_length, HE.out, List.take_length] at this; exact this))
        clear hlt hk
        go_wp2_with fail
        go_ret
        exact ⟨by rw [HF.out]; rfl, hlo⟩
  · have b0 : ((xs.length : Int) != (ys.length : Int)) = true := by simp; omega
    have HF := Lib.hid (show decide (xs.map prOf = ys.map prOf) = false from decide_eq_false fun e => he (by have := congrArg List.length e; simpa using this))
    clear he
    go_enter Tryd.func25, Tryd.ntmps25
    go_wp2_with fail
    go_ret
    exact ⟨by rw [HF.out]; rfl, hlo⟩
end Go.Proofs.YtmoldmnhijcckaaDoor
