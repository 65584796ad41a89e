/- The contract of lanyardref02.Same. -/
import Derived.Test.YtmoldmnhijcckaaDoorRepL
set_option linter.unusedVariables false
set_option linter.unusedSectionVars false
set_option linter.unusedSimpArgs false
namespace Go.Proofs.YtmoldmnhijcckaaDoor
open Go.RowKit
theorem beqB (x y : ByteArray) : (x == y) = true ↔ x = y := by
  constructor
  · intro h
    apply ByteArray.ext
    exact beq_iff_eq.1 (show (x.data == y.data) = true from h)
  · intro h
    subst h
    show (x.data == x.data) = true
    exact beq_self_eq_true _
instance : LawfulBEq ByteArray where
  eq_of_beq h := (beqB _ _).1 h
  rfl := (beqB _ _).2 rfl
theorem eqS (x y : ByteArray) : (x.toList == y.toList) = decide (x = y) := by
  rw [Lib.toList_data, Lib.toList_data]
  by_cases h : x = y
  · subst h; simp
  · rw [decide_eq_false h, beq_eq_false_iff_ne]
    exact fun e => h (ByteArray.ext (Array.toList_inj.1 e))
theorem reads_str {w W : World} {B n : Nat} {ad : Addr} {xs : List ByteArray} (h : Reads w B 1 (some ad) n (xs.map Value.string)) (hb : Below B w W) {k : Nat} (hk : k < xs.length) : W.cell? (ad.add k) = some (.string xs[k]) := by
  have hn : xs.length = n := by have := h.1; simpa using this
  obtain ⟨ad', e, hblk, hc⟩ := h.2 (by omega)
  cases e
  rw [hb.cell (by rw [add_blk]; exact hblk)]
  exact hc k _ (by simp [hk])
set_option maxRecDepth 100000 in
set_option maxHeartbeats 4000000 in
theorem same02_any (xs ys : List ByteArray) (A A' : Option Addr) (c c' n n' B : Nat) (w : World) (hn : xs.length = n) (hn' : ys.length = n') (hB : B ≤ w.heap.size) (hl : xs.length ≤ 140737488355328) (hr : Reads w B 1 A n (xs.map Value.string)) (hr' : Reads w B 1 A' n' (ys.map Value.string)) :
    Calls Tryd.prog 20 #[.slice A n c, .slice A' n' c'] w fun e w' => e = .returned (.bool (decide (xs = ys))) ∧ Below w.heap.size w w' := by
  subst hn
  subst hn'
  have hlo := Below.refl w.heap.size w
  by_cases he : xs.length = ys.length
  · go_enter Tryd.func20, Tryd.ntmps20
    have b0 : ((xs.length : Int) != (ys.length : Int)) = false := by simp [he]
    have HE := Lib.hid he
    clear he
    go_wp2_with fail
    clear b0
    go_loopw [5] (fun i wr => ∃ k : Nat, k ≤ xs.length ∧ i = .int .i64 k ∧ Below w.heap.size w wr ∧ Hid (xs.take k = ys.take k)) (fun i _ => xs.length - (intOf i).toNat)
    case atStart => exact ⟨0, by omega, rfl, hlo, Lib.hid rfl⟩
    case round =>
      clear hlo
      obtain ⟨k, hk, rfl, hlo, HT⟩ := hrel
      by_cases hlt : k < xs.length
      · have hlt' : k < ys.length := by have := HE.out; omega
        obtain ⟨ad, rfl, _, _⟩ := hr.2 (by omega)
        obtain ⟨ad', rfl, _, _⟩ := hr'.2 (by omega)
        have hk0 : (0 : Int) ≤ (k : Int) := by omega
        have hk1 : (k : Int) < (xs.length : Int) := by omega
        have hk2 : (k : Int) < (ys.length : Int) := by omega
        have r1 : ∀ W, Below w.heap.size w W → W.cell? (ad.add k) = some (.string xs[k]) := fun W hW => reads_str hr (hW.mono hB) hlt
        have r2 : ∀ W, Below w.heap.size w W → W.cell? (ad'.add k) = some (.string ys[k]) := fun W hW => reads_str hr' (hW.mono hB) hlt'
        have HX := Lib.hid (show xs.take (k + 1) = xs.take k ++ [xs[k]] from List.take_succ_eq_append_getElem hlt)
        have HY := Lib.hid (show ys.take (k + 1) = ys.take k ++ [ys[k]] from List.take_succ_eq_append_getElem hlt')
        have HG := Lib.hid (show xs = ys → xs[k] = ys[k] from fun e => by subst e; rfl)
        generalize xs[k] = x at r1 HX HG
        generalize ys[k] = y at r2 HY HG
        by_cases hxy : x = y
        · subst hxy
          have HN := Lib.hid (show xs.take (k + 1) = ys.take (k + 1) by rw [HX.out, HY.out, HT.out])
          clear HX HY HG HT
          go_wp2_with fail
          refine reg_sch2 9 [(true, 0), (true, 1), (true, 2), (true, 3), (true, 4), (true, 5), (true, 6), (true, 7), (true, 8)] (by kernel_rfl) (by kernel_rfl) (fun W => Below w.heap.size w W) (fun W => Below w.heap.size w W) ?_ ?_ ?_
          · exact hlo.drew
          · exact fun _ h => h
          intro W hSW
          simp only [List.map_cons, List.map_nil, List.getD_cons_zero, List.getD_cons_succ, List.drop_succ_cons, List.drop_zero]
          refine hd_pure (v := ?_) (by rfl) (fun W' hS' => ?_) ?_ -- 0
          rotate_left
          · have c1 := r1 _ hS'; have c2 := r2 _ hS'; clear hS'; (go_simp; first | with_reducible rfl | rfl)
          try simp only [Act.put, List.setIfInBounds_toArray, List.set_cons_zero, List.set_cons_succ]
          refine hd_pure (v := ?_) (by rfl) (fun W' hS' => ?_) ?_ -- 1
          rotate_left
          · have c1 := r1 _ hS'; have c2 := r2 _ hS'; clear hS'; (go_simp; first | with_reducible rfl | rfl)
          try simp only [Act.put, List.setIfInBounds_toArray, List.set_cons_zero, List.set_cons_succ]
          refine hd_pure (v := ?_) (by rfl) (fun W' hS' => ?_) ?_ -- 2
          rotate_left
          · have c1 := r1 _ hS'; have c2 := r2 _ hS'; clear hS'; (go_simp; first | with_reducible rfl | rfl)
          try simp only [Act.put, List.setIfInBounds_toArray, List.set_cons_zero, List.set_cons_succ]
          refine hd_pure (v := ?_) (by rfl) (fun W' hS' => ?_) ?_ -- 3
          rotate_left
          · have c1 := r1 _ hS'; have c2 := r2 _ hS'; clear hS'; (go_simp; first | with_reducible rfl | rfl)
          try simp only [Act.put, List.setIfInBounds_toArray, List.set_cons_zero, List.set_cons_succ]
          refine hd_pure (v := ?_) (by rfl) (fun W' hS' => ?_) ?_ -- 4
          rotate_left
          · have c1 := r1 _ hS'; have c2 := r2 _ hS'; clear hS'; (go_simp; first | with_reducible rfl | rfl)
          try simp only [Act.put, List.setIfInBounds_toArray, List.set_cons_zero, List.set_cons_succ]
          refine hd_pure (v := ?_) (by rfl) (fun W' hS' => ?_) ?_ -- 5
          rotate_left
          · have c1 := r1 _ hS'; have c2 := r2 _ hS'; clear hS'; (go_simp; first | with_reducible rfl | rfl)
          try simp only [Act.put, List.setIfInBounds_toArray, List.set_cons_zero, List.set_cons_succ]
          refine hd_pure (v := ?_) (by rfl) (fun W' hS' => ?_) ?_ -- 6
          rotate_left
          · have c1 := r1 _ hS'; have c2 := r2 _ hS'; clear hS'; (go_simp; first | with_reducible rfl | rfl)
          try simp only [Act.put, List.setIfInBounds_toArray, List.set_cons_zero, List.set_cons_succ]
          refine hd_pure (v := ?_) (by rfl) (fun W' hS' => ?_) ?_ -- 7
          rotate_left
          · have c1 := r1 _ hS'; have c2 := r2 _ hS'; clear hS'; (go_simp; first | with_reducible rfl | rfl)
          try simp only [Act.put, List.setIfInBounds_toArray, List.set_cons_zero, List.set_cons_succ]
          refine hd_pure (v := ?_) (by rfl) (fun W' hS' => ?_) ?_ -- 8
          rotate_left
          · have c1 := r1 _ hS'; have c2 := r2 _ hS'; clear hS'; (go_simp; first | with_reducible rfl | rfl)
          try simp only [Act.put, List.setIfInBounds_toArray, List.set_cons_zero, List.set_cons_succ]
          refine hd_nil ?_
          replace hlo := hSW; clear hSW
          refine wpList_nil (NoPanic.normal ?_)
          go_wp2_with fail
          go_roundw
          case rel => exact ⟨k + 1, by omega, by go_num, hlo, HN⟩
          case measure => simp [intOf]; omega
        · have b1 : (x.toList == y.toList) = false := by rw [eqS]; exact decide_eq_false hxy
          have HF := Lib.hid (show decide (xs = ys) = false from decide_eq_false fun e => hxy (HG.out e))
          clear HX HY HG HT hxy
          go_wp2_with fail
          refine reg_sch2 9 [(true, 0), (true, 1), (true, 2), (true, 3), (true, 4), (true, 5), (true, 6), (true, 7), (true, 8)] (by kernel_rfl) (by kernel_rfl) (fun W => Below w.heap.size w W) (fun W => Below w.heap.size w W) ?_ ?_ ?_
          · exact hlo.drew
          · exact fun _ h => h
          intro W hSW
          simp only [List.map_cons, List.map_nil, List.getD_cons_zero, List.getD_cons_succ, List.drop_succ_cons, List.drop_zero]
          refine hd_pure (v := ?_) (by rfl) (fun W' hS' => ?_) ?_ -- 0
          rotate_left
          · have c1 := r1 _ hS'; have c2 := r2 _ hS'; clear hS'; (go_simp; first | with_reducible rfl | rfl)
          try simp only [Act.put, List.setIfInBounds_toArray, List.set_cons_zero, List.set_cons_succ]
          refine hd_pure (v := ?_) (by rfl) (fun W' hS' => ?_) ?_ -- 1
          rotate_left
          · have c1 := r1 _ hS'; have c2 := r2 _ hS'; clear hS'; (go_simp; first | with_reducible rfl | rfl)
          try simp only [Act.put, List.setIfInBounds_toArray, List.set_cons_zero, List.set_cons_succ]
          refine hd_pure (v := ?_) (by rfl) (fun W' hS' => ?_) ?_ -- 2
          rotate_left
          · have c1 := r1 _ hS'; have c2 := r2 _ hS'; clear hS'; (go_simp; first | with_reducible rfl | rfl)
          try simp only [Act.put, List.setIfInBounds_toArray, List.set_cons_zero, List.set_cons_succ]
          refine hd_pure (v := ?_) (by rfl) (fun W' hS' => ?_) ?_ -- 3
          rotate_left
          · have c1 := r1 _ hS'; have c2 := r2 _ hS'; clear hS'; (go_simp; first | with_reducible rfl | rfl)
          try simp only [Act.put, List.setIfInBounds_toArray, List.set_cons_zero, List.set_cons_succ]
          refine hd_pure (v := ?_) (by rfl) (fun W' hS' => ?_) ?_ -- 4
          rotate_left
          · have c1 := r1 _ hS'; have c2 := r2 _ hS'; clear hS'; (go_simp; first | with_reducible rfl | rfl)
          try simp only [Act.put, List.setIfInBounds_toArray, List.set_cons_zero, List.set_cons_succ]
          refine hd_pure (v := ?_) (by rfl) (fun W' hS' => ?_) ?_ -- 5
          rotate_left
          · have c1 := r1 _ hS'; have c2 := r2 _ hS'; clear hS'; (go_simp; first | with_reducible rfl | rfl)
          try simp only [Act.put, List.setIfInBounds_toArray, List.set_cons_zero, List.set_cons_succ]
          refine hd_pure (v := ?_) (by rfl) (fun W' hS' => ?_) ?_ -- 6
          rotate_left
          · have c1 := r1 _ hS'; have c2 := r2 _ hS'; clear hS'; (go_simp; first | with_reducible rfl | rfl)
          try simp only [Act.put, List.setIfInBounds_toArray, List.set_cons_zero, List.set_cons_succ]
          refine hd_pure (v := ?_) (by rfl) (fun W' hS' => ?_) ?_ -- 7
          rotate_left
          · have c1 := r1 _ hS'; have c2 := r2 _ hS'; clear hS'; (go_simp; first | with_reducible rfl | rfl)
          try simp only [Act.put, List.setIfInBounds_toArray, List.set_cons_zero, List.set_cons_succ]
          refine hd_pure (v := ?_) (by rfl) (fun W' hS' => ?_) ?_ -- 8
          rotate_left
          · have c1 := r1 _ hS'; have c2 := r2 _ hS'; clear hS'; (go_simp; first | with_reducible rfl | rfl)
          try simp only [Act.put, List.setIfInBounds_toArray, List.set_cons_zero, List.set_cons_succ]
          refine hd_nil ?_
          replace hlo := hSW; clear hSW
          refine wpList_nil (NoPanic.normal ?_)
          go_wp2_with fail
          go_ret
          exact ⟨by rw [HF.out]; rfl, hlo⟩
      · have hkk : k = xs.length := by omega
        subst hkk
        have HF := Lib.hid (show decide (xs = ys) = true from decide_eq_true (by have := HT.out; rw [List.take_length, HE.out, List.take_length] at this; exact this))
        clear hlt hk
        go_wp2_with fail
        go_ret
        exact ⟨by rw [HF.out]; rfl, hlo⟩
  · have b0 : ((xs.length : Int) != (ys.length : Int)) = true := by simp; omega
    have HF := Lib.hid (show decide (xs = ys) = false from decide_eq_false fun e => he (by rw [e]))
    clear he
    go_enter Tryd.func20, Tryd.ntmps20
    go_wp2_with fail
    go_ret
    exact ⟨by rw [HF.out]; rfl, hlo⟩
end Go.Proofs.YtmoldmnhijcckaaDoor
