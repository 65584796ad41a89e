/- The contract of lanyardref25.Same: whether two lists of messages are the same. Condition: lengths that memory allows. -/
import Derived.Test.YtmoldmnhijcckaaAdr
import Derived.Test.YtmoldmnhijcckaaRight
import Derived.Deep.DeepMust
import Derived.Deep.DeepCutAuto
set_option linter.unusedVariables false
set_option linter.unusedSectionVars false
set_option linter.unusedSimpArgs false
namespace Go.Proofs.Ytmoldmnhijcckaa
open Go.RowKit
theorem take_eq_succ {α : Type} {ps qs : List α} {k : Nat} (h1 : k < ps.length) (h2 : k < qs.length) (h : ps.take k = qs.take k) (he : ps[k] = qs[k]) : ps.take (k + 1) = qs.take (k + 1) := by
  rw [List.take_succ_eq_append_getElem h1, List.take_succ_eq_append_getElem h2, h, he]
structure SmAt (w : World) (ps qs : List Pdu) (A A' : Option Addr) (B B' : Nat) (W : World) : Prop where
  ra : Reads W B 26 A ps.length (ps.flatMap Pdu.cells)
  rb : Reads W B' 26 A' qs.length (qs.flatMap Pdu.cells)
  b : Below w.heap.size w W
theorem SmAt.drew {w : World} {ps qs : List Pdu} {A A' : Option Addr} {B B' : Nat} {W : World} (h : SmAt w ps qs A A' B B' W) : SmAt w ps qs A A' B B' W.drew := ⟨h.ra.drew, h.rb.drew, h.b.drew⟩
theorem same_lens (ps qs : List Pdu) (A A' : Option Addr) (c c' : Nat) (w : World) (h : ps.length ≠ qs.length) :
    Calls Try.prog 20 #[.slice A ps.length c, .slice A' qs.length c'] w fun e w' => e = .returned (.bool (decide (ps = qs))) ∧ Below w.heap.size w w' := by
  have H := Lib.hid (show decide (ps = qs) = false from decide_eq_false (fun e => h (by rw [e])))
  have h1 : ((ps.length : Int) != (qs.length : Int)) = true := by simp; omega
  have h2 : ((ps.length : Int) == (qs.length : Int)) = false := by simp; omega
  clear h
  go_enter Try.func20, Try.ntmps20
  go_wp2
  go_ret
  exact ⟨by rw [H.out]; rfl, Below.refl _ _⟩
set_option maxRecDepth 100000 in
set_option maxHeartbeats 2000000 in
theorem same_eqlen (ps qs : List Pdu) (n : Nat) (hn : ps.length = n) (hn' : qs.length = n) (hb : n ≤ 1000000000) (A A' : Option Addr) (c c' B B' : Nat) (w : World) (hB : B ≤ w.heap.size) (hB' : B' ≤ w.heap.size) (ra : Reads w B 26 A n (ps.flatMap Pdu.cells)) (rb : Reads w B' 26 A' n (qs.flatMap Pdu.cells)) :
    Calls Try.prog 20 #[.slice A n c, .slice A' n c'] w fun e w' => e = .returned (.bool (decide (ps = qs))) ∧ Below w.heap.size w w' := by
  have HN := Lib.hid hn
  have HN' := Lib.hid hn'
  have hst : SmAt w ps qs A A' B B' w := ⟨by rw [hn]; exact ra, by rw [hn']; exact rb, Below.refl _ _⟩
  have h1 : ((n : Int) != (n : Int)) = false := by simp
  clear ra rb hn hn'
  go_enter Try.func20, Try.ntmps20
  go_wp2_with fail
  go_loopw [5] (fun i wr => ∃ k : Nat, k ≤ n ∧ i = .int .i64 k ∧ SmAt w ps qs A A' B B' wr ∧ Hid (ps.take k = qs.take k)) (fun i _ => n - (intOf i).toNat)
  case atStart => exact ⟨0, Nat.zero_le _, rfl, hst, Lib.hid rfl⟩
  case round =>
    clear hst
    obtain ⟨k, hk, rfl, hW, HT⟩ := hrel
    by_cases hlt : k < n
    · have hk1 : k < ps.length := by rw [HN.out]; exact hlt
      have hk2 : k < qs.length := by rw [HN'.out]; exact hlt
      obtain ⟨ad, rfl, _, _⟩ := hW.ra.2 (by omega)
      obtain ⟨ad', rfl, _, _⟩ := hW.rb.2 (by omega)
      have hpk : (k : Int) < (n : Int) := by omega
      have hp0 : (0 : Int) ≤ (k : Int) := by omega
      have hq : ∀ W : World, (Go.binOp .neq 29 (.agg (ps[k]).cells.toArray) (.agg (qs[k]).cells.toArray)).run Try.prog W = .ok (.bool (!decide (ps[k] = qs[k]))) W := fun W => neq_pdu _ _ W
      cases he : decide (ps[k] = qs[k])
      ·
        have HE := Lib.hid he
        rw [he] at hq
        clear he
        go_wp2_with fail
        refine reg_sch2 9 [(true, 0), (true, 1), (true, 2), (true, 3), (true, 4), (true, 5), (true, 6), (true, 7), (true, 8)] (by kernel_rfl) (by kernel_rfl) (SmAt w ps qs (some ad) (some ad') B B') (SmAt w ps qs (some ad) (some ad') B B') ?_ ?_ ?_
        · exact hW.drew
        · exact fun _ h => h
        intro W hSW
        simp only [List.map_cons, List.map_nil, List.getD_cons_zero, List.getD_cons_succ, List.drop_succ_cons, List.drop_zero]
        refine hd_pure (v := ?_) (by rfl) (fun W' hS' => ?_) ?_ -- 0
        rotate_left
        · (go_simp; first | with_reducible rfl | rfl)
        try simp only [Act.put, List.setIfInBounds_toArray, List.set_cons_zero, List.set_cons_succ]
        refine hd_pure (v := ?_) (by rfl) (fun W' hS' => ?_) ?_ -- 1
        rotate_left
        · (go_simp; first | with_reducible rfl | rfl)
        try simp only [Act.put, List.setIfInBounds_toArray, List.set_cons_zero, List.set_cons_succ]
        refine hd_pure (v := ?_) (by rfl) (fun W' hS' => ?_) ?_ -- 2
        rotate_left
        · (go_simp; first | with_reducible rfl | rfl)
        try simp only [Act.put, List.setIfInBounds_toArray, List.set_cons_zero, List.set_cons_succ]
        refine hd_pure (v := .agg (ps[k]).cells.toArray) (by rfl) (fun W' hS' => exec_load_adr 29 _ (by rfl) (ad.add (k * 26)) 26 (by first | rfl | (simp [Act.eval]; done)) _ _ (hS'.ra.elem Pdu.cells_length hk1 rfl) (Pdu.cells_length _) Try.underlying29 rfl info_pdu) ?_ -- 3
        try simp only [Act.put, List.setIfInBounds_toArray, List.set_cons_zero, List.set_cons_succ]
        refine hd_pure (v := ?_) (by rfl) (fun W' hS' => ?_) ?_ -- 4
        rotate_left
        · (go_simp; first | with_reducible rfl | rfl)
        try simp only [Act.put, List.setIfInBounds_toArray, List.set_cons_zero, List.set_cons_succ]
        refine hd_pure (v := ?_) (by rfl) (fun W' hS' => ?_) ?_ -- 5
        rotate_left
        · (go_simp; first | with_reducible rfl | rfl)
        try simp only [Act.put, List.setIfInBounds_toArray, List.set_cons_zero, List.set_cons_succ]
        refine hd_pure (v := ?_) (by rfl) (fun W' hS' => ?_) ?_ -- 6
        rotate_left
        · (go_simp; first | with_reducible rfl | rfl)
        try simp only [Act.put, List.setIfInBounds_toArray, List.set_cons_zero, List.set_cons_succ]
        refine hd_pure (v := .agg (qs[k]).cells.toArray) (by rfl) (fun W' hS' => exec_load_adr 29 _ (by rfl) (ad'.add (k * 26)) 26 (by first | rfl | (simp [Act.eval]; done)) _ _ (hS'.rb.elem Pdu.cells_length hk2 rfl) (Pdu.cells_length _) Try.underlying29 rfl info_pdu) ?_ -- 7
        try simp only [Act.put, List.setIfInBounds_toArray, List.set_cons_zero, List.set_cons_succ]
        refine hd_pure (v := ?_) (by rfl) (fun W' hS' => ?_) ?_ -- 8
        rotate_left
        · (go_simp; first | with_reducible rfl | rfl)
        try simp only [Act.put, List.setIfInBounds_toArray, List.set_cons_zero, List.set_cons_succ]
        refine hd_nil ?_
        replace hW := hSW; clear hSW
        refine wpList_nil (NoPanic.normal ?_)
        clear hq
        go_wp2
        go_ret
        exact ⟨by rw [show decide (ps = qs) = false from decide_eq_false (fun e => by subst e; have := HE.out; simp at this)]; rfl, hW.b⟩
      ·
        have HE := Lib.hid he
        rw [he] at hq
        clear he
        go_wp2_with fail
        refine reg_sch2 9 [(true, 0), (true, 1), (true, 2), (true, 3), (true, 4), (true, 5), (true, 6), (true, 7), (true, 8)] (by kernel_rfl) (by kernel_rfl) (SmAt w ps qs (some ad) (some ad') B B') (SmAt w ps qs (some ad) (some ad') B B') ?_ ?_ ?_
        · exact hW.drew
        · exact fun _ h => h
        intro W hSW
        simp only [List.map_cons, List.map_nil, List.getD_cons_zero, List.getD_cons_succ, List.drop_succ_cons, List.drop_zero]
        refine hd_pure (v := ?_) (by rfl) (fun W' hS' => ?_) ?_ -- 0
        rotate_left
        · (go_simp; first | with_reducible rfl | rfl)
        try simp only [Act.put, List.setIfInBounds_toArray, List.set_cons_zero, List.set_cons_succ]
        refine hd_pure (v := ?_) (by rfl) (fun W' hS' => ?_) ?_ -- 1
        rotate_left
        · (go_simp; first | with_reducible rfl | rfl)
        try simp only [Act.put, List.setIfInBounds_toArray, List.set_cons_zero, List.set_cons_succ]
        refine hd_pure (v := ?_) (by rfl) (fun W' hS' => ?_) ?_ -- 2
        rotate_left
        · (go_simp; first | with_reducible rfl | rfl)
        try simp only [Act.put, List.setIfInBounds_toArray, List.set_cons_zero, List.set_cons_succ]
        refine hd_pure (v := .agg (ps[k]).cells.toArray) (by rfl) (fun W' hS' => exec_load_adr 29 _ (by rfl) (ad.add (k * 26)) 26 (by first | rfl | (simp [Act.eval]; done)) _ _ (hS'.ra.elem Pdu.cells_length hk1 rfl) (Pdu.cells_length _) Try.underlying29 rfl info_pdu) ?_ -- 3
        try simp only [Act.put, List.setIfInBounds_toArray, List.set_cons_zero, List.set_cons_succ]
        refine hd_pure (v := ?_) (by rfl) (fun W' hS' => ?_) ?_ -- 4
        rotate_left
        · (go_simp; first | with_reducible rfl | rfl)
        try simp only [Act.put, List.setIfInBounds_toArray, List.set_cons_zero, List.set_cons_succ]
        refine hd_pure (v := ?_) (by rfl) (fun W' hS' => ?_) ?_ -- 5
        rotate_left
        · (go_simp; first | with_reducible rfl | rfl)
        try simp only [Act.put, List.setIfInBounds_toArray, List.set_cons_zero, List.set_cons_succ]
        refine hd_pure (v := ?_) (by rfl) (fun W' hS' => ?_) ?_ -- 6
        rotate_left
        · (go_simp; first | with_reducible rfl | rfl)
        try simp only [Act.put, List.setIfInBounds_toArray, List.set_cons_zero, List.set_cons_succ]
        refine hd_pure (v := .agg (qs[k]).cells.toArray) (by rfl) (fun W' hS' => exec_load_adr 29 _ (by rfl) (ad'.add (k * 26)) 26 (by first | rfl | (simp [Act.eval]; done)) _ _ (hS'.rb.elem Pdu.cells_length hk2 rfl) (Pdu.cells_length _) Try.underlying29 rfl info_pdu) ?_ -- 7
        try simp only [Act.put, List.setIfInBounds_toArray, List.set_cons_zero, List.set_cons_succ]
        refine hd_pure (v := ?_) (by rfl) (fun W' hS' => ?_) ?_ -- 8
        rotate_left
        · (go_simp; first | with_reducible rfl | rfl)
        try simp only [Act.put, List.setIfInBounds_toArray, List.set_cons_zero, List.set_cons_succ]
        refine hd_nil ?_
        replace hW := hSW; clear hSW
        refine wpList_nil (NoPanic.normal ?_)
        clear hq
        go_wp2_with fail
        go_roundw
        case rel => exact ⟨k + 1, by omega, by go_num, hW, Lib.hid (take_eq_succ hk1 hk2 HT.out (of_decide_eq_true HE.out))⟩
        case measure => simp [intOf]; omega
    · have hkn : k = n := by omega
      have HE := Lib.hid (show decide (ps = qs) = true from decide_eq_true (by
        have h := HT.out
        rw [List.take_of_length_le (by rw [HN.out]; omega), List.take_of_length_le (by rw [HN'.out]; omega)] at h
        exact h))
      subst hkn
      clear hlt
      go_wp2
      go_ret
      exact ⟨by rw [HE.out]; rfl, hW.b⟩
end Go.Proofs.Ytmoldmnhijcckaa
