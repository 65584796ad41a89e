/- The law PduJust, walked. -/
import Derived.Test.YtmoldmnhijcckaaMa35
set_option linter.unusedVariables false
set_option linter.unusedSectionVars false
set_option linter.unusedSimpArgs false
namespace Go.Proofs.Ytmoldmnhijcckaa
open Go.RowKit
theorem readOf_cases (bs : List UInt8) : readOf bs = (bareP 0, 0, 0, 3) ∨ readOf bs = (bareP 0, 0, 4, 2) ∨ readOf bs = (bareP 0, 0, 5, 2) ∨ readOf bs = (bareP 0, 0, 0, 2) ∨
    ∃ q : Pdu, ∃ l : Nat, readOf bs = (q, (l : Int), 0, 0) ∧ pduOk q = true ∧ wrB q = bs.take l ∧ 8 ≤ l ∧ l ≤ bs.length := by
  unfold readOf
  split
  · exact .inl rfl
  split
  · exact .inr (.inl rfl)
  split
  · exact .inr (.inr (.inl rfl))
  rename_i h8 h1 hk
  split
  · exact .inr (.inr (.inr (.inl rfl)))
  rename_i hl
  split
  · exact .inl rfl
  rename_i hlt
  split
  · exact .inr (.inr (.inr (.inl rfl)))
  rename_i hq
  have hk' : isKind (kd bs) = true := by simpa using hk
  have hl' : longOk bs = true := by simpa using hl
  have hg := long_ge hk' hl'
  simp only [Bool.not_eq_false, Bool.and_eq_true, decide_eq_true_eq] at hq
  exact .inr (.inr (.inr (.inr ⟨_, longOf bs, rfl, hq.1, hq.2, by omega, by omega⟩)))
structure RW (w : World) (B : Nat) (A : Option Addr) (bs : List UInt8) (g : Nat) (q : Pdu) (W : World) : Prop where
  rd : Reads W B 1 A bs.length (bs.map bv)
  q : Blk W g 29 q.cells
  b : Below w.heap.size w W
theorem RW.next {w : World} {B g : Nat} {A : Option Addr} {bs : List UInt8} {q : Pdu} {W W' : World} (h : RW w B A bs g q W) (hB : B ≤ w.heap.size) (hb : Below W.heap.size W W') : RW w B A bs g q W' :=
  ⟨h.rd.below hb (by have := h.b.size; omega), h.q.below hb h.q.lt, below_then h.b (Nat.le_refl _) hb⟩
theorem RW.drew {w : World} {B g : Nat} {A : Option Addr} {bs : List UInt8} {q : Pdu} {W : World} (h : RW w B A bs g q W) : RW w B A bs g q W.drew := ⟨h.rd.drew, h.q.drew, h.b.drew⟩
structure RW2 (w : World) (B : Nat) (A : Option Addr) (bs : List UInt8) (g : Nat) (q : Pdu) (B2 : Nat) (A' : Option Addr) (W : World) : Prop where
  rw : RW w B A bs g q W
  r2 : Reads W B2 1 A' (wrB q).length ((wrB q).map bv)
  le : B2 ≤ W.heap.size
theorem RW2.next {w : World} {B g : Nat} {A : Option Addr} {bs : List UInt8} {q : Pdu} {B2 : Nat} {A' : Option Addr} {W W' : World} (h : RW2 w B A bs g q B2 A' W) (hB : B ≤ w.heap.size) (hb : Below W.heap.size W W') : RW2 w B A bs g q B2 A' W' :=
  ⟨h.rw.next hB hb, h.r2.below hb h.le, Nat.le_trans h.le hb.size⟩
theorem RW2.drew {w : World} {B g : Nat} {A : Option Addr} {bs : List UInt8} {q : Pdu} {B2 : Nat} {A' : Option Addr} {W : World} (h : RW2 w B A bs g q B2 A' W) : RW2 w B A bs g q B2 A' W.drew := ⟨h.rw.drew, h.r2.drew, h.le⟩
set_option maxRecDepth 100000 in
set_option maxHeartbeats 1000000 in
theorem just_a (bs : List UInt8) (A : Option Addr) (c B : Nat) (hc : bs.length ≤ c) (w : World) (hB : B ≤ w.heap.size) (hr : Reads w B 1 A bs.length (bs.map bv)) (h5 : ¬ 5000 < bs.length) (h : readOf bs = (bareP 0, 0, 0, 3)) :
    Calls Try.prog 4 #[.slice A bs.length c] w fun e w' => e = .returned (.bool true) ∧ Below w.heap.size w w' := by
  have d5 : decide ((5000 : Int) < (bs.length : Int)) = false := by simp; omega
  have d5' : decide (5000 < bs.length) = false := by simp; omega
  clear h5
  obtain ⟨q, hz⟩ : ∃ q, q = bareP 0 := ⟨_, rfl⟩
  have R := Lib.hid (show readOf bs = (q, 0, 0, 3) by rw [hz]; exact h)
  clear h hz
  go_enter Try.func4, Try.ntmps4
  go_upto_region 2 with (go_at_call 12; refine (awake_any _).mono ?_; rintro e w1 ⟨rfl, hb1⟩)
  go_upto_region 5 with (first | (go_at_call 15; refine (read_n bs _ rfl q 0 0 3 R.out _ c B hc _ (by have := hb1.size; omega) (hr.below hb1 hB)).mono ?_; rintro e w3 ⟨rfl, hb3⟩) | (refine wpList_store_at rfl 29 _ _ rfl _ 0 26 29 q.cells (bareL 0) rfl rfl (blk_new' _ _ _ _ rfl) (Pdu.cells_length _) (by decide) info_pdu (Pdu.one _) ?_))
  refine wp_gen (RW w B A bs w3.heap.size q) ⟨((hr.below hb1 hB).below hb3 (by have := hb1.size; omega)).below (put_new w3 q).2 (by have := hb1.size; have := hb3.size; omega), (put_new w3 q).1, below_then (below_then hb1 (Nat.le_refl _) hb3) (Nat.le_refl _) (put_new w3 q).2⟩ ?_
  clear hb1 hb3
  generalize w3.heap.size = g3
  intro W hW
  go_wp2
  go_ret
  exact ⟨rfl, hW.b⟩
set_option maxRecDepth 100000 in
set_option maxHeartbeats 1000000 in
theorem just_b (bs : List UInt8) (A : Option Addr) (c B : Nat) (hc : bs.length ≤ c) (w : World) (hB : B ≤ w.heap.size) (hr : Reads w B 1 A bs.length (bs.map bv)) (h5 : ¬ 5000 < bs.length) (h : readOf bs = (bareP 0, 0, 4, 2)) :
    Calls Try.prog 4 #[.slice A bs.length c] w fun e w' => e = .returned (.bool true) ∧ Below w.heap.size w w' := by
  have d5 : decide ((5000 : Int) < (bs.length : Int)) = false := by simp; omega
  have d5' : decide (5000 < bs.length) = false := by simp; omega
  clear h5
  obtain ⟨q, hz⟩ : ∃ q, q = bareP 0 := ⟨_, rfl⟩
  have R := Lib.hid (show readOf bs = (q, 0, 4, 2) by rw [hz]; exact h)
  clear h hz
  go_enter Try.func4, Try.ntmps4
  go_upto_region 2 with (go_at_call 12; refine (awake_any _).mono ?_; rintro e w1 ⟨rfl, hb1⟩)
  go_upto_region 5 with (first | (go_at_call 15; refine (read_n bs _ rfl q 0 4 2 R.out _ c B hc _ (by have := hb1.size; omega) (hr.below hb1 hB)).mono ?_; rintro e w3 ⟨rfl, hb3⟩) | (refine wpList_store_at rfl 29 _ _ rfl _ 0 26 29 q.cells (bareL 0) rfl rfl (blk_new' _ _ _ _ rfl) (Pdu.cells_length _) (by decide) info_pdu (Pdu.one _) ?_))
  refine wp_gen (RW w B A bs w3.heap.size q) ⟨((hr.below hb1 hB).below hb3 (by have := hb1.size; omega)).below (put_new w3 q).2 (by have := hb1.size; have := hb3.size; omega), (put_new w3 q).1, below_then (below_then hb1 (Nat.le_refl _) hb3) (Nat.le_refl _) (put_new w3 q).2⟩ ?_
  clear hb1 hb3
  generalize w3.heap.size = g3
  intro W hW
  go_wp2
  go_ret
  exact ⟨rfl, hW.b⟩
set_option maxRecDepth 100000 in
set_option maxHeartbeats 1000000 in
theorem just_c (bs : List UInt8) (A : Option Addr) (c B : Nat) (hc : bs.length ≤ c) (w : World) (hB : B ≤ w.heap.size) (hr : Reads w B 1 A bs.length (bs.map bv)) (h5 : ¬ 5000 < bs.length) (h : readOf bs = (bareP 0, 0, 5, 2)) :
    Calls Try.prog 4 #[.slice A bs.length c] w fun e w' => e = .returned (.bool true) ∧ Below w.heap.size w w' := by
  have d5 : decide ((5000 : Int) < (bs.length : Int)) = false := by simp; omega
  have d5' : decide (5000 < bs.length) = false := by simp; omega
  clear h5
  obtain ⟨q, hz⟩ : ∃ q, q = bareP 0 := ⟨_, rfl⟩
  have R := Lib.hid (show readOf bs = (q, 0, 5, 2) by rw [hz]; exact h)
  clear h hz
  go_enter Try.func4, Try.ntmps4
  go_upto_region 2 with (go_at_call 12; refine (awake_any _).mono ?_; rintro e w1 ⟨rfl, hb1⟩)
  go_upto_region 5 with (first | (go_at_call 15; refine (read_n bs _ rfl q 0 5 2 R.out _ c B hc _ (by have := hb1.size; omega) (hr.below hb1 hB)).mono ?_; rintro e w3 ⟨rfl, hb3⟩) | (refine wpList_store_at rfl 29 _ _ rfl _ 0 26 29 q.cells (bareL 0) rfl rfl (blk_new' _ _ _ _ rfl) (Pdu.cells_length _) (by decide) info_pdu (Pdu.one _) ?_))
  refine wp_gen (RW w B A bs w3.heap.size q) ⟨((hr.below hb1 hB).below hb3 (by have := hb1.size; omega)).below (put_new w3 q).2 (by have := hb1.size; have := hb3.size; omega), (put_new w3 q).1, below_then (below_then hb1 (Nat.le_refl _) hb3) (Nat.le_refl _) (put_new w3 q).2⟩ ?_
  clear hb1 hb3
  generalize w3.heap.size = g3
  intro W hW
  go_wp2
  go_ret
  exact ⟨rfl, hW.b⟩
set_option maxRecDepth 100000 in
set_option maxHeartbeats 1000000 in
theorem just_d (bs : List UInt8) (A : Option Addr) (c B : Nat) (hc : bs.length ≤ c) (w : World) (hB : B ≤ w.heap.size) (hr : Reads w B 1 A bs.length (bs.map bv)) (h5 : ¬ 5000 < bs.length) (h : readOf bs = (bareP 0, 0, 0, 2)) :
    Calls Try.prog 4 #[.slice A bs.length c] w fun e w' => e = .returned (.bool true) ∧ Below w.heap.size w w' := by
  have d5 : decide ((5000 : Int) < (bs.length : Int)) = false := by simp; omega
  have d5' : decide (5000 < bs.length) = false := by simp; omega
  clear h5
  obtain ⟨q, hz⟩ : ∃ q, q = bareP 0 := ⟨_, rfl⟩
  have R := Lib.hid (show readOf bs = (q, 0, 0, 2) by rw [hz]; exact h)
  clear h hz
  go_enter Try.func4, Try.ntmps4
  go_upto_region 2 with (go_at_call 12; refine (awake_any _).mono ?_; rintro e w1 ⟨rfl, hb1⟩)
  go_upto_region 5 with (first | (go_at_call 15; refine (read_n bs _ rfl q 0 0 2 R.out _ c B hc _ (by have := hb1.size; omega) (hr.below hb1 hB)).mono ?_; rintro e w3 ⟨rfl, hb3⟩) | (refine wpList_store_at rfl 29 _ _ rfl _ 0 26 29 q.cells (bareL 0) rfl rfl (blk_new' _ _ _ _ rfl) (Pdu.cells_length _) (by decide) info_pdu (Pdu.one _) ?_))
  refine wp_gen (RW w B A bs w3.heap.size q) ⟨((hr.below hb1 hB).below hb3 (by have := hb1.size; omega)).below (put_new w3 q).2 (by have := hb1.size; have := hb3.size; omega), (put_new w3 q).1, below_then (below_then hb1 (Nat.le_refl _) hb3) (Nat.le_refl _) (put_new w3 q).2⟩ ?_
  clear hb1 hb3
  generalize w3.heap.size = g3
  intro W hW
  go_wp2
  go_ret
  exact ⟨rfl, hW.b⟩
set_option maxRecDepth 100000 in
set_option maxHeartbeats 1000000 in
theorem just_big (bs : List UInt8) (A : Option Addr) (c B : Nat) (hc : bs.length ≤ c) (w : World) (hB : B ≤ w.heap.size) (hr : Reads w B 1 A bs.length (bs.map bv)) (h5 : 5000 < bs.length) :
    Calls Try.prog 4 #[.slice A bs.length c] w fun e w' => e = .returned (.bool true) ∧ Below w.heap.size w w' := by
  have d5 : decide ((5000 : Int) < (bs.length : Int)) = true := by simp; omega
  have d5' : decide (5000 < bs.length) = true := by simp; omega
  clear h5
  go_enter Try.func4, Try.ntmps4
  go_upto_region 2 with (go_at_call 12; refine (awake_any _).mono ?_; rintro e w1 ⟨rfl, hb1⟩)
  go_wp2
  go_ret
  exact ⟨rfl, hb1⟩
set_option maxRecDepth 100000 in
set_option maxHeartbeats 1000000 in
theorem just_good (bs : List UInt8) (A : Option Addr) (c B : Nat) (hc : bs.length ≤ c) (w : World) (hB : B ≤ w.heap.size) (hr : Reads w B 1 A bs.length (bs.map bv)) (h5 : ¬ 5000 < bs.length) (q : Pdu) (l : Nat) (h : readOf bs = (q, (l : Int), 0, 0)) (hq : pduOk q = true) (he : wrB q = bs.take l) (hl8 : 8 ≤ l) (hl : l ≤ bs.length) :
    Calls Try.prog 4 #[.slice A bs.length c] w fun e w' => e = .returned (.bool true) ∧ Below w.heap.size w w' := by
  have d5 : decide ((5000 : Int) < (bs.length : Int)) = false := by simp; omega
  have d5' : decide (5000 < bs.length) = false := by simp; omega
  clear h5
  have R := Lib.hid h
  have HQ := Lib.hid hq
  have HE := Lib.hid he
  clear h hq he
  go_enter Try.func4, Try.ntmps4
  go_upto_region 2 with (go_at_call 12; refine (awake_any _).mono ?_; rintro e w1 ⟨rfl, hb1⟩)
  go_upto_region 5 with (first | (go_at_call 15; refine (read_n bs _ rfl q l 0 0 R.out _ c B hc _ (by have := hb1.size; omega) (hr.below hb1 hB)).mono ?_; rintro e w3 ⟨rfl, hb3⟩) | (refine wpList_store_at rfl 29 _ _ rfl _ 0 26 29 q.cells (bareL 0) rfl rfl (blk_new' _ _ _ _ rfl) (Pdu.cells_length _) (by decide) info_pdu (Pdu.one _) ?_))
  refine wp_gen (RW w B A bs w3.heap.size q) ⟨((hr.below hb1 hB).below hb3 (by have := hb1.size; omega)).below (put_new w3 q).2 (by have := hb1.size; have := hb3.size; omega), (put_new w3 q).1, below_then (below_then hb1 (Nat.le_refl _) hb3) (Nat.le_refl _) (put_new w3 q).2⟩ ?_
  clear hb1 hb3
  generalize w3.heap.size = g3
  intro W hW
  go_upto_region 8 with (first | (refine wpList_load_at rfl 29 _ rfl g3 0 26 rfl _ _ hW.q.range (Pdu.cells_length _) Try.underlying29 rfl info_pdu ?_) | (go_at_call 13; refine (write_any q _).mono ?_; rintro e w3 hw3; obtain ⟨v, rfl, hov⟩ := hw3.1 HQ.out; obtain ⟨A', c', rfl⟩ := own_slice' hov; have hrd2 := Reads.of_own hov; replace hW := hW.next hB hw3.2.2; clear hw3 hov))
  have r2 := hrd2.below (Below.refl w3.heap.size w3) (Nat.le_refl _)
  have dl8 : decide ((l : Int) < 8) = false := by simp; omega
  have dl8' : decide (l < 8) = false := by simp; omega
  have dln : decide ((bs.length : Int) < (l : Int)) = false := by simp; omega
  have dln' : decide (bs.length < l) = false := by simp; omega
  have fl : (l : Int) ≤ (c : Int) := by omega
  have fl' : l ≤ c := by omega
  go_upto_region 10 with fail
  refine wp_gen (RW2 w B A bs g3 q w3.heap.size A') ⟨hW, hrd2, Nat.le_refl _⟩ ?_
  clear hW hrd2 r2 dl8 dl8' dln dln'
  generalize w3.heap.size = B2
  intro W4 hW
  refine reg_sch2 23 [(true, 0), (true, 1), (true, 2), (true, 3), (true, 4), (true, 5), (true, 6), (true, 7), (true, 8), (true, 9), (true, 10), (true, 11), (true, 12), (true, 13), (true, 14), (true, 15), (false, 16), (true, 17), (true, 18), (true, 19), (true, 20), (true, 21), (true, 22)] (by kernel_rfl) (by kernel_rfl) (RW2 w B A bs g3 q B2 A') (RW2 w B A bs g3 q B2 A') ?_ ?_ ?_
  · exact hW.drew
  · exact fun _ h => h
  intro W hSW
  simp only [List.map_cons, List.map_nil, List.getD_cons_zero, List.getD_cons_succ, List.drop_succ_cons, List.drop_zero]
  refine hd_pure (v := ?_) (by rfl) (fun W' hS' => ?_) ?_ -- 0
  rotate_left
  · have hs1 : (convert 30 9 (.slice A' (wrB q).length c')).run Try.prog W' = .ok (.string ⟨(bs.take l).toArray⟩) W' := (hS'.r2.str c').trans (by rw [HE.out]); have hs2 := (hS'.rw.rd.take1 hl).str c; clear hS'; (go_simp; first | with_reducible rfl | rfl)
  try simp only [Act.put, List.setIfInBounds_toArray, List.set_cons_zero, List.set_cons_succ]
  refine hd_pure (v := ?_) (by rfl) (fun W' hS' => ?_) ?_ -- 1
  rotate_left
  · have hs1 : (convert 30 9 (.slice A' (wrB q).length c')).run Try.prog W' = .ok (.string ⟨(bs.take l).toArray⟩) W' := (hS'.r2.str c').trans (by rw [HE.out]); have hs2 := (hS'.rw.rd.take1 hl).str c; clear hS'; (go_simp; first | with_reducible rfl | rfl)
  try simp only [Act.put, List.setIfInBounds_toArray, List.set_cons_zero, List.set_cons_succ]
  refine hd_pure (v := ?_) (by rfl) (fun W' hS' => ?_) ?_ -- 2
  rotate_left
  · have hs1 : (convert 30 9 (.slice A' (wrB q).length c')).run Try.prog W' = .ok (.string ⟨(bs.take l).toArray⟩) W' := (hS'.r2.str c').trans (by rw [HE.out]); have hs2 := (hS'.rw.rd.take1 hl).str c; clear hS'; (go_simp; first | with_reducible rfl | rfl)
  try simp only [Act.put, List.setIfInBounds_toArray, List.set_cons_zero, List.set_cons_succ]
  refine hd_pure (v := ?_) (by rfl) (fun W' hS' => ?_) ?_ -- 3
  rotate_left
  · have hs1 : (convert 30 9 (.slice A' (wrB q).length c')).run Try.prog W' = .ok (.string ⟨(bs.take l).toArray⟩) W' := (hS'.r2.str c').trans (by rw [HE.out]); have hs2 := (hS'.rw.rd.take1 hl).str c; clear hS'; (go_simp; first | with_reducible rfl | rfl)
  try simp only [Act.put, List.setIfInBounds_toArray, List.set_cons_zero, List.set_cons_succ]
  refine hd_pure (v := ?_) (by rfl) (fun W' hS' => ?_) ?_ -- 4
  rotate_left
  · have hs1 : (convert 30 9 (.slice A' (wrB q).length c')).run Try.prog W' = .ok (.string ⟨(bs.take l).toArray⟩) W' := (hS'.r2.str c').trans (by rw [HE.out]); have hs2 := (hS'.rw.rd.take1 hl).str c; clear hS'; (go_simp; first | with_reducible rfl | rfl)
  try simp only [Act.put, List.setIfInBounds_toArray, List.set_cons_zero, List.set_cons_succ]
  refine hd_pure (v := ?_) (by rfl) (fun W' hS' => ?_) ?_ -- 5
  rotate_left
  · have hs1 : (convert 30 9 (.slice A' (wrB q).length c')).run Try.prog W' = .ok (.string ⟨(bs.take l).toArray⟩) W' := (hS'.r2.str c').trans (by rw [HE.out]); have hs2 := (hS'.rw.rd.take1 hl).str c; clear hS'; (go_simp; first | with_reducible rfl | rfl)
  try simp only [Act.put, List.setIfInBounds_toArray, List.set_cons_zero, List.set_cons_succ]
  refine hd_pure (v := ?_) (by rfl) (fun W' hS' => ?_) ?_ -- 6
  rotate_left
  · have hs1 : (convert 30 9 (.slice A' (wrB q).length c')).run Try.prog W' = .ok (.string ⟨(bs.take l).toArray⟩) W' := (hS'.r2.str c').trans (by rw [HE.out]); have hs2 := (hS'.rw.rd.take1 hl).str c; clear hS'; (go_simp; first | with_reducible rfl | rfl)
  try simp only [Act.put, List.setIfInBounds_toArray, List.set_cons_zero, List.set_cons_succ]
  refine hd_pure (v := ?_) (by rfl) (fun W' hS' => ?_) ?_ -- 7
  rotate_left
  · have hs1 : (convert 30 9 (.slice A' (wrB q).length c')).run Try.prog W' = .ok (.string ⟨(bs.take l).toArray⟩) W' := (hS'.r2.str c').trans (by rw [HE.out]); have hs2 := (hS'.rw.rd.take1 hl).str c; clear hS'; (go_simp; first | with_reducible rfl | rfl)
  try simp only [Act.put, List.setIfInBounds_toArray, List.set_cons_zero, List.set_cons_succ]
  refine hd_pure (v := ?_) (by rfl) (fun W' hS' => ?_) ?_ -- 8
  rotate_left
  · have hs1 : (convert 30 9 (.slice A' (wrB q).length c')).run Try.prog W' = .ok (.string ⟨(bs.take l).toArray⟩) W' := (hS'.r2.str c').trans (by rw [HE.out]); have hs2 := (hS'.rw.rd.take1 hl).str c; clear hS'; (go_simp; first | with_reducible rfl | rfl)
  try simp only [Act.put, List.setIfInBounds_toArray, List.set_cons_zero, List.set_cons_succ]
  refine hd_pure (v := ?_) (by rfl) (fun W' hS' => ?_) ?_ -- 9
  rotate_left
  · have hs1 : (convert 30 9 (.slice A' (wrB q).length c')).run Try.prog W' = .ok (.string ⟨(bs.take l).toArray⟩) W' := (hS'.r2.str c').trans (by rw [HE.out]); have hs2 := (hS'.rw.rd.take1 hl).str c; clear hS'; (go_simp; first | with_reducible rfl | rfl)
  try simp only [Act.put, List.setIfInBounds_toArray, List.set_cons_zero, List.set_cons_succ]
  refine hd_pure (v := ?_) (by rfl) (fun W' hS' => ?_) ?_ -- 10
  rotate_left
  · have hs1 : (convert 30 9 (.slice A' (wrB q).length c')).run Try.prog W' = .ok (.string ⟨(bs.take l).toArray⟩) W' := (hS'.r2.str c').trans (by rw [HE.out]); have hs2 := (hS'.rw.rd.take1 hl).str c; clear hS'; (go_simp; first | with_reducible rfl | rfl)
  try simp only [Act.put, List.setIfInBounds_toArray, List.set_cons_zero, List.set_cons_succ]
  refine hd_pure (v := ?_) (by rfl) (fun W' hS' => ?_) ?_ -- 11
  rotate_left
  · have hs1 : (convert 30 9 (.slice A' (wrB q).length c')).run Try.prog W' = .ok (.string ⟨(bs.take l).toArray⟩) W' := (hS'.r2.str c').trans (by rw [HE.out]); have hs2 := (hS'.rw.rd.take1 hl).str c; clear hS'; (go_simp; first | with_reducible rfl | rfl)
  try simp only [Act.put, List.setIfInBounds_toArray, List.set_cons_zero, List.set_cons_succ]
  refine hd_pure (v := ?_) (by rfl) (fun W' hS' => ?_) ?_ -- 12
  rotate_left
  · have hs1 : (convert 30 9 (.slice A' (wrB q).length c')).run Try.prog W' = .ok (.string ⟨(bs.take l).toArray⟩) W' := (hS'.r2.str c').trans (by rw [HE.out]); have hs2 := (hS'.rw.rd.take1 hl).str c; clear hS'; (go_simp; first | with_reducible rfl | rfl)
  try simp only [Act.put, List.setIfInBounds_toArray, List.set_cons_zero, List.set_cons_succ]
  refine hd_pure (v := ?_) (by rfl) (fun W' hS' => ?_) ?_ -- 13
  rotate_left
  · have hs1 : (convert 30 9 (.slice A' (wrB q).length c')).run Try.prog W' = .ok (.string ⟨(bs.take l).toArray⟩) W' := (hS'.r2.str c').trans (by rw [HE.out]); have hs2 := (hS'.rw.rd.take1 hl).str c; clear hS'; (go_simp; first | with_reducible rfl | rfl)
  try simp only [Act.put, List.setIfInBounds_toArray, List.set_cons_zero, List.set_cons_succ]
  refine hd_pure (v := ?_) (by rfl) (fun W' hS' => ?_) ?_ -- 14
  rotate_left
  · have hs1 : (convert 30 9 (.slice A' (wrB q).length c')).run Try.prog W' = .ok (.string ⟨(bs.take l).toArray⟩) W' := (hS'.r2.str c').trans (by rw [HE.out]); have hs2 := (hS'.rw.rd.take1 hl).str c; clear hS'; (go_simp; first | with_reducible rfl | rfl)
  try simp only [Act.put, List.setIfInBounds_toArray, List.set_cons_zero, List.set_cons_succ]
  refine hd_pure (v := .agg q.cells.toArray) (by rfl) (fun W' hS' => exec_load_at 29 _ (by rfl) g3 0 26 (by rfl) _ _ hS'.rw.q.range (Pdu.cells_length _) Try.underlying29 rfl info_pdu) ?_ -- 15
  try simp only [Act.put, List.setIfInBounds_toArray, List.set_cons_zero, List.set_cons_succ]
  refine hd_sole (by rfl) (fun K hK => ?_) -- 16
  go_simp
  refine (right_any q _).mono ?_; rintro e w' ⟨rfl, hb⟩
  rw [HQ.out]
  refine hK _ _ (hSW.next hB hb) ?_
  clear hK K hSW
  intro hSW
  try simp only [Act.put, List.setIfInBounds_toArray, List.set_cons_zero, List.set_cons_succ]
  refine hd_pure (v := ?_) (by rfl) (fun W' hS' => ?_) ?_ -- 17
  rotate_left
  · have hs1 : (convert 30 9 (.slice A' (wrB q).length c')).run Try.prog W' = .ok (.string ⟨(bs.take l).toArray⟩) W' := (hS'.r2.str c').trans (by rw [HE.out]); have hs2 := (hS'.rw.rd.take1 hl).str c; clear hS'; (go_simp; first | with_reducible rfl | rfl)
  try simp only [Act.put, List.setIfInBounds_toArray, List.set_cons_zero, List.set_cons_succ]
  refine hd_pure (v := ?_) (by rfl) (fun W' hS' => ?_) ?_ -- 18
  rotate_left
  · have hs1 : (convert 30 9 (.slice A' (wrB q).length c')).run Try.prog W' = .ok (.string ⟨(bs.take l).toArray⟩) W' := (hS'.r2.str c').trans (by rw [HE.out]); have hs2 := (hS'.rw.rd.take1 hl).str c; clear hS'; (go_simp; first | with_reducible rfl | rfl)
  try simp only [Act.put, List.setIfInBounds_toArray, List.set_cons_zero, List.set_cons_succ]
  refine hd_pure (v := ?_) (by rfl) (fun W' hS' => ?_) ?_ -- 19
  rotate_left
  · have hs1 : (convert 30 9 (.slice A' (wrB q).length c')).run Try.prog W' = .ok (.string ⟨(bs.take l).toArray⟩) W' := (hS'.r2.str c').trans (by rw [HE.out]); have hs2 := (hS'.rw.rd.take1 hl).str c; clear hS'; (go_simp; first | with_reducible rfl | rfl)
  try simp only [Act.put, List.setIfInBounds_toArray, List.set_cons_zero, List.set_cons_succ]
  refine hd_pure (v := ?_) (by rfl) (fun W' hS' => ?_) ?_ -- 20
  rotate_left
  · have hs1 : (convert 30 9 (.slice A' (wrB q).length c')).run Try.prog W' = .ok (.string ⟨(bs.take l).toArray⟩) W' := (hS'.r2.str c').trans (by rw [HE.out]); have hs2 := (hS'.rw.rd.take1 hl).str c; clear hS'; (go_simp; first | with_reducible rfl | rfl)
  try simp only [Act.put, List.setIfInBounds_toArray, List.set_cons_zero, List.set_cons_succ]
  refine hd_pure (v := ?_) (by rfl) (fun W' hS' => ?_) ?_ -- 21
  rotate_left
  · have hs1 : (convert 30 9 (.slice A' (wrB q).length c')).run Try.prog W' = .ok (.string ⟨(bs.take l).toArray⟩) W' := (hS'.r2.str c').trans (by rw [HE.out]); have hs2 := (hS'.rw.rd.take1 hl).str c; clear hS'; (go_simp; first | with_reducible rfl | rfl)
  try simp only [Act.put, List.setIfInBounds_toArray, List.set_cons_zero, List.set_cons_succ]
  refine hd_pure (v := ?_) (by rfl) (fun W' hS' => ?_) ?_ -- 22
  rotate_left
  · have hs1 : (convert 30 9 (.slice A' (wrB q).length c')).run Try.prog W' = .ok (.string ⟨(bs.take l).toArray⟩) W' := (hS'.r2.str c').trans (by rw [HE.out]); have hs2 := (hS'.rw.rd.take1 hl).str c; clear hS'; (go_simp; first | with_reducible rfl | rfl)
  try simp only [Act.put, List.setIfInBounds_toArray, List.set_cons_zero, List.set_cons_succ]
  refine hd_nil ?_
  replace hW := hSW; clear hSW
  refine wpList_nil (NoPanic.normal ?_)
  go_wp2
  go_ret
  exact ⟨rfl, hW.rw.b⟩
end Go.Proofs.Ytmoldmnhijcckaa
