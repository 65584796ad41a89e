/- The contracts of lanyardref25.Write and lanyardref25.can. Condition of can: a kind. -/
import Derived.Test.YtmoldmnhijcckaaRefLay
set_option linter.unusedVariables false
set_option linter.unusedSectionVars false
set_option linter.unusedSimpArgs false
namespace Go.Proofs.Ytmoldmnhijcckaa
open Go.RowKit
theorem behind_ok {p : Pdu} (h : pduOk p = true) (w : World) : Calls Try.prog 71 #[p.val] w (BytesOut (wrBody p) w) := by
  obtain ⟨hk, _, _, _, ht, hv⟩ := ok_parts h
  rcases kind_cases hk with hk' | hk' | hk' | hk' | hk' | hk' | hk' | hk' | hk'
  · exact behind_0 p w hk'
  · exact behind_1 p w hk'
  · exact behind_2 p w hk'
  · exact behind_3 p w hk'
  · obtain ⟨h1, h2, h3, h4⟩ := vrpOk_bd (hv (.inl hk')).1
    cases ha : p.add
    · exact behind_4false p w hk' ha h1 h2 h3 h4
    · exact behind_4true p w hk' ha h1 h2 h3 h4
  · obtain ⟨h1, h2, h3, h4⟩ := vrpOk_bd (hv (.inr hk')).1
    cases ha : p.add
    · exact behind_6false p w hk' ha h1 h2 h3 h4
    · exact behind_6true p w hk' ha h1 h2 h3 h4
  · exact behind_7 p w hk'
  · exact behind_8 p w hk'
  · exact behind_10 p w hk' ht
theorem lay_ok {p : Pdu} (h : pduOk p = true) (w : World) : Calls Try.prog 45 #[p.val] w (BytesOut (wrB p) w) := lay_any p h w (behind_ok h)
def RwPost (p : Pdu) (w : World) (e : Ending) (w' : World) : Prop :=
  ∃ A n c, e = .returned (.tuple #[.slice A n c, .int .i64 (if pduOk p then 0 else 1)]) ∧ n = (if pduOk p then wrB p else []).length ∧ Reads w' w'.heap.size 1 A n ((if pduOk p then wrB p else []).map bv) ∧ Below w.heap.size w w'
set_option maxRecDepth 100000 in
set_option maxHeartbeats 1000000 in
theorem rwrite_any (p : Pdu) (w : World) : Calls Try.prog 16 #[p.val] w (RwPost p w) := by
  have hX := Bx.new w p
  cases h : pduOk p
  · have H := Lib.hid h
    clear h
    simp only [Pdu.val]
    go_enter Try.func16, Try.ntmps16
    go_wp2_with (refine wpList_load_at rfl 29 _ rfl w.heap.size 0 26 rfl _ _ hX.1.range (Pdu.cells_length _) Try.underlying29 rfl info_pdu ?_)
    refine (rright25_any p _).mono ?_
    rintro e w1 ⟨rfl, hb1⟩
    replace hX := hX.next hb1
    rw [H.out]
    go_wp2
    go_ret2
    exact ⟨none, 0, 0, by rw [H.out]; rfl, by rw [H.out]; rfl, by rw [H.out]; exact Reads.none_, hX.2⟩
  · have H := Lib.hid h
    have HL := Lib.hid (fun w => lay_ok h w)
    simp only [Pdu.val] at HL ⊢
    clear h
    go_enter Try.func16, Try.ntmps16
    go_wp2_with (refine wpList_load_at rfl 29 _ rfl w.heap.size 0 26 rfl _ _ hX.1.range (Pdu.cells_length _) Try.underlying29 rfl info_pdu ?_)
    refine (rright25_any p _).mono ?_
    rintro e w1 ⟨rfl, hb1⟩
    replace hX := hX.next hb1
    clear hb1
    rw [H.out]
    go_wp2_with (refine wpList_load_at rfl 29 _ rfl w.heap.size 0 26 rfl _ _ hX.1.range (Pdu.cells_length _) Try.underlying29 rfl info_pdu ?_)
    refine (HL.out _).mono ?_
    rintro e w2 ⟨A, n, c, rfl, hn, hnc, hrd, hb⟩
    have HN := Lib.hid hn
    clear hn
    go_wp2
    go_ret2
    exact ⟨A, n, c, by rw [H.out]; rfl, by rw [H.out]; exact HN.out, by rw [H.out]; exact hrd, (hX.next hb).2⟩
def canOf (k : Int) (n : Nat) : Bool := if k = 10 then decide (16 ≤ n ∧ n ≤ 216) else decide ((n : Int) = lenOf k)
theorem behind_bare (k : Int) (h : k = 0 ∨ k = 1 ∨ k = 2 ∨ k = 3 ∨ k = 4 ∨ k = 6 ∨ k = 7 ∨ k = 8) (w : World) : Calls Try.prog 71 #[.agg (bareL k).toArray] w (BytesOut (wrBody (bareP k)) w) := by
  have e : Value.agg (bareL k).toArray = (bareP k).val := rfl
  rw [e]
  rcases h with rfl | rfl | rfl | rfl | rfl | rfl | rfl | rfl
  · exact behind_0 _ w rfl
  · exact behind_1 _ w rfl
  · exact behind_2 _ w rfl
  · exact behind_3 _ w rfl
  · exact behind_4false _ w rfl rfl (by decide) (by decide) (by decide) (by decide)
  · exact behind_6false _ w rfl rfl (by decide) (by decide) (by decide) (by decide)
  · exact behind_7 _ w rfl
  · exact behind_8 _ w rfl
theorem bare_len : (wrBody (bareP 0)).length = 4 ∧ (wrBody (bareP 1)).length = 4 ∧ (wrBody (bareP 2)).length = 0 ∧ (wrBody (bareP 3)).length = 0 ∧ (wrBody (bareP 4)).length = 12 ∧ (wrBody (bareP 6)).length = 24 ∧ (wrBody (bareP 7)).length = 16 ∧ (wrBody (bareP 8)).length = 0 := by
  refine ⟨?_, ?_, ?_, ?_, ?_, ?_, ?_, ?_⟩ <;> kernel_rfl
set_option maxRecDepth 100000 in
set_option maxHeartbeats 1000000 in
theorem can_10 (n : Nat) (hn : n < 4294967296) (w : World) : Calls Try.prog 48 #[.int .i64 10, .int .u64 n] w fun e w' => e = .returned (.bool (canOf 10 n)) ∧ Below w.heap.size w w' := by
  by_cases h1 : 16 ≤ n
  · by_cases h2 : n ≤ 216
    · have H := Lib.hid (show canOf 10 n = true by simp [canOf, h1, h2])
      have d1 : decide ((16 : Int) ≤ (n : Int)) = true := decide_eq_true (by omega)
      have d1' := decide_eq_true h1
      have d2 : decide ((n : Int) ≤ 216) = true := decide_eq_true (by omega)
      have d2' := decide_eq_true h2
      clear h1 h2
      go_enter Try.func48, Try.ntmps48
      go_wp2
      go_ret
      exact ⟨by rw [H.out]; rfl, Below.refl _ _⟩
    · have H := Lib.hid (show canOf 10 n = false by simp [canOf]; omega)
      have d1 : decide ((16 : Int) ≤ (n : Int)) = true := decide_eq_true (by omega)
      have d1' := decide_eq_true h1
      have d2 : decide ((n : Int) ≤ 216) = false := decide_eq_false (by omega)
      have d2' := decide_eq_false h2
      clear h1 h2
      go_enter Try.func48, Try.ntmps48
      go_wp2
      go_ret
      exact ⟨by rw [H.out]; rfl, Below.refl _ _⟩
  · have H := Lib.hid (show canOf 10 n = false by simp [canOf]; omega)
    have d1 : decide ((16 : Int) ≤ (n : Int)) = false := decide_eq_false (by omega)
    have d1' := decide_eq_false h1
    clear h1
    go_enter Try.func48, Try.ntmps48
    go_wp2
    go_ret
    exact ⟨by rw [H.out]; rfl, Below.refl _ _⟩
set_option maxRecDepth 100000 in
set_option maxHeartbeats 1000000 in
theorem can_0 (n : Nat) (hn : n < 4294967296) (w : World) : Calls Try.prog 48 #[.int .i64 0, .int .u64 n] w fun e w' => e = .returned (.bool (canOf 0 n)) ∧ Below w.heap.size w w' := by
  have hc : canOf 0 n = ((n : Int) == 12) := by unfold canOf; rw [if_neg (by decide), beq_int_decide]; rfl
  have HC := Lib.hid hc
  have HB := Lib.hid (fun w => behind_bare 0 (by decide) w)
  have HL := Lib.hid (show (wrBody (bareP 0)).length = 4 by have := bare_len; omega)
  clear hc
  generalize wrBody (bareP 0) = body at HB HL
  go_enter Try.func48, Try.ntmps48
  go_wp2_with fail
  refine (HB.out _).mono ?_
  rintro e w1 ⟨A, m, c, rfl, hm, _, _, hb⟩
  obtain rfl : m = 4 := hm.trans HL.out
  clear hm
  go_wp2
  go_ret
  exact ⟨by rw [HC.out]; rfl, hb⟩
set_option maxRecDepth 100000 in
set_option maxHeartbeats 1000000 in
theorem can_1 (n : Nat) (hn : n < 4294967296) (w : World) : Calls Try.prog 48 #[.int .i64 1, .int .u64 n] w fun e w' => e = .returned (.bool (canOf 1 n)) ∧ Below w.heap.size w w' := by
  have hc : canOf 1 n = ((n : Int) == 12) := by unfold canOf; rw [if_neg (by decide), beq_int_decide]; rfl
  have HC := Lib.hid hc
  have HB := Lib.hid (fun w => behind_bare 1 (by decide) w)
  have HL := Lib.hid (show (wrBody (bareP 1)).length = 4 by have := bare_len; omega)
  clear hc
  generalize wrBody (bareP 1) = body at HB HL
  go_enter Try.func48, Try.ntmps48
  go_wp2_with fail
  refine (HB.out _).mono ?_
  rintro e w1 ⟨A, m, c, rfl, hm, _, _, hb⟩
  obtain rfl : m = 4 := hm.trans HL.out
  clear hm
  go_wp2
  go_ret
  exact ⟨by rw [HC.out]; rfl, hb⟩
set_option maxRecDepth 100000 in
set_option maxHeartbeats 1000000 in
theorem can_2 (n : Nat) (hn : n < 4294967296) (w : World) : Calls Try.prog 48 #[.int .i64 2, .int .u64 n] w fun e w' => e = .returned (.bool (canOf 2 n)) ∧ Below w.heap.size w w' := by
  have hc : canOf 2 n = ((n : Int) == 8) := by unfold canOf; rw [if_neg (by decide), beq_int_decide]; rfl
  have HC := Lib.hid hc
  have HB := Lib.hid (fun w => behind_bare 2 (by decide) w)
  have HL := Lib.hid (show (wrBody (bareP 2)).length = 0 by have := bare_len; omega)
  clear hc
  generalize wrBody (bareP 2) = body at HB HL
  go_enter Try.func48, Try.ntmps48
  go_wp2_with fail
  refine (HB.out _).mono ?_
  rintro e w1 ⟨A, m, c, rfl, hm, _, _, hb⟩
  obtain rfl : m = 0 := hm.trans HL.out
  clear hm
  go_wp2
  go_ret
  exact ⟨by rw [HC.out]; rfl, hb⟩
set_option maxRecDepth 100000 in
set_option maxHeartbeats 1000000 in
theorem can_3 (n : Nat) (hn : n < 4294967296) (w : World) : Calls Try.prog 48 #[.int .i64 3, .int .u64 n] w fun e w' => e = .returned (.bool (canOf 3 n)) ∧ Below w.heap.size w w' := by
  have hc : canOf 3 n = ((n : Int) == 8) := by unfold canOf; rw [if_neg (by decide), beq_int_decide]; rfl
  have HC := Lib.hid hc
  have HB := Lib.hid (fun w => behind_bare 3 (by decide) w)
  have HL := Lib.hid (show (wrBody (bareP 3)).length = 0 by have := bare_len; omega)
  clear hc
  generalize wrBody (bareP 3) = body at HB HL
  go_enter Try.func48, Try.ntmps48
  go_wp2_with fail
  refine (HB.out _).mono ?_
  rintro e w1 ⟨A, m, c, rfl, hm, _, _, hb⟩
  obtain rfl : m = 0 := hm.trans HL.out
  clear hm
  go_wp2
  go_ret
  exact ⟨by rw [HC.out]; rfl, hb⟩
set_option maxRecDepth 100000 in
set_option maxHeartbeats 1000000 in
theorem can_4 (n : Nat) (hn : n < 4294967296) (w : World) : Calls Try.prog 48 #[.int .i64 4, .int .u64 n] w fun e w' => e = .returned (.bool (canOf 4 n)) ∧ Below w.heap.size w w' := by
  have hc : canOf 4 n = ((n : Int) == 20) := by unfold canOf; rw [if_neg (by decide), beq_int_decide]; rfl
  have HC := Lib.hid hc
  have HB := Lib.hid (fun w => behind_bare 4 (by decide) w)
  have HL := Lib.hid (show (wrBody (bareP 4)).length = 12 by have := bare_len; omega)
  clear hc
  generalize wrBody (bareP 4) = body at HB HL
  go_enter Try.func48, Try.ntmps48
  go_wp2_with fail
  refine (HB.out _).mono ?_
  rintro e w1 ⟨A, m, c, rfl, hm, _, _, hb⟩
  obtain rfl : m = 12 := hm.trans HL.out
  clear hm
  go_wp2
  go_ret
  exact ⟨by rw [HC.out]; rfl, hb⟩
set_option maxRecDepth 100000 in
set_option maxHeartbeats 1000000 in
theorem can_6 (n : Nat) (hn : n < 4294967296) (w : World) : Calls Try.prog 48 #[.int .i64 6, .int .u64 n] w fun e w' => e = .returned (.bool (canOf 6 n)) ∧ Below w.heap.size w w' := by
  have hc : canOf 6 n = ((n : Int) == 32) := by unfold canOf; rw [if_neg (by decide), beq_int_decide]; rfl
  have HC := Lib.hid hc
  have HB := Lib.hid (fun w => behind_bare 6 (by decide) w)
  have HL := Lib.hid (show (wrBody (bareP 6)).length = 24 by have := bare_len; omega)
  clear hc
  generalize wrBody (bareP 6) = body at HB HL
  go_enter Try.func48, Try.ntmps48
  go_wp2_with fail
  refine (HB.out _).mono ?_
  rintro e w1 ⟨A, m, c, rfl, hm, _, _, hb⟩
  obtain rfl : m = 24 := hm.trans HL.out
  clear hm
  go_wp2
  go_ret
  exact ⟨by rw [HC.out]; rfl, hb⟩
set_option maxRecDepth 100000 in
set_option maxHeartbeats 1000000 in
theorem can_7 (n : Nat) (hn : n < 4294967296) (w : World) : Calls Try.prog 48 #[.int .i64 7, .int .u64 n] w fun e w' => e = .returned (.bool (canOf 7 n)) ∧ Below w.heap.size w w' := by
  have hc : canOf 7 n = ((n : Int) == 24) := by unfold canOf; rw [if_neg (by decide), beq_int_decide]; rfl
  have HC := Lib.hid hc
  have HB := Lib.hid (fun w => behind_bare 7 (by decide) w)
  have HL := Lib.hid (show (wrBody (bareP 7)).length = 16 by have := bare_len; omega)
  clear hc
  generalize wrBody (bareP 7) = body at HB HL
  go_enter Try.func48, Try.ntmps48
  go_wp2_with fail
  refine (HB.out _).mono ?_
  rintro e w1 ⟨A, m, c, rfl, hm, _, _, hb⟩
  obtain rfl : m = 16 := hm.trans HL.out
  clear hm
  go_wp2
  go_ret
  exact ⟨by rw [HC.out]; rfl, hb⟩
set_option maxRecDepth 100000 in
set_option maxHeartbeats 1000000 in
theorem can_8 (n : Nat) (hn : n < 4294967296) (w : World) : Calls Try.prog 48 #[.int .i64 8, .int .u64 n] w fun e w' => e = .returned (.bool (canOf 8 n)) ∧ Below w.heap.size w w' := by
  have hc : canOf 8 n = ((n : Int) == 8) := by unfold canOf; rw [if_neg (by decide), beq_int_decide]; rfl
  have HC := Lib.hid hc
  have HB := Lib.hid (fun w => behind_bare 8 (by decide) w)
  have HL := Lib.hid (show (wrBody (bareP 8)).length = 0 by have := bare_len; omega)
  clear hc
  generalize wrBody (bareP 8) = body at HB HL
  go_enter Try.func48, Try.ntmps48
  go_wp2_with fail
  refine (HB.out _).mono ?_
  rintro e w1 ⟨A, m, c, rfl, hm, _, _, hb⟩
  obtain rfl : m = 0 := hm.trans HL.out
  clear hm
  go_wp2
  go_ret
  exact ⟨by rw [HC.out]; rfl, hb⟩
theorem can_any (k : Int) (hk : isKind k = true) (n : Nat) (hn : n < 4294967296) (w : World) : Calls Try.prog 48 #[.int .i64 k, .int .u64 n] w fun e w' => e = .returned (.bool (canOf k n)) ∧ Below w.heap.size w w' := by
  rcases kind_cases hk with rfl | rfl | rfl | rfl | rfl | rfl | rfl | rfl | rfl
  · exact can_0 n hn w
  · exact can_1 n hn w
  · exact can_2 n hn w
  · exact can_3 n hn w
  · exact can_4 n hn w
  · exact can_6 n hn w
  · exact can_7 n hn w
  · exact can_8 n hn w
  · exact can_10 n hn w
end Go.Proofs.Ytmoldmnhijcckaa
