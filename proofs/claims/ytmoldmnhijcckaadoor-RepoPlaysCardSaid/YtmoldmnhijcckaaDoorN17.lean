/- The contract of lanyardref17.Name. -/
import Derived.Test.YtmoldmnhijcckaaDoorUrP
set_option linter.unusedVariables false
set_option linter.unusedSectionVars false
set_option linter.unusedSimpArgs false
namespace Go.Proofs.YtmoldmnhijcckaaDoor
open Go.RowKit
set_option maxRecDepth 100000 in
set_option maxHeartbeats 4000000 in
theorem name17_any (s : ByteArray) (hs : s.size ≤ 9223372036854775807) (w : World) : Calls Tryd.prog 91 #[.string s] w fun e w' => e = .returned (.bool (nameB s)) ∧ w = w' := by
  have hl : s.data.toList.length = s.size := by simp
  go_enter Tryd.func91, Tryd.ntmps91
  go_wp2_with fail
  go_loop [3, 4] (fun vi v4 => ∃ k : Nat, vi = .int .i64 k ∧ k ≤ s.size ∧ Hid ((s.data.toList.take k).all signB = true ∧ (0 < k → (s.data.toList.getD 0 0).toNat ≠ 46))) (fun vi _ => s.size - (intOf vi).toNat)
  case atStart => exact ⟨0, rfl, by omega, Lib.hid ⟨rfl, fun h => by omega⟩⟩
  case round =>
    obtain ⟨k, rfl, hk, HE⟩ := hrel
    by_cases hkn : k < s.size
    · have hk0 : (0 : Int) ≤ (k : Int) := by omega
      have hk1 : (k : Int) < (s.size : Int) := by omega
      have hb := byte_getD s k hkn
      have hmem : s[k] ∈ s.data.toList := by
        rw [hb, List.getD_eq_getElem?_getD, List.getElem?_eq_getElem (show k < s.data.toList.length by omega)]
        exact List.getElem_mem _
      by_cases hok : signB (s[k]'hkn) = true ∧ (k = 0 → (s[k]'hkn).toNat ≠ 46)
      · have HN := Lib.hid (show (s.data.toList.take (k + 1)).all signB = true ∧ (0 < k + 1 → (s.data.toList.getD 0 0).toNat ≠ 46) from by
          refine ⟨?_, fun _ => ?_⟩
          · rw [List.take_succ_eq_append_getElem (show k < s.data.toList.length by omega), List.all_append, HE.out.1]
            have e : s.data.toList[k]'(by omega) = s[k] := by
              rw [hb, List.getD_eq_getElem?_getD, List.getElem?_eq_getElem (show k < s.data.toList.length by omega)]
              rfl
            simp [e, hok.1]
          · by_cases h0 : k = 0
            · have h5 := hok.2 h0
              have h6 : s.data.toList.getD 0 0 = s[k] := by rw [hb, h0]
              rw [h6]
              exact h5
            · exact HE.out.2 (by omega))
        obtain ⟨hsg, h46⟩ := hok
        unfold signB at hsg
        simp only [Bool.or_eq_true, decide_eq_true_eq] at hsg
        clear hb hmem HE
        rcases hsg with (((⟨h3, h4⟩ | ⟨h3, h4⟩) | h3) | h3) | h3
        · clear h46
          go_wp2
          refine ⟨⟨k + 1, (by first | rfl | (congr 1; omega)), by omega, HN⟩, by simp [intOf]; omega⟩
        · clear h46
          go_wp2
          refine ⟨⟨k + 1, (by first | rfl | (congr 1; omega)), by omega, HN⟩, by simp [intOf]; omega⟩
        · clear h46
          go_wp2
          refine ⟨⟨k + 1, (by first | rfl | (congr 1; omega)), by omega, HN⟩, by simp [intOf]; omega⟩
        · clear h46
          go_wp2
          refine ⟨⟨k + 1, (by first | rfl | (congr 1; omega)), by omega, HN⟩, by simp [intOf]; omega⟩
        have dk : decide (0 < k) = true := decide_eq_true (by
          by_cases h0 : k = 0
          · exact absurd h3 (h46 h0)
          · omega)
        clear h46
        go_wp2
        refine ⟨⟨k + 1, (by first | rfl | (congr 1; omega)), by omega, HN⟩, by simp [intOf]; omega⟩
      · have HF := Lib.hid (show nameB s = false from by
          cases hn : nameB s with
          | false => rfl
          | true =>
            exfalso
            apply hok
            unfold nameB at hn
            simp only [Bool.and_eq_true, Bool.not_eq_true', decide_eq_true_eq, decide_eq_false_iff_not] at hn
            refine ⟨List.all_eq_true.1 hn.2 _ hmem, fun h0 => ?_⟩
            have h6 : s.data.toList.getD 0 0 = s[k] := by rw [hb, h0]
            rw [← h6]
            exact hn.1.2)
        by_cases hsg : signB (s[k]'hkn) = true
        · have h0 : k = 0 := by
            by_cases h0 : k = 0
            · exact h0
            · exact absurd ⟨hsg, fun h => absurd h h0⟩ hok
          have h3 : (s[k]'hkn).toNat = 46 := by
            by_cases h3 : (s[k]'hkn).toNat = 46
            · exact h3
            · exact absurd ⟨hsg, fun _ => h3⟩ hok
          have dk : decide (0 < k) = false := decide_eq_false (by omega)
          clear hok hsg hb hmem HE h0
          go_wp2
          go_ret
          exact ⟨by rw [HF.out]; rfl, rfl⟩
        · simp only [Bool.not_eq_true] at hsg
          unfold signB at hsg
          simp only [Bool.or_eq_false_iff, decide_eq_false_iff_not] at hsg
          have h3 : ((s[k]'hkn).toNat < 45) ∨ (s[k]'hkn).toNat = 47 ∨ (57 < (s[k]'hkn).toNat ∧ (s[k]'hkn).toNat < 95) ∨ (s[k]'hkn).toNat = 96 ∨ 122 < (s[k]'hkn).toNat := by omega
          clear hsg hok hb hmem HE
          rcases h3 with h3 | h3 | ⟨h3, h4⟩ | h3 | h3
          all_goals
            have e1 : (((s[k]'hkn).toNat : Int) == 45) = false := beq_eq_false_iff_ne.2 (by omega)
            have e2 : (((s[k]'hkn).toNat : Int) == 95) = false := beq_eq_false_iff_ne.2 (by omega)
            try have d57 : decide (((s[k]'hkn).toNat : Int) ≤ 57) = false := decide_eq_false (by omega)
            try have d122 : decide (((s[k]'hkn).toNat : Int) ≤ 122) = false := decide_eq_false (by omega)
            have e3 : (((s[k]'hkn).toNat : Int) == 46) = false := beq_eq_false_iff_ne.2 (by omega)
            go_wp2
            go_ret
            exact ⟨by rw [HF.out]; rfl, rfl⟩
    · have hkk : k = s.size := by omega
      subst hkk
      have hall : s.data.toList.all signB = true := by have := HE.out.1; rwa [List.take_of_length_le (by omega)] at this
      by_cases h0 : s.size = 0
      · have HF := Lib.hid (show nameB s = false by unfold nameB; simp [h0])
        have d0 : decide ((1 : Int) ≤ (s.size : Int)) = false := decide_eq_false (by omega)
        clear HE hall hl h0
        go_wp2
        go_ret
        exact ⟨by rw [HF.out]; rfl, rfl⟩
      · have d0 : decide ((1 : Int) ≤ (s.size : Int)) = true := decide_eq_true (by omega)
        by_cases h60 : s.size ≤ 60
        · have HF := Lib.hid (show nameB s = true by unfold nameB; rw [hall]; simp only [Bool.and_eq_true, decide_eq_true_eq, Bool.not_eq_true', decide_eq_false_iff_not]; exact ⟨⟨⟨h0, h60⟩, HE.out.2 (by omega)⟩, trivial⟩)
          have d1 : decide ((s.size : Int) ≤ 60) = true := decide_eq_true (by omega)
          clear HE hall hl
          go_wp2
          go_ret
          exact ⟨by rw [HF.out]; rfl, rfl⟩
        · have HF := Lib.hid (show nameB s = false by unfold nameB; simp [h60])
          have d1 : decide ((s.size : Int) ≤ 60) = false := decide_eq_false (by omega)
          clear HE hall hl
          go_wp2
          go_ret
          exact ⟨by rw [HF.out]; rfl, rfl⟩
end Go.Proofs.YtmoldmnhijcckaaDoor
