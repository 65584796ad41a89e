/- The contracts of lanyardref20.Uri and Dir. -/
import Derived.Test.YtmoldmnhijcckaaDoorN17
set_option linter.unusedVariables false
set_option linter.unusedSectionVars false
set_option linter.unusedSimpArgs false
namespace Go.Proofs.YtmoldmnhijcckaaDoor
open Go.RowKit
theorem eqS' (x y : ByteArray) : (x.toList == y.toList) = decide (x = y) := by
  rw [Lib.toList_data, Lib.toList_data]
  by_cases h : x = y
  · subst h; simp
  · rw [decide_eq_false h, beq_eq_false_iff_ne]
    exact fun e => h (ByteArray.ext (Array.toList_inj.1 e))
theorem take8 (s : ByteArray) (h9 : 9 ≤ s.size) : (s.extract 0 8 = scheme) ↔ Lib.hasPrefix s.data.toList scheme.data.toList = true := by
  have e1 : (s.extract 0 8).data.toList = s.data.toList.take 8 := Lib.extract_from_zero s 8
  unfold Lib.hasPrefix
  rw [List.isPrefixOf_iff_prefix, List.prefix_iff_eq_take]
  constructor
  · intro h
    rw [← h, e1]
    simp [List.take_take]
  · intro h
    apply ByteArray.ext
    apply Array.toList_inj.1
    rw [e1, h]
    rfl
theorem drop_one (s : ByteArray) (k : Nat) (h : k < s.size) : s.data.toList.drop k = s[k] :: s.data.toList.drop (k + 1) := by
  have h2 : k < s.data.toList.length := by simpa using h
  rw [byte_getD s k h, List.drop_eq_getElem_cons h2, List.getD_eq_getElem?_getD, List.getElem?_eq_getElem h2]
  rfl
/-- The part from f to i. -/
def partL (s : ByteArray) (f i : Nat) : List UInt8 := (s.data.toList.take i).drop f
theorem partL_succ (s : ByteArray) (f i : Nat) (hf : f ≤ i) (h : i < s.size) : partL s f (i + 1) = partL s f i ++ [s[i]] := by
  have h2 : i < s.data.toList.length := by simpa using h
  unfold partL
  rw [List.take_succ_eq_append_getElem h2, List.drop_append_of_le_length (by rw [List.length_take]; omega), byte_getD s i h, List.getD_eq_getElem?_getD, List.getElem?_eq_getElem h2]
  rfl
theorem partL_nil (s : ByteArray) (f : Nat) : partL s f f = [] := by
  unfold partL
  exact List.drop_eq_nil_of_le (by rw [List.length_take]; omega)
theorem partL_len (s : ByteArray) (f i : Nat) (h : i ≤ s.size) : (partL s f i).length = i - f := by
  have hl : s.data.toList.length = s.size := by simp
  unfold partL
  rw [List.length_drop, List.length_take]
  omega
theorem partL_ext (s : ByteArray) (f i : Nat) (hf : f ≤ i) (h : i ≤ s.size) : nameB (s.extract f i) = nameL (partL s f i) := by
  have hl : s.data.toList.length = s.size := by simp
  unfold nameL partL
  congr 1
  apply ByteArray.ext
  apply Array.toList_inj.1
  rw [Lib.extract_data]
  simp [List.drop_take]
def uS (s : ByteArray) (f i : Nat) : Bool := if i ≤ s.size then uR (decide (9 < s.size)) (partL s f i) (s.data.toList.drop i) else true
set_option maxRecDepth 100000 in
set_option maxHeartbeats 4000000 in
theorem uri20_any (s : ByteArray) (hs : s.size ≤ 9223372036854775800) (w : World) : Calls Tryd.prog 54 #[.string s] w fun e w' => e = .returned (.bool (uriB s)) ∧ w = w' := by
  by_cases h200 : 200 < s.size
  · have HF := Lib.hid (uri_long s h200)
    have d0 : decide ((200 : Int) < (s.size : Int)) = true := decide_eq_true (by omega)
    go_enter Tryd.func54, Tryd.ntmps54
    go_wp2_with fail
    go_ret
    exact ⟨by rw [HF.out]; rfl, rfl⟩
  have d0 : decide ((200 : Int) < (s.size : Int)) = false := decide_eq_false (by omega)
  by_cases h9 : s.size < 9
  · have HF := Lib.hid (uri_short s h9)
    have d1 : decide ((s.size : Int) < 9) = true := decide_eq_true (by omega)
    go_enter Tryd.func54, Tryd.ntmps54
    go_wp2_with fail
    go_ret
    exact ⟨by rw [HF.out]; rfl, rfl⟩
  have d1 : decide ((s.size : Int) < 9) = false := decide_eq_false (by omega)
  by_cases hp : s.extract 0 8 = scheme
  · have HU := Lib.hid (uri_R s ((take8 s (by omega)).1 hp) (by omega) (by omega))
    have be : ((s.extract 0 8).toList == [114, 115, 121, 110, 99, 58, 47, 47]) = true := by rw [hp]; decide +kernel
    clear hp
    go_enter Tryd.func54, Tryd.ntmps54
    go_wp2_with fail
    go_loopw [3, 4] (fun vf vi wr => ∃ i f : Nat, vi = .int .i64 i ∧ vf = .int .i64 f ∧ 8 ≤ f ∧ f ≤ i ∧ i ≤ s.size + 1 ∧ w = wr ∧ Hid (uriB s = uS s f i)) (fun _ vi _ => s.size + 1 - (intOf vi).toNat)
    case atStart => exact ⟨8, 8, rfl, rfl, by omega, by omega, by omega, rfl, Lib.hid (by rw [HU.out]; unfold uS; rw [if_pos (by omega), partL_nil])⟩
    case round =>
      obtain ⟨i, f, rfl, rfl, h8, hfi, hi, rfl, HI⟩ := hrel
      clear HU be
      by_cases hle : i ≤ s.size
      · have HV := Lib.hid (show uriB s = uR (decide (9 < s.size)) (partL s f i) (s.data.toList.drop i) by rw [HI.out]; unfold uS; rw [if_pos hle])
        clear HI
        have hf0 : (0 : Int) ≤ (f : Int) := by omega
        have hfi' : (f : Int) ≤ (i : Int) := by omega
        have hle' : (i : Int) ≤ (s.size : Int) := by omega
        have hsz : (s.extract f i).size ≤ 9223372036854775807 := by rw [ByteArray.size_extract]; omega
        have hnm := partL_ext s f i hfi hle
        by_cases hlt : i < s.size
        · have hi0 : (0 : Int) ≤ (i : Int) := by omega
          have hi1 : (i : Int) < (s.size : Int) := by omega
          by_cases hc : s[i] = 47
          · have b47 : (((s[i]'hlt).toNat : Int) != 47) = false := by rw [hc]; rfl
            have bie : ((i : Int) == (s.size : Int)) = false := beq_eq_false_iff_ne.2 (by omega)
            cases hn : nameL (partL s f i)
            · have HF := Lib.hid (show uriB s = false by rw [HV.out, drop_one s i hlt, uR, if_pos hc, hn]; rfl)
              rw [hn] at hnm
              clear HV hc hn
              go_wp2_with fail
              refine (name17_any (s.extract f i) hsz w).mono ?_
              rintro e w1 ⟨rfl, rfl⟩
              rw [hnm]
              clear hnm
              go_wp2_with fail
              go_ret
              exact ⟨by rw [HF.out]; rfl, rfl⟩
            · have HN := Lib.hid (show uriB s = uS s (i + 1) (i + 1) by unfold uS; rw [if_pos (by omega), partL_nil, HV.out, drop_one s i hlt, uR, if_pos hc, hn]; rfl)
              rw [hn] at hnm
              clear HV hc hn
              go_wp2_with fail
              refine (name17_any (s.extract f i) hsz w).mono ?_
              rintro e w1 ⟨rfl, rfl⟩
              rw [hnm]
              clear hnm
              go_wp2_with fail
              go_roundw
              case rel => exact ⟨i + 1, i + 1, by go_num, by go_num, by omega, by omega, by omega, by first | rfl | trivial, HN⟩
              case measure => simp [intOf]; omega
          · have b47 : (((s[i]'hlt).toNat : Int) != 47) = true := by
              rw [bne_iff_ne]
              intro h
              apply hc
              apply UInt8.toNat_inj.1
              show _ = 47
              omega
            have HN := Lib.hid (show uriB s = uS s f (i + 1) by unfold uS; rw [if_pos (by omega), HV.out, drop_one s i hlt, uR, if_neg hc, partL_succ s f i hfi hlt])
            clear HV hc hnm
            go_wp2_with fail
            go_roundw
            case rel => exact ⟨i + 1, f, by go_num, rfl, by omega, by omega, by omega, by first | rfl | trivial, HN⟩
            case measure => simp [intOf]; omega
        · have hie : i = s.size := by omega
          subst hie
          have dlt : decide ((s.size : Int) < (s.size : Int)) = false := decide_eq_false (by omega)
          have hd : s.data.toList.drop s.size = [] := List.drop_eq_nil_of_le (by simp)
          by_cases hend : f = s.size ∧ 9 < s.size
          · obtain ⟨hf, h99⟩ := hend
            have HF := Lib.hid (show uriB s = true by rw [HV.out, hd, hf, partL_nil, decide_eq_true h99]; rfl)
            have b1 : ((f : Int) == (s.size : Int)) = true := beq_iff_eq.2 (by omega)
            have b2 : decide ((9 : Int) < (s.size : Int)) = true := decide_eq_true (by omega)
            clear HV hnm hd hf hi hle hfi
            go_wp2_with fail
            go_ret
            exact ⟨by rw [HF.out]; rfl, rfl⟩
          · have HV2 := Lib.hid (show uriB s = nameL (partL s f s.size) by
              rw [HV.out, hd, uR, if_neg]
              simp only [Bool.and_eq_true, List.isEmpty_iff, decide_eq_true_eq]
              rintro ⟨h1, h2⟩
              apply hend
              have h3 := partL_len s f s.size (Nat.le_refl _)
              rw [h1] at h3
              simp at h3
              exact ⟨by omega, h2⟩)
            have b1 : ((f : Int) == (s.size : Int)) = false ∨ (((f : Int) == (s.size : Int)) = true ∧ decide ((9 : Int) < (s.size : Int)) = false) := by
              by_cases h1 : f = s.size
              · exact .inr ⟨beq_iff_eq.2 (by omega), decide_eq_false fun h2 => hend ⟨h1, by omega⟩⟩
              · exact .inl (beq_eq_false_iff_ne.2 (by omega))
            cases hn : nameL (partL s f s.size)
            · have HF := Lib.hid (show uriB s = false by rw [HV2.out, hn])
              rw [hn] at hnm
              clear HV HV2 hn hend hd hi hle
              rcases b1 with b1 | ⟨b1, b2⟩
              all_goals
                go_wp2_with fail
                all_goals
                  refine (name17_any (s.extract f s.size) hsz w).mono ?_
                  rintro e w1 ⟨rfl, rfl⟩
                  rw [hnm]
                  go_wp2_with fail
                  go_ret
                  exact ⟨by rw [HF.out]; rfl, rfl⟩
            · have HN := Lib.hid (show uriB s = uS s (s.size + 1) (s.size + 1) by unfold uS; rw [if_neg (by omega), HV2.out, hn])
              rw [hn] at hnm
              clear HV HV2 hn hend hd hi hle
              rcases b1 with b1 | ⟨b1, b2⟩
              all_goals
                go_wp2_with fail
                all_goals
                  refine (name17_any (s.extract f s.size) hsz w).mono ?_
                  rintro e w1 ⟨rfl, rfl⟩
                  rw [hnm]
                  go_wp2_with fail
                  go_roundw
                  case rel => exact ⟨s.size + 1, s.size + 1, by go_num, by go_num, by omega, by omega, by omega, by first | rfl | trivial, HN⟩
                  case measure => simp [intOf]
      · have HF := Lib.hid (show uriB s = true by rw [HI.out]; unfold uS; rw [if_neg hle])
        clear HI
        go_wp2_with fail
        go_ret
        exact ⟨by rw [HF.out]; rfl, rfl⟩
  · have HF := Lib.hid (uri_other s (by cases hq : Lib.hasPrefix s.data.toList scheme.data.toList with | false => rfl | true => exact absurd ((take8 s (by omega)).2 hq) hp))
    have be : ((s.extract 0 8).toList == [114, 115, 121, 110, 99, 58, 47, 47]) = false := by have h := eqS' (s.extract 0 8) scheme; rw [decide_eq_false hp] at h; rwa [show scheme.toList = [114, 115, 121, 110, 99, 58, 47, 47] by decide +kernel] at h
    clear hp
    go_enter Tryd.func54, Tryd.ntmps54
    go_wp2_with fail
    go_ret
    exact ⟨by rw [HF.out]; rfl, rfl⟩
theorem suffix_last (s : ByteArray) (h : 1 ≤ s.size) : Lib.hasSuffix s.data.toList stroke.data.toList = decide (s[s.size - 1] = 47) := by
  have hl : s.data.toList.length = s.size := by simp
  have hb := byte_getD s (s.size - 1) (by omega)
  have hne : s.data.toList ≠ [] := fun e => by rw [e] at hl; simp at hl; omega
  have e1 : s[s.size - 1] = s.data.toList.getLast hne := by
    rw [hb, List.getLast_eq_getElem, List.getD_eq_getElem?_getD, List.getElem?_eq_getElem (show s.size - 1 < s.data.toList.length by omega)]
    simp [hl]
  rw [e1]
  unfold Lib.hasSuffix
  rw [show stroke.data.toList = [47] from rfl, Bool.eq_iff_iff, List.isSuffixOf_iff_suffix, decide_eq_true_iff]
  generalize s.data.toList = l at hne
  constructor
  · rintro ⟨t, rfl⟩
    simp
  · intro h2
    exact ⟨l.dropLast, by rw [← h2]; exact List.dropLast_concat_getLast hne⟩
set_option maxRecDepth 100000 in
set_option maxHeartbeats 1000000 in
theorem dir20_any (s : ByteArray) (hs : s.size ≤ 9223372036854775800) (w : World) : Calls Tryd.prog 55 #[.string s] w fun e w' => e = .returned (.bool (dirB s)) ∧ w = w' := by
  cases hu : uriB s
  · have HF := Lib.hid (show dirB s = false by unfold dirB; rw [hu]; rfl)
    have HU := Lib.hid hu
    clear hu
    go_enter Tryd.func55, Tryd.ntmps55
    go_wp2_with fail
    refine (uri20_any s hs w).mono ?_
    rintro e w1 ⟨rfl, rfl⟩
    rw [HU.out]
    go_wp2_with fail
    go_ret
    exact ⟨by rw [HF.out]; rfl, rfl⟩
  · have h9 : 9 ≤ s.size := by
      by_cases h : s.size < 9
      · rw [uri_short s h] at hu; cases hu
      · omega
    have HF := Lib.hid (show dirB s = decide (s[s.size - 1] = 47) by unfold dirB; rw [hu, suffix_last s (by omega)]; rfl)
    have HU := Lib.hid hu
    clear hu
    have hk0 : (0 : Int) ≤ (s.size : Int) - 1 := by omega
    have hk1 : (s.size : Int) - 1 < (s.size : Int) := by omega
    have hk2 : ((s.size : Int) - 1).toNat = s.size - 1 := by omega
    by_cases hc : s[s.size - 1] = 47
    · have HF2 := Lib.hid (show dirB s = true by rw [HF.out]; exact decide_eq_true hc)
      have b47 : (((s[s.size - 1]).toNat : Int) == 47) = true := by rw [hc]; rfl
      clear HF hc
      go_enter Tryd.func55, Tryd.ntmps55
      go_wp2_with fail
      refine (uri20_any s hs w).mono ?_
      rintro e w1 ⟨rfl, rfl⟩
      rw [HU.out]
      go_wp2_with fail
      go_ret
      exact ⟨by rw [HF2.out]; rfl, rfl⟩
    · have HF2 := Lib.hid (show dirB s = false by rw [HF.out]; exact decide_eq_false hc)
      have b47 : (((s[s.size - 1]).toNat : Int) == 47) = false := by
        rw [beq_eq_false_iff_ne]
        intro h
        apply hc
        apply UInt8.toNat_inj.1
        show _ = 47
        omega
      clear HF hc
      go_enter Tryd.func55, Tryd.ntmps55
      go_wp2_with fail
      refine (uri20_any s hs w).mono ?_
      rintro e w1 ⟨rfl, rfl⟩
      rw [HU.out]
      go_wp2_with fail
      go_ret
      exact ⟨by rw [HF2.out]; rfl, rfl⟩
end Go.Proofs.YtmoldmnhijcckaaDoor
