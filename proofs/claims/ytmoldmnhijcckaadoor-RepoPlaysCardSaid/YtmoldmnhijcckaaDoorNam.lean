/- The contracts of manifest.Name, tal.Uri and tal.Dir. -/
import Derived.Test.YtmoldmnhijcckaaDoorShelf
import Derived.Test.YtmoldmnhijcckaaDoorCut
import Derived.Lib.Strings
import Derived.Lib.SplitLaws
set_option linter.unusedVariables false
set_option linter.unusedSectionVars false
set_option linter.unusedSimpArgs false
namespace Go.Proofs.YtmoldmnhijcckaaDoor
open Go.RowKit
/-- May a byte stand in a name? -/
def signB (c : UInt8) : Bool := decide (97 ≤ c.toNat ∧ c.toNat ≤ 122) || decide (48 ≤ c.toNat ∧ c.toNat ≤ 57) || decide (c.toNat = 45) || decide (c.toNat = 95) || decide (c.toNat = 46)
/-- May a text be a name? -/
def nameB (s : ByteArray) : Bool := decide (s.size ≠ 0) && decide (s.size ≤ 60) && !decide ((s.data.toList.getD 0 0).toNat = 46) && s.data.toList.all signB
theorem byte_getD (s : ByteArray) (k : Nat) (h : k < s.size) : s[k] = s.data.toList.getD k 0 := by
  have h2 : k < s.data.toList.length := by simpa using h
  simp [List.getD_eq_getElem?_getD, List.getElem?_eq_getElem h2]
  rfl
set_option maxRecDepth 100000 in
set_option maxHeartbeats 2000000 in
theorem name_any (s : ByteArray) (w : World) : Calls Tryd.prog 85 #[.string s] w fun e w' => e = .returned (.bool (nameB s)) ∧ w = w' := by
  by_cases h0 : s.size = 0
  · obtain rfl : s = ⟨#[]⟩ := by
      apply ByteArray.ext
      exact Array.eq_empty_of_size_eq_zero h0
    go_enter Tryd.func85, Tryd.ntmps85
    go_wp2
    go_ret
    exact ⟨by rw [show nameB ⟨#[]⟩ = false by decide]; rfl, rfl⟩
  have hemp : s.toList.isEmpty = false := by
    rw [← decide_eq_emptyBytes]
    exact decide_eq_false (fun h => h0 (by rw [h]; rfl))
  have h1 : 0 < s.size := by omega
  by_cases h60 : s.size ≤ 60
  · have HS := Lib.hid (byte_getD s 0 h1)
    by_cases hd : (s[0]'h1).toNat = 46
    · have HF := Lib.hid (show nameB s = false by unfold nameB; rw [← byte_getD s 0 h1, hd]; simp)
      have b1 : ((s[0]'h1).toNat : Int) = 46 := by omega
      go_enter Tryd.func85, Tryd.ntmps85
      go_wp2
      go_ret
      exact ⟨by rw [HF.out]; rfl, rfl⟩
    · have HA := Lib.hid (show nameB s = s.data.toList.all signB by unfold nameB; rw [← byte_getD s 0 h1]; simp [h0, h60, hd])
      have b1 : (((s[0]'h1).toNat : Int) == 46) = false := beq_eq_false_iff_ne.2 (by omega)
      have d60 : decide ((60 : Int) < (s.size : Int)) = false := decide_eq_false (by omega)
      have hl : s.data.toList.length = s.size := by simp
      go_enter Tryd.func85, Tryd.ntmps85
      go_wp2_with fail
      clear b1 hd hemp h0
      go_loop [3, 4, 19] (fun v3 v4 vi => ∃ k : Nat, vi = .int .i64 k ∧ k ≤ s.size ∧ Hid (s.data.toList.all signB = (s.data.toList.drop k).all signB)) (fun _ _ vi => s.size - (intOf vi).toNat)
      case atStart => exact ⟨0, rfl, by omega, Lib.hid rfl⟩
      case round =>
        obtain ⟨k, rfl, hk, HE⟩ := hrel
        by_cases hkn : k < s.size
        · have hk0 : (0 : Int) ≤ (k : Int) := by omega
          have hk1 : (k : Int) < (s.size : Int) := by omega
          have hdrop : s.data.toList.drop k = s.data.toList.getD k 0 :: s.data.toList.drop (k + 1) := by
            rw [List.drop_eq_getElem_cons (show k < s.data.toList.length by omega)]
            simp [List.getD_eq_getElem?_getD, List.getElem?_eq_getElem (show k < s.data.toList.length by omega)]
          have hb := byte_getD s k hkn
          have HD := Lib.hid (show s.data.toList.all signB = (signB s[k] && (s.data.toList.drop (k + 1)).all signB) by rw [HE.out, hdrop, List.all_cons, hb])
          clear HE hdrop hb
          cases hsg : signB (s[k]'hkn)
          · have HF := Lib.hid (show nameB s = false by rw [HA.out, HD.out, hsg]; rfl)
            unfold signB at hsg
            simp only [Bool.or_eq_false_iff, decide_eq_false_iff_not] at hsg
            have h3 : ((s[k]'hkn).toNat < 45) ∨ (s[k]'hkn).toNat = 47 ∨ (57 < (s[k]'hkn).toNat ∧ (s[k]'hkn).toNat < 95) ∨ (s[k]'hkn).toNat = 96 ∨ 122 < (s[k]'hkn).toNat := by omega
            clear hsg HD
            rcases h3 with h3 | h3 | ⟨h3, h4⟩ | h3 | h3
            all_goals
              go_wp2
              go_ret
              exact ⟨by rw [HF.out]; rfl, rfl⟩
          · have HN := Lib.hid (show s.data.toList.all signB = (s.data.toList.drop (k + 1)).all signB by rw [HD.out, hsg]; rfl)
            unfold signB at hsg
            simp only [Bool.or_eq_true, decide_eq_true_eq] at hsg
            clear HD
            rcases hsg with (((⟨h3, h4⟩ | ⟨h3, h4⟩) | h3) | h3) | h3
            all_goals
              go_wp2
              refine ⟨⟨k + 1, (by first | rfl | (congr 1; omega)), by omega, HN⟩, by simp [intOf]; omega⟩
        · have hkk : k = s.size := by omega
          subst hkk
          have HF := Lib.hid (show nameB s = true by rw [HA.out, HE.out, List.drop_eq_nil_of_le (by omega)]; rfl)
          go_wp2
          go_ret
          exact ⟨by rw [HF.out]; rfl, rfl⟩
  · have HF := Lib.hid (show nameB s = false by unfold nameB; simp [h60])
    have d1 : decide ((60 : Int) < (s.size : Int)) = true := decide_eq_true (by omega)
    go_enter Tryd.func85, Tryd.ntmps85
    go_wp2
    go_ret
    exact ⟨by rw [HF.out]; rfl, rfl⟩
def scheme : ByteArray := ⟨#[114, 115, 121, 110, 99, 58, 47, 47]⟩
def stroke : ByteArray := ⟨#[47]⟩
def restB (s : ByteArray) : ByteArray := ⟨(Lib.trimPrefix s.data.toList scheme.data.toList).toArray⟩
def bareB (s : ByteArray) : ByteArray := ⟨(Lib.trimSuffix (restB s).data.toList stroke.data.toList).toArray⟩
def partsB (t : ByteArray) : List ByteArray := Lib.splitB stroke 0 (Lib.countB t stroke) t
/-- May a text be a place? And one with others within? -/
def uriB (s : ByteArray) : Bool := Lib.hasPrefix s.data.toList scheme.data.toList && decide (s.size ≤ 200) && (partsB (bareB s)).all nameB
def dirB (s : ByteArray) : Bool := uriB s && Lib.hasSuffix s.data.toList stroke.data.toList
theorem partsB_len (t : ByteArray) : (partsB t).length = Lib.countB t stroke + 1 := Lib.splitB_all stroke (by decide) 0 _ t rfl
theorem partsB_le (t : ByteArray) : (partsB t).length ≤ t.size + 1 := by
  rw [partsB_len]
  have := Lib.countB_le stroke (by decide) _ t (Nat.le_refl _)
  omega
theorem trimPrefix_le (s p : List UInt8) : (Lib.trimPrefix s p).length ≤ s.length := by unfold Lib.trimPrefix; split <;> simp
theorem trimSuffix_le (s p : List UInt8) : (Lib.trimSuffix s p).length ≤ s.length := by unfold Lib.trimSuffix; split <;> simp
theorem restB_le (s : ByteArray) : (restB s).size ≤ s.size := trimPrefix_le s.data.toList scheme.data.toList
theorem bareB_le (s : ByteArray) : (bareB s).size ≤ s.size := Nat.le_trans (trimSuffix_le (restB s).data.toList stroke.data.toList) (restB_le s)
theorem cutp_any (s p : ByteArray) (w : World) : Calls Tryd.prog 51 #[.string s, .string p] w fun e w' => e = .returned (.tuple #[.string ⟨(Lib.trimPrefix s.data.toList p.data.toList).toArray⟩, .bool (Lib.hasPrefix s.data.toList p.data.toList)]) ∧ w = w' :=
  (Tryd.strings_CutPrefix s p w).mono fun e w' ⟨he, hw⟩ => ⟨he, hw.symm⟩
theorem trims_any (s p : ByteArray) (w : World) (hs : s.size ≤ 9223372036854775807) : Calls Tryd.prog 84 #[.string s, .string p] w fun e w' => e = .returned (.string ⟨(Lib.trimSuffix s.data.toList p.data.toList).toArray⟩) ∧ w = w' :=
  (Tryd.strings_TrimSuffix s p w hs).mono fun e w' ⟨he, hw⟩ => ⟨he, hw.symm⟩
theorem hass_any (s p : ByteArray) (w : World) (hs : s.size ≤ 9223372036854775807) : Calls Tryd.prog 86 #[.string s, .string p] w fun e w' => e = .returned (.bool (Lib.hasSuffix s.data.toList p.data.toList)) ∧ w = w' :=
  (Tryd.strings_HasSuffix s p w hs).mono fun e w' ⟨he, hw⟩ => ⟨he, hw.symm⟩
structure US (w : World) (xs : List ByteArray) (W : World) : Prop where
  s : Blk W w.heap.size 9 (xs.map Value.string)
  lo : Below w.heap.size w W
set_option maxRecDepth 100000 in
set_option maxHeartbeats 2000000 in
theorem uri_any (s : ByteArray) (m : Int) (w : World) (h0 : 0 < w.heap.size) (hm : w.cell? ⟨0, 0, none⟩ = some (.int .i64 m)) :
    Calls Tryd.prog 47 #[.string s] w fun e w' => e = .returned (.bool (uriB s)) ∧ Below w.heap.size w w' := by
  have hlo := Below.refl w.heap.size w
  have HU := Lib.hid (show uriB s = (Lib.hasPrefix s.data.toList scheme.data.toList && decide (s.size ≤ 200) && (partsB (bareB s)).all nameB) from rfl)
  cases hp : Lib.hasPrefix s.data.toList scheme.data.toList
  · have HF := Lib.hid (show uriB s = false by rw [HU.out, hp]; rfl)
    have HP := Lib.hid hp
    clear hp
    go_enter Tryd.func47, Tryd.ntmps47
    go_wp2_with (go_at_call 51; refine (cutp_any s scheme _).mono ?_; rintro e w1 ⟨rfl, rfl⟩; rw [HP.out])
    go_ret
    exact ⟨by rw [HF.out]; rfl, hlo⟩
  have HP := Lib.hid hp
  by_cases h200 : s.size ≤ 200
  · have HA := Lib.hid (show uriB s = (partsB (bareB s)).all nameB by rw [HU.out, hp]; simp [h200])
    have d200 : decide ((200 : Int) < (s.size : Int)) = false := decide_eq_false (by omega)
    have hb1 := restB_le s
    have hb2 := bareB_le s
    have hst : US w (partsB (bareB s)) (w.alloc (.cells ((partsB (bareB s)).map Value.string).toArray 9)) := ⟨Blk.new _ _ _, hlo.alloc (Nat.le_refl _) _⟩
    have hlen := partsB_len (bareB s)
    have hlen2 := partsB_le (bareB s)
    have HB := Lib.hid (show (⟨(Lib.trimSuffix (restB s).data.toList stroke.data.toList).toArray⟩ : ByteArray) = bareB s from rfl)
    have HR := Lib.hid (show (⟨(Lib.trimPrefix s.data.toList scheme.data.toList).toArray⟩ : ByteArray) = restB s from rfl)
    have HPT := Lib.hid (show Lib.splitB stroke 0 (Lib.countB (bareB s) stroke) (bareB s) = partsB (bareB s) from rfl)
    clear hp
    generalize restB s = r at HB HR hb1
    generalize bareB s = b at HA HB HPT hb2 hst hlen hlen2
    generalize partsB b = xs at HA HPT hst hlen hlen2
    go_enter Tryd.func47, Tryd.ntmps47
    go_wp2_with (first | (go_at_call 51; refine (cutp_any s scheme _).mono ?_; rintro e w1 ⟨rfl, rfl⟩; rw [HP.out, HR.out]) | (go_at_call 84; refine (trims_any r stroke _ (by omega)).mono ?_; rintro e w1 ⟨rfl, rfl⟩; rw [HB.out]) | (go_at_call 83; refine (Tryd.strings_Split b stroke m _ (by omega) hm (by decide)).mono ?_; rw [HPT.out, ← hlen]; rintro e w1 ⟨rfl, rfl⟩))
    clear hm h0 d200
    go_loopw [6, 23] (fun v6 i wr => ∃ k : Nat, k ≤ xs.length ∧ i = .int .i64 k ∧ US w xs wr ∧ Hid (xs.all nameB = (xs.drop k).all nameB)) (fun _ i _ => xs.length - (intOf i).toNat)
    case atStart => exact ⟨0, by omega, rfl, hst, Lib.hid rfl⟩
    case round =>
      clear hst
      obtain ⟨k, hk, rfl, hS, HE⟩ := hrel
      by_cases hkn : k < xs.length
      · have hk0 : (0 : Int) ≤ (k : Int) := by omega
        have hk1 : (k : Int) < (xs.length : Int) := by omega
        have hdrop : xs.drop k = xs[k] :: xs.drop (k + 1) := List.drop_eq_getElem_cons hkn
        have HD := Lib.hid (show xs.all nameB = (nameB xs[k] && (xs.drop (k + 1)).all nameB) by rw [HE.out, hdrop, List.all_cons])
        have c1 := hS.s.cell k
        rw [show (xs.map Value.string)[k]? = some (.string xs[k]) by simp [hkn]] at c1
        clear hdrop HE
        generalize xs[k] = x at HD c1
        cases hx : nameB x
        · have HF := Lib.hid (show uriB s = false by rw [HA.out, HD.out, hx]; rfl)
          have HX := Lib.hid hx
          clear hx
          go_wp2_with (go_at_call 85; refine (name_any x _).mono ?_; rintro e w1 ⟨rfl, rfl⟩; rw [HX.out])
          go_ret
          exact ⟨by rw [HF.out]; rfl, hS.lo⟩
        · have HN := Lib.hid (show xs.all nameB = (xs.drop (k + 1)).all nameB by rw [HD.out, hx]; rfl)
          have HX := Lib.hid hx
          clear hx
          go_wp2_with (go_at_call 85; refine (name_any x _).mono ?_; rintro e w1 ⟨rfl, rfl⟩; rw [HX.out])
          go_roundw
          case rel => exact ⟨k + 1, by omega, by go_num, hS, HN⟩
          case measure => simp [intOf]; omega
      · have hkk : k = xs.length := by omega
        subst hkk
        have HF := Lib.hid (show uriB s = true by rw [HA.out, HE.out, List.drop_eq_nil_of_le (by omega)]; rfl)
        go_wp2_with fail
        go_ret
        exact ⟨by rw [HF.out]; rfl, hS.lo⟩
  · have HF := Lib.hid (show uriB s = false by rw [HU.out]; simp [h200])
    have d200 : decide ((200 : Int) < (s.size : Int)) = true := decide_eq_true (by omega)
    clear hp
    go_enter Tryd.func47, Tryd.ntmps47
    go_wp2_with (go_at_call 51; refine (cutp_any s scheme _).mono ?_; rintro e w1 ⟨rfl, rfl⟩; rw [HP.out])
    go_ret
    exact ⟨by rw [HF.out]; rfl, hlo⟩
set_option maxHeartbeats 1000000 in
theorem dir_any (s : ByteArray) (hs : s.size ≤ 9223372036854775807) (m : Int) (w : World) (h0 : 0 < w.heap.size) (hm : w.cell? ⟨0, 0, none⟩ = some (.int .i64 m)) :
    Calls Tryd.prog 48 #[.string s] w fun e w' => e = .returned (.bool (dirB s)) ∧ Below w.heap.size w w' := by
  cases hu : uriB s
  · have HF := Lib.hid (show dirB s = false by unfold dirB; rw [hu]; rfl)
    have HU := Lib.hid hu
    clear hu
    go_enter Tryd.func48, Tryd.ntmps48
    go_wp2_with fail
    refine (uri_any s m _ h0 hm).mono ?_
    rintro e w1 ⟨rfl, hb⟩
    rw [HU.out]
    go_wp2_with fail
    go_ret
    exact ⟨by rw [HF.out]; rfl, hb⟩
  · have HF := Lib.hid (show dirB s = Lib.hasSuffix s.data.toList stroke.data.toList by unfold dirB; rw [hu]; rfl)
    have HU := Lib.hid hu
    clear hu
    go_enter Tryd.func48, Tryd.ntmps48
    go_wp2_with fail
    refine (uri_any s m _ h0 hm).mono ?_
    rintro e w1 ⟨rfl, hb⟩
    rw [HU.out]
    go_wp2_with fail
    refine (hass_any s stroke _ hs).mono ?_
    rintro e w2 ⟨rfl, rfl⟩
    rw [← HF.out]
    go_wp2_with fail
    go_ret
    exact ⟨rfl, hb⟩
end Go.Proofs.YtmoldmnhijcckaaDoor
