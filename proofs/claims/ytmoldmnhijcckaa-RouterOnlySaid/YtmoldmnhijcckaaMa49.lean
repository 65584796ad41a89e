/- lanyardlaw26.few, made: a cache that had some rows. -/
import Derived.Test.YtmoldmnhijcckaaMa48
set_option linter.unusedVariables false
set_option linter.unusedSectionVars false
set_option linter.unusedSimpArgs false
namespace Go.Proofs.Ytmoldmnhijcckaa
open Go.RowKit
/-- A row that came in as an element of a list. -/
structure SL where
  A : Option Addr
  c : Nat
  l : List Vrp
def SL.val (x : SL) : Value := .slice x.A x.l.length x.c
instance : Inhabited SL := ⟨⟨none, 0, []⟩⟩
theorem sl_at {w W : World} {xs : List SL} {n B : Nat} {ad : Addr} (h : Reads w B 1 (some ad) n (xs.map SL.val)) (hB : B ≤ w.heap.size) (hn : xs.length = n) (hb : Below B w W) {k : Nat} (hk : k < xs.length) : W.cell? (ad.add k) = some (.slice xs[k].A xs[k].l.length xs[k].c) := by
  have h2 := h.below hb (Nat.le_refl _)
  obtain ⟨ad', e, _, hc⟩ := h2.2 (by omega)
  cases e
  exact hc k _ (by rw [List.getElem?_map, List.getElem?_eq_getElem hk]; rfl)
set_option maxRecDepth 100000 in
set_option maxHeartbeats 1000000 in
theorem few_any (xs : List SL) (n : Nat) (hn : xs.length = n) (A : Option Addr) (c B : Nat) (hc : n ≤ 9223372036854775807) (w : World) (hB : B ≤ w.heap.size) (hr : Reads w B 1 A n (xs.map SL.val)) (hlen : ∀ x ∈ xs, x.l.length ≤ 9223372036854775807) :
    Calls Try.prog 29 #[.slice A n c] w fun e w' => ∃ r, e = .returned (.bool r) ∧ (r = true → n ≤ 12 ∧ ∀ x ∈ xs, x.l.length ≤ 60) ∧ Below w.heap.size w w' := by
  subst hn
  have hlo := Below.refl w.heap.size w
  go_enter Try.func29, Try.ntmps29
  go_wp2_with fail
  go_loopw [3] (fun i W => ∃ k : Nat, k ≤ xs.length ∧ k ≤ 20 ∧ i = .int .i64 k ∧ Below w.heap.size w W ∧ Hid (∀ t (h : t < xs.length), t < k → xs[t].l.length ≤ 60)) (fun i _ => 20 - (intOf i).toNat)
  case atStart => exact ⟨0, by omega, by omega, rfl, hlo, Lib.hid fun t _ h => by omega⟩
  case round =>
    clear hlo
    obtain ⟨k, hk, hk20, rfl, hlo, HT⟩ := hrel
    by_cases hlt : k < xs.length
    · by_cases h20 : k < 20
      · obtain ⟨ad, rfl, _, _⟩ := hr.2 (by omega)
        have hk0 : (0 : Int) ≤ (k : Int) := by omega
        have hk1 : (k : Int) < (xs.length : Int) := by omega
        have hk2 : (k : Int) < 20 := by omega
        have hat := sl_at hr hB rfl (hlo.mono hB) hlt
        by_cases h60 : xs[k].l.length ≤ 60
        · have d60 : decide ((60 : Int) < (xs[k].l.length : Int)) = false := decide_eq_false (by omega)
          have HN := Lib.hid (show ∀ t (h : t < xs.length), t < k + 1 → xs[t].l.length ≤ 60 from fun t h1 h2 => by
            by_cases h3 : t = k
            · subst h3; exact h60
            · exact HT.out t h1 (by omega))
          clear h60 HT
          go_wp2_with fail
          go_roundw
          case rel => exact ⟨k + 1, by omega, by omega, by go_num, hlo, HN⟩
          case measure => simp [intOf]; omega
        · have d60 : decide ((60 : Int) < (xs[k].l.length : Int)) = true := decide_eq_true (by omega)
          clear h60 HT
          go_wp2_with fail
          go_ret
          exact ⟨_, rfl, (fun h => by cases h), hlo⟩
      · have hk2 : decide ((k : Int) < 20) = false := decide_eq_false (by omega)
        have hk1 : (k : Int) < (xs.length : Int) := by omega
        have d12 : decide ((xs.length : Int) ≤ 12) = false := decide_eq_false (by omega)
        clear h20 HT
        go_wp2_with fail
        go_ret
        exact ⟨_, rfl, (fun h => by cases h), hlo⟩
    · have hkk : k = xs.length := by omega
      subst hkk
      have HF := Lib.hid (show ∀ x ∈ xs, x.l.length ≤ 60 from fun x hx => by
        obtain ⟨t, ht, rfl⟩ := List.getElem_of_mem hx
        exact HT.out t ht ht)
      have hk1 : decide ((xs.length : Int) < (xs.length : Int)) = false := decide_eq_false (by omega)
      by_cases h12 : xs.length ≤ 12
      · have d12 : decide ((xs.length : Int) ≤ 12) = true := decide_eq_true (by omega)
        clear hlt hk hk20 HT
        go_wp2_with fail
        go_ret
        exact ⟨_, rfl, fun _ => ⟨h12, HF.out⟩, hlo⟩
      · have d12 : decide ((xs.length : Int) ≤ 12) = false := decide_eq_false (by omega)
        clear hlt hk hk20 HT
        go_wp2_with fail
        go_ret
        exact ⟨_, rfl, (fun h => by cases h), hlo⟩
/-- A cache's serial and its sets behind another row. -/
def mkStep (st : UInt32 × List (List Vrp × UInt32)) (xs : List Vrp) : UInt32 × List (List Vrp × UInt32) :=
  if st.2.getLast?.map Prod.fst = some (rowOf xs) then st else (st.1 + 1, updS (st.2 ++ [(rowOf xs, st.1 + 1)]))
def mkF (xss : List (List Vrp)) : UInt32 × List (List Vrp × UInt32) := xss.foldl mkStep (9, [])
theorem absS_last (ss : List SetV) : (absS ss).getLast?.map Prod.fst = ss.getLast?.map SetV.l := by
  unfold absS
  rw [List.getLast?_map, Option.map_map]
  rfl
theorem updS_len (l : List (List Vrp × UInt32)) (h : l.length ≤ 6) : (updS l).length ≤ 5 := by
  unfold updS
  split
  · rw [List.length_drop]; omega
  · omega
theorem updS_mem {l : List (List Vrp × UInt32)} {x} (h : x ∈ updS l) : x ∈ l := by
  unfold updS at h
  split at h
  · exact List.mem_of_mem_drop h
  · exact h
theorem mkStep_ok (st : UInt32 × List (List Vrp × UInt32)) (xs : List Vrp) (M : Nat) (h5 : st.2.length ≤ 5) (hm : ∀ x ∈ st.2, x.1.length ≤ M) (hx : xs.length ≤ M) : (mkStep st xs).2.length ≤ 5 ∧ ∀ x ∈ (mkStep st xs).2, x.1.length ≤ M := by
  unfold mkStep
  split
  · exact ⟨h5, hm⟩
  · refine ⟨updS_len _ (by simp; omega), fun x hx2 => ?_⟩
    rcases List.mem_append.1 (updS_mem hx2) with h | h
    · exact hm x h
    · rw [List.mem_singleton] at h
      subst h
      exact Nat.le_trans (rowOf_len xs) hx
theorem upd_step {w w' : World} {lo g b : Nat} {sess : Int} {serial : UInt32} {v : Value} {ss : List SetV} {many : Int} {xs : List Vrp} {e : Ending} (h : UpdPost w lo g b sess serial v ss many (rowOf xs) e w') :
    ∃ r v' ss', e = .returned (.tuple #[.bool r, .int .i64 0]) ∧ CA w' lo g b sess (mkStep (serial, absS ss) xs).1 v' ss' noLf many ∧ absS ss' = (mkStep (serial, absS ss) xs).2 ∧ r = decide ((absS ss).getLast?.map Prod.fst ≠ some (rowOf xs)) ∧ Below lo w w' := by
  obtain ⟨h1, hb⟩ := h
  rcases h1 with ⟨he, rfl, hC⟩ | ⟨he, rfl, v', ss', hs, hC⟩
  · have e2 : (absS ss).getLast?.map Prod.fst = some (rowOf xs) := (absS_last ss).trans he
    refine ⟨_, v, ss, rfl, ?_, ?_, ?_, hb⟩
    · unfold mkStep; rw [if_pos e2]; exact hC
    · unfold mkStep; rw [if_pos e2]
    · simp [e2]
  · have e2 : ¬ (absS ss).getLast?.map Prod.fst = some (rowOf xs) := by rw [absS_last ss]; exact he
    refine ⟨_, v', ss', rfl, ?_, ?_, ?_, hb⟩
    · unfold mkStep; rw [if_neg e2]; exact hC
    · unfold mkStep; rw [if_neg e2]; exact hs
    · simp [e2]
theorem mkF_snoc (xs : List SL) (k : Nat) (h : k < xs.length) : mkF ((xs.take (k + 1)).map SL.l) = mkStep (mkF ((xs.take k).map SL.l)) xs[k].l := by
  unfold mkF
  rw [List.take_succ_eq_append_getElem h, List.map_append, List.foldl_append]
  rfl
def MadePost (w : World) (st : UInt32 × List (List Vrp × UInt32)) (e : Ending) (w' : World) : Prop :=
  ∃ g b v ss, e = .returned (.pointer (some ⟨g, 0, none⟩)) ∧ CA w' w.heap.size g b 7 st.1 v ss noLf 0 ∧ absS ss = st.2 ∧ ss.length ≤ 5 ∧ (∀ s ∈ ss, s.l.length ≤ 60) ∧ Below w.heap.size w w'
theorem absS_ok {ss : List SetV} {l : List (List Vrp × UInt32)} (h : absS ss = l) (h5 : l.length ≤ 5) {M : Nat} (hm : ∀ x ∈ l, x.1.length ≤ M) : ss.length ≤ 5 ∧ ∀ s ∈ ss, s.l.length ≤ M := by
  subst h
  rw [absS_len] at h5
  exact ⟨h5, fun s hs => hm (s.l, s.sn) (List.mem_map.2 ⟨s, hs, rfl⟩)⟩
set_option maxRecDepth 100000 in
set_option maxHeartbeats 2000000 in
theorem made_any (xs : List SL) (n : Nat) (hn : xs.length = n) (A : Option Addr) (c B : Nat) (hc : n ≤ 9223372036854775807) (w : World) (hB : B ≤ w.heap.size) (hr : Reads w B 1 A n (xs.map SL.val)) (h60 : ∀ x ∈ xs, x.l.length ≤ 60) (hrs : ∀ x ∈ xs, Reads w B 20 x.A x.l.length (x.l.flatMap Vrp.cells)) :
    Calls Try.prog 30 #[.slice A n c] w (MadePost w (mkF (xs.map SL.l))) := by
  subst hn
  go_enter Try.func30, Try.ntmps30
  go_wp2_with fail
  refine (snew_any 7 9 (by omega) (by omega) w).mono ?_
  rintro e w1 ⟨g, b, rfl, hC, hlo⟩
  go_wp2_with fail
  go_loopw [5] (fun i W => ∃ (k : Nat) (v : Value) (ss : List SetV) (st : UInt32 × List (List Vrp × UInt32)), k ≤ xs.length ∧ i = .int .i64 k ∧ CA W w.heap.size g b 7 st.1 v ss noLf 0 ∧ Below w.heap.size w W ∧ Hid (st = mkF ((xs.take k).map SL.l)) ∧ Hid (absS ss = st.2) ∧ Hid (st.2.length ≤ 5 ∧ ∀ x ∈ st.2, x.1.length ≤ 60)) (fun i _ => xs.length - (intOf i).toNat)
  case atStart => exact ⟨0, _, [], (9, []), by omega, rfl, hC, hlo, Lib.hid rfl, Lib.hid rfl, Lib.hid ⟨by simp, fun x hx => absurd hx (by simp)⟩⟩
  case round =>
    clear hlo hC
    obtain ⟨k, v, ss, st, hk, rfl, hC, hlo, HS, HA, HO⟩ := hrel
    by_cases hlt : k < xs.length
    · obtain ⟨ad, rfl, _, _⟩ := hr.2 (by omega)
      have hk0 : (0 : Int) ≤ (k : Int) := by omega
      have hk1 : (k : Int) < (xs.length : Int) := by omega
      have hat := sl_at hr hB rfl (hlo.mono hB) hlt
      have hmem : xs[k] ∈ xs := List.getElem_mem hlt
      have hx60 := h60 _ hmem
      have hrk := (hrs _ hmem).below hlo hB
      obtain ⟨h5, hs6⟩ := absS_ok HA.out HO.out.1 HO.out.2
      have HN := Lib.hid (mkF_snoc xs k hlt)
      generalize xs[k] = x at hat hx60 hrk HN
      clear hmem
      go_wp2_with fail
      refine (update_any x.l _ rfl x.A x.c B (by omega) wr w.heap.size g b 7 st.1 v ss 0 hC h5 (fun s hs => by have := hs6 s hs; omega) (by have := hlo.size; omega) hrk).mono ?_
      rintro e w2 hU
      obtain ⟨r, v', ss', rfl, hC2, ha, _, hb2⟩ := upd_step hU
      rw [HA.out] at hC2 ha
      have HS2 := Lib.hid (show mkStep (st.1, st.2) x.l = mkF ((xs.take (k + 1)).map SL.l) by rw [HN.out, ← HS.out])
      have HO2 := Lib.hid (mkStep_ok (st.1, st.2) x.l 60 HO.out.1 HO.out.2 hx60)
      have HA2 := Lib.hid ha
      replace hlo := hlo.trans hb2
      clear hU hC ha hb2 HS HO HN HA h5 hs6 hat hrk hx60
      go_wp2_with fail
      go_roundw
      case rel => exact ⟨k + 1, v', ss', _, by omega, by go_num, hC2, hlo, HS2, HA2, HO2⟩
      case measure => simp [intOf]; omega
    · have hkk : k = xs.length := by omega
      subst hkk
      have hk1 : decide ((xs.length : Int) < (xs.length : Int)) = false := decide_eq_false (by omega)
      obtain ⟨h5, hs6⟩ := absS_ok HA.out HO.out.1 HO.out.2
      have HQ := Lib.hid (show ss.length ≤ 5 ∧ ∀ s ∈ ss, s.l.length ≤ 60 from ⟨h5, hs6⟩)
      clear hlt hk h5 hs6 HO
      go_wp2_with fail
      go_ret
      have e1 : st = mkF (xs.map SL.l) := by rw [HS.out, List.take_length]
      subst e1
      exact ⟨g, b, v, ss, rfl, hC, HA.out, HQ.out.1, HQ.out.2, hlo⟩
end Go.Proofs.Ytmoldmnhijcckaa
