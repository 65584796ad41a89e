/- The walk of lanyardlaw27.RouterHas: it returns true. -/
import Derived.Test.YtmoldmnhijcckaaGreatMa50
set_option linter.unusedVariables false
set_option linter.unusedSectionVars false
set_option linter.unusedSimpArgs false
namespace Go.Proofs.YtmoldmnhijcckaaGreat
open Go.RowKit
theorem nodup_len : ∀ {l m : List Vrp}, l.Nodup → (∀ x ∈ l, x ∈ m) → l.length ≤ m.length
  | [], _, _, _ => Nat.zero_le _
  | a :: l, m, hn, hs => by
    have ha := hs a (by simp)
    have h1 := nodup_len (l := l) (m := m.erase a) (List.nodup_cons.1 hn).2 (fun x hx => (List.mem_erase_of_ne (fun e => (List.nodup_cons.1 hn).1 (by rw [← e]; exact hx))).2 (hs x (by simp [hx])))
    rw [List.length_erase_of_mem ha] at h1
    have := List.length_pos_of_mem ha
    rw [List.length_cons]
    omega
theorem MapV.nodup {w : World} {b : Nat} {ks : List Vrp} (h : MapV w b ks) : ks.Nodup := by
  obtain ⟨l, n, _, hE⟩ := h
  exact hE.nd
theorem tab_len {W : World} {g : Nat} {r : RoT} (h : RtA W g r) {q : RoQ} (hq : r.q = q) {ks l : List Vrp} (hk : q.s.h = some (7, ks)) (hm : ∀ x, x ∈ ks ↔ x ∈ l) : ∀ t, r.h = some t → t.ks.length ≤ l.length := fun t ht => by
  have h1 : r.abs.h = some (7, ks) := by rw [← hk, ← hq]; rfl
  have h2 : r.abs.h = some t.abs := by unfold RoT.abs; rw [ht]; rfl
  rw [h2] at h1
  have h3 : t.ks = ks := congrArg Prod.snd (Option.some.inj h1)
  rw [h3]
  exact nodup_len (by rw [← h3]; exact (h.has t ht).m.nodup) (fun x hx => (hm x).1 hx)
theorem tab_none {r : RoT} {q : RoQ} (hq : r.q = q) (hk : q.s.h = none) {N : Nat} : ∀ t, r.h = some t → t.ks.length ≤ N := fun t ht => by
  have h1 : r.abs.h = none := by rw [← hk, ← hq]; rfl
  have h2 : r.abs.h = some t.abs := by unfold RoT.abs; rw [ht]; rfl
  rw [h2] at h1
  cases h1
theorem has_some {r : RoT} {q : RoQ} (hq : r.q = q) {ks l : List Vrp} {sn : UInt32} (hk : q.s.h = some (7, ks)) (hs : q.s.sn = sn) (hm : rowOf ks = l) : hasF r.abs.h r.abs.sn = (l, (sn.toNat : Int), true) := by
  have h1 : r.abs.h = some (7, ks) := by rw [← hk, ← hq]; rfl
  have h2 : r.abs.sn = sn := by rw [← hs, ← hq]; rfl
  rw [h1, h2]
  unfold hasF
  simp only
  rw [hm]
theorem has_none {r : RoT} {q : RoQ} (hq : r.q = q) (hk : q.s.h = none) : hasF r.abs.h r.abs.sn = ([], 0, false) := by
  have h1 : r.abs.h = none := by rw [← hk, ← hq]; rfl
  rw [h1]
  rfl
theorem askQ_left {q : RoQ} (hb : q.b = false) : (askQ q).1.l = [] := by
  unfold askQ
  rw [hb]
  simp only [Bool.false_eq_true, if_false]
  split <;> rfl
/-- What holds between two rows. -/
structure HI (s0 : UInt32) (k : Nat) (st : UInt32 × List (List Vrp × UInt32)) (sc : List SetV) (f : Int → Option Lf) (q : RoQ) : Prop where
  inv : ∃ n, n ≤ k ∧ HasInv s0 n st ∧ RelQ s0 n st.2 q
  abs : absS sc = st.2
  e0 : E0 f
  op : ∃ x, f 0 = some x
  few : st.2.length ≤ 5 ∧ ∀ x ∈ st.2, x.1.length ≤ 60
  b : q.b = false
  l : q.l = []
  ok : q.s.ok
theorem HI.upd {s0 : UInt32} {k : Nat} {st : UInt32 × List (List Vrp × UInt32)} {sc sc' : List SetV} {f : Int → Option Lf} {q : RoQ} (h : HI s0 k st sc f q) (hk : k < 16) (xs : List Vrp) (hx : xs.length ≤ 60) (ha : absS sc' = (mkStep st xs).2) :
    HI s0 (k + 1) (mkStep st xs) sc' f q ∧ ∃ s, (mkStep st xs).2.getLast? = some s ∧ s.1.length ≤ 60 := by
  obtain ⟨n, hn, hI, hR⟩ := h.inv
  obtain ⟨n', hn', hI', hR', s, hs⟩ := hI.step (by omega) xs hR
  have ho := mkStep_ok st xs 60 h.few.1 h.few.2 hx
  exact ⟨⟨⟨n', by omega, hI', hR'⟩, ha, h.e0, h.op, ho, h.b, h.l, h.ok⟩, s, hs, ho.2 s (List.mem_of_getLast? hs)⟩
/-- A question, in whichever parts its answer comes. -/
def SyncQ (s0 : UInt32) (k : Nat) (st : UInt32 × List (List Vrp × UInt32)) (sc : List SetV) (q : RoQ) (s : List Vrp × UInt32) (q1 q' : RoQ) (bs out : List UInt8) : Prop :=
  askQ q = (q1, bs) ∧ bs.length ≤ 232 ∧ q1.l = [] ∧ q1.s.ok ∧ feedF 7 sc [] bs = (out, some []) ∧ out.length ≤ 30000 ∧ takeQ q1 out = (q', 0) ∧
    (∀ f', E0 f' → (∃ x, f' 0 = some x) → HI s0 k st sc f' q') ∧ ((q'.s.h = none ∧ q.s.h ≠ none) ∨ ∃ ks, q'.s.h = some (7, ks) ∧ q'.s.sn = s.2 ∧ (∀ x, x ∈ ks ↔ x ∈ s.1) ∧ rowOf ks = s.1)
theorem HI.sync {s0 : UInt32} {k : Nat} {st : UInt32 × List (List Vrp × UInt32)} {sc : List SetV} {f : Int → Option Lf} {q : RoQ} (h : HI s0 k st sc f q) {s : List Vrp × UInt32} (hs : st.2.getLast? = some s) : ∃ q1 q' bs out, SyncQ s0 k st sc q s q1 q' bs out := by
  obtain ⟨n, hn, hI, hR⟩ := h.inv
  obtain ⟨p, ps, q', h1, h2, h3, h4, h5, h6, h7, h8⟩ := sync_inv hI h.b h.l hR hs
  have h60 := (absS_ok h.abs h.few.1 h.few.2).2
  obtain ⟨hf, ho⟩ := feed_one h.abs h2 h3 h60
  refine ⟨(askQ q).1, q', wrB p, ps.flatMap wrB, by rw [← h1], (wr_bd h2).2, askQ_left h.b, ok_ask h.ok, hf, ho, h4, fun f' hE hO => ⟨⟨n, hn, hI, h7⟩, h.abs, hE, hO, h.few, h5, h6, ?_⟩, h8⟩
  have := ok_takeQ (ok_ask h.ok) (ps.flatMap wrB)
  rw [h4] at this
  exact this
theorem upd_stepF {w w' : World} {lo g b : Nat} {sess : Int} {serial : UInt32} {v : Value} {ss : List SetV} {f : Int → Option Lf} {many : Int} {xs : List Vrp} {e : Ending} {st : UInt32 × List (List Vrp × UInt32)} (hst : (serial, absS ss) = st) (h : UpdPostF w lo g b sess serial v ss f many (rowOf xs) e w') :
    ∃ r v' ss', e = .returned (.tuple #[.bool r, .int .i64 0]) ∧ CA w' lo g b sess (mkStep st xs).1 v' ss' f many ∧ absS ss' = (mkStep st xs).2 ∧ LoS lo g w w' := by
  subst hst
  obtain ⟨h1, hb⟩ := h
  rcases h1 with ⟨he, rfl, hC⟩ | ⟨he, rfl, v', ss', hs, hC⟩
  · have e2 : (absS ss).getLast?.map Prod.fst = some (rowOf xs) := (absS_last ss).trans he
    refine ⟨_, v, ss, rfl, ?_, ?_, hb⟩
    · unfold mkStep; rw [if_pos e2]; exact hC
    · unfold mkStep; rw [if_pos e2]
  · have e2 : ¬ (absS ss).getLast?.map Prod.fst = some (rowOf xs) := by rw [absS_last ss]; exact he
    refine ⟨_, v', ss', rfl, ?_, ?_, hb⟩
    · unfold mkStep; rw [if_neg e2]; exact hC
    · unfold mkStep; rw [if_neg e2]; exact hs
def ivZ (z : Int) : Value := .int .i64 z
theorem ivZ_at {w W : World} {zs : List Int} {n B : Nat} {ad : Addr} (h : Reads w B 1 (some ad) n (zs.map ivZ)) (hb : Below B w W) {k : Nat} (hk : k < zs.length) (hn : zs.length = n) : W.cell? (ad.add k) = some (.int .i64 zs[k]) := by
  have h2 := h.below hb (Nat.le_refl _)
  obtain ⟨ad', e, _, hc⟩ := h2.2 (by omega)
  cases e
  exact hc k _ (by rw [List.getElem?_map, List.getElem?_eq_getElem hk]; rfl)
theorem last_abs {sc : List SetV} {l : List (List Vrp × UInt32)} {s : List Vrp × UInt32} (ha : absS sc = l) (hs : l.getLast? = some s) : sc ≠ [] ∧ ∀ sv, sc.getLast? = some sv → sv.l = s.1 ∧ sv.sn = s.2 := by
  subst ha
  refine ⟨fun e => (by subst e; cases hs), fun sv hv => ?_⟩
  unfold absS at hs
  rw [List.getLast?_map, hv] at hs
  have := Option.some.inj hs
  rw [← this]
  exact ⟨rfl, rfl⟩
set_option maxRecDepth 100000 in
set_option maxHeartbeats 2000000 in
theorem routerHas_far (w : World) (xs : List SL) (A : Option Addr) (c : Nat) (s0 : UInt32) (zs : List Int) (A2 : Option Addr) (c2 : Nat) (h : ¬ xs.length ≤ 16) :
    Calls Tryz.prog 5 #[.slice A xs.length c, .int .u32 s0.toNat, .slice A2 zs.length c2] w fun e w' => e = .returned (.bool true) ∧ Below w.heap.size w w' := by
  have d1 : decide ((16 : Int) < (xs.length : Int)) = true := decide_eq_true (by omega)
  have d1' : decide (16 < xs.length) = true := decide_eq_true (by omega)
  go_enter Tryz.func5, Tryz.ntmps5
  go_wp2_with fail
  refine (awake27_any w).mono ?_
  rintro e w1 ⟨rfl, hb1⟩
  go_wp2_with fail
  refine (snew_any 7 s0 (by omega) (by omega) w1).mono ?_
  rintro e w2 ⟨gc, bc, rfl, hC, hb2⟩
  replace hb2 := below_then hb1 (Nat.le_refl _) hb2
  clear hb1 hC
  go_wp2_with fail
  refine (rnew_any w2).mono ?_
  rintro e w3 ⟨rfl, hAy, hb3⟩
  replace hb3 := below_then hb2 (Nat.le_refl _) hb3
  clear hb2 hAy
  go_wp2_with fail
  go_ret
  exact ⟨rfl, hb3⟩
set_option maxRecDepth 100000 in
set_option maxHeartbeats 8000000 in
theorem routerHas_near (w : World) (xs : List SL) (A : Option Addr) (c B : Nat) (hc : xs.length ≤ c) (hm : c ≤ maxLen) (hr : Reads w B 1 A xs.length (xs.map SL.val)) (hrx : ∀ x ∈ xs, x.l.length ≤ x.c ∧ x.c ≤ maxLen ∧ Reads w B 20 x.A x.l.length (x.l.flatMap Vrp.cells))
    (s0 : UInt32) (zs : List Int) (A2 : Option Addr) (c2 : Nat) (hc2 : zs.length ≤ c2) (hm2 : c2 ≤ maxLen) (hr2 : Reads w B 1 A2 zs.length (zs.map ivZ)) (hB : B ≤ w.heap.size) (h : xs.length ≤ 16) :
    Calls Tryz.prog 5 #[.slice A xs.length c, .int .u32 s0.toNat, .slice A2 zs.length c2] w fun e w' => e = .returned (.bool true) ∧ Below w.heap.size w w' := by
  have d1 : decide ((16 : Int) < (xs.length : Int)) = false := decide_eq_false (by omega)
  have d1' : decide (16 < xs.length) = false := decide_eq_false (by omega)
  go_enter Tryz.func5, Tryz.ntmps5
  go_wp2_with fail
  refine (awake27_any w).mono ?_
  rintro e w1 ⟨rfl, hb1⟩
  go_wp2_with fail
  refine (snew_any 7 s0 (by omega) (by omega) w1).mono ?_
  rintro e w2 ⟨gc, bc, rfl, hC, hb2⟩
  go_wp2_with fail
  refine (rnew_any w2).mono ?_
  rintro e w3 ⟨rfl, hAy, hb3⟩
  have hCR : CR w w1.heap.size gc bc s0 (.slice none 0 0) [] (fun _ => none) 0 w2.heap.size RoT.zero w3 := by
    have f2 := below_then hb1 (Nat.le_refl _) hb2
    exact ⟨hC.next hb3, hAy, below_then f2 (Nat.le_refl _) hb3, hb1.size, f2.size, fun t ht => by rcases ht with h | h <;> cases h⟩
  generalize w1.heap.size = lc at hCR
  generalize w2.heap.size = gr at hCR ⊢
  clear hb1 hb2 hb3 hC hAy
  go_wp2_with fail
  clear d1 d1'
  refine (open_any w3 _ _ _ _ _ _ _ _ _ hCR.c (by omega) (by omega)).mono ?_
  rintro e w4 ⟨rfl, hO, hF⟩
  replace hCR := hCR.stepC rfl hO hF
  have hE : E0 (fun k => if k = (0 : Int) then some ⟨none, 0, []⟩ else (none : Option Lf)) := fun k x hx => by
    dsimp only at hx
    split at hx
    · cases hx; rfl
    · cases hx
  have hX : ∃ x, (fun k => if k = (0 : Int) then some ⟨none, 0, []⟩ else (none : Option Lf)) 0 = some x := ⟨_, rfl⟩
  generalize (fun k => if k = (0 : Int) then some ⟨none, 0, []⟩ else (none : Option Lf)) = f0 at hCR hE hX
  have HI0 : Hid (HI s0 0 (s0, []) [] f0 RoT.zero.q) := Lib.hid ⟨⟨0, Nat.le_refl _, HasInv.start s0, .inl rfl⟩, rfl, hE, hX, ⟨by simp, fun x hx => absurd hx (by simp)⟩, rfl, rfl, zero_ok⟩
  clear hO hF hE hX
  rw [show (0 : Int) + 1 = 1 from rfl] at hCR
  go_wp2_with fail
  go_loopw [12] (fun i W => ∃ (k : Nat) (vc : Value) (sc : List SetV) (f : Int → Option Lf) (r : RoT) (st : UInt32 × List (List Vrp × UInt32)), k ≤ xs.length ∧ i = .int .i64 k ∧ CR w lc gc bc st.1 vc sc f 1 gr r W ∧ Hid (HI s0 k st sc f r.q)) (fun i _ => xs.length - (intOf i).toNat)
  case atStart => exact ⟨0, _, _, _, _, (s0, []), by omega, rfl, hCR, HI0⟩
  case round =>
    clear hCR HI0
    obtain ⟨k, vc, sc, f, r, st, hk, rfl, hC, HI⟩ := hrel
    by_cases hlt : k < xs.length
    · obtain ⟨ad, rfl, _, _⟩ := hr.2 (by omega)
      have hk0 : (0 : Int) ≤ (k : Int) := by omega
      have hk1 : (k : Int) < (xs.length : Int) := by omega
      have hatf : ∀ W, Below w.heap.size w W → W.cell? (ad.add k) = some (.slice xs[k].A xs[k].l.length xs[k].c) := fun W hW => sl_at hr hB rfl (hW.mono hB) hlt
      have hrx0 := (hrx _ (List.getElem_mem hlt)).2.2
      generalize xs[k] = x at hatf hrx0
      have hat := hatf _ hC.f
      by_cases h60 : x.l.length ≤ 60
      · have d60 : decide ((60 : Int) < (x.l.length : Int)) = false := decide_eq_false (by omega)
        have d60' : decide (60 < x.l.length) = false := decide_eq_false (by omega)
        obtain ⟨h5, hs6⟩ := absS_ok HI.out.abs HI.out.few.1 HI.out.few.2
        have HST := Lib.hid (show (st.1, absS sc) = st by rw [HI.out.abs])
        go_wp2_with fail
        refine (updateF_any x.l _ rfl x.A x.c B (by omega) wr lc gc bc 7 st.1 vc sc f HI.out.e0 1 hC.c h5 (fun s hs => by have := hs6 s hs; omega) (by have := hC.f.size; omega) (hrx0.below hC.f hB)).mono ?_
        rintro e w5 hU
        obtain ⟨rb, vc5, sc5, rfl, hC5, ha5, hL5⟩ := upd_stepF HST.out hU
        obtain ⟨hI5, s, hs, hs60⟩ := HI.out.upd (by omega) x.l h60 ha5
        replace hC := hC.stepU HI.out.l hC5 hL5
        replace HI := Lib.hid hI5
        have HS := Lib.hid hs
        clear hU hC5 ha5 hL5 hI5 hs hat hatf hrx0 HST h5 hs6 d60 d60' h60
        obtain ⟨h5', hs6'⟩ := absS_ok HI.out.abs HI.out.few.1 HI.out.few.2
        generalize mkStep st x.l = st5 at hC HI HS
        by_cases hck : k < zs.length
        · obtain ⟨ad2, rfl, _, _⟩ := hr2.2 (by omega)
          have hzf : ∀ W, Below w.heap.size w W → W.cell? (ad2.add k) = some (.int .i64 zs[k]) := fun W hW => ivZ_at hr2 (hW.mono hB) hck rfl
          have hk2 : (k : Int) < (zs.length : Int) := by omega
          have d2 : decide ((zs.length : Int) ≤ (k : Int)) = false := decide_eq_false (by omega)
          have d2' : decide (zs.length ≤ k) = false := decide_eq_false (by omega)
          generalize zs[k] = z at hzf
          have hat := hzf _ hC.f
          by_cases hz0 : z < 0
          · have dz : decide (z < 0) = true := decide_eq_true hz0
            go_wp2_with fail
            go_roundw
            case rel => exact ⟨k + 1, vc5, sc5, f, r, st5, by omega, by go_num, hC, HI⟩
            case measure => simp [intOf]; omega
          · obtain ⟨n, rfl⟩ : ∃ n : Nat, z = n := ⟨z.toNat, by omega⟩
            have dz : decide ((n : Int) < 0) = false := decide_eq_false hz0
            obtain ⟨q1, q2, bs, out, hSQ⟩ := HI.out.sync HS.out
            have HSQ := Lib.hid hSQ
            obtain ⟨x0, hx0⟩ := HI.out.op
            have HX0 := Lib.hid hx0
            clear hSQ hx0
            go_wp2_with fail
            refine (sync_any w _ lc gc bc _ _ _ _ _ gr r n hC HI.out.e0 x0 HX0.out q1 q2 bs out _ _ rfl rfl HSQ.out.1 HSQ.out.2.1 HSQ.out.2.2.1 HSQ.out.2.2.2.1 HSQ.out.2.2.2.2.1 HSQ.out.2.2.2.2.2.1 HSQ.out.2.2.2.2.2.2.1 h5' hs6').mono ?_
            rintro e w6 ⟨f6, r6, rfl, hC6, hE6, hX6, hq6⟩
            have HQ := Lib.hid hq6
            have hI6 := HSQ.out.2.2.2.2.2.2.2.1 f6 hE6 hX6
            rw [← hq6] at hI6
            replace HI := Lib.hid hI6
            clear hC
            have hC := hC6
            have hat := hzf _ hC.f
            rcases HSQ.out.2.2.2.2.2.2.2.2 with ⟨hn0, hn1⟩ | ⟨ks, hks⟩
            · have HN0 := Lib.hid hn0
              clear hC6 hE6 hX6 hq6 hI6 hn0 hn1 HSQ HX0
              go_wp2_with fail
              refine (rhas_any _ gr _ hC.rt (tab_none HQ.out HN0.out)).mono ?_
              rintro e w7 hP
              obtain ⟨Aa, ca, rfl, hoa, hba⟩ := has_g hP
              rw [has_none HQ.out HN0.out] at hoa ⊢
              simp only at hoa ⊢
              replace hC := hC.next hba
              clear hP hba hoa hat
              have hat := hzf _ hC.f
              obtain ⟨q3, q4, bs4, out4, hSQ⟩ := HI.out.sync HS.out
              have HSQ := Lib.hid hSQ
              obtain ⟨x0, hx0⟩ := HI.out.op
              have HX0 := Lib.hid hx0
              clear hSQ hx0
              go_wp2_with fail
              refine (sync_any w _ lc gc bc _ _ _ _ _ gr r6 n hC HI.out.e0 x0 HX0.out q3 q4 bs4 out4 _ _ rfl rfl HSQ.out.1 HSQ.out.2.1 HSQ.out.2.2.1 HSQ.out.2.2.2.1 HSQ.out.2.2.2.2.1 HSQ.out.2.2.2.2.2.1 HSQ.out.2.2.2.2.2.2.1 h5' hs6').mono ?_
              rintro e w8 ⟨f8, r8, rfl, hC8, hE8, hX8, hq8⟩
              have HQ' := Lib.hid hq8
              have hI8 := HSQ.out.2.2.2.2.2.2.2.1 f8 hE8 hX8
              rw [← hq8] at hI8
              have hks := HSQ.out.2.2.2.2.2.2.2.2.resolve_left (fun hh => hh.2 (by rw [HQ.out]; exact HN0.out))
              obtain ⟨ks, hks'⟩ := hks
              clear HQ HI
              have HQ := HQ'
              have HI := Lib.hid hI8
              have HK := Lib.hid hks'
              clear hC
              have hC := hC8
              clear hC8 hE8 hX8 hq8 hI8 hks' HSQ HX0 HQ' HN0 hat
              go_wp2_with fail
              refine (rhas_any _ gr _ hC.rt (fun t ht => Nat.le_trans (tab_len hC.rt HQ.out HK.out.1 HK.out.2.2.1 t ht) (by omega))).mono ?_
              rintro e wa hP
              obtain ⟨Aa, ca, rfl, hoa, hba⟩ := has_g hP
              rw [has_some HQ.out HK.out.1 HK.out.2.1 HK.out.2.2.2] at hoa ⊢
              simp only at hoa ⊢
              replace hC := hC.next hba
              clear hP hba
              go_wp2_with fail
              refine (now_any wa lc gc bc 7 _ _ _ _ 1 hC.c (by omega) (fun s hs => by have := hs6' s hs; omega)).mono ?_
              rintro e wb ⟨hN, hbb⟩
              replace hC := hC.next hbb
              replace hoa := own_below hoa hbb
              obtain ⟨sv, An, cn, hgl, rfl, hon⟩ : ∃ sv A c, sc5.getLast? = some sv ∧ e = .returned (.tuple #[.slice A sv.l.length c, .int .u32 sv.sn.toNat, .bool true]) ∧ wb.ownsRow wa.heap.size 67 20 (.slice A sv.l.length c) sv.l.length (sv.l.flatMap Vrp.cells) := hN.resolve_left (fun h => (last_abs HI.out.abs HS.out).1 h.1)
              obtain ⟨hv1, hv2⟩ := (last_abs HI.out.abs HS.out).2 sv hgl
              rw [hv1] at hon ⊢
              rw [hv2]
              clear hN hbb hgl hv1 hv2
              go_wp2_with fail
              refine (samev_any s.1 s.1 (by omega) Aa An ca cn _ _ wb (Nat.le_refl _) (Nat.le_refl _) (Reads.of_own hoa) (Reads.of_own hon)).mono ?_
              rintro e wc ⟨rfl, hbc⟩
              rw [show decide (s.1 = s.1) = true from decide_eq_true rfl]
              replace hC := hC.next hbc
              clear hoa hon hbc HS
              go_wp2_with fail
              go_roundw
              case rel => exact ⟨k + 1, vc5, sc5, f8, r8, st5, by omega, by go_num, hC, HI⟩
              case measure => simp [intOf]; omega
            · have HK := Lib.hid hks
              clear hC6 hE6 hX6 hq6 hI6 hks HSQ HX0
              go_wp2_with fail
              refine (rhas_any _ gr _ hC.rt (fun t ht => Nat.le_trans (tab_len hC.rt HQ.out HK.out.1 HK.out.2.2.1 t ht) (by omega))).mono ?_
              rintro e w7 hP
              obtain ⟨Aa, ca, rfl, hoa, hba⟩ := has_g hP
              rw [has_some HQ.out HK.out.1 HK.out.2.1 HK.out.2.2.2] at hoa ⊢
              simp only at hoa ⊢
              replace hC := hC.next hba
              clear hP hba hoa hat
              go_wp2_with fail
              refine (rhas_any _ gr _ hC.rt (fun t ht => Nat.le_trans (tab_len hC.rt HQ.out HK.out.1 HK.out.2.2.1 t ht) (by omega))).mono ?_
              rintro e wa hP
              obtain ⟨Aa, ca, rfl, hoa, hba⟩ := has_g hP
              rw [has_some HQ.out HK.out.1 HK.out.2.1 HK.out.2.2.2] at hoa ⊢
              simp only at hoa ⊢
              replace hC := hC.next hba
              clear hP hba
              go_wp2_with fail
              refine (now_any wa lc gc bc 7 _ _ _ _ 1 hC.c (by omega) (fun s hs => by have := hs6' s hs; omega)).mono ?_
              rintro e wb ⟨hN, hbb⟩
              replace hC := hC.next hbb
              replace hoa := own_below hoa hbb
              obtain ⟨sv, An, cn, hgl, rfl, hon⟩ : ∃ sv A c, sc5.getLast? = some sv ∧ e = .returned (.tuple #[.slice A sv.l.length c, .int .u32 sv.sn.toNat, .bool true]) ∧ wb.ownsRow wa.heap.size 67 20 (.slice A sv.l.length c) sv.l.length (sv.l.flatMap Vrp.cells) := hN.resolve_left (fun h => (last_abs HI.out.abs HS.out).1 h.1)
              obtain ⟨hv1, hv2⟩ := (last_abs HI.out.abs HS.out).2 sv hgl
              rw [hv1] at hon ⊢
              rw [hv2]
              clear hN hbb hgl hv1 hv2
              go_wp2_with fail
              refine (samev_any s.1 s.1 (by omega) Aa An ca cn _ _ wb (Nat.le_refl _) (Nat.le_refl _) (Reads.of_own hoa) (Reads.of_own hon)).mono ?_
              rintro e wc ⟨rfl, hbc⟩
              rw [show decide (s.1 = s.1) = true from decide_eq_true rfl]
              replace hC := hC.next hbc
              clear hoa hon hbc HS
              go_wp2_with fail
              go_roundw
              case rel => exact ⟨k + 1, vc5, sc5, f6, r6, st5, by omega, by go_num, hC, HI⟩
              case measure => simp [intOf]; omega
        · have d2 : decide ((zs.length : Int) ≤ (k : Int)) = true := decide_eq_true (by omega)
          have d2' : decide (zs.length ≤ k) = true := decide_eq_true (by omega)
          go_wp2_with fail
          go_roundw
          case rel => exact ⟨k + 1, vc5, sc5, f, r, st5, by omega, by go_num, hC, HI⟩
          case measure => simp [intOf]; omega
      · have d60 : decide ((60 : Int) < (x.l.length : Int)) = true := decide_eq_true (by omega)
        have d60' : decide (60 < x.l.length) = true := decide_eq_true (by omega)
        have hfin := hC.f
        clear hC HI hatf hrx0
        go_wp2_with fail
        go_ret
        exact ⟨rfl, hfin⟩
    · have hfin := hC.f
      have hke : k = xs.length := by omega
      subst hke
      clear hC HI
      go_wp2_with fail
      go_ret
      exact ⟨rfl, hfin⟩
theorem routerHas_any (w : World) (xs : List SL) (A : Option Addr) (c B : Nat) (hc : xs.length ≤ c) (hm : c ≤ maxLen) (hr : Reads w B 1 A xs.length (xs.map SL.val)) (hrx : ∀ x ∈ xs, x.l.length ≤ x.c ∧ x.c ≤ maxLen ∧ Reads w B 20 x.A x.l.length (x.l.flatMap Vrp.cells))
    (s0 : UInt32) (zs : List Int) (A2 : Option Addr) (c2 B2 : Nat) (hc2 : zs.length ≤ c2) (hm2 : c2 ≤ maxLen) (hr2 : Reads w B2 1 A2 zs.length (zs.map ivZ)) (hB : B ≤ w.heap.size) (hB2 : B2 ≤ w.heap.size) :
    Calls Tryz.prog 5 #[.slice A xs.length c, .int .u32 s0.toNat, .slice A2 zs.length c2] w fun e w' => e = .returned (.bool true) ∧ Below w.heap.size w w' := by
  by_cases h : xs.length ≤ 16
  · exact routerHas_near w xs A c w.heap.size hc hm (hr.more hB) (fun x hx => ⟨(hrx x hx).1, (hrx x hx).2.1, (hrx x hx).2.2.more hB⟩) s0 zs A2 c2 hc2 hm2 (hr2.more hB2) (Nat.le_refl _) h
  · exact routerHas_far w xs A c s0 zs A2 c2 h
end Go.Proofs.YtmoldmnhijcckaaGreat
