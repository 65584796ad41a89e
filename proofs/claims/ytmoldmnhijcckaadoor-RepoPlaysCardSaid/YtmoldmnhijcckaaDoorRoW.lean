/- The walk of lanyardlaw21.RepoOnly: it returns true. -/
import Derived.Test.YtmoldmnhijcckaaDoorRoP
set_option linter.unusedVariables false
set_option linter.unusedSectionVars false
set_option linter.unusedSimpArgs false
namespace Go.Proofs.YtmoldmnhijcckaaDoor
open Go.RowKit
/-- Two repos, apart. -/
structure TS (w : World) (L g b1 b2 L' g' b1' b2' : Nat) (es es2 : List Blb) (ks ks2 : List ByteArray) (W : World) : Prop where
  R : RepoAt W L g b1 b2 es ks
  S : RepoAt W L' g' b1' b2' es2 ks2
  ap : ∀ v v', W.cell? ⟨g, 2, none⟩ = some v → W.cell? ⟨g', 2, none⟩ = some v' → ∀ k, v.ownBlock = some k → v'.ownBlock ≠ some k
  lo : Below w.heap.size w W
  hL : w.heap.size ≤ L
  hL' : w.heap.size ≤ L'
  hg : g < L'
theorem TS.get1 {w W W' : World} {L g b1 b2 L' g' b1' b2' : Nat} {es es2 : List Blb} {ks ks2 : List ByteArray} (h : TS w L g b1 b2 L' g' b1' b2' es es2 ks ks2 W) {u : ByteArray} {e : Ending} (hp : GetPost W L g b1 b2 es ks u e W') :
    ∃ A c bs is, e = .returned (.tuple #[.slice A bs.length c, .bool is]) ∧ getK es u = (if is then some bs else none) ∧ (is = false → bs = []) ∧ W'.ownsRow W.heap.size 5 1 (.slice A bs.length c) bs.length (bs.map bv) ∧ TS w L g b1 b2 L' g' b1' b2' es es2 (askF ks u) ks2 W' := by
  obtain ⟨A, c, bs, is, rfl, h1, h2, h3, hR, hfr, hoff⟩ := hp
  have l1 := h.S.l1
  have l2 := h.S.l2
  have l3 := h.S.l3
  have m2 := h.R.l2
  have m3 := h.R.l3
  have hgL := h.hg
  obtain ⟨hS, hc⟩ := RepoAt.fr h.S h.R hfr (by refine ⟨?_, ?_, ?_, ?_, ?_, ?_⟩ <;> omega) fun v v' hv hv' k hk e => h.ap v' v hv' hv k e hk
  refine ⟨A, c, bs, is, rfl, h1, h2, h3, hR, hS, fun v v' hv hv' k hk e => ?_, h.lo.trans (hfr.lo.mono h.hL), h.hL, h.hL', h.hg⟩
  rw [hc] at hv'
  obtain ⟨vs, hBs, hos⟩ := h.S.blk
  have e1 : v' = vs := by
    have := hBs.cell 2
    rw [hv'] at this
    simpa using this
  subst e1
  exact hoff k (own_base_le hos k e).2 (fun v0 hv0 e0 => h.ap v0 v' hv0 hv' k e0 e) v hv hk
theorem TS.get2 {w W W' : World} {L g b1 b2 L' g' b1' b2' : Nat} {es es2 : List Blb} {ks ks2 : List ByteArray} (h : TS w L g b1 b2 L' g' b1' b2' es es2 ks ks2 W) {u : ByteArray} {e : Ending} (hp : GetPost W L' g' b1' b2' es2 ks2 u e W') :
    ∃ A c bs is, e = .returned (.tuple #[.slice A bs.length c, .bool is]) ∧ getK es2 u = (if is then some bs else none) ∧ (is = false → bs = []) ∧ W'.ownsRow W.heap.size 5 1 (.slice A bs.length c) bs.length (bs.map bv) ∧ TS w L g b1 b2 L' g' b1' b2' es es2 ks (askF ks2 u) W' ∧
      ∀ base n v x, W.ownsRow base 5 1 v n x → W'.ownsRow base 5 1 v n x := by
  obtain ⟨A, c, bs, is, rfl, h1, h2, h3, hS, hfr, hoff⟩ := hp
  have l1 := h.S.l1
  have l2 := h.S.l2
  have l3 := h.S.l3
  have m2 := h.R.l2
  have m3 := h.R.l3
  have hgL := h.hg
  obtain ⟨hR, hc⟩ := RepoAt.fr h.R h.S hfr (by refine ⟨?_, ?_, ?_, ?_, ?_, ?_⟩ <;> omega) h.ap
  obtain ⟨vs, hBs, hos⟩ := h.S.blk
  refine ⟨A, c, bs, is, rfl, h1, h2, h3, ⟨hR, hS, fun v v' hv hv' k hk e => ?_, h.lo.trans (hfr.lo.mono h.hL'), h.hL, h.hL', h.hg⟩, fun base n v x hv => own_kept hv fun k hk => hfr.keep k (own_base_le hv k hk).2 ?_⟩
  · rw [hc] at hv
    obtain ⟨vr, hBr, hor⟩ := h.R.blk
    have e1 : v = vr := by
      have := hBr.cell 2
      rw [hv] at this
      simpa using this
    subst e1
    exact hoff k (own_base_le hor k hk).2 (fun v0 hv0 e0 => h.ap v v0 hv hv0 k hk e0) v' hv' e
  · rintro (e | e | ⟨v', hv', e⟩)
    · subst e; exact own_blk_ne hv hBs (by decide) hk
    · subst e; exact own_ne_map hv h.S.m2 hk
    · have e1 : v' = vs := by
        have := hBs.cell 2
        rw [hv'] at this
        simpa using this
      subst e1
      exact own_own_ne hv hos (by decide) k hk e
set_option maxRecDepth 100000 in
set_option maxHeartbeats 8000000 in
theorem rpOnly_any (xs : List Blb) (A : Option Addr) (c : Nat) (qs : List ByteArray) (A' : Option Addr) (c' : Nat) (m : Int) (w : World) (hp : LawPre w m A c xs) (hqr : Reads w w.heap.size 1 A' qs.length (qs.map Value.string)) :
    Calls Tryd.prog 6 #[.slice A xs.length c, .slice A' qs.length c'] w fun e w' => e = .returned (.bool true) ∧ Below w.heap.size w w' := by
  go_enter Tryd.func6, Tryd.ntmps6
  go_wp2_with fail
  refine (awake21_any m _ hp.h0 hp.hm).mono ?_
  rintro e w1 ⟨rfl, hlo⟩
  go_wp2_with fail
  refine (light_any xs A c hp.hc hp.hn (fun x hx => (hp.hf x hx).2) w1 ((hp.hr.below hlo (Nat.le_refl _)).more hlo.size)).mono ?_
  rintro e w2 ⟨rfl, hb⟩
  replace hlo := below_then hlo (Nat.le_refl _) hb
  clear hb
  cases hl : lightB xs
  · go_wp2_with fail
    go_ret
    exact ⟨rfl, hlo⟩
  by_cases h60 : qs.length ≤ 60
  · have d60 : decide ((60 : Int) < (qs.length : Int)) = false := decide_eq_false (by omega)
    have hpre := hp.new hlo hl
    have HL := Lib.hid hl
    clear hl
    go_wp2_with fail
    clear d60
    refine (new_any xs A c hp.hc m w2 hpre).mono ?_
    rintro e w3 ⟨hnp, hb⟩
    clear hpre
    have hlo3 := below_then hlo (Nat.le_refl _) hb
    unfold NewPost at hnp
    cases hok : (xs.all goodB && !largeB xs)
    · rw [hok] at hnp
      simp only [Bool.false_eq_true, if_false] at hnp
      obtain rfl := hnp
      cases xs.all goodB
      · go_wp2_with fail
        go_ret
        exact ⟨rfl, hlo3⟩
      · go_wp2_with fail
        go_ret
        exact ⟨rfl, hlo3⟩
    · rw [hok] at hnp
      simp only [if_true] at hnp
      obtain ⟨g, b1, b2, es, rfl, hR, hes⟩ := hnp
      have HOK := Lib.hid hok
      have HES := Lib.hid hes
      have hesl : es.length ≤ xs.length := by
        have h1 := congrArg List.length hes
        rw [List.length_map] at h1
        have h2 := firstsOf_len xs
        omega
      have hL := hlo.size
      have hx60 := (light_fine HL.out).1
      clear hok hes hb hlo
      go_wp2_with fail
      go_loopw [9] (fun i wr => ∃ k : Nat, k ≤ qs.length ∧ i = .int .i64 k ∧ RepoAt wr w2.heap.size g b1 b2 es (ksOf (qs.take k)) ∧ Below w.heap.size w wr) (fun i _ => qs.length - (intOf i).toNat)
      case atStart => exact ⟨0, by omega, rfl, hR, hlo3⟩
      case round =>
        clear hR hlo3
        obtain ⟨k, hk, rfl, hR, hlo⟩ := hrel
        by_cases hlt : k < qs.length
        · have hk0 : (0 : Int) ≤ (k : Int) := by omega
          have hk1 : (k : Int) < (qs.length : Int) := by omega
          obtain ⟨ad, rfl, _, _⟩ := hqr.2 (by omega)
          have c1 := reads_str hqr hlo hlt
          have HT := Lib.hid (show ksOf (qs.take (k + 1)) = askF (ksOf (qs.take k)) qs[k] by rw [List.take_succ_eq_append_getElem hlt, ksOf_snoc])
          have hkl : (ksOf (qs.take k)).length ≤ 1000000 := by have := len_ksOf (qs.take k); rw [List.length_take] at this; omega
          generalize qs[k] = u at c1 HT
          go_wp2_with fail
          refine (get_any u wr _ g b1 b2 es _ hR hkl).mono ?_
          rintro e w5 hg
          obtain ⟨A2, c2, bs, is, rfl, _, _, _, hR5, hfr, _⟩ := hg
          have hlo5 := hlo.trans (hfr.lo.mono hL)
          clear hfr hR hlo c1
          go_wp2_with fail
          go_roundw
          case rel => exact ⟨k + 1, by omega, by go_num, by rw [HT.out]; exact hR5, hlo5⟩
          case measure => simp [intOf]; omega
        · have hkk : k = qs.length := by omega
          subst hkk
          rw [List.take_length] at hR
          have hkl : (ksOf qs).length ≤ 1000000 := by have := len_ksOf qs; omega
          clear hlt hk
          go_wp2_with fail
          refine (only_any wr _ g b1 b2 es _ hR hkl).mono ?_
          rintro e w5 ⟨A4, c4, ys, rfl, hyo, hyb, hys, hb⟩
          have hR5 := hR.next hb
          have hlo5 := below_then hlo (Nat.le_refl _) hb
          have hyl : ys.length ≤ es.length := by
            have h1 := congrArg List.length hys
            rw [List.length_map] at h1
            have h2 := only_len (es := es) (nodup_ksOf qs)
            omega
          have hyx : ∀ y ∈ ys, ∃ x ∈ xs, x.u = y.u ∧ x.bs = y.bs := fun y hy => by
            have h1 : (y.u, y.bs) ∈ onlyF es (ksOf qs) := by rw [← hys]; exact List.mem_map.2 ⟨y, hy, rfl⟩
            obtain ⟨_, e, he, h2, h3⟩ := only_mem h1
            obtain ⟨x, hx, h4⟩ := firstsOf_mem xs (e.u, e.bs) (by rw [← HES.out]; exact List.mem_map.2 ⟨e, he, rfl⟩)
            exact ⟨x, hx, (congrArg Prod.fst h4).symm.trans h2, (congrArg Prod.snd h4).symm.trans h3⟩
          have hpre2 : NewPre w5 m A4 ys := by
            refine ⟨(hp.var hlo5).1, (hp.var hlo5).2, Reads.of_own hyo, fun y hy => ⟨Reads.of_own (hyb y hy).1, ?_, (hyb y hy).2⟩, by omega⟩
            obtain ⟨x, hx, h1, _⟩ := hyx y hy
            have := (light_fine HL.out).2 x hx
            rw [← h1]
            omega
          have hok2 : (ys.all goodB && !largeB ys) = true := by
            have h1 := HOK.out
            simp only [Bool.and_eq_true, Bool.not_eq_true'] at h1
            have h3 := h1.2
            unfold largeB at h3 ⊢
            simp only [Bool.or_eq_false_iff] at h3
            have h4 : ys.all goodB = true := List.all_eq_true.2 fun y hy => by
              obtain ⟨x, hx, h5, _⟩ := hyx y hy
              have := List.all_eq_true.1 h1.1 x hx
              unfold goodB at this ⊢
              rw [← h5]
              exact this
            have h5 : decide (400 < ys.length) = false := decide_eq_false (by omega)
            have h6 : (ys.any fun b => decide (20000 < b.bs.length)) = false := by
              rw [List.any_eq_false]
              intro y hy
              obtain ⟨x, hx, _, h7⟩ := hyx y hy
              have := List.any_eq_false.1 h3.2 x hx
              rw [← h7]
              exact this
            rw [h4, h5, h6]
            rfl
          go_wp2_with fail
          refine (new_any ys A4 c4 (own_cap hyo) m w5 hpre2).mono ?_
          rintro e w6 ⟨hnp, hb6⟩
          unfold NewPost at hnp
          rw [hok2] at hnp
          simp only [if_true] at hnp
          obtain ⟨g', b1', b2', es2, rfl, hS6, hes2⟩ := hnp
          have HGG := Lib.hid (show ∀ u ∈ qs, getK es2 u = getK es u from fun u hu => by
            rw [getK_F es2, hes2, getF_firsts, hys, getF_only es u (ksOf qs) ((mem_ksOf qs u).2 hu)])
          have hR6 := hR5.next hb6
          have hlo6 := below_then hlo5 (Nat.le_refl _) hb6
          have hT : TS w w2.heap.size g b1 b2 w5.heap.size g' b1' b2' es es2 (ksOf qs) [] w6 := by
            refine ⟨hR6, hS6, fun v v' hv hv' k hk e => ?_, hlo6, hL, hlo5.size, by have := hR5.gsize; omega⟩
            obtain ⟨vr, hBr, hor⟩ := hR5.blk
            have e2 := hb6.cell (p := ⟨g, 2, none⟩) hBr.lt
            rw [hv, hBr.cell 2] at e2
            obtain rfl : v = vr := by simpa using e2
            obtain ⟨vs, hBs, hos⟩ := hS6.blk
            have e3 := hBs.cell 2
            rw [hv'] at e3
            obtain rfl : v' = vs := by simpa using e3
            have h1 := (own_base_le hor k hk).2
            have h2 := (own_base_le hos k e).1
            have h3 := hS6.l1
            have h4 := hS6.l2
            have h5 := hS6.l3
            omega
          have dlen : decide (xs.length < ys.length) = false := decide_eq_false (by omega)
          clear hpre2 hok2 hes2 hb6 hR6 hlo6 hS6 hR5 hlo5 hb hR hlo hyo hyb hys hyx hyl
          go_wp2_with fail
          clear dlen
          go_loopw [13, 14, 15, 16, 17] (fun i v14 v15 v16 v17 wr => ∃ (k : Nat) (ks2 : List ByteArray), k ≤ qs.length ∧ i = .int .i64 k ∧ ks2.length ≤ k ∧ TS w w2.heap.size g b1 b2 w5.heap.size g' b1' b2' es es2 (ksOf qs) ks2 wr) (fun i _ _ _ _ _ => qs.length - (intOf i).toNat)
          case atStart => exact ⟨0, [], by omega, rfl, by simp, hT⟩
          case round =>
            clear hT
            obtain ⟨k, ks2, hk, rfl, hks, hT⟩ := hrel
            by_cases hlt : k < qs.length
            · have hk0 : (0 : Int) ≤ (k : Int) := by omega
              have hk1 : (k : Int) < (qs.length : Int) := by omega
              obtain ⟨ad, rfl, _, _⟩ := hqr.2 (by omega)
              have hrd : ∀ W, Below w.heap.size w W → W.cell? (ad.add k) = some (.string qs[k]) := fun W hW => reads_str hqr hW hlt
              have hmem : qs[k] ∈ qs := List.getElem_mem hlt
              have HAS := Lib.hid (show askF (ksOf qs) qs[k] = ksOf qs from askF_same ((mem_ksOf qs _).2 hmem))
              have HGU := Lib.hid (HGG.out qs[k] hmem)
              generalize qs[k] = u at hrd HAS HGU
              have c1 := hrd _ hT.lo
              clear hmem
              go_wp2_with fail
              refine (get_any u wr _ g b1 b2 es _ hT.R hkl).mono ?_
              rintro e w7 hg
              obtain ⟨A7, c7, bs7, is7, rfl, hk7, hn7, ho7, hT7⟩ := hT.get1 hg
              rw [HAS.out] at hT7
              clear hg hT c1
              have c1 := hrd _ hT7.lo
              go_wp2_with fail
              refine (get_any u w7 _ g' b1' b2' es2 ks2 hT7.S (by omega)).mono ?_
              rintro e w8 hg
              obtain ⟨A8, c8, bs8, is8, rfl, hk8, hn8, ho8, hT8, hkeep⟩ := hT7.get2 hg
              have ho7' := hkeep _ _ _ _ ho7
              have hkl2 := askF_len ks2 u
              have hbs : bs7 = bs8 ∧ is7 = is8 := by
                rw [HGU.out, hk7] at hk8
                cases is7 <;> cases is8 <;> simp at hk8 hn7 hn8 ⊢
                · exact hn7.trans hn8.symm
                · exact hk8
              obtain ⟨rfl, rfl⟩ := hbs
              have hcv7 := conv_own ho7'
              have hcv8 := conv_own ho8
              clear hg hkeep ho7 ho8 ho7' hT7 c1 hk7 hk8 hn7 hn8
              go_wp2_with fail
              go_roundw
              case rel => exact ⟨k + 1, askF ks2 u, by omega, by go_num, by omega, hT8⟩
              case measure => simp [intOf]; omega
            · have hkk : k = qs.length := by omega
              subst hkk
              have hkq := len_ksOf qs
              clear hlt hk
              go_wp2_with fail
              refine (asked_any wr _ g b1 b2 es (ksOf qs) hT.R hkl).mono ?_
              rintro e w9 ⟨A9, c9, rfl, _, hb⟩
              have hlo9 := below_then hT.lo (Nat.le_refl _) hb
              have dle : decide ((ksOf qs).length ≤ qs.length) = true := decide_eq_true (by omega)
              clear hb hT hkl hkq
              go_wp2_with fail
              go_ret
              exact ⟨rfl, hlo9⟩
  · have d60 : decide ((60 : Int) < (qs.length : Int)) = true := decide_eq_true (by omega)
    go_wp2_with fail
    go_ret
    exact ⟨rfl, hlo⟩
end Go.Proofs.YtmoldmnhijcckaaDoor
