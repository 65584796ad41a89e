/- The walk of lanyardlaw21.RepoPlays: it returns true. -/
import Derived.Test.YtmoldmnhijcckaaDoorW21
import Derived.Test.YtmoldmnhijcckaaDoorM21
import Derived.Test.YtmoldmnhijcckaaDoorO21
import Derived.Test.YtmoldmnhijcckaaDoorE21
set_option linter.unusedVariables false
set_option linter.unusedSectionVars false
set_option linter.unusedSimpArgs false
namespace Go.Proofs.YtmoldmnhijcckaaDoor
open Go.RowKit
open Go.Proofs (encStr)
/-- The program's repo and the reference's, apart. -/
structure PS (w : World) (L g b1 b2 G : Nat) (es ls : List Blb) (ks ks2 : List ByteArray) (W : World) : Prop where
  R : RepoAt W L g b1 b2 es ks
  S : R21 W G ls ks2
  ap : ∀ v v', W.cell? ⟨g, 2, none⟩ = some v → W.cell? ⟨G, 1, none⟩ = some v' → ∀ k, v.ownBlock = some k → v'.ownBlock ≠ some k
  lo : Below w.heap.size w W
  hL : w.heap.size ≤ L
  hG : g < G
theorem PS.next {w W W' : World} {L g b1 b2 G : Nat} {es ls : List Blb} {ks ks2 : List ByteArray} (h : PS w L g b1 b2 G es ls ks ks2 W) (hb : Below W.heap.size W W') : PS w L g b1 b2 G es ls ks ks2 W' := by
  obtain ⟨v, hB, _⟩ := h.R.blk
  obtain ⟨v2, a2, hB2, _⟩ := h.S.blk
  exact ⟨h.R.next hb, h.S.next hb, fun v v' hv hv' => h.ap v v' (by rw [← hv]; exact (hb.cell (p := ⟨g, 2, none⟩) hB.lt).symm) (by rw [← hv']; exact (hb.cell (p := ⟨G, 1, none⟩) hB2.lt).symm), below_then h.lo (Nat.le_refl _) hb, h.hL, h.hG⟩
theorem PS.drew {w W : World} {L g b1 b2 G : Nat} {es ls : List Blb} {ks ks2 : List ByteArray} (h : PS w L g b1 b2 G es ls ks ks2 W) : PS w L g b1 b2 G es ls ks ks2 W.drew := ⟨h.R.drew, h.S.drew, h.ap, h.lo.drew, h.hL, h.hG⟩
theorem R21.fr {W W' : World} {lo G g b1 b2 Lx : Nat} {es ls : List Blb} {ks ks2 : List ByteArray} (h : R21 W G ls ks2) (hx : RepoAt W Lx g b1 b2 es ks) (hfr : Fr W W' lo (badAt W g b2)) (h1 : G ≠ g) (h2 : G ≠ b2)
    (ap : ∀ v v', W.cell? ⟨g, 2, none⟩ = some v → W.cell? ⟨G, 1, none⟩ = some v' → ∀ k, v.ownBlock = some k → v'.ownBlock ≠ some k) : R21 W' G ls ks2 ∧ W'.cell? ⟨G, 1, none⟩ = W.cell? ⟨G, 1, none⟩ := by
  obtain ⟨v, a, hB, hv, ha⟩ := h.blk
  obtain ⟨vx, hBx, hox⟩ := hx.blk
  have hvx : ∀ v', W.cell? ⟨g, 2, none⟩ = some v' → v' = vx := fun v' hv => by
    have := hBx.cell 2
    rw [hv] at this
    simpa using this
  have kg : W'.heap[G]? = W.heap[G]? := hfr.keep G hB.lt (by
    rintro (e | e | ⟨v', hv', e⟩)
    · exact h1 e
    · exact h2 e
    · rw [hvx v' hv'] at e
      exact own_blk_ne hox hB (by decide) e)
  refine ⟨⟨⟨v, a, kg.trans hB, own_kept hv fun k hk => hfr.keep k (own_base_le hv k hk).2 ?_, own_kept ha fun k hk => hfr.keep k (own_base_le ha k hk).2 ?_⟩, fun e he => ⟨own_kept (h.rd e he).1 fun k hk => hfr.keep k (own_base_le (h.rd e he).1 k hk).2 ?_, (h.rd e he).2⟩⟩, World.cell?_of_block kg⟩
  · rintro (e | e | ⟨v', hv', e⟩)
    · subst e; exact own_blk_ne hv hBx (by decide) hk
    · subst e; exact own_ne_map hv hx.m2 hk
    · rw [hvx v' hv'] at e
      exact own_own_ne hv hox (by decide) k hk e
  · rintro (e | e | ⟨v', hv', e⟩)
    · subst e; exact own_blk_ne ha hBx (by decide) hk
    · subst e; exact own_ne_map ha hx.m2 hk
    · exact ap v' a hv' (hB.cell 1) k e hk
  · rintro (e | e | ⟨v', hv', e⟩)
    · subst e; exact own_blk_ne (h.rd _ he).1 hBx (by decide) hk
    · subst e; exact own_ne_map (h.rd _ he).1 hx.m2 hk
    · rw [hvx v' hv'] at e
      exact own_own_ne (h.rd _ he).1 hox (by decide) k hk e
theorem PS.get1 {w W W' : World} {L g b1 b2 G : Nat} {es ls : List Blb} {ks ks2 : List ByteArray} (h : PS w L g b1 b2 G es ls ks ks2 W) {u : ByteArray} {e : Ending} (hp : GetPost W L g b1 b2 es ks u e W') :
    ∃ A c bs is, e = .returned (.tuple #[.slice A bs.length c, .bool is]) ∧ getK es u = (if is then some bs else none) ∧ (is = false → bs = []) ∧ W'.ownsRow W.heap.size 5 1 (.slice A bs.length c) bs.length (bs.map bv) ∧ PS w L g b1 b2 G es ls (askF ks u) ks2 W' := by
  obtain ⟨A, c, bs, is, rfl, h1, h2, h3, hR, hfr, hoff⟩ := hp
  have m3 := h.R.l3
  have hgG := h.hG
  obtain ⟨hS, hc⟩ := R21.fr h.S h.R hfr (by omega) (by omega) h.ap
  refine ⟨A, c, bs, is, rfl, h1, h2, h3, hR, hS, fun v v' hv hv' k hk e => ?_, h.lo.trans (hfr.lo.mono h.hL), h.hL, h.hG⟩
  rw [hc] at hv'
  obtain ⟨vs, aS, hBs, _, hos⟩ := h.S.blk
  have e1 : v' = aS := by
    have := hBs.cell 1
    rw [hv'] at this
    simpa using this
  subst e1
  exact hoff k (own_base_le hos k e).2 (fun v0 hv0 e0 => h.ap v0 v' hv0 hv' k e0 e) v hv hk
theorem PS.get2 {w W W' : World} {L g b1 b2 G : Nat} {es ls : List Blb} {ks ks2 : List ByteArray} (h : PS w L g b1 b2 G es ls ks ks2 W) {u : ByteArray} {e : Ending} (hp : Get21Post W G ls ks2 u e W') :
    ∃ A c bs is, e = .returned (.tuple #[.slice A bs.length c, .bool is]) ∧ getK ls u = (if is then some bs else none) ∧ (is = false → bs = []) ∧ W'.ownsRow W.heap.size 5 1 (.slice A bs.length c) bs.length (bs.map bv) ∧ PS w L g b1 b2 G es ls ks (askF ks2 u) W' ∧
      ∀ base n v x, W.ownsRow base 5 1 v n x → W'.ownsRow base 5 1 v n x := by
  obtain ⟨A, c, bs, is, rfl, h1, h2, h3, hS, hF⟩ := hp
  have m1 := h.R.l1
  have m2 := h.R.l2
  have m3 := h.R.l3
  have hgG := h.hG
  have hLL := h.hL
  obtain ⟨v, hB, ho⟩ := h.R.blk
  obtain ⟨vs, aS, hBs, hvs, has⟩ := h.S.blk
  have kg : W'.heap[g]? = W.heap[g]? := hF.keep g hB.lt (by omega) (Off21.of hBs (own_blk_ne has hB (by decide)))
  have kb1 : W'.heap[b1]? = W.heap[b1]? := hF.keep b1 h.R.m1.lt (by omega) (Off21.of hBs (own_ne_map has h.R.m1))
  have kb2 : W'.heap[b2]? = W.heap[b2]? := hF.keep b2 h.R.m2.lt (by omega) (Off21.of hBs (own_ne_map has h.R.m2))
  have hko : ∀ k, v.ownBlock = some k → W'.heap[k]? = W.heap[k]? := fun k hk => hF.keep k (own_base_le ho k hk).2 (fun e => by subst e; exact own_blk_ne ho hBs (by decide) hk) (Off21.of hBs (h.ap v aS (hB.cell 2) (hBs.cell 1) k hk))
  have hku : ∀ base n v x, W.ownsRow base 5 1 v n x → W'.ownsRow base 5 1 v n x := fun base n v x hv => own_kept hv fun k hk => hF.keep k (own_base_le hv k hk).2 (fun e => by subst e; exact own_blk_ne hv hBs (by decide) hk) (Off21.of hBs (fun e => own_own_ne hv has (by decide) k hk e))
  refine ⟨A, c, bs, is, rfl, h1, h2, h3, ⟨⟨⟨v, kg.trans hB, own_kept ho hko⟩, kb1.trans h.R.m1, kb2.trans h.R.m2, fun e he => ⟨hku _ _ _ _ (h.R.rd e he).1, (h.R.rd e he).2⟩, h.R.l1, h.R.l2, h.R.l3⟩, hS, fun v1 v1' hv1 hv1' k hk e => ?_, h.lo.trans (hF.lo.mono (by omega)), h.hL, h.hG⟩, hku⟩
  rw [World.cell?_of_block kg, hB.cell 2] at hv1
  obtain rfl : v = v1 := by simpa using hv1
  exact hF.off k (own_base_le ho k hk).2 (Off21.of hBs (h.ap v aS (hB.cell 2) (hBs.cell 1) k hk)) v1' hv1' e
/-- Behind both gets: what they told. -/
structure PlX (w : World) (L g b1 b2 G : Nat) (es ls : List Blb) (ks : List ByteArray) (A7 : Option Addr) (c7 : Nat) (A8 : Option Addr) (c8 : Nat) (bs : List UInt8) (a : Value) (W : World) : Prop where
  p : PS w L g b1 b2 G es ls ks ks W
  o7 : W.ownsRow w.heap.size 5 1 (.slice A7 bs.length c7) bs.length (bs.map bv)
  o8 : W.ownsRow w.heap.size 5 1 (.slice A8 bs.length c8) bs.length (bs.map bv)
  cg : W.cell? ⟨G, 1, none⟩ = some a
  oa : W.ownsRow (G + 1) 9 1 a ks.length (ks.map Value.string)
theorem PlX.next {w W W' : World} {L g b1 b2 G : Nat} {es ls : List Blb} {ks : List ByteArray} {A7 : Option Addr} {c7 : Nat} {A8 : Option Addr} {c8 : Nat} {bs : List UInt8} {a : Value} (h : PlX w L g b1 b2 G es ls ks A7 c7 A8 c8 bs a W) (hb : Below W.heap.size W W') : PlX w L g b1 b2 G es ls ks A7 c7 A8 c8 bs a W' :=
  ⟨h.p.next hb, own_below h.o7 hb, own_below h.o8 hb, (hb.cell (p := ⟨G, 1, none⟩) (by have := h.p.S.gsize; exact this)).trans h.cg, own_below h.oa hb⟩
theorem PlX.drew {w W : World} {L g b1 b2 G : Nat} {es ls : List Blb} {ks : List ByteArray} {A7 : Option Addr} {c7 : Nat} {A8 : Option Addr} {c8 : Nat} {bs : List UInt8} {a : Value} (h : PlX w L g b1 b2 G es ls ks A7 c7 A8 c8 bs a W) : PlX w L g b1 b2 G es ls ks A7 c7 A8 c8 bs a W.drew :=
  ⟨h.p.drew, h.o7, h.o8, h.cg, h.oa⟩
def toB (t : List UInt8) : ByteArray := ⟨t.toArray⟩
def namesD (es : List Blb) (d : ByteArray) : List (List UInt8) := if dirB d then namesOf es d else []
theorem enc_toB (NL : List (List UInt8)) : NL.map encStr = (NL.map toB).map Value.string := by rw [List.map_map]; rfl
theorem names_len (es : List Blb) (d : ByteArray) : (namesOf es d).length = (namesRaw es d).length := by unfold namesOf; rw [List.length_mergeSort]
theorem names_post {w w' : World} {es : List Blb} {d : ByteArray} {e : Ending} {NL : List (List UInt8)} (h : NamesPost w es d e w') (hN : namesD es d = NL) : ∃ A c, e = .returned (.slice A NL.length c) ∧ w'.ownsRow w.heap.size 9 1 (.slice A NL.length c) NL.length ((NL.map toB).map Value.string) := by
  subst hN
  unfold NamesPost at h
  rw [← enc_toB]
  unfold namesD
  cases hd : dirB d
  · rw [hd] at h
    exact ⟨none, 0, h, World.ownsRow_nil _ _ _ _⟩
  · rw [hd, if_pos rfl] at h
    rw [if_pos rfl, names_len]
    exact h
theorem names21_post {w w' : World} {es : List Blb} {d : ByteArray} {e : Ending} {NL : List (List UInt8)} (h : Names21Post w es d e w') (hN : namesD es d = NL) : ∃ A c, e = .returned (.slice A NL.length c) ∧ w'.ownsRow w.heap.size 9 1 (.slice A NL.length c) NL.length ((NL.map toB).map Value.string) := by
  subst hN
  unfold Names21Post at h
  rw [← enc_toB]
  unfold namesD
  cases hd : dirB d
  · rw [hd] at h
    exact ⟨none, 0, h, World.ownsRow_nil _ _ _ _⟩
  · rw [hd, if_pos rfl] at h
    rw [if_pos rfl]
    exact h
theorem same02_self (xs : List ByteArray) (A A' : Option Addr) (c c' n : Nat) (w : World) (hn : xs.length = n) (hl : xs.length ≤ 140737488355328) (hr : Reads w w.heap.size 1 A n (xs.map Value.string)) (hr' : Reads w w.heap.size 1 A' n (xs.map Value.string)) :
    Calls Tryd.prog 20 #[.slice A n c, .slice A' n c'] w fun e w' => e = .returned (.bool true) ∧ Below w.heap.size w w' :=
  (same02_any xs xs A A' c c' n n w.heap.size w hn hn (Nat.le_refl _) hl hr hr').mono (by
    rintro e w' ⟨rfl, hb⟩
    exact ⟨by rw [decide_eq_true rfl], hb⟩)
theorem namesD_eq {es ls : List Blb} (h : es.map (fun e => (e.u, e.bs)) = ls.map (fun e => (e.u, e.bs))) (d : ByteArray) : namesD es d = namesD ls d := by
  unfold namesD namesOf
  rw [namesRaw_map es, namesRaw_map ls, h]
theorem getK_eq {es ls : List Blb} (h : es.map (fun e => (e.u, e.bs)) = ls.map (fun e => (e.u, e.bs))) (u : ByteArray) : getK es u = getK ls u := by rw [getK_F, getK_F, h]
theorem onlyF_eq {es ls : List Blb} (h : es.map (fun e => (e.u, e.bs)) = ls.map (fun e => (e.u, e.bs))) (ks : List ByteArray) : onlyF es ks = onlyF ls ks := by
  unfold onlyF
  congr 1
  funext u
  rw [getK_eq h]
theorem namesD_len (es : List Blb) (d : ByteArray) : (namesD es d).length ≤ es.length := by
  unfold namesD
  split
  · rw [names_len]; exact List.length_filterMap_le _ _
  · simp
set_option maxRecDepth 100000 in
set_option maxHeartbeats 16000000 in
theorem rpPlays_any (xs : List Blb) (A : Option Addr) (c : Nat) (qs : List ByteArray) (A' : Option Addr) (c' : Nat) (m : Int) (w : World) (hp : LawPre w m A c xs) (hqr : Reads w w.heap.size 1 A' qs.length (qs.map Value.string)) :
    Calls Tryd.prog 5 #[.slice A xs.length c, .slice A' qs.length c'] w fun e w' => e = .returned (.bool true) ∧ Below w.heap.size w w' := by
  go_enter Tryd.func5, Tryd.ntmps5
  go_wp2_with fail
  refine (awake21_any m _ hp.h0 hp.hm).mono ?_
  rintro e w1 ⟨rfl, hlo⟩
  go_wp2_with fail
  refine (light_any xs A c hp.hc hp.hn (fun x hx => (hp.hf x hx).2) w1 ((hp.hr.below hlo (Nat.le_refl _)).more hlo.size)).mono ?_
  rintro e w2 ⟨rfl, hb⟩
  replace hlo := below_then hlo (Nat.le_refl _) hb
  clear hb
  cases hl : lightB xs
  · go_wp2_with fail
    go_ret
    exact ⟨rfl, hlo⟩
  by_cases h60 : qs.length ≤ 60
  · have d60 : decide ((60 : Int) < (qs.length : Int)) = false := decide_eq_false (by omega)
    have hpre := hp.new hlo hl
    have hus : ∀ x ∈ xs, x.u.size ≤ 9223372036854775800 := fun x hx => by have := ((light_fine hl).2 x hx).1; omega
    have HL := Lib.hid hl
    clear hl
    go_wp2_with fail
    clear d60
    refine (new_any xs A c hp.hc m w2 hpre).mono ?_
    rintro e w3 ⟨hnp, hb⟩
    clear hpre
    have hlo3 := below_then hlo (Nat.le_refl _) hb
    have hpre3 := hp.new hlo3 HL.out
    unfold NewPost at hnp
    cases hok : (xs.all goodB && !largeB xs)
    · rw [hok] at hnp
      simp only [Bool.false_eq_true, if_false] at hnp
      obtain rfl := hnp
      cases hg : xs.all goodB
      · go_wp2_with fail
        refine (new21_any xs A c m w3 hpre3 hus (by have := (light_fine HL.out).1; omega)).mono ?_
        rintro e w4 ⟨hnp, hb4⟩
        unfold New21Post at hnp
        rw [hok, hg] at hnp
        simp only [Bool.false_eq_true, if_false] at hnp
        obtain rfl := hnp
        have hlo4 := below_then hlo3 (Nat.le_refl _) hb4
        clear hok hg
        go_wp2_with fail
        go_loopw [11, 12, 13, 14, 15, 16, 17] (fun i v12 v13 v14 v15 v16 v17 W => i = .int .i64 0 ∧ Below w.heap.size w W) (fun _ _ _ _ _ _ _ _ => 0)
        case atStart => exact ⟨rfl, hlo4⟩
        case round =>
          obtain ⟨rfl, hlo9⟩ := hrel
          by_cases hq : 0 < qs.length
          · have d1 : decide ((0 : Int) < (qs.length : Int)) = true := decide_eq_true (by omega)
            have d2 : decide (0 < qs.length) = true := decide_eq_true hq
            go_wp2_with fail
            go_ret
            exact ⟨rfl, hlo9⟩
          · have d1 : decide ((0 : Int) < (qs.length : Int)) = false := decide_eq_false (by omega)
            have d2 : decide (0 < qs.length) = false := decide_eq_false hq
            go_wp2_with fail
            go_ret
            exact ⟨rfl, hlo9⟩
      · go_wp2_with fail
        refine (new21_any xs A c m w3 hpre3 hus (by have := (light_fine HL.out).1; omega)).mono ?_
        rintro e w4 ⟨hnp, hb4⟩
        unfold New21Post at hnp
        rw [hok, hg] at hnp
        simp only [Bool.false_eq_true, if_false, if_true] at hnp
        obtain rfl := hnp
        have hlo4 := below_then hlo3 (Nat.le_refl _) hb4
        clear hok hg
        go_wp2_with fail
        go_loopw [11, 12, 13, 14, 15, 16, 17] (fun i v12 v13 v14 v15 v16 v17 W => i = .int .i64 0 ∧ Below w.heap.size w W) (fun _ _ _ _ _ _ _ _ => 0)
        case atStart => exact ⟨rfl, hlo4⟩
        case round =>
          obtain ⟨rfl, hlo9⟩ := hrel
          by_cases hq : 0 < qs.length
          · have d1 : decide ((0 : Int) < (qs.length : Int)) = true := decide_eq_true (by omega)
            have d2 : decide (0 < qs.length) = true := decide_eq_true hq
            go_wp2_with fail
            go_ret
            exact ⟨rfl, hlo9⟩
          · have d1 : decide ((0 : Int) < (qs.length : Int)) = false := decide_eq_false (by omega)
            have d2 : decide (0 < qs.length) = false := decide_eq_false hq
            go_wp2_with fail
            go_ret
            exact ⟨rfl, hlo9⟩
    · rw [hok] at hnp
      simp only [if_true] at hnp
      obtain ⟨g, b1, b2, es, rfl, hR, hes⟩ := hnp
      have HOK := Lib.hid hok
      have HES := Lib.hid hes
      have hesl : es.length ≤ xs.length := by
        have h1 := congrArg List.length hes
        rw [List.length_map] at h1
        have h2 := firstsOf_len xs
        omega
      have hL := hlo.size
      have hx60 := (light_fine HL.out).1
      clear hok hes hb hlo
      go_wp2_with fail
      refine (new21_any xs A c m w3 hpre3 hus (by have := (light_fine HL.out).1; omega)).mono ?_
      rintro e w4 ⟨hnp, hb4⟩
      unfold New21Post at hnp
      rw [HOK.out] at hnp
      simp only [if_true] at hnp
      obtain ⟨G, ls, rfl, hS, hls, hG⟩ := hnp
      have HEL := Lib.hid (show es.map (fun e => (e.u, e.bs)) = ls.map (fun e => (e.u, e.bs)) by rw [HES.out, hls])
      have hlsl : ls.length ≤ xs.length := by
        have h1 := congrArg List.length hls
        rw [List.length_map] at h1
        have h2 := firstsOf_len xs
        omega
      have hlu : ∀ e ∈ ls, e.u.size ≤ 9223372036854775800 := fun e he => by
        obtain ⟨x, hx, h4⟩ := firstsOf_mem xs (e.u, e.bs) (by rw [← hls]; exact List.mem_map.2 ⟨e, he, rfl⟩)
        have h5 : e.u = x.u := congrArg Prod.fst h4
        rw [h5]
        exact hus x hx
      have hlo4 := below_then hlo3 (Nat.le_refl _) hb4
      have hT : PS w w2.heap.size g b1 b2 G es ls [] [] w4 := by
        have hgs := hR.gsize
        refine ⟨hR.next hb4, hS, fun v v' hv hv' k hk e => ?_, hlo4, hL, by omega⟩
        obtain ⟨vr, hBr, hor⟩ := (hR.next hb4).blk
        obtain ⟨vs, aS, hBs, _, hos⟩ := hS.blk
        have e3 := hBs.cell 1
        rw [hv'] at e3
        obtain rfl : v' = aS := by simpa using e3
        rcases hos.2 with ⟨e4, _⟩ | ⟨_, _, _, e4, h5, _⟩
        · subst e4; simp [Value.ownBlock] at e
        · obtain ⟨vr0, hBr0, hor0⟩ := hR.blk
          have e6 := hb4.cell (p := ⟨g, 2, none⟩) hBr0.lt
          rw [hv, hBr0.cell 2] at e6
          obtain rfl : v = vr0 := by simpa using e6
          have h7 := (own_base_le hor0 k hk).2
          have h8 := (own_base_le hos k e).1
          omega
      have hes60 : es.length ≤ 1000000 := by omega
      have hls60 : ls.length ≤ 1000000 := by omega
      clear hls hR hS hlo3 hlo4 hb4 hpre3 hus hG
      generalize w2.heap.size = L at hT
      go_wp2_with fail
      go_loopw [11, 12, 13, 14, 15, 16, 17] (fun i v12 v13 v14 v15 v16 v17 W => ∃ k : Nat, k ≤ qs.length ∧ i = .int .i64 k ∧ PS w L g b1 b2 G es ls (ksOf (qs.take k)) (ksOf (qs.take k)) W) (fun i _ _ _ _ _ _ _ => qs.length - (intOf i).toNat)
      case atStart => exact ⟨0, by omega, rfl, hT⟩
      case round =>
        clear hT
        obtain ⟨k, hk, rfl, hT⟩ := hrel
        by_cases hlt : k < qs.length
        · have hk0 : (0 : Int) ≤ (k : Int) := by omega
          have hk1 : (k : Int) < (qs.length : Int) := by omega
          obtain ⟨ad, rfl, _, _⟩ := hqr.2 (by omega)
          have hrd : ∀ W, Below w.heap.size w W → W.cell? (ad.add k) = some (.string qs[k]) := fun W hW => reads_str hqr hW hlt
          have HAS := Lib.hid (show ksOf (qs.take (k + 1)) = askF (ksOf (qs.take k)) qs[k] by rw [List.take_succ_eq_append_getElem hlt, ksOf_snoc])
          have hkl : (ksOf (qs.take k)).length ≤ 60 := by have := len_ksOf (qs.take k); rw [List.length_take] at this; omega
          have hkl2 : (askF (ksOf (qs.take k)) qs[k]).length ≤ 61 := by have := askF_len (ksOf (qs.take k)) qs[k]; omega
          generalize qs[k] = u at hrd HAS hkl2
          generalize ksOf (qs.take k) = KS at hT HAS hkl hkl2
          have c1 := hrd _ hT.lo
          by_cases h500 : 500 < u.size
          · have d5 : decide ((500 : Int) < (u.size : Int)) = true := decide_eq_true (by omega)
            clear h500
            go_wp2_with fail
            go_ret
            exact ⟨rfl, hT.lo⟩
          have d5 : decide ((500 : Int) < (u.size : Int)) = false := decide_eq_false (by omega)
          have hu5 : u.size ≤ 9223372036854775800 := by omega
          have hu6 : u.size ≤ 9223372036854775807 := by omega
          clear h500
          go_wp2_with fail
          refine (get_any u wr _ g b1 b2 es _ hT.R (by omega)).mono ?_
          rintro e w7 hg
          obtain ⟨A7, c7, bs7, is7, rfl, hk7, hn7, ho7, hT7⟩ := hT.get1 hg
          have hwr := hT.lo.size
          clear hg hT c1
          have c1 := hrd _ hT7.lo
          go_wp2_with fail
          refine (get21_any u w7 G ls KS hT7.S hls60 (by omega)).mono ?_
          rintro e w8 hg
          obtain ⟨A8, c8, bs8, is8, rfl, hk8, hn8, ho8, hT8, hkeep⟩ := hT7.get2 hg
          have ho7' := own_base_mono (hkeep _ _ _ _ ho7) hwr
          replace ho8 := own_base_mono ho8 hT7.lo.size
          have hbs : bs7 = bs8 ∧ is7 = is8 := by
            rw [getK_eq HEL.out, hk8] at hk7
            cases is7 <;> cases is8 <;> simp at hk7 hn7 hn8 ⊢
            · exact hn7.trans hn8.symm
            · exact hk7.symm
          obtain ⟨rfl, rfl⟩ := hbs
          obtain ⟨vs, aS, hBs, _, hos⟩ := hT8.S.blk
          obtain ⟨Aa, ca, rfl⟩ := own_slice' hos
          have hQ : PlX w L g b1 b2 G es ls (askF KS u) A7 c7 A8 c8 bs7 (.slice Aa (askF KS u).length ca) w8 := ⟨hT8, ho7', ho8, hBs.cell 1, hos⟩
          obtain ⟨NL, hNL⟩ : ∃ NL, namesD es u = NL := ⟨_, rfl⟩
          have HN1 := Lib.hid hNL
          have HN2 := Lib.hid (show namesD ls u = NL by rw [← namesD_eq HEL.out, hNL])
          have hnl : (NL.map toB).length ≤ 140737488355328 := by have := namesD_len es u; rw [hNL] at this; rw [List.length_map]; omega
          clear hg hkeep ho7 ho8 ho7' hT7 hT8 c1 hk7 hk8 hn7 hn8 hBs hos hNL
          rw [← HAS.out] at hQ hkl2
          clear HAS
          obtain ⟨KT, hKT⟩ : ∃ KT, ksOf (qs.take (k + 1)) = KT := ⟨_, rfl⟩
          rw [hKT] at hQ hkl2
          have HKT := Lib.hid hKT
          clear hKT
          go_upto_region 16 with fail
          refine reg_sch2 14 [(true, 0), (true, 1), (true, 2), (true, 3), (true, 4), (true, 6), (true, 7), (true, 8), (true, 9), (true, 10), (false, 5), (false, 11), (false, 12), (true, 13)] (by kernel_rfl) (by kernel_rfl) (PlX w L g b1 b2 G es ls KT A7 c7 A8 c8 bs7 (.slice Aa KT.length ca)) (PlX w L g b1 b2 G es ls KT A7 c7 A8 c8 bs7 (.slice Aa KT.length ca)) ?_ ?_ ?_
          · exact hQ.drew
          · exact fun _ h => h
          intro W hSW
          simp only [List.map_cons, List.map_nil, List.getD_cons_zero, List.getD_cons_succ, List.drop_succ_cons, List.drop_zero]
          refine hd_pure (v := ?_) (by rfl) (fun W' hS' => ?_) ?_ -- 0
          rotate_left
          · have c1 := hrd _ hS'.p.lo; clear hS'; (go_simp; first | with_reducible rfl | rfl)
          try simp only [Act.put, List.setIfInBounds_toArray, List.set_cons_zero, List.set_cons_succ]
          refine hd_pure (v := ?_) (by rfl) (fun W' hS' => ?_) ?_ -- 1
          rotate_left
          · have c1 := hrd _ hS'.p.lo; clear hS'; (go_simp; first | with_reducible rfl | rfl)
          try simp only [Act.put, List.setIfInBounds_toArray, List.set_cons_zero, List.set_cons_succ]
          refine hd_pure (v := ?_) (by rfl) (fun W' hS' => ?_) ?_ -- 2
          rotate_left
          · have c1 := hrd _ hS'.p.lo; clear hS'; (go_simp; first | with_reducible rfl | rfl)
          try simp only [Act.put, List.setIfInBounds_toArray, List.set_cons_zero, List.set_cons_succ]
          refine hd_pure (v := ?_) (by rfl) (fun W' hS' => ?_) ?_ -- 3
          rotate_left
          · have c1 := hrd _ hS'.p.lo; clear hS'; (go_simp; first | with_reducible rfl | rfl)
          try simp only [Act.put, List.setIfInBounds_toArray, List.set_cons_zero, List.set_cons_succ]
          refine hd_pure (v := ?_) (by rfl) (fun W' hS' => ?_) ?_ -- 4
          rotate_left
          · have c1 := hrd _ hS'.p.lo; clear hS'; (go_simp; first | with_reducible rfl | rfl)
          try simp only [Act.put, List.setIfInBounds_toArray, List.set_cons_zero, List.set_cons_succ]
          refine hd_pure (v := ?_) (by rfl) (fun W' hS' => ?_) ?_ -- 6
          rotate_left
          · have c1 := hrd _ hS'.p.lo; clear hS'; (go_simp; first | with_reducible rfl | rfl)
          try simp only [Act.put, List.setIfInBounds_toArray, List.set_cons_zero, List.set_cons_succ]
          refine hd_pure (v := ?_) (by rfl) (fun W' hS' => ?_) ?_ -- 7
          rotate_left
          · have c1 := hrd _ hS'.p.lo; clear hS'; (go_simp; first | with_reducible rfl | rfl)
          try simp only [Act.put, List.setIfInBounds_toArray, List.set_cons_zero, List.set_cons_succ]
          refine hd_pure (v := ?_) (by rfl) (fun W' hS' => ?_) ?_ -- 8
          rotate_left
          · have c1 := hrd _ hS'.p.lo; clear hS'; (go_simp; first | with_reducible rfl | rfl)
          try simp only [Act.put, List.setIfInBounds_toArray, List.set_cons_zero, List.set_cons_succ]
          refine hd_pure (v := ?_) (by rfl) (fun W' hS' => ?_) ?_ -- 9
          rotate_left
          · have c1 := hrd _ hS'.p.lo; clear hS'; (go_simp; first | with_reducible rfl | rfl)
          try simp only [Act.put, List.setIfInBounds_toArray, List.set_cons_zero, List.set_cons_succ]
          refine hd_pure (v := ?_) (by rfl) (fun W' hS' => ?_) ?_ -- 10
          rotate_left
          · have c1 := hrd _ hS'.p.lo; clear hS'; (go_simp; first | with_reducible rfl | rfl)
          try simp only [Act.put, List.setIfInBounds_toArray, List.set_cons_zero, List.set_cons_succ]
          refine hd_sole (by rfl) (fun K hK => ?_) -- 5
          go_simp
          refine (names_any u hu6 m _ (hp.var hSW.p.lo).1 (hp.var hSW.p.lo).2 _ g b1 b2 es _ hSW.p.R hes60).mono ?_; rintro e w' ⟨hnp, hb⟩; obtain ⟨An, cn, rfl, hn⟩ := names_post hnp HN1.out
          refine hK _ _ (hSW.next hb) ?_
          clear hK K hSW
          intro hSW
          clear hb hnp
          try simp only [Act.put, List.setIfInBounds_toArray, List.set_cons_zero, List.set_cons_succ]
          refine hd_sole (by rfl) (fun K hK => ?_) -- 11
          go_simp
          refine (names21_any u hu5 _ G ls _ hSW.p.S hls60 hlu).mono ?_; rintro e w' ⟨hnp, hb⟩; obtain ⟨Am, cm, rfl, hm⟩ := names21_post hnp HN2.out; replace hn := own_below hn hb
          refine hK _ _ (hSW.next hb) ?_
          clear hK K hSW
          intro hSW
          clear hb hnp
          try simp only [Act.put, List.setIfInBounds_toArray, List.set_cons_zero, List.set_cons_succ]
          refine hd_sole (by rfl) (fun K hK => ?_) -- 12
          go_simp
          refine (same02_self (NL.map toB) An Am cn cm NL.length _ (by simp) hnl (Reads.of_own hn) (Reads.of_own hm)).mono ?_; rintro e w' ⟨rfl, hb⟩
          refine hK _ _ (hSW.next hb) ?_
          clear hK K hSW
          intro hSW
          clear hb hn hm
          try simp only [Act.put, List.setIfInBounds_toArray, List.set_cons_zero, List.set_cons_succ]
          refine hd_pure (v := ?_) (by rfl) (fun W' hS' => ?_) ?_ -- 13
          rotate_left
          · have c1 := hrd _ hS'.p.lo; clear hS'; (go_simp; first | with_reducible rfl | rfl)
          try simp only [Act.put, List.setIfInBounds_toArray, List.set_cons_zero, List.set_cons_succ]
          refine hd_nil ?_
          replace hQ := hSW; clear hSW
          refine wpList_nil (NoPanic.normal ?_)
          go_upto_region 17 with fail
          refine reg_sch2 8 [(true, 0), (true, 2), (true, 3), (true, 4), (true, 5), (false, 1), (false, 6), (true, 7)] (by kernel_rfl) (by kernel_rfl) (PlX w L g b1 b2 G es ls KT A7 c7 A8 c8 bs7 (.slice Aa KT.length ca)) (PlX w L g b1 b2 G es ls KT A7 c7 A8 c8 bs7 (.slice Aa KT.length ca)) ?_ ?_ ?_
          · exact hQ.drew
          · exact fun _ h => h
          intro W hSW
          simp only [List.map_cons, List.map_nil, List.getD_cons_zero, List.getD_cons_succ, List.drop_succ_cons, List.drop_zero]
          refine hd_pure (v := ?_) (by rfl) (fun W' hS' => ?_) ?_ -- 0
          rotate_left
          · have cg := hS'.cg; clear hS'; (go_simp; first | with_reducible rfl | rfl)
          try simp only [Act.put, List.setIfInBounds_toArray, List.set_cons_zero, List.set_cons_succ]
          refine hd_pure (v := ?_) (by rfl) (fun W' hS' => ?_) ?_ -- 2
          rotate_left
          · have cg := hS'.cg; clear hS'; (go_simp; first | with_reducible rfl | rfl)
          try simp only [Act.put, List.setIfInBounds_toArray, List.set_cons_zero, List.set_cons_succ]
          refine hd_pure (v := ?_) (by rfl) (fun W' hS' => ?_) ?_ -- 3
          rotate_left
          · have cg := hS'.cg; clear hS'; (go_simp; first | with_reducible rfl | rfl)
          try simp only [Act.put, List.setIfInBounds_toArray, List.set_cons_zero, List.set_cons_succ]
          refine hd_pure (v := ?_) (by rfl) (fun W' hS' => ?_) ?_ -- 4
          rotate_left
          · have cg := hS'.cg; clear hS'; (go_simp; first | with_reducible rfl | rfl)
          try simp only [Act.put, List.setIfInBounds_toArray, List.set_cons_zero, List.set_cons_succ]
          refine hd_pure (v := ?_) (by rfl) (fun W' hS' => ?_) ?_ -- 5
          rotate_left
          · have cg := hS'.cg; clear hS'; (go_simp; first | with_reducible rfl | rfl)
          try simp only [Act.put, List.setIfInBounds_toArray, List.set_cons_zero, List.set_cons_succ]
          refine hd_sole (by rfl) (fun K hK => ?_) -- 1
          go_simp
          refine (asked_any _ _ g b1 b2 es KT hSW.p.R (by omega)).mono ?_; rintro e w' ⟨A9, c9, rfl, hn, hb⟩
          refine hK _ _ (hSW.next hb) ?_
          clear hK K hSW
          intro hSW
          clear hb
          try simp only [Act.put, List.setIfInBounds_toArray, List.set_cons_zero, List.set_cons_succ]
          refine hd_sole (by rfl) (fun K hK => ?_) -- 6
          go_simp
          refine (same02_self KT A9 Aa c9 ca KT.length _ rfl (by omega) (Reads.of_own hn) (Reads.of_own hSW.oa)).mono ?_; rintro e w' ⟨rfl, hb⟩
          refine hK _ _ (hSW.next hb) ?_
          clear hK K hSW
          intro hSW
          clear hb hn
          try simp only [Act.put, List.setIfInBounds_toArray, List.set_cons_zero, List.set_cons_succ]
          refine hd_pure (v := ?_) (by rfl) (fun W' hS' => ?_) ?_ -- 7
          rotate_left
          · have cg := hS'.cg; clear hS'; (go_simp; first | with_reducible rfl | rfl)
          try simp only [Act.put, List.setIfInBounds_toArray, List.set_cons_zero, List.set_cons_succ]
          refine hd_nil ?_
          replace hQ := hSW; clear hSW
          refine wpList_nil (NoPanic.normal ?_)
          have hcv7 := conv_own hQ.o7
          have hcv8 := conv_own hQ.o8
          have hQp := hQ.p
          clear hQ
          go_wp2_with fail
          go_roundw
          case rel => exact ⟨k + 1, by omega, by go_num, by rw [HKT.out]; exact hQp⟩
          case measure => simp [intOf]; omega
        · have hkk : k = qs.length := by omega
          subst hkk
          rw [List.take_length] at hT
          have hkl : (ksOf qs).length ≤ 1000000 := by have := len_ksOf qs; omega
          have HON := Lib.hid (onlyF_eq HEL.out (ksOf qs))
          clear hlt hk
          go_wp2_with fail
          refine (only_any wr _ g b1 b2 es _ hT.R hkl).mono ?_
          rintro e w5 ⟨A4, c4, ys, rfl, hyo, hyb, hys, hb⟩
          have hT5 := hT.next hb
          have hyl : ys.length ≤ es.length := by
            have h1 := congrArg List.length hys
            rw [List.length_map] at h1
            have h2 := only_len (es := es) (nodup_ksOf qs)
            omega
          clear hb hT
          go_wp2_with fail
          refine (only21_any w5 G ls _ hT5.S hls60 hkl).mono ?_
          rintro e w6 ⟨A6, c6, zs, rfl, hzo, hzb, hzs, hb⟩
          have hT6 := hT5.next hb
          have HYZ := Lib.hid (show decide (ys.map prOf = zs.map prOf) = true from decide_eq_true (by
            show ys.map (fun y => (y.u, y.bs)) = zs.map (fun y => (y.u, y.bs))
            rw [hys, hzs, HON.out]))
          replace hyo := own_below hyo hb
          have hyr : ∀ x ∈ ys, Reads w6 w6.heap.size 1 x.A x.bs.length (x.bs.map bv) := fun x hx => Reads.of_own (own_below (hyb x hx).1 hb)
          have hzr : ∀ x ∈ zs, Reads w6 w6.heap.size 1 x.A x.bs.length (x.bs.map bv) := fun x hx => Reads.of_own (hzb x hx).1
          clear hb hT5 hys hzs hyb hzb
          go_wp2_with fail
          refine (same21_any ys zs A4 A6 c4 c6 _ w6 (Nat.le_refl _) (by omega) (Reads.of_own hyo) (Reads.of_own hzo) hyr hzr).mono ?_
          rintro e w9 ⟨rfl, hb⟩
          rw [HYZ.out]
          have hlo9 := below_then hT6.lo (Nat.le_refl _) hb
          clear hb hT6 hyo hzo hyr hzr hyl
          go_wp2_with fail
          go_ret
          exact ⟨rfl, hlo9⟩
  · have d60 : decide ((60 : Int) < (qs.length : Int)) = true := decide_eq_true (by omega)
    go_wp2_with fail
    go_ret
    exact ⟨rfl, hlo⟩
end Go.Proofs.YtmoldmnhijcckaaDoor
