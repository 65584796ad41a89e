/- The walk of lanyardlaw21.RepoNames: it returns true. -/
import Derived.Test.YtmoldmnhijcckaaDoorRepP
set_option linter.unusedVariables false
set_option linter.unusedSectionVars false
set_option linter.unusedSimpArgs false
namespace Go.Proofs.YtmoldmnhijcckaaDoor
open Go.RowKit
open Go.Proofs (encStr)
theorem info_blbF : (Tryd.prog.info? 27).map (fun i => (i.zero, i.size, i.bytes)) = some (some (.agg zBlb.toArray), 2, 40) := by kernel_rfl
theorem blbs_one (xs : List Blb) : ∀ u ∈ xs.flatMap Blb.cells, u.oneCell' = true := by
  intro u hu
  obtain ⟨b, _, h⟩ := List.mem_flatMap.1 hu
  exact b.one u h
theorem reads_blk {w : World} {g n size : Nat} {t : TypeId} {cs : List Value} (h : Blk w g t cs) (hl : cs.length = n * size) : Reads w (g + 1) size (some ⟨g, 0, none⟩) n cs :=
  ⟨hl, fun _ => ⟨_, rfl, Nat.lt_succ_self _, fun j u hu => by rw [add_plain', Nat.zero_add, h.cell, hu]⟩⟩
def zzB : Blb := ⟨zzU, none, 0, []⟩
/-- What is handed in: blobs, each with its bytes. -/
structure LawPre (w : World) (m : Int) (A : Option Addr) (c : Nat) (xs : List Blb) : Prop where
  h0 : 0 < w.heap.size
  hm : w.cell? ⟨0, 0, none⟩ = some (.int .i64 m)
  hr : Reads w w.heap.size 2 A xs.length (xs.flatMap Blb.cells)
  hc : xs.length ≤ c
  hn : xs.length ≤ 9223372036854775807
  hf : ∀ x ∈ xs, Reads w w.heap.size 1 x.A x.bs.length (x.bs.map bv) ∧ x.u.size ≤ 9223372036854775807 ∧ x.bs.length ≤ 9223372036854775807
theorem LawPre.var {w : World} {m : Int} {A : Option Addr} {c : Nat} {xs : List Blb} (h : LawPre w m A c xs) {W : World} (hlo : Below w.heap.size w W) : 0 < W.heap.size ∧ W.cell? ⟨0, 0, none⟩ = some (.int .i64 m) :=
  ⟨Nat.lt_of_lt_of_le h.h0 hlo.size, (hlo.cell (p := ⟨0, 0, none⟩) h.h0).trans h.hm⟩
theorem LawPre.new {w : World} {m : Int} {A : Option Addr} {c : Nat} {xs : List Blb} (h : LawPre w m A c xs) {W : World} (hlo : Below w.heap.size w W) (hl : lightB xs = true) : NewPre W m A xs := by
  obtain ⟨h1, h2⟩ := light_fine hl
  refine ⟨(h.var hlo).1, (h.var hlo).2, (h.hr.below hlo (Nat.le_refl _)).more hlo.size, fun x hx => ⟨((h.hf x hx).1.below hlo (Nat.le_refl _)).more hlo.size, ?_, ?_⟩, by omega⟩
  · have := (h2 x hx).1; omega
  · have := (h2 x hx).2; omega
/-- The names that are told, as they lie. -/
def namesL (es : List Blb) (d : ByteArray) : List (List UInt8) := if dirB d then namesOf es d else []
theorem namesL_len (es : List Blb) (d : ByteArray) : (namesL es d).length ≤ es.length := by
  unfold namesL
  split
  · have h1 : (namesOf es d).length = (namesRaw es d).length := (List.mergeSort_perm _ _).length_eq
    have h2 : (namesRaw es d).length ≤ es.length := List.length_filterMap_le _ _
    omega
  · simp
theorem names_told {w w' : World} {es : List Blb} {d : ByteArray} {e : Ending} (h : NamesPost w es d e w') : ∃ A c, e = .returned (.slice A (namesL es d).length c) ∧ w'.ownsRow w.heap.size 9 1 (.slice A (namesL es d).length c) (namesL es d).length ((namesL es d).map encStr) := by
  unfold NamesPost at h
  unfold namesL
  have hl : (namesOf es d).length = (namesRaw es d).length := (List.mergeSort_perm _ _).length_eq
  cases hd : dirB d
  · rw [hd] at h
    simp only [Bool.false_eq_true, if_false] at h ⊢
    exact ⟨none, 0, h, World.ownsRow_nil _ _ _ _⟩
  · rw [hd] at h
    simp only [if_true] at h ⊢
    rw [hl]
    exact h
theorem firstsOf_mem (xs : List Blb) : ∀ q ∈ firstsOf xs, ∃ x ∈ xs, q = (x.u, x.bs) := by
  have : ∀ (ys : List Blb) (l : List (ByteArray × List UInt8)), (∀ q ∈ l, ∃ x ∈ xs, q = (x.u, x.bs)) → (∀ y ∈ ys, y ∈ xs) → ∀ q ∈ ys.foldl addF l, ∃ x ∈ xs, q = (x.u, x.bs) := by
    intro ys
    induction ys with
    | nil => intro l h _; exact h
    | cons y ys ih =>
      intro l h hy
      refine ih (addF l y) (fun q hq => ?_) (fun z hz => hy z (by simp [hz]))
      unfold addF at hq
      split at hq
      · exact h q hq
      · rcases List.mem_append.1 hq with hq | hq
        · exact h q hq
        · obtain rfl := List.mem_singleton.1 hq
          exact ⟨y, hy y (by simp), rfl⟩
  exact this xs [] (fun q hq => by simp at hq) (fun y hy => hy)
theorem firstsOf_len (xs : List Blb) : (firstsOf xs).length ≤ xs.length := by
  have : ∀ (ys : List Blb) (l : List (ByteArray × List UInt8)), (ys.foldl addF l).length ≤ l.length + ys.length := by
    intro ys
    induction ys with
    | nil => intro l; simp
    | cons y ys ih =>
      intro l
      have h1 := ih (addF l y)
      have h2 : (addF l y).length ≤ l.length + 1 := by unfold addF; split <;> simp
      simp only [List.foldl_cons, List.length_cons]
      omega
  simpa [firstsOf] using this xs []
theorem namesL_get {es : List Blb} {d : ByteArray} {t : List UInt8} (h : t ∈ namesL es d) : ∃ bs, getK es (d ++ ⟨t.toArray⟩) = some bs := by
  unfold namesL at h
  split at h
  · exact names_get h
  · simp at h
theorem namesL_rise {es : List Blb} {xs : List Blb} (hes : es.map (fun e => (e.u, e.bs)) = firstsOf xs) (d : ByteArray) : (namesL es d).Pairwise (· < ·) := by
  unfold namesL
  split
  · rw [List.pairwise_iff_getElem]
    intro i j hi hj hij
    exact names_rise hes d hij hj
  · exact List.Pairwise.nil
theorem namesL_size {es : List Blb} {xs : List Blb} (hes : es.map (fun e => (e.u, e.bs)) = firstsOf xs) {d : ByteArray} (hx : ∀ x ∈ xs, x.u.size < 60000) {t : List UInt8} (h : t ∈ namesL es d) : t.length < 60000 := by
  unfold namesL at h
  split at h
  · obtain ⟨e, he, hn⟩ := names_mem h
    obtain ⟨x, hxm, hq⟩ := firstsOf_mem xs (e.u, e.bs) (by rw [← hes]; exact List.mem_map.2 ⟨e, he, rfl⟩)
    have h1 := (nameIn_some hn).1
    have h2 := congrArg List.length h1
    have h3 : x.u = e.u := (congrArg Prod.fst hq).symm
    have h4 := hx x hxm
    rw [h3] at h4
    have h5 : e.u.size = e.u.data.toList.length := Lib.size_eq _
    rw [List.length_append] at h2
    omega
  · simp at h
/-- The loop over the names. -/
structure LN (w : World) (L g b1 b2 base : Nat) (es : List Blb) (A : Option Addr) (c : Nat) (NL : List (List UInt8)) (ks : List ByteArray) (W : World) : Prop where
  R : RepoAt W L g b1 b2 es ks
  o : W.ownsRow base 9 1 (.slice A NL.length c) NL.length (NL.map encStr)
  off : ∀ k, (Value.slice A NL.length c).ownBlock = some k → AskOff W g k ∧ k ≠ g ∧ k ≠ b2
  lo : Below w.heap.size w W
theorem LN.get {w : World} {L g b1 b2 base : Nat} {es : List Blb} {A : Option Addr} {c : Nat} {NL : List (List UInt8)} {ks : List ByteArray} {W W' : World} (h : LN w L g b1 b2 base es A c NL ks W) (hL : w.heap.size ≤ L) {u : ByteArray} {e : Ending} (hg : GetPost W L g b1 b2 es ks u e W') :
    ∃ A2 c2 bs is, e = .returned (.tuple #[.slice A2 bs.length c2, .bool is]) ∧ getK es u = (if is then some bs else none) ∧ LN w L g b1 b2 base es A c NL (askF ks u) W' := by
  obtain ⟨A2, c2, bs, is, rfl, hgk, _, _, hR, hfr, hoff⟩ := hg
  refine ⟨A2, c2, bs, is, rfl, hgk, hR, own_kept h.o fun k hk => hfr.keep k (own_base_le h.o k hk).2 ?_, fun k hk => ⟨hoff k (own_base_le h.o k hk).2 (h.off k hk).1, (h.off k hk).2⟩, h.lo.trans (hfr.lo.mono hL)⟩
  rintro (e | e | ⟨v, hv, e⟩)
  · exact (h.off k hk).2.1 e
  · exact (h.off k hk).2.2 e
  · exact (h.off k hk).1 v hv e
theorem LN.drew {w : World} {L g b1 b2 base : Nat} {es : List Blb} {A : Option Addr} {c : Nat} {NL : List (List UInt8)} {ks : List ByteArray} {W : World} (h : LN w L g b1 b2 base es A c NL ks W) : LN w L g b1 b2 base es A c NL ks W.drew := ⟨h.R.drew, h.o, h.off, h.lo.drew⟩
theorem LN.next {w : World} {L g b1 b2 base : Nat} {es : List Blb} {A : Option Addr} {c : Nat} {NL : List (List UInt8)} {ks : List ByteArray} {W W' : World} (h : LN w L g b1 b2 base es A c NL ks W) (hb : Below W.heap.size W W') : LN w L g b1 b2 base es A c NL ks W' := by
  obtain ⟨v, hB, _⟩ := h.R.blk
  refine ⟨h.R.next hb, own_below h.o hb, fun k hk => ⟨fun v hv => ?_, (h.off k hk).2⟩, below_then h.lo (Nat.le_refl _) hb⟩
  exact (h.off k hk).1 v (by rw [← hv]; exact (hb.cell (p := ⟨g, 2, none⟩) hB.lt).symm)
theorem askF_len (ks : List ByteArray) (u : ByteArray) : (askF ks u).length ≤ ks.length + 1 := by unfold askF; split <;> simp
set_option maxRecDepth 100000 in
set_option maxHeartbeats 8000000 in
theorem rpNames_any (xs : List Blb) (A : Option Addr) (c : Nat) (d : ByteArray) (hd : d.size ≤ 9223372036854775807) (m : Int) (w : World) (hp : LawPre w m A c xs) :
    Calls Tryd.prog 4 #[.slice A xs.length c, .string d] w fun e w' => e = .returned (.bool true) ∧ Below w.heap.size w w' := by
  go_enter Tryd.func4, Tryd.ntmps4
  go_wp2_with fail
  refine (awake21_any m _ hp.h0 hp.hm).mono ?_
  rintro e w1 ⟨rfl, hlo⟩
  go_wp2_with fail
  refine (light_any xs A c hp.hc hp.hn (fun x hx => (hp.hf x hx).2) w1 ((hp.hr.below hlo (Nat.le_refl _)).more hlo.size)).mono ?_
  rintro e w2 ⟨rfl, hb⟩
  replace hlo := below_then hlo (Nat.le_refl _) hb
  clear hb
  cases hl : lightB xs
  · go_wp2_with fail
    go_ret
    exact ⟨rfl, hlo⟩
  by_cases h300 : d.size ≤ 300
  · have d300 : decide ((300 : Int) < (d.size : Int)) = false := decide_eq_false (by omega)
    have hpre := hp.new hlo hl
    have HL := Lib.hid hl
    clear hl
    go_wp2_with fail
    clear d300
    refine (new_any xs A c hp.hc m w2 hpre).mono ?_
    rintro e w3 ⟨hnp, hb⟩
    clear hpre
    have hlo3 := below_then hlo (Nat.le_refl _) hb
    unfold NewPost at hnp
    cases hok : (xs.all goodB && !largeB xs)
    · rw [hok] at hnp
      simp only [Bool.false_eq_true, if_false] at hnp
      obtain rfl := hnp
      cases xs.all goodB
      · go_wp2_with fail
        go_ret
        exact ⟨rfl, hlo3⟩
      · go_wp2_with fail
        go_ret
        exact ⟨rfl, hlo3⟩
    · rw [hok] at hnp
      simp only [if_true] at hnp
      obtain ⟨g, b1, b2, es, rfl, hR, hes⟩ := hnp
      have HOK := Lib.hid hok
      have HES := Lib.hid hes
      have hesl : es.length ≤ 1000000 := by
        have h1 := congrArg List.length hes
        rw [List.length_map] at h1
        have h2 := firstsOf_len xs
        have h3 := (light_fine HL.out).1
        omega
      have hL := hlo.size
      clear hok hes hb hlo
      go_wp2_with fail
      refine (names_any d (by omega) m w3 (hp.var hlo3).1 (hp.var hlo3).2 _ g b1 b2 es [] hR hesl).mono ?_
      rintro e w4 ⟨hnm, hb⟩
      obtain ⟨A4, c4, rfl, hn4⟩ := names_told hnm
      have hR4 := hR.next hb
      have hlo4 := below_then hlo3 (Nat.le_refl _) hb
      clear hnm
      have hN : LN w w2.heap.size g b1 b2 w3.heap.size es A4 c4 (namesL es d) [] w4 := by
        refine ⟨hR4, hn4, fun k hk => ?_, hlo4⟩
        have hkb := (own_base_le hn4 k hk).1
        obtain ⟨v, hB, ho⟩ := hR.blk
        refine ⟨fun v' hv' e => ?_, ?_, ?_⟩
        · have e2 := hb.cell (p := ⟨g, 2, none⟩) hB.lt
          rw [hv', hB.cell 2] at e2
          obtain rfl : v' = v := by simpa using e2
          have := (own_base_le ho k e).2
          omega
        · have := hB.lt; omega
        · have := hR.m2.lt; omega
      have HG := Lib.hid (show ∀ t ∈ namesL es d, ∃ bs, getK es (d ++ ⟨t.toArray⟩) = some bs from fun t ht => namesL_get ht)
      have HP := Lib.hid (namesL_rise HES.out d)
      have HZ := Lib.hid (show ∀ t ∈ namesL es d, t.length < 60000 from fun t ht => namesL_size HES.out (fun x hx => ((light_fine HL.out).2 x hx).1) ht)
      have hNL : (namesL es d).length ≤ 1000000 := by have := namesL_len es d; omega
      have HNL := Lib.hid (show namesL es d = namesL es d from rfl)
      generalize hnl : namesL es d = NL at hN HG HP HZ hNL
      clear hn4 hR4 hlo4 hb hR hlo3 HNL
      go_wp2_with fail
      go_loopw [10, 11, 12] (fun i v11 v12 wr => ∃ (k : Nat) (ks : List ByteArray), k ≤ NL.length ∧ i = .int .i64 k ∧ ks.length ≤ k ∧ LN w w2.heap.size g b1 b2 w3.heap.size es A4 c4 NL ks wr) (fun i _ _ _ => NL.length - (intOf i).toNat)
      case atStart => exact ⟨0, [], by omega, rfl, by simp, hN⟩
      case round =>
        clear hN
        obtain ⟨k, ks, hk, rfl, hks, hN⟩ := hrel
        by_cases hlt : k < NL.length
        · have hk0 : (0 : Int) ≤ (k : Int) := by omega
          have hk1 : (k : Int) < (NL.length : Int) := by omega
          obtain ⟨gg, rfl, _, hcl⟩ := own_at hN.o (by omega)
          obtain ⟨nm, hnm⟩ : ∃ nm : ByteArray, nm = ⟨NL[k].toArray⟩ := ⟨_, rfl⟩
          have c1 : wr.cell? ⟨gg, k, none⟩ = some (.string nm) := hcl k _ (by rw [hnm]; simp [hlt, encStr])
          have hsz : nm.size < 60000 := by
            have := HZ.out NL[k] (List.getElem_mem hlt)
            rw [hnm]
            exact this
          have HGK := Lib.hid (show ∃ bs, getK es (d ++ nm) = some bs by rw [hnm]; exact HG.out _ (List.getElem_mem hlt))
          have HNM := Lib.hid hnm
          clear hcl hnm
          go_wp2_with fail
          refine (get_any (d ++ nm) wr _ g b1 b2 es ks hN.R (by omega)).mono ?_
          rintro e w5 hg
          obtain ⟨A2, c2, bs, is, rfl, hgk, hN5⟩ := hN.get hL hg
          have his : is = true := by
            obtain ⟨q, hq⟩ := HGK.out
            rw [hq] at hgk
            cases is
            · simp at hgk
            · rfl
          subst his
          have hkl := askF_len ks (d ++ nm)
          clear hg hgk hN c1
          go_upto_region 13 with fail
          by_cases hk00 : k = 0
          · have dk : decide (0 < k) = false := decide_eq_false (by omega)
            clear hk00
            refine reg_sch2 18 [(true, 0), (true, 1), (true, 2), (true, 3), (true, 4), (true, 5), (true, 6), (true, 7), (true, 8), (true, 9), (true, 10), (true, 11), (true, 12), (true, 13), (true, 14), (true, 15), (true, 16), (true, 17)] (by kernel_rfl) (by kernel_rfl) (LN w w2.heap.size g b1 b2 w3.heap.size es (some ⟨gg, 0, none⟩) c4 NL (askF ks (d ++ nm))) (LN w w2.heap.size g b1 b2 w3.heap.size es (some ⟨gg, 0, none⟩) c4 NL (askF ks (d ++ nm))) ?_ ?_ ?_
            · exact hN5.drew
            · exact fun _ h => h
            intro W hSW
            simp only [List.map_cons, List.map_nil, List.getD_cons_zero, List.getD_cons_succ, List.drop_succ_cons, List.drop_zero]
            refine hd_pure (v := ?_) (by rfl) (fun W' hS' => ?_) ?_ -- 0
            rotate_left
            · clear hS'; (go_simp; first | with_reducible rfl | rfl)
            try simp only [Act.put, List.setIfInBounds_toArray, List.set_cons_zero, List.set_cons_succ]
            refine hd_pure (v := ?_) (by rfl) (fun W' hS' => ?_) ?_ -- 1
            rotate_left
            · clear hS'; (go_simp; first | with_reducible rfl | rfl)
            try simp only [Act.put, List.setIfInBounds_toArray, List.set_cons_zero, List.set_cons_succ]
            refine hd_pure (v := ?_) (by rfl) (fun W' hS' => ?_) ?_ -- 2
            rotate_left
            · clear hS'; (go_simp; first | with_reducible rfl | rfl)
            try simp only [Act.put, List.setIfInBounds_toArray, List.set_cons_zero, List.set_cons_succ]
            refine hd_pure (v := ?_) (by rfl) (fun W' hS' => ?_) ?_ -- 3
            rotate_left
            · clear hS'; (go_simp; first | with_reducible rfl | rfl)
            try simp only [Act.put, List.setIfInBounds_toArray, List.set_cons_zero, List.set_cons_succ]
            refine hd_pure (v := ?_) (by rfl) (fun W' hS' => ?_) ?_ -- 4
            rotate_left
            · clear hS'; (go_simp; first | with_reducible rfl | rfl)
            try simp only [Act.put, List.setIfInBounds_toArray, List.set_cons_zero, List.set_cons_succ]
            refine hd_pure (v := ?_) (by rfl) (fun W' hS' => ?_) ?_ -- 5
            rotate_left
            · clear hS'; (go_simp; first | with_reducible rfl | rfl)
            try simp only [Act.put, List.setIfInBounds_toArray, List.set_cons_zero, List.set_cons_succ]
            refine hd_skip (by rfl) ?_
            try simp only [Act.put, List.setIfInBounds_toArray, List.set_cons_zero, List.set_cons_succ]
            refine hd_skip (by rfl) ?_
            try simp only [Act.put, List.setIfInBounds_toArray, List.set_cons_zero, List.set_cons_succ]
            refine hd_skip (by rfl) ?_
            try simp only [Act.put, List.setIfInBounds_toArray, List.set_cons_zero, List.set_cons_succ]
            refine hd_skip (by rfl) ?_
            try simp only [Act.put, List.setIfInBounds_toArray, List.set_cons_zero, List.set_cons_succ]
            refine hd_skip (by rfl) ?_
            try simp only [Act.put, List.setIfInBounds_toArray, List.set_cons_zero, List.set_cons_succ]
            refine hd_skip (by rfl) ?_
            try simp only [Act.put, List.setIfInBounds_toArray, List.set_cons_zero, List.set_cons_succ]
            refine hd_skip (by rfl) ?_
            try simp only [Act.put, List.setIfInBounds_toArray, List.set_cons_zero, List.set_cons_succ]
            refine hd_skip (by rfl) ?_
            try simp only [Act.put, List.setIfInBounds_toArray, List.set_cons_zero, List.set_cons_succ]
            refine hd_skip (by rfl) ?_
            try simp only [Act.put, List.setIfInBounds_toArray, List.set_cons_zero, List.set_cons_succ]
            refine hd_skip (by rfl) ?_
            try simp only [Act.put, List.setIfInBounds_toArray, List.set_cons_zero, List.set_cons_succ]
            refine hd_pure (v := ?_) (by rfl) (fun W' hS' => ?_) ?_ -- 16
            rotate_left
            · clear hS'; (go_simp; first | with_reducible rfl | rfl)
            try simp only [Act.put, List.setIfInBounds_toArray, List.set_cons_zero, List.set_cons_succ]
            refine hd_pure (v := ?_) (by rfl) (fun W' hS' => ?_) ?_ -- 17
            rotate_left
            · clear hS'; (go_simp; first | with_reducible rfl | rfl)
            try simp only [Act.put, List.setIfInBounds_toArray, List.set_cons_zero, List.set_cons_succ]
            refine hd_nil ?_
            replace hN := hSW; clear hSW
            refine wpList_nil (NoPanic.normal ?_)
            go_wp2_with fail
            go_roundw
            case rel => exact ⟨k + 1, askF ks (d ++ nm), by omega, by go_num, by omega, hN⟩
            case measure => simp [intOf]; omega
          · obtain ⟨om, hom⟩ : ∃ om : ByteArray, om = ⟨(NL[k - 1]'(by omega)).toArray⟩ := ⟨_, rfl⟩
            have hge : ∀ W, (binOp .geq 9 (.string om) (.string nm)).run Tryd.prog W = .ok (.bool false) W := fun W => by
              have hr := List.pairwise_iff_getElem.1 HP.out (k - 1) k (by omega) hlt (by omega)
              have hb : Op.bytesLess om.toList nm.toList = true := by
                rw [bytesLess_eq, Lib.toList_data, Lib.toList_data, hom, HNM.out]
                exact decide_eq_true hr
              simp [binOp, Op.stringOp, hb]
            have HOM := Lib.hid hom
            have hkm : IntKind.i64.wrap ((k : Int) - 1) = ((k - 1 : Nat) : Int) := by rw [IntWalk.i64_in _ (by omega)]; omega
            have dk : decide (0 < k) = true := decide_eq_true (by omega)
            have hk3 : ((k - 1 : Nat) : Int) < (NL.length : Int) := by omega
            have hk4 : (0 : Int) ≤ ((k - 1 : Nat) : Int) := by omega
            have hc : ∀ W, LN w w2.heap.size g b1 b2 w3.heap.size es (some ⟨gg, 0, none⟩) c4 NL (askF ks (d ++ nm)) W → W.cell? ⟨gg, k - 1, none⟩ = some (.string om) ∧ W.cell? ⟨gg, k, none⟩ = some (.string nm) := fun W hW => by
              obtain ⟨g9, e9, _, hcl⟩ := own_at hW.o (by omega)
              cases e9
              exact ⟨hcl _ _ (by rw [HOM.out]; simp [show k - 1 < NL.length by omega, encStr]), hcl _ _ (by rw [HNM.out]; simp [hlt, encStr])⟩
            clear hom hk00
            refine reg_sch2 18 [(true, 0), (true, 1), (true, 2), (true, 3), (true, 4), (true, 5), (true, 6), (true, 7), (true, 8), (true, 9), (true, 10), (true, 11), (true, 12), (true, 13), (true, 14), (true, 15), (true, 16), (true, 17)] (by kernel_rfl) (by kernel_rfl) (LN w w2.heap.size g b1 b2 w3.heap.size es (some ⟨gg, 0, none⟩) c4 NL (askF ks (d ++ nm))) (LN w w2.heap.size g b1 b2 w3.heap.size es (some ⟨gg, 0, none⟩) c4 NL (askF ks (d ++ nm))) ?_ ?_ ?_
            · exact hN5.drew
            · exact fun _ h => h
            intro W hSW
            simp only [List.map_cons, List.map_nil, List.getD_cons_zero, List.getD_cons_succ, List.drop_succ_cons, List.drop_zero]
            refine hd_pure (v := ?_) (by rfl) (fun W' hS' => ?_) ?_ -- 0
            rotate_left
            · obtain ⟨c1, c2⟩ := hc _ hS'; clear hS'; (go_simp; first | with_reducible rfl | rfl)
            try simp only [Act.put, List.setIfInBounds_toArray, List.set_cons_zero, List.set_cons_succ]
            refine hd_pure (v := ?_) (by rfl) (fun W' hS' => ?_) ?_ -- 1
            rotate_left
            · obtain ⟨c1, c2⟩ := hc _ hS'; clear hS'; (go_simp; first | with_reducible rfl | rfl)
            try simp only [Act.put, List.setIfInBounds_toArray, List.set_cons_zero, List.set_cons_succ]
            refine hd_pure (v := ?_) (by rfl) (fun W' hS' => ?_) ?_ -- 2
            rotate_left
            · obtain ⟨c1, c2⟩ := hc _ hS'; clear hS'; (go_simp; first | with_reducible rfl | rfl)
            try simp only [Act.put, List.setIfInBounds_toArray, List.set_cons_zero, List.set_cons_succ]
            refine hd_pure (v := ?_) (by rfl) (fun W' hS' => ?_) ?_ -- 3
            rotate_left
            · obtain ⟨c1, c2⟩ := hc _ hS'; clear hS'; (go_simp; first | with_reducible rfl | rfl)
            try simp only [Act.put, List.setIfInBounds_toArray, List.set_cons_zero, List.set_cons_succ]
            refine hd_pure (v := ?_) (by rfl) (fun W' hS' => ?_) ?_ -- 4
            rotate_left
            · obtain ⟨c1, c2⟩ := hc _ hS'; clear hS'; (go_simp; first | with_reducible rfl | rfl)
            try simp only [Act.put, List.setIfInBounds_toArray, List.set_cons_zero, List.set_cons_succ]
            refine hd_pure (v := ?_) (by rfl) (fun W' hS' => ?_) ?_ -- 5
            rotate_left
            · obtain ⟨c1, c2⟩ := hc _ hS'; clear hS'; (go_simp; first | with_reducible rfl | rfl)
            try simp only [Act.put, List.setIfInBounds_toArray, List.set_cons_zero, List.set_cons_succ]
            refine hd_pure (v := ?_) (by rfl) (fun W' hS' => ?_) ?_ -- 6
            rotate_left
            · obtain ⟨c1, c2⟩ := hc _ hS'; clear hS'; (go_simp; first | with_reducible rfl | rfl)
            try simp only [Act.put, List.setIfInBounds_toArray, List.set_cons_zero, List.set_cons_succ]
            refine hd_pure (v := ?_) (by rfl) (fun W' hS' => ?_) ?_ -- 7
            rotate_left
            · obtain ⟨c1, c2⟩ := hc _ hS'; clear hS'; (go_simp; first | with_reducible rfl | rfl)
            try simp only [Act.put, List.setIfInBounds_toArray, List.set_cons_zero, List.set_cons_succ]
            refine hd_pure (v := ?_) (by rfl) (fun W' hS' => ?_) ?_ -- 8
            rotate_left
            · obtain ⟨c1, c2⟩ := hc _ hS'; clear hS'; (go_simp; first | with_reducible rfl | rfl)
            try simp only [Act.put, List.setIfInBounds_toArray, List.set_cons_zero, List.set_cons_succ]
            refine hd_pure (v := ?_) (by rfl) (fun W' hS' => ?_) ?_ -- 9
            rotate_left
            · obtain ⟨c1, c2⟩ := hc _ hS'; clear hS'; (go_simp; first | with_reducible rfl | rfl)
            try simp only [Act.put, List.setIfInBounds_toArray, List.set_cons_zero, List.set_cons_succ]
            refine hd_pure (v := ?_) (by rfl) (fun W' hS' => ?_) ?_ -- 10
            rotate_left
            · obtain ⟨c1, c2⟩ := hc _ hS'; clear hS'; (go_simp; first | with_reducible rfl | rfl)
            try simp only [Act.put, List.setIfInBounds_toArray, List.set_cons_zero, List.set_cons_succ]
            refine hd_pure (v := ?_) (by rfl) (fun W' hS' => ?_) ?_ -- 11
            rotate_left
            · obtain ⟨c1, c2⟩ := hc _ hS'; clear hS'; (go_simp; first | with_reducible rfl | rfl)
            try simp only [Act.put, List.setIfInBounds_toArray, List.set_cons_zero, List.set_cons_succ]
            refine hd_pure (v := ?_) (by rfl) (fun W' hS' => ?_) ?_ -- 12
            rotate_left
            · obtain ⟨c1, c2⟩ := hc _ hS'; clear hS'; (go_simp; first | with_reducible rfl | rfl)
            try simp only [Act.put, List.setIfInBounds_toArray, List.set_cons_zero, List.set_cons_succ]
            refine hd_pure (v := ?_) (by rfl) (fun W' hS' => ?_) ?_ -- 13
            rotate_left
            · obtain ⟨c1, c2⟩ := hc _ hS'; clear hS'; (go_simp; first | with_reducible rfl | rfl)
            try simp only [Act.put, List.setIfInBounds_toArray, List.set_cons_zero, List.set_cons_succ]
            refine hd_pure (v := ?_) (by rfl) (fun W' hS' => ?_) ?_ -- 14
            rotate_left
            · obtain ⟨c1, c2⟩ := hc _ hS'; clear hS'; (go_simp; first | with_reducible rfl | rfl)
            try simp only [Act.put, List.setIfInBounds_toArray, List.set_cons_zero, List.set_cons_succ]
            refine hd_pure (v := ?_) (by rfl) (fun W' hS' => ?_) ?_ -- 15
            rotate_left
            · obtain ⟨c1, c2⟩ := hc _ hS'; clear hS'; (go_simp; first | with_reducible rfl | rfl)
            try simp only [Act.put, List.setIfInBounds_toArray, List.set_cons_zero, List.set_cons_succ]
            refine hd_pure (v := ?_) (by rfl) (fun W' hS' => ?_) ?_ -- 16
            rotate_left
            · obtain ⟨c1, c2⟩ := hc _ hS'; clear hS'; (go_simp; first | with_reducible rfl | rfl)
            try simp only [Act.put, List.setIfInBounds_toArray, List.set_cons_zero, List.set_cons_succ]
            refine hd_pure (v := ?_) (by rfl) (fun W' hS' => ?_) ?_ -- 17
            rotate_left
            · obtain ⟨c1, c2⟩ := hc _ hS'; clear hS'; (go_simp; first | with_reducible rfl | rfl)
            try simp only [Act.put, List.setIfInBounds_toArray, List.set_cons_zero, List.set_cons_succ]
            refine hd_nil ?_
            replace hN := hSW; clear hSW
            refine wpList_nil (NoPanic.normal ?_)
            go_wp2_with fail
            go_roundw
            case rel => exact ⟨k + 1, askF ks (d ++ nm), by omega, by go_num, by omega, hN⟩
            case measure => simp [intOf]; omega
        · have hkk : k = NL.length := by omega
          subst hkk
          clear hlt hk HG HP HZ
          have hx60 := (light_fine HL.out).1
          obtain ⟨ib, hib, hbz0, hbz1, hbz2⟩ := info_parts info_blbF
          have hlr := hN.lo
          have hsz := hlr.size
          have hrA : Reads (wr.alloc (.cells #[] 27)) wr.heap.size 2 A xs.length (xs.flatMap Blb.cells) := ((hp.hr.below hlr (Nat.le_refl _)).more hsz).alloc (Nat.le_refl _) _
          have hl0 := own_lit0 wr wr.heap.size 27 2 (Nat.le_refl _)
          go_wp2_with (first | (refine wpList_build1 rfl 22 27 _ rfl zzB.cells 2 rfl rfl Tryd.underlying22 (by kernel_rfl) (by kernel_rfl) (by omega) (by omega) ?_) | (at_builtin; refine wpList_append_any _ rfl _ _ 22 rfl wr.heap.size 27 ib _ 2 40 Tryd.underlying22 hib hbz0 hbz1 hbz2 rfl (by omega) _ (0 + xs.length) _ rfl (own_below ho6 ((Below.refl _ _).alloc (Nat.le_refl _) _)) (w6.heap.size + 1) (some ⟨w6.heap.size, 0, none⟩) 1 1 _ rfl (reads_blk (Blk.new w6 _ zzB.cells) rfl) zzB.one (by simp only [maxLen]; omega) (by omega) (by have := hg6.size; rw [World.size_alloc] at this ⊢; omega) ?_; intro v7 w7 ho7 hg7 _) | (at_builtin; refine wpList_append_any _ rfl _ _ 22 rfl wr.heap.size 27 ib _ 2 40 Tryd.underlying22 hib hbz0 hbz1 hbz2 rfl (by omega) _ 0 _ rfl hl0 wr.heap.size A xs.length c _ rfl hrA (blbs_one xs) (by simp only [maxLen]; omega) (by omega) (by simp) ?_; intro v6 w6 ho6 hg6 _))
          have h6 : Below wr.heap.size wr w6 := Below.grown ((Below.refl _ _).alloc (Nat.le_refl _) _) hg6 (by rw [World.size_alloc]; omega) (fun k hk => (own_base_le hl0 k hk).1)
          have h7 : Below wr.heap.size wr w7 := Below.grown (h6.alloc h6.size _) hg7 (by have := h6.size; rw [World.size_alloc]; omega) (fun k hk => (own_base_le ho6 k hk).1)
          obtain ⟨A7, c7, rfl⟩ := own_slice' ho7
          have hlen2 : (xs ++ [zzB]).length = 0 + xs.length + 1 := by simp
          have hflat : (xs ++ [zzB]).flatMap Blb.cells = [] ++ xs.flatMap Blb.cells ++ zzB.cells := by simp
          rw [← hlen2, ← hflat] at ho7
          have hN7 := hN.next h7
          have hpre2 : NewPre w7 m A7 (xs ++ [zzB]) := by
            refine ⟨(hp.var hN7.lo).1, (hp.var hN7.lo).2, Reads.of_own ho7, fun x hx => ?_, by simp; omega⟩
            rcases List.mem_append.1 hx with hx | hx
            · have h2 := (light_fine HL.out).2 x hx
              exact ⟨((hp.hf x hx).1.below hN7.lo (Nat.le_refl _)).more hN7.lo.size, by omega, by omega⟩
            · obtain rfl := List.mem_singleton.1 hx
              exact ⟨Reads.none_, (show zzU.size ≤ 9223372036854775807 by decide), (show 0 ≤ 140737488355000 by decide)⟩
          have hok2 : ((xs ++ [zzB]).all goodB && !largeB (xs ++ [zzB])) = true := by
            have h1 := HOK.out
            simp only [Bool.and_eq_true, Bool.not_eq_true'] at h1
            have h2 : goodB zzB = true := by unfold goodB zzB; rw [zz_good.1, zz_good.2]; rfl
            have h3 := h1.2
            unfold largeB at h3 ⊢
            simp only [Bool.or_eq_false_iff] at h3
            have h5 : decide (400 < (xs ++ [zzB]).length) = false := decide_eq_false (by omega)
            rw [h5, List.all_append, h1.1, List.any_append, h3.2]
            simp [h2]
            exact Nat.zero_le _
          rw [← hlen2]
          refine (new_any (xs ++ [zzB]) A7 c7 (own_cap ho7) m w7 hpre2).mono ?_
          rintro e w8 ⟨hnp, hb⟩
          unfold NewPost at hnp
          rw [hok2] at hnp
          simp only [if_true] at hnp
          obtain ⟨g', b1', b2', es2, rfl, hR2, hes2⟩ := hnp
          have hN8 := hN7.next hb
          have hesl2 : es2.length ≤ 1000000 := by
            have h1 := congrArg List.length hes2
            rw [List.length_map] at h1
            have h2 := firstsOf_len (xs ++ [zzB])
            omega
          have HBD : Hid (namesL es2 d = NL ∨ d = zzD) := Lib.hid (by
            rw [← hnl]
            unfold namesL
            cases hdd : dirB d
            · exact .inl rfl
            · by_cases hz : d = zzD
              · exact .inr hz
              · left
                have e1 : namesRaw es2 d = namesRaw es d := by
                  rw [namesRaw_map, namesRaw_map, hes2, HES.out, firstsOf_snoc, addF_names _ _ _ (zz_none hdd hz)]
                simp only [if_true]
                unfold namesOf
                rw [e1])
          clear hpre2 hok2 hes2 hb hN7 hN h6 h7 ho6 ho7 hg6 hg7 hl0 hrA hlr hsz hflat hlen2 hib hbz0 hbz1 hbz2
          go_wp2_with fail
          refine (names_any d (by omega) m w8 (hp.var hN8.lo).1 (hp.var hN8.lo).2 _ g' b1' b2' es2 [] hR2 hesl2).mono ?_
          rintro e w9 ⟨hnm, hb⟩
          obtain ⟨A9, c9, rfl, hn9⟩ := names_told hnm
          have hN9 := hN8.next hb
          clear hnm hb hN8
          go_wp2_with fail
          refine (same02_any ((namesL es2 d).map fun t => ⟨t.toArray⟩) (NL.map fun t => ⟨t.toArray⟩) A9 A4 c9 c4 _ _ w9.heap.size w9 (by simp) (by simp) (Nat.le_refl _) (by rw [List.length_map]; have := namesL_len es2 d; omega) (by rw [List.map_map]; exact Reads.of_own hn9) (by rw [List.map_map]; exact Reads.of_own hN9.o)).mono ?_
          rintro e w10 ⟨rfl, hb⟩
          have hlo10 := below_then hN9.lo (Nat.le_refl _) hb
          clear hb hN9 hn9
          have hsame : decide (((namesL es2 d).map fun t => (⟨t.toArray⟩ : ByteArray)) = NL.map fun t => ⟨t.toArray⟩) = true ∨ (d.toList == zzD.toList) = true := by
            rcases HBD.out with h | h
            · exact .inl (by rw [h]; exact decide_eq_true rfl)
            · exact .inr (by rw [eqS]; exact decide_eq_true h)
          generalize decide (((namesL es2 d).map fun t => (⟨t.toArray⟩ : ByteArray)) = NL.map fun t => ⟨t.toArray⟩) = sm at hsame
          cases sm
          · have hz : (d.toList == ([114, 115, 121, 110, 99, 58, 47, 47, 122, 122, 47, 122, 122, 47] : List UInt8)) = true := by
              rcases hsame with h | h
              · cases h
              · rw [Lib.toList_data zzD] at h
                exact h
            go_wp2_with fail
            go_ret
            exact ⟨rfl, hlo10⟩
          · go_wp2_with fail
            go_ret
            exact ⟨rfl, hlo10⟩
  · have d300 : decide ((300 : Int) < (d.size : Int)) = true := decide_eq_true (by omega)
    go_wp2_with fail
    go_ret
    exact ⟨rfl, hlo⟩
end Go.Proofs.YtmoldmnhijcckaaDoor
