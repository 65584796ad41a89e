/- router's Ask, through, Take. -/
import Derived.Test.YtmoldmnhijcckaaGreatMa43
import Derived.Test.YtmoldmnhijcckaaGreatMa29
set_option linter.unusedVariables false
set_option linter.unusedSectionVars false
set_option linter.unusedSimpArgs false
namespace Go.Proofs.YtmoldmnhijcckaaGreat
open Go.RowKit
theorem own_mapV_ne {w : World} {b : Nat} {ks : List Vrp} (h : MapV w b ks) {base n size : Nat} {t : TypeId} {u : Value} {xs : List Value} (hu : w.ownsRow base t size u n xs) : u.ownBlock ≠ some b := by
  intro hk
  obtain ⟨l, m, hh, _⟩ := h
  rcases hu.2 with ⟨rfl, _⟩ | ⟨g', cap, cur, rfl, _, hh', _⟩
  · simp [Value.ownBlock] at hk
  · have : g' = b := by simpa [Value.ownBlock] using hk
    subst this
    rw [hh] at hh'
    cases hh'
/-- A row of another kind is kept by a router's step. -/
theorem RFr.row {B C : World} {g : Nat} {r r1 : RoT} (k : RFr B C g r r1) (hA : RtA B g r) {base n size : Nat} {t : TypeId} {u : Value} {xs : List Value} (hu : B.ownsRow base t size u n xs) (ht : t ≠ 74) : C.ownsRow base t size u n xs :=
  own_kept hu fun i hi => k.keep i (own_base_le hu i hi).2 (fun e => own_blk_ne hu hA.blk ht (by rw [← e]; exact hi)) (fun t' ht' e => own_mapV_ne (hA.nxt t' ht').m hu (by rw [← e]; exact hi))
structure AskP (w : World) (g : Nat) (r : RoT) (bx : Nat) (p : Pdu) (W : World) : Prop where
  a : RtA W g r
  b : Blk W bx 69 p.cells
set_option maxRecDepth 100000 in
set_option maxHeartbeats 4000000 in
theorem rask_any (w : World) (g : Nat) (r : RoT) (h : RtA w g r) : Calls Tryz.prog 8 #[.pointer (some ⟨g, 0, none⟩)] w fun e w' => ∃ A c r', e = .returned (.slice A (askQ r.q).2.length c) ∧ Reads w' w'.heap.size 1 A (askQ r.q).2.length ((askQ r.q).2.map bv) ∧ RtA w' g r' ∧ r'.q = (askQ r.q).1 ∧ RFr w w' g r r' := by
  have c6 := h.blk.cell 6
  have c0 := h.blk.cell 0
  simp only [RoT.cells, List.getElem?_cons_zero, List.getElem?_cons_succ] at c6 c0
  cases hb : r.broken
  · cases hh : r.h with
    | none =>
      have HQ := Lib.hid (show askQ r.q = (({ r with asked := true, kind := 2, nx := none, lf := ⟨none, 0, []⟩ } : RoT).q, wrD (pdS 2 0 0 0)) by simp [askQ, RoT.q, RoT.abs, hb, hh])
      have hh0 := hh
      rw [hb] at c6
      clear hh
      have hT : RtP w g r w.heap.size (pdS 2 0 0 0) ((w.alloc (.cells (bareL 0).toArray 69)).setCells w.heap.size 0 (pdS 2 0 0 0).cells) := ⟨h.next (Below.setCells (Nat.le_refl _) _ _ ((Below.refl _ _).alloc (Nat.le_refl _) _)), (Blk.new _ _ _).setCells_all (Pdu.cells_length _), Below.setCells (Nat.le_refl _) _ _ ((Below.refl _ _).alloc (Nat.le_refl _) _)⟩
      have hbx := Nat.le_refl w.heap.size
      have HH := Lib.hid hh0
      clear c0 hh0
      go_enter Tryz.func8, Tryz.ntmps8
      go_upto_region 4 with (refine wpList_store_at rfl 69 _ _ rfl w.heap.size 0 26 69 (pdS 2 0 0 0).cells (bareL 0) rfl rfl (Blk.new _ _ _) (Pdu.cells_length _) (by decide) info_pdu (Pdu.one _) ?_)
      refine wp_gen (RtP w g r w.heap.size (pdS 2 0 0 0)) hT ?_
      clear hT c6
      obtain ⟨bx, hbx'⟩ : ∃ bx, bx = w.heap.size := ⟨_, rfl⟩
      rw [← hbx']
      have HBX := Lib.hid (show w.heap.size ≤ bx by omega)
      clear hbx hbx'
      intro W hT
      have c0 := hT.a.blk.cell 0
      simp only [RoT.cells, HH.out, tbP, List.getElem?_cons_zero] at c0
      go_upto_region 6 with fail
      refine reg_sch2 17 [(true, 0), (true, 1), (true, 2), (true, 3), (true, 4), (true, 5), (true, 6), (true, 7), (false, 8), (true, 9), (true, 10), (false, 11), (true, 12), (true, 13), (false, 14), (true, 15), (true, 16)] (by kernel_rfl) (by kernel_rfl) (fun W => (∃ b k v, Blk W g 74 [tbP r.h, .int .u32 r.sn.toNat, v, .bool b, .int .i64 k, r.lf.val, .bool r.broken]) ∧ Blk W bx 69 (pdS 2 0 0 0).cells) (RtP w g r bx (pdS 2 0 0 0)) ?_ ?_ ?_
      · first | exact hT.drew | exact hT
      · exact fun W h => ⟨⟨_, _, _, h.a.blk⟩, h.b⟩
      intro W hSW
      simp only [List.map_cons, List.map_nil, List.getD_cons_zero, List.getD_cons_succ, List.drop_succ_cons, List.drop_zero]
      refine hd_pure (v := ?_) (by rfl) (fun W' hS' => ?_) ?_ -- 0
      rotate_left
      · have p0 := (hS'.2.cell 0).trans (Pdu.c0 _); simp only [pdS] at p0; clear hS'; (go_simp; first | with_reducible rfl | rfl)
      try simp only [Act.put, List.setIfInBounds_toArray, List.set_cons_zero, List.set_cons_succ]
      refine hd_pure (v := ?_) (by rfl) (fun W' hS' => ?_) ?_ -- 1
      rotate_left
      · have p0 := (hS'.2.cell 0).trans (Pdu.c0 _); simp only [pdS] at p0; clear hS'; (go_simp; first | with_reducible rfl | rfl)
      try simp only [Act.put, List.setIfInBounds_toArray, List.set_cons_zero, List.set_cons_succ]
      refine hd_pure (v := ?_) (by rfl) (fun W' hS' => ?_) ?_ -- 2
      rotate_left
      · have p0 := (hS'.2.cell 0).trans (Pdu.c0 _); simp only [pdS] at p0; clear hS'; (go_simp; first | with_reducible rfl | rfl)
      try simp only [Act.put, List.setIfInBounds_toArray, List.set_cons_zero, List.set_cons_succ]
      refine hd_pure (v := ?_) (by rfl) (fun W' hS' => ?_) ?_ -- 3
      rotate_left
      · have p0 := (hS'.2.cell 0).trans (Pdu.c0 _); simp only [pdS] at p0; clear hS'; (go_simp; first | with_reducible rfl | rfl)
      try simp only [Act.put, List.setIfInBounds_toArray, List.set_cons_zero, List.set_cons_succ]
      refine hd_pure (v := ?_) (by rfl) (fun W' hS' => ?_) ?_ -- 4
      rotate_left
      · have p0 := (hS'.2.cell 0).trans (Pdu.c0 _); simp only [pdS] at p0; clear hS'; (go_simp; first | with_reducible rfl | rfl)
      try simp only [Act.put, List.setIfInBounds_toArray, List.set_cons_zero, List.set_cons_succ]
      refine hd_pure (v := ?_) (by rfl) (fun W' hS' => ?_) ?_ -- 5
      rotate_left
      · have p0 := (hS'.2.cell 0).trans (Pdu.c0 _); simp only [pdS] at p0; clear hS'; (go_simp; first | with_reducible rfl | rfl)
      try simp only [Act.put, List.setIfInBounds_toArray, List.set_cons_zero, List.set_cons_succ]
      refine hd_pure (v := ?_) (by rfl) (fun W' hS' => ?_) ?_ -- 6
      rotate_left
      · have p0 := (hS'.2.cell 0).trans (Pdu.c0 _); simp only [pdS] at p0; clear hS'; (go_simp; first | with_reducible rfl | rfl)
      try simp only [Act.put, List.setIfInBounds_toArray, List.set_cons_zero, List.set_cons_succ]
      refine hd_pure (v := ?_) (by rfl) (fun W' hS' => ?_) ?_ -- 7
      rotate_left
      · have p0 := (hS'.2.cell 0).trans (Pdu.c0 _); simp only [pdS] at p0; clear hS'; (go_simp; first | with_reducible rfl | rfl)
      try simp only [Act.put, List.setIfInBounds_toArray, List.set_cons_zero, List.set_cons_succ]
      refine hd_sole (by rfl) (fun K hK => ?_) -- 8
      have e3 := hSW.a.blk.cell 3; have f3 := hSW.a.blk.frozen 3; simp only [RoT.cells, List.getElem?_cons_zero, List.getElem?_cons_succ] at e3
      go_simp
      clear e3 f3
      have hR1 := hSW.a.setAsked true; have hX1 := hSW.b.far (p := ⟨g, 3, none⟩) (blk_typ_ne hSW.b hSW.a.blk (by decide)) (.bool true)
      refine hK _ _ (⟨⟨_, _, _, hR1.blk⟩, hX1⟩) ?_
      clear hK K
      intro hSW8
      try simp only [Act.put, List.setIfInBounds_toArray, List.set_cons_zero, List.set_cons_succ]
      refine hd_pure (v := ?_) (by rfl) (fun W' hS' => ?_) ?_ -- 9
      rotate_left
      · have p0 := (hS'.2.cell 0).trans (Pdu.c0 _); simp only [pdS] at p0; clear hS'; (go_simp; first | with_reducible rfl | rfl)
      try simp only [Act.put, List.setIfInBounds_toArray, List.set_cons_zero, List.set_cons_succ]
      refine hd_pure (v := ?_) (by rfl) (fun W' hS' => ?_) ?_ -- 10
      rotate_left
      · have p0 := (hS'.2.cell 0).trans (Pdu.c0 _); simp only [pdS] at p0; clear hS'; (go_simp; first | with_reducible rfl | rfl)
      try simp only [Act.put, List.setIfInBounds_toArray, List.set_cons_zero, List.set_cons_succ]
      refine hd_sole (by rfl) (fun K hK => ?_) -- 11
      have e4 := hR1.blk.cell 4; have f4 := hR1.blk.frozen 4; simp only [RoT.cells, List.getElem?_cons_zero, List.getElem?_cons_succ] at e4
      go_simp
      clear e4 f4
      have hR2 := hR1.setKind (2); have hX2 := hX1.far (p := ⟨g, 4, none⟩) (blk_typ_ne hX1 hR1.blk (by decide)) (.int .i64 (2))
      refine hK _ _ (⟨⟨_, _, _, hR2.blk⟩, hX2⟩) ?_
      clear hK K
      intro hSW11
      try simp only [Act.put, List.setIfInBounds_toArray, List.set_cons_zero, List.set_cons_succ]
      refine hd_pure (v := ?_) (by rfl) (fun W' hS' => ?_) ?_ -- 12
      rotate_left
      · have p0 := (hS'.2.cell 0).trans (Pdu.c0 _); simp only [pdS] at p0; clear hS'; (go_simp; first | with_reducible rfl | rfl)
      try simp only [Act.put, List.setIfInBounds_toArray, List.set_cons_zero, List.set_cons_succ]
      refine hd_pure (v := ?_) (by rfl) (fun W' hS' => ?_) ?_ -- 13
      rotate_left
      · have p0 := (hS'.2.cell 0).trans (Pdu.c0 _); simp only [pdS] at p0; clear hS'; (go_simp; first | with_reducible rfl | rfl)
      try simp only [Act.put, List.setIfInBounds_toArray, List.set_cons_zero, List.set_cons_succ]
      refine hd_sole (by rfl) (fun K hK => ?_) -- 14
      have e2 := hR2.blk.cell 2; have f2 := hR2.blk.frozen 2; simp only [RoT.cells, List.getElem?_cons_zero, List.getElem?_cons_succ] at e2
      go_simp
      clear e2 f2
      have hR3 := hR2.noNext; have hX3 := hX2.far (p := ⟨g, 2, none⟩) (blk_typ_ne hX2 hR2.blk (by decide)) (.pointer none)
      refine hK _ _ (⟨⟨_, _, _, hR3.blk⟩, hX3⟩) ?_
      clear hK K
      intro hSW14
      try simp only [Act.put, List.setIfInBounds_toArray, List.set_cons_zero, List.set_cons_succ]
      refine hd_pure (v := ?_) (by rfl) (fun W' hS' => ?_) ?_ -- 15
      rotate_left
      · have p0 := (hS'.2.cell 0).trans (Pdu.c0 _); simp only [pdS] at p0; clear hS'; (go_simp; first | with_reducible rfl | rfl)
      try simp only [Act.put, List.setIfInBounds_toArray, List.set_cons_zero, List.set_cons_succ]
      refine hd_pure (v := ?_) (by rfl) (fun W' hS' => ?_) ?_ -- 16
      rotate_left
      · have p0 := (hS'.2.cell 0).trans (Pdu.c0 _); simp only [pdS] at p0; clear hS'; (go_simp; first | with_reducible rfl | rfl)
      try simp only [Act.put, List.setIfInBounds_toArray, List.set_cons_zero, List.set_cons_succ]
      refine hd_nil ?_
      have e5 := hR3.blk.cell 5; have f5 := hR3.blk.frozen 5; simp only [RoT.cells, List.getElem?_cons_zero, List.getElem?_cons_succ] at e5
      go_wp2_with fail
      refine NoPanic.normal ?_
      have hR4 := hR3.setLeft ⟨none, 0, []⟩ ⟨Reads.nil, Nat.le_refl _⟩
      have hX4 := hX3.far (p := ⟨g, 5, none⟩) (blk_typ_ne hX3 hR3.blk (by decide)) (Lf.val ⟨none, 0, []⟩)
      have hG1 : RFr W (W.setCell ⟨g, 3, none⟩ (.bool true)) g r { r with asked := true } := RFr.same rfl rfl
      have hG2 : RFr (W.setCell ⟨g, 3, none⟩ (.bool true)) ((W.setCell ⟨g, 3, none⟩ (.bool true)).setCell ⟨g, 4, none⟩ (.int .i64 (2))) g { r with asked := true } { r with asked := true, kind := 2 } := RFr.same rfl rfl
      have hG3 : RFr ((W.setCell ⟨g, 3, none⟩ (.bool true)).setCell ⟨g, 4, none⟩ (.int .i64 (2))) (((W.setCell ⟨g, 3, none⟩ (.bool true)).setCell ⟨g, 4, none⟩ (.int .i64 (2))).setCell ⟨g, 2, none⟩ (.pointer none)) g { r with asked := true, kind := 2 } { r with asked := true, kind := 2, nx := none } := RFr.cell (fun t ht => ht.elim .inl (fun h => by cases h)) (fun t ht => by cases ht)
      have hG4 : RFr (((W.setCell ⟨g, 3, none⟩ (.bool true)).setCell ⟨g, 4, none⟩ (.int .i64 (2))).setCell ⟨g, 2, none⟩ (.pointer none)) ((((W.setCell ⟨g, 3, none⟩ (.bool true)).setCell ⟨g, 4, none⟩ (.int .i64 (2))).setCell ⟨g, 2, none⟩ (.pointer none)).setCell ⟨g, 5, none⟩ (Lf.val ⟨none, 0, []⟩)) g { r with asked := true, kind := 2, nx := none } { r with asked := true, kind := 2, nx := none, lf := ⟨none, 0, []⟩ } := RFr.same rfl rfl
      have hF4 := ((((RFr.below (r := r) (g := g) hSW.f).trans hG1).trans hG2).trans hG3).trans hG4
      clear hG1 hG2 hG3 hG4
      go_upto_region 7 with fail
      refine wp_gen (fun W2 => (RtA W2 g { r with asked := true, kind := 2, nx := none, lf := ⟨none, 0, []⟩ } ∧ RFr w W2 g r { r with asked := true, kind := 2, nx := none, lf := ⟨none, 0, []⟩ }) ∧ Blk W2 bx 69 (pdS 2 0 0 0).cells) ⟨⟨hR4, hF4⟩, hX4⟩ ?_
      clear hSW hSW8 hSW11 hSW14 hR1 hR2 hR3 hR4 hX1 hX2 hX3 hX4 hF4 e5 f5
      rintro W2 ⟨⟨hR, hF⟩, hX⟩
      have hxr := hX.range
      go_wp2_with (refine wpList_load_at rfl 69 _ rfl bx 0 26 rfl _ _ hxr (Pdu.cells_length _) Tryz.underlying69 rfl info_pdu ?_)
      refine (write_d (pdS 2 0 0 0) W2).mono ?_
      rintro e w5 ⟨A5, c5, x5, rfl, hrd, hb5⟩
      have hR5 := hR.next hb5
      have hF5 := hF.then hb5
      clear hR hF hX hxr hb5
      go_wp2_with fail
      go_ret
      rw [HQ.out]
      exact ⟨A5, c5, _, rfl, hrd, hR5, rfl, hF5⟩
    | some t =>
      have HQ := Lib.hid (show askQ r.q = (({ r with asked := true, kind := 1, nx := none, lf := ⟨none, 0, []⟩ } : RoT).q, wrD (pdS 1 t.sess r.sn 0)) by simp [askQ, RoT.q, RoT.abs, TbV.abs, hb, hh])
      have hh0 := hh
      rw [hb] at c6
      clear hh
      have hT : RtP w g r w.heap.size (pdS 2 0 0 0) ((w.alloc (.cells (bareL 0).toArray 69)).setCells w.heap.size 0 (pdS 2 0 0 0).cells) := ⟨h.next (Below.setCells (Nat.le_refl _) _ _ ((Below.refl _ _).alloc (Nat.le_refl _) _)), (Blk.new _ _ _).setCells_all (Pdu.cells_length _), Below.setCells (Nat.le_refl _) _ _ ((Below.refl _ _).alloc (Nat.le_refl _) _)⟩
      have hbx := Nat.le_refl w.heap.size
      have HH := Lib.hid hh0
      clear c0 hh0
      go_enter Tryz.func8, Tryz.ntmps8
      go_upto_region 4 with (refine wpList_store_at rfl 69 _ _ rfl w.heap.size 0 26 69 (pdS 2 0 0 0).cells (bareL 0) rfl rfl (Blk.new _ _ _) (Pdu.cells_length _) (by decide) info_pdu (Pdu.one _) ?_)
      refine wp_gen (RtP w g r w.heap.size (pdS 2 0 0 0)) hT ?_
      clear hT c6
      obtain ⟨bx, hbx'⟩ : ∃ bx, bx = w.heap.size := ⟨_, rfl⟩
      rw [← hbx']
      have HBX := Lib.hid (show w.heap.size ≤ bx by omega)
      clear hbx hbx'
      intro W hT
      have c0 := hT.a.blk.cell 0
      simp only [RoT.cells, HH.out, tbP, List.getElem?_cons_zero] at c0
      go_upto_region 5 with fail
      clear c0
      refine reg_sch2 12 [(true, 0), (true, 1), (true, 2), (true, 3), (true, 4), (true, 5), (true, 6), (true, 7), (true, 8), (true, 9), (true, 10), (true, 11)] (by kernel_rfl) (by kernel_rfl) (RtP w g r bx (pdS 2 0 0 0)) (RtP w g r bx (pdS 2 0 0 0)) ?_ ?_ ?_
      · first | exact hT.drew | exact hT
      · exact fun _ h => h
      intro W hSW
      simp only [List.map_cons, List.map_nil, List.getD_cons_zero, List.getD_cons_succ, List.drop_succ_cons, List.drop_zero]
      refine hd_pure (v := ?_) (by rfl) (fun W' hS' => ?_) ?_ -- 0
      rotate_left
      · have hB := hS'.a.blk; unfold RoT.cells at hB; rw [HH.out] at hB; have e0 := hB.cell 0; have e1 := hB.cell 1; have k0 := (hS'.a.has t HH.out).b.cell 0; simp only [tbP, List.getElem?_cons_zero, List.getElem?_cons_succ] at e0 e1 k0; clear hB; (go_simp; first | with_reducible rfl | rfl)
      try simp only [Act.put, List.setIfInBounds_toArray, List.set_cons_zero, List.set_cons_succ]
      refine hd_pure (v := ?_) (by rfl) (fun W' hS' => ?_) ?_ -- 1
      rotate_left
      · have hB := hS'.a.blk; unfold RoT.cells at hB; rw [HH.out] at hB; have e0 := hB.cell 0; have e1 := hB.cell 1; have k0 := (hS'.a.has t HH.out).b.cell 0; simp only [tbP, List.getElem?_cons_zero, List.getElem?_cons_succ] at e0 e1 k0; clear hB; (go_simp; first | with_reducible rfl | rfl)
      try simp only [Act.put, List.setIfInBounds_toArray, List.set_cons_zero, List.set_cons_succ]
      refine hd_pure (v := ?_) (by rfl) (fun W' hS' => ?_) ?_ -- 2
      rotate_left
      · have hB := hS'.a.blk; unfold RoT.cells at hB; rw [HH.out] at hB; have e0 := hB.cell 0; have e1 := hB.cell 1; have k0 := (hS'.a.has t HH.out).b.cell 0; simp only [tbP, List.getElem?_cons_zero, List.getElem?_cons_succ] at e0 e1 k0; clear hB; (go_simp; first | with_reducible rfl | rfl)
      try simp only [Act.put, List.setIfInBounds_toArray, List.set_cons_zero, List.set_cons_succ]
      refine hd_pure (v := ?_) (by rfl) (fun W' hS' => ?_) ?_ -- 3
      rotate_left
      · have hB := hS'.a.blk; unfold RoT.cells at hB; rw [HH.out] at hB; have e0 := hB.cell 0; have e1 := hB.cell 1; have k0 := (hS'.a.has t HH.out).b.cell 0; simp only [tbP, List.getElem?_cons_zero, List.getElem?_cons_succ] at e0 e1 k0; clear hB; (go_simp; first | with_reducible rfl | rfl)
      try simp only [Act.put, List.setIfInBounds_toArray, List.set_cons_zero, List.set_cons_succ]
      refine hd_pure (v := ?_) (by rfl) (fun W' hS' => ?_) ?_ -- 4
      rotate_left
      · have hB := hS'.a.blk; unfold RoT.cells at hB; rw [HH.out] at hB; have e0 := hB.cell 0; have e1 := hB.cell 1; have k0 := (hS'.a.has t HH.out).b.cell 0; simp only [tbP, List.getElem?_cons_zero, List.getElem?_cons_succ] at e0 e1 k0; clear hB; (go_simp; first | with_reducible rfl | rfl)
      try simp only [Act.put, List.setIfInBounds_toArray, List.set_cons_zero, List.set_cons_succ]
      refine hd_pure (v := ?_) (by rfl) (fun W' hS' => ?_) ?_ -- 5
      rotate_left
      · have hB := hS'.a.blk; unfold RoT.cells at hB; rw [HH.out] at hB; have e0 := hB.cell 0; have e1 := hB.cell 1; have k0 := (hS'.a.has t HH.out).b.cell 0; simp only [tbP, List.getElem?_cons_zero, List.getElem?_cons_succ] at e0 e1 k0; clear hB; (go_simp; first | with_reducible rfl | rfl)
      try simp only [Act.put, List.setIfInBounds_toArray, List.set_cons_zero, List.set_cons_succ]
      refine hd_pure (v := ?_) (by rfl) (fun W' hS' => ?_) ?_ -- 6
      rotate_left
      · have hB := hS'.a.blk; unfold RoT.cells at hB; rw [HH.out] at hB; have e0 := hB.cell 0; have e1 := hB.cell 1; have k0 := (hS'.a.has t HH.out).b.cell 0; simp only [tbP, List.getElem?_cons_zero, List.getElem?_cons_succ] at e0 e1 k0; clear hB; (go_simp; first | with_reducible rfl | rfl)
      try simp only [Act.put, List.setIfInBounds_toArray, List.set_cons_zero, List.set_cons_succ]
      refine hd_pure (v := ?_) (by rfl) (fun W' hS' => ?_) ?_ -- 7
      rotate_left
      · have hB := hS'.a.blk; unfold RoT.cells at hB; rw [HH.out] at hB; have e0 := hB.cell 0; have e1 := hB.cell 1; have k0 := (hS'.a.has t HH.out).b.cell 0; simp only [tbP, List.getElem?_cons_zero, List.getElem?_cons_succ] at e0 e1 k0; clear hB; (go_simp; first | with_reducible rfl | rfl)
      try simp only [Act.put, List.setIfInBounds_toArray, List.set_cons_zero, List.set_cons_succ]
      refine hd_pure (v := ?_) (by rfl) (fun W' hS' => ?_) ?_ -- 8
      rotate_left
      · have hB := hS'.a.blk; unfold RoT.cells at hB; rw [HH.out] at hB; have e0 := hB.cell 0; have e1 := hB.cell 1; have k0 := (hS'.a.has t HH.out).b.cell 0; simp only [tbP, List.getElem?_cons_zero, List.getElem?_cons_succ] at e0 e1 k0; clear hB; (go_simp; first | with_reducible rfl | rfl)
      try simp only [Act.put, List.setIfInBounds_toArray, List.set_cons_zero, List.set_cons_succ]
      refine hd_pure (v := ?_) (by rfl) (fun W' hS' => ?_) ?_ -- 9
      rotate_left
      · have hB := hS'.a.blk; unfold RoT.cells at hB; rw [HH.out] at hB; have e0 := hB.cell 0; have e1 := hB.cell 1; have k0 := (hS'.a.has t HH.out).b.cell 0; simp only [tbP, List.getElem?_cons_zero, List.getElem?_cons_succ] at e0 e1 k0; clear hB; (go_simp; first | with_reducible rfl | rfl)
      try simp only [Act.put, List.setIfInBounds_toArray, List.set_cons_zero, List.set_cons_succ]
      refine hd_pure (v := ?_) (by rfl) (fun W' hS' => ?_) ?_ -- 10
      rotate_left
      · have hB := hS'.a.blk; unfold RoT.cells at hB; rw [HH.out] at hB; have e0 := hB.cell 0; have e1 := hB.cell 1; have k0 := (hS'.a.has t HH.out).b.cell 0; simp only [tbP, List.getElem?_cons_zero, List.getElem?_cons_succ] at e0 e1 k0; clear hB; (go_simp; first | with_reducible rfl | rfl)
      try simp only [Act.put, List.setIfInBounds_toArray, List.set_cons_zero, List.set_cons_succ]
      refine hd_pure (v := ?_) (by rfl) (fun W' hS' => ?_) ?_ -- 11
      rotate_left
      · have hB := hS'.a.blk; unfold RoT.cells at hB; rw [HH.out] at hB; have e0 := hB.cell 0; have e1 := hB.cell 1; have k0 := (hS'.a.has t HH.out).b.cell 0; simp only [tbP, List.getElem?_cons_zero, List.getElem?_cons_succ] at e0 e1 k0; clear hB; (go_simp; first | with_reducible rfl | rfl)
      try simp only [Act.put, List.setIfInBounds_toArray, List.set_cons_zero, List.set_cons_succ]
      refine hd_nil ?_
      replace hT := hSW; clear hSW; have hXb := hT.b
      go_wp2_with (refine wpList_store_at rfl 69 _ _ rfl bx 0 26 69 (pdS 1 t.sess r.sn 0).cells _ rfl rfl hXb (Pdu.cells_length _) (by rw [Pdu.cells_length]; decide) info_pdu (Pdu.one _) ?_)
      refine NoPanic.normal ?_
      have hf5 := Below.setCells HBX.out (pdS 1 t.sess r.sn 0).cells 0 hT.f
      have hT5 : RtP w g r bx (pdS 1 t.sess r.sn 0) (W.setCells bx 0 (pdS 1 t.sess r.sn 0).cells) := ⟨h.next hf5, hXb.setCells_all (by rw [Pdu.cells_length, Pdu.cells_length]), hf5⟩
      go_upto_region 6 with fail
      refine wp_gen (RtP w g r bx (pdS 1 t.sess r.sn 0)) hT5 ?_
      clear hT hT5 hf5 hXb
      intro W hT
      go_upto_region 6 with fail
      refine reg_sch2 17 [(true, 0), (true, 1), (true, 2), (true, 3), (true, 4), (true, 5), (true, 6), (true, 7), (false, 8), (true, 9), (true, 10), (false, 11), (true, 12), (true, 13), (false, 14), (true, 15), (true, 16)] (by kernel_rfl) (by kernel_rfl) (fun W => (∃ b k v, Blk W g 74 [tbP r.h, .int .u32 r.sn.toNat, v, .bool b, .int .i64 k, r.lf.val, .bool r.broken]) ∧ Blk W bx 69 (pdS 1 t.sess r.sn 0).cells) (RtP w g r bx (pdS 1 t.sess r.sn 0)) ?_ ?_ ?_
      · first | exact hT.drew | exact hT
      · exact fun W h => ⟨⟨_, _, _, h.a.blk⟩, h.b⟩
      intro W hSW
      simp only [List.map_cons, List.map_nil, List.getD_cons_zero, List.getD_cons_succ, List.drop_succ_cons, List.drop_zero]
      refine hd_pure (v := ?_) (by rfl) (fun W' hS' => ?_) ?_ -- 0
      rotate_left
      · have p0 := (hS'.2.cell 0).trans (Pdu.c0 _); simp only [pdS] at p0; clear hS'; (go_simp; first | with_reducible rfl | rfl)
      try simp only [Act.put, List.setIfInBounds_toArray, List.set_cons_zero, List.set_cons_succ]
      refine hd_pure (v := ?_) (by rfl) (fun W' hS' => ?_) ?_ -- 1
      rotate_left
      · have p0 := (hS'.2.cell 0).trans (Pdu.c0 _); simp only [pdS] at p0; clear hS'; (go_simp; first | with_reducible rfl | rfl)
      try simp only [Act.put, List.setIfInBounds_toArray, List.set_cons_zero, List.set_cons_succ]
      refine hd_pure (v := ?_) (by rfl) (fun W' hS' => ?_) ?_ -- 2
      rotate_left
      · have p0 := (hS'.2.cell 0).trans (Pdu.c0 _); simp only [pdS] at p0; clear hS'; (go_simp; first | with_reducible rfl | rfl)
      try simp only [Act.put, List.setIfInBounds_toArray, List.set_cons_zero, List.set_cons_succ]
      refine hd_pure (v := ?_) (by rfl) (fun W' hS' => ?_) ?_ -- 3
      rotate_left
      · have p0 := (hS'.2.cell 0).trans (Pdu.c0 _); simp only [pdS] at p0; clear hS'; (go_simp; first | with_reducible rfl | rfl)
      try simp only [Act.put, List.setIfInBounds_toArray, List.set_cons_zero, List.set_cons_succ]
      refine hd_pure (v := ?_) (by rfl) (fun W' hS' => ?_) ?_ -- 4
      rotate_left
      · have p0 := (hS'.2.cell 0).trans (Pdu.c0 _); simp only [pdS] at p0; clear hS'; (go_simp; first | with_reducible rfl | rfl)
      try simp only [Act.put, List.setIfInBounds_toArray, List.set_cons_zero, List.set_cons_succ]
      refine hd_pure (v := ?_) (by rfl) (fun W' hS' => ?_) ?_ -- 5
      rotate_left
      · have p0 := (hS'.2.cell 0).trans (Pdu.c0 _); simp only [pdS] at p0; clear hS'; (go_simp; first | with_reducible rfl | rfl)
      try simp only [Act.put, List.setIfInBounds_toArray, List.set_cons_zero, List.set_cons_succ]
      refine hd_pure (v := ?_) (by rfl) (fun W' hS' => ?_) ?_ -- 6
      rotate_left
      · have p0 := (hS'.2.cell 0).trans (Pdu.c0 _); simp only [pdS] at p0; clear hS'; (go_simp; first | with_reducible rfl | rfl)
      try simp only [Act.put, List.setIfInBounds_toArray, List.set_cons_zero, List.set_cons_succ]
      refine hd_pure (v := ?_) (by rfl) (fun W' hS' => ?_) ?_ -- 7
      rotate_left
      · have p0 := (hS'.2.cell 0).trans (Pdu.c0 _); simp only [pdS] at p0; clear hS'; (go_simp; first | with_reducible rfl | rfl)
      try simp only [Act.put, List.setIfInBounds_toArray, List.set_cons_zero, List.set_cons_succ]
      refine hd_sole (by rfl) (fun K hK => ?_) -- 8
      have e3 := hSW.a.blk.cell 3; have f3 := hSW.a.blk.frozen 3; simp only [RoT.cells, List.getElem?_cons_zero, List.getElem?_cons_succ] at e3
      go_simp
      clear e3 f3
      have hR1 := hSW.a.setAsked true; have hX1 := hSW.b.far (p := ⟨g, 3, none⟩) (blk_typ_ne hSW.b hSW.a.blk (by decide)) (.bool true)
      refine hK _ _ (⟨⟨_, _, _, hR1.blk⟩, hX1⟩) ?_
      clear hK K
      intro hSW8
      try simp only [Act.put, List.setIfInBounds_toArray, List.set_cons_zero, List.set_cons_succ]
      refine hd_pure (v := ?_) (by rfl) (fun W' hS' => ?_) ?_ -- 9
      rotate_left
      · have p0 := (hS'.2.cell 0).trans (Pdu.c0 _); simp only [pdS] at p0; clear hS'; (go_simp; first | with_reducible rfl | rfl)
      try simp only [Act.put, List.setIfInBounds_toArray, List.set_cons_zero, List.set_cons_succ]
      refine hd_pure (v := ?_) (by rfl) (fun W' hS' => ?_) ?_ -- 10
      rotate_left
      · have p0 := (hS'.2.cell 0).trans (Pdu.c0 _); simp only [pdS] at p0; clear hS'; (go_simp; first | with_reducible rfl | rfl)
      try simp only [Act.put, List.setIfInBounds_toArray, List.set_cons_zero, List.set_cons_succ]
      refine hd_sole (by rfl) (fun K hK => ?_) -- 11
      have e4 := hR1.blk.cell 4; have f4 := hR1.blk.frozen 4; simp only [RoT.cells, List.getElem?_cons_zero, List.getElem?_cons_succ] at e4
      go_simp
      clear e4 f4
      have hR2 := hR1.setKind (1); have hX2 := hX1.far (p := ⟨g, 4, none⟩) (blk_typ_ne hX1 hR1.blk (by decide)) (.int .i64 (1))
      refine hK _ _ (⟨⟨_, _, _, hR2.blk⟩, hX2⟩) ?_
      clear hK K
      intro hSW11
      try simp only [Act.put, List.setIfInBounds_toArray, List.set_cons_zero, List.set_cons_succ]
      refine hd_pure (v := ?_) (by rfl) (fun W' hS' => ?_) ?_ -- 12
      rotate_left
      · have p0 := (hS'.2.cell 0).trans (Pdu.c0 _); simp only [pdS] at p0; clear hS'; (go_simp; first | with_reducible rfl | rfl)
      try simp only [Act.put, List.setIfInBounds_toArray, List.set_cons_zero, List.set_cons_succ]
      refine hd_pure (v := ?_) (by rfl) (fun W' hS' => ?_) ?_ -- 13
      rotate_left
      · have p0 := (hS'.2.cell 0).trans (Pdu.c0 _); simp only [pdS] at p0; clear hS'; (go_simp; first | with_reducible rfl | rfl)
      try simp only [Act.put, List.setIfInBounds_toArray, List.set_cons_zero, List.set_cons_succ]
      refine hd_sole (by rfl) (fun K hK => ?_) -- 14
      have e2 := hR2.blk.cell 2; have f2 := hR2.blk.frozen 2; simp only [RoT.cells, List.getElem?_cons_zero, List.getElem?_cons_succ] at e2
      go_simp
      clear e2 f2
      have hR3 := hR2.noNext; have hX3 := hX2.far (p := ⟨g, 2, none⟩) (blk_typ_ne hX2 hR2.blk (by decide)) (.pointer none)
      refine hK _ _ (⟨⟨_, _, _, hR3.blk⟩, hX3⟩) ?_
      clear hK K
      intro hSW14
      try simp only [Act.put, List.setIfInBounds_toArray, List.set_cons_zero, List.set_cons_succ]
      refine hd_pure (v := ?_) (by rfl) (fun W' hS' => ?_) ?_ -- 15
      rotate_left
      · have p0 := (hS'.2.cell 0).trans (Pdu.c0 _); simp only [pdS] at p0; clear hS'; (go_simp; first | with_reducible rfl | rfl)
      try simp only [Act.put, List.setIfInBounds_toArray, List.set_cons_zero, List.set_cons_succ]
      refine hd_pure (v := ?_) (by rfl) (fun W' hS' => ?_) ?_ -- 16
      rotate_left
      · have p0 := (hS'.2.cell 0).trans (Pdu.c0 _); simp only [pdS] at p0; clear hS'; (go_simp; first | with_reducible rfl | rfl)
      try simp only [Act.put, List.setIfInBounds_toArray, List.set_cons_zero, List.set_cons_succ]
      refine hd_nil ?_
      have e5 := hR3.blk.cell 5; have f5 := hR3.blk.frozen 5; simp only [RoT.cells, List.getElem?_cons_zero, List.getElem?_cons_succ] at e5
      go_wp2_with fail
      refine NoPanic.normal ?_
      have hR4 := hR3.setLeft ⟨none, 0, []⟩ ⟨Reads.nil, Nat.le_refl _⟩
      have hX4 := hX3.far (p := ⟨g, 5, none⟩) (blk_typ_ne hX3 hR3.blk (by decide)) (Lf.val ⟨none, 0, []⟩)
      have hG1 : RFr W (W.setCell ⟨g, 3, none⟩ (.bool true)) g r { r with asked := true } := RFr.same rfl rfl
      have hG2 : RFr (W.setCell ⟨g, 3, none⟩ (.bool true)) ((W.setCell ⟨g, 3, none⟩ (.bool true)).setCell ⟨g, 4, none⟩ (.int .i64 (1))) g { r with asked := true } { r with asked := true, kind := 1 } := RFr.same rfl rfl
      have hG3 : RFr ((W.setCell ⟨g, 3, none⟩ (.bool true)).setCell ⟨g, 4, none⟩ (.int .i64 (1))) (((W.setCell ⟨g, 3, none⟩ (.bool true)).setCell ⟨g, 4, none⟩ (.int .i64 (1))).setCell ⟨g, 2, none⟩ (.pointer none)) g { r with asked := true, kind := 1 } { r with asked := true, kind := 1, nx := none } := RFr.cell (fun t ht => ht.elim .inl (fun h => by cases h)) (fun t ht => by cases ht)
      have hG4 : RFr (((W.setCell ⟨g, 3, none⟩ (.bool true)).setCell ⟨g, 4, none⟩ (.int .i64 (1))).setCell ⟨g, 2, none⟩ (.pointer none)) ((((W.setCell ⟨g, 3, none⟩ (.bool true)).setCell ⟨g, 4, none⟩ (.int .i64 (1))).setCell ⟨g, 2, none⟩ (.pointer none)).setCell ⟨g, 5, none⟩ (Lf.val ⟨none, 0, []⟩)) g { r with asked := true, kind := 1, nx := none } { r with asked := true, kind := 1, nx := none, lf := ⟨none, 0, []⟩ } := RFr.same rfl rfl
      have hF4 := ((((RFr.below (r := r) (g := g) hSW.f).trans hG1).trans hG2).trans hG3).trans hG4
      clear hG1 hG2 hG3 hG4
      go_upto_region 7 with fail
      refine wp_gen (fun W2 => (RtA W2 g { r with asked := true, kind := 1, nx := none, lf := ⟨none, 0, []⟩ } ∧ RFr w W2 g r { r with asked := true, kind := 1, nx := none, lf := ⟨none, 0, []⟩ }) ∧ Blk W2 bx 69 (pdS 1 t.sess r.sn 0).cells) ⟨⟨hR4, hF4⟩, hX4⟩ ?_
      clear hSW hSW8 hSW11 hSW14 hR1 hR2 hR3 hR4 hX1 hX2 hX3 hX4 hF4 e5 f5
      rintro W2 ⟨⟨hR, hF⟩, hX⟩
      have hxr := hX.range
      go_wp2_with (refine wpList_load_at rfl 69 _ rfl bx 0 26 rfl _ _ hxr (Pdu.cells_length _) Tryz.underlying69 rfl info_pdu ?_)
      refine (write_d (pdS 1 t.sess r.sn 0) W2).mono ?_
      rintro e w5 ⟨A5, c5, x5, rfl, hrd, hb5⟩
      have hR5 := hR.next hb5
      have hF5 := hF.then hb5
      clear hR hF hX hxr hb5
      go_wp2_with fail
      go_ret
      rw [HQ.out]
      exact ⟨A5, c5, _, rfl, hrd, hR5, rfl, hF5⟩
  · have HQ := Lib.hid (show askQ r.q = (r.q, []) by unfold askQ; rw [if_pos (show r.q.b = true from hb)])
    rw [hb] at c6
    go_enter Tryz.func8, Tryz.ntmps8
    go_wp2_with fail
    go_ret
    rw [HQ.out]
    exact ⟨none, 0, r, rfl, Reads.none_, h, rfl, .refl _ _ _⟩
end Go.Proofs.YtmoldmnhijcckaaGreat
