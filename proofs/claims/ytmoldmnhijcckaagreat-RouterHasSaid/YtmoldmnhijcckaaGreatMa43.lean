/- router's take, Ask. -/
import Derived.Test.YtmoldmnhijcckaaGreatMa42
set_option linter.unusedVariables false
set_option linter.unusedSectionVars false
set_option linter.unusedSimpArgs false
namespace Go.Proofs.YtmoldmnhijcckaaGreat
open Go.RowKit
theorem TakePost.from {w W w' : World} {g : Nat} {r : RoT} {s : RoS × Int} {e : Ending} (hb : Below w.heap.size w W) (h : TakePost W g r s e w') : TakePost w g r s e w' := by
  obtain ⟨r', h1, h2, h3, h4, h5, h6⟩ := h
  exact ⟨r', h1, h2, h3, h4, h5, (RFr.below hb).trans h6⟩
set_option maxRecDepth 100000 in
set_option maxHeartbeats 8000000 in
theorem rtake_any (p : Pdu) (w : World) (g : Nat) (r : RoT) (h : RtA w g r) (hok : r.abs.ok) : Calls Tryz.prog 62 #[.pointer (some ⟨g, 0, none⟩), p.val] w (TakePost w g r (takeR r.abs p)) := by
  by_cases k0 : p.kind = 0
  · have HT := Lib.hid (show takeR r.abs p = (r.abs, 0) by unfold takeR; rw [if_pos k0])
    have b0 : (p.kind == 0) = true := beq_iff_eq.2 k0
    clear k0
    simp only [Pdu.val]
    have hT : RtP w g r w.heap.size p (w.alloc (.cells p.cells.toArray 69)) := ⟨h.next ((Below.refl _ _).alloc (Nat.le_refl _) _), Blk.new _ _ _, (Below.refl _ _).alloc (Nat.le_refl _) _⟩
    clear h
    go_enter Tryz.func62, Tryz.ntmps62
    go_upto_region 1 with fail
    refine wp_gen (RtP w g r w.heap.size p) hT ?_
    clear hT
    generalize w.heap.size = bx
    intro W hT
    have c0 := (hT.b.cell 0).trans (Pdu.c0 _)
    go_wp2_with fail
    go_ret
    rw [HT.out]
    exact ⟨r, rfl, hT.a, rfl, rfl, rfl, .below hT.f⟩
  have b0 : (p.kind == 0) = false := beq_eq_false_iff_ne.2 k0
  by_cases k3 : p.kind = 3
  · have HT := Lib.hid (show takeR r.abs p = beginR r.abs p by unfold takeR; rw [if_neg k0, if_pos k3])
    have b3 : (p.kind == 3) = true := beq_iff_eq.2 k3
    clear k0 k3
    simp only [Pdu.val]
    have hT : RtP w g r w.heap.size p (w.alloc (.cells p.cells.toArray 69)) := ⟨h.next ((Below.refl _ _).alloc (Nat.le_refl _) _), Blk.new _ _ _, (Below.refl _ _).alloc (Nat.le_refl _) _⟩
    clear h
    go_enter Tryz.func62, Tryz.ntmps62
    go_upto_region 1 with fail
    refine wp_gen (RtP w g r w.heap.size p) hT ?_
    clear hT
    generalize w.heap.size = bx
    intro W hT
    have c0 := (hT.b.cell 0).trans (Pdu.c0 _)
    have hxr := hT.b.range
    go_wp2_with (refine wpList_load_at rfl 69 _ rfl bx 0 26 rfl _ _ hxr (Pdu.cells_length _) Tryz.underlying69 rfl info_pdu ?_)
    refine (rbegin_any p W g r hT.a hok).mono ?_
    rintro e w2 hP
    replace hP := hP.from hT.f
    rw [← HT.out] at hP
    clear hT hxr c0
    obtain ⟨r', rfl, hP⟩ := hP
    go_wp2_with fail
    go_ret
    exact ⟨r', rfl, hP⟩
  have b3 : (p.kind == 3) = false := beq_eq_false_iff_ne.2 k3
  by_cases k4 : p.kind = 4
  · have HT := Lib.hid (show takeR r.abs p = changeR r.abs p by unfold takeR; rw [if_neg k0, if_neg k3, if_pos (.inl k4)])
    have b4 : (p.kind == 4) = true := beq_iff_eq.2 k4
    clear k0 k3 k4
    simp only [Pdu.val]
    have hT : RtP w g r w.heap.size p (w.alloc (.cells p.cells.toArray 69)) := ⟨h.next ((Below.refl _ _).alloc (Nat.le_refl _) _), Blk.new _ _ _, (Below.refl _ _).alloc (Nat.le_refl _) _⟩
    clear h
    go_enter Tryz.func62, Tryz.ntmps62
    go_upto_region 1 with fail
    refine wp_gen (RtP w g r w.heap.size p) hT ?_
    clear hT
    generalize w.heap.size = bx
    intro W hT
    have c0 := (hT.b.cell 0).trans (Pdu.c0 _)
    have hxr := hT.b.range
    go_wp2_with (refine wpList_load_at rfl 69 _ rfl bx 0 26 rfl _ _ hxr (Pdu.cells_length _) Tryz.underlying69 rfl info_pdu ?_)
    refine (rchange_any p W g r hT.a).mono ?_
    rintro e w2 hP
    replace hP := hP.from hT.f
    rw [← HT.out] at hP
    clear hT hxr c0
    obtain ⟨r', rfl, hP⟩ := hP
    go_wp2_with fail
    go_ret
    exact ⟨r', rfl, hP⟩
  have b4 : (p.kind == 4) = false := beq_eq_false_iff_ne.2 k4
  by_cases k6 : p.kind = 6
  · have HT := Lib.hid (show takeR r.abs p = changeR r.abs p by unfold takeR; rw [if_neg k0, if_neg k3, if_pos (.inr k6)])
    have b6 : (p.kind == 6) = true := beq_iff_eq.2 k6
    clear k0 k3 k4 k6
    simp only [Pdu.val]
    have hT : RtP w g r w.heap.size p (w.alloc (.cells p.cells.toArray 69)) := ⟨h.next ((Below.refl _ _).alloc (Nat.le_refl _) _), Blk.new _ _ _, (Below.refl _ _).alloc (Nat.le_refl _) _⟩
    clear h
    go_enter Tryz.func62, Tryz.ntmps62
    go_upto_region 1 with fail
    refine wp_gen (RtP w g r w.heap.size p) hT ?_
    clear hT
    generalize w.heap.size = bx
    intro W hT
    have c0 := (hT.b.cell 0).trans (Pdu.c0 _)
    have hxr := hT.b.range
    go_wp2_with (refine wpList_load_at rfl 69 _ rfl bx 0 26 rfl _ _ hxr (Pdu.cells_length _) Tryz.underlying69 rfl info_pdu ?_)
    refine (rchange_any p W g r hT.a).mono ?_
    rintro e w2 hP
    replace hP := hP.from hT.f
    rw [← HT.out] at hP
    clear hT hxr c0
    obtain ⟨r', rfl, hP⟩ := hP
    go_wp2_with fail
    go_ret
    exact ⟨r', rfl, hP⟩
  have b6 : (p.kind == 6) = false := beq_eq_false_iff_ne.2 k6
  have k46 : ¬ (p.kind = 4 ∨ p.kind = 6) := fun h => h.elim k4 k6
  by_cases k7 : p.kind = 7
  · have HT := Lib.hid (show takeR r.abs p = endR r.abs p by unfold takeR; rw [if_neg k0, if_neg k3, if_neg k46, if_pos k7])
    have b7 : (p.kind == 7) = true := beq_iff_eq.2 k7
    clear k0 k3 k4 k6 k7 k46
    simp only [Pdu.val]
    have hT : RtP w g r w.heap.size p (w.alloc (.cells p.cells.toArray 69)) := ⟨h.next ((Below.refl _ _).alloc (Nat.le_refl _) _), Blk.new _ _ _, (Below.refl _ _).alloc (Nat.le_refl _) _⟩
    clear h
    go_enter Tryz.func62, Tryz.ntmps62
    go_upto_region 1 with fail
    refine wp_gen (RtP w g r w.heap.size p) hT ?_
    clear hT
    generalize w.heap.size = bx
    intro W hT
    have c0 := (hT.b.cell 0).trans (Pdu.c0 _)
    have hxr := hT.b.range
    go_wp2_with (refine wpList_load_at rfl 69 _ rfl bx 0 26 rfl _ _ hxr (Pdu.cells_length _) Tryz.underlying69 rfl info_pdu ?_)
    refine (rend_any p W g r hT.a).mono ?_
    rintro e w2 hP
    replace hP := hP.from hT.f
    rw [← HT.out] at hP
    clear hT hxr c0
    obtain ⟨r', rfl, hP⟩ := hP
    go_wp2_with fail
    go_ret
    exact ⟨r', rfl, hP⟩
  have b7 : (p.kind == 7) = false := beq_eq_false_iff_ne.2 k7
  by_cases k8 : p.kind = 8
  · have b8 : (p.kind == 8) = true := beq_iff_eq.2 k8
    have HT0 := Lib.hid (show takeR r.abs p = (if r.abs.waits = false then (r.abs, 13) else ({ r.abs with h := none, asked := false }, 0)) by unfold takeR; rw [if_neg k0, if_neg k3, if_neg k46, if_neg k7, if_pos k8])
    clear k0 k3 k4 k6 k7 k46 k8
    cases hw : r.abs.waits
    · have HT := Lib.hid (show takeR r.abs p = (r.abs, 13) by rw [HT0.out, if_pos hw])
      have HW := Lib.hid hw
      clear hw HT0
      simp only [Pdu.val]
      have hT : RtP w g r w.heap.size p (w.alloc (.cells p.cells.toArray 69)) := ⟨h.next ((Below.refl _ _).alloc (Nat.le_refl _) _), Blk.new _ _ _, (Below.refl _ _).alloc (Nat.le_refl _) _⟩
      clear h
      go_enter Tryz.func62, Tryz.ntmps62
      go_upto_region 1 with fail
      refine wp_gen (RtP w g r w.heap.size p) hT ?_
      clear hT
      generalize w.heap.size = bx
      intro W hT
      have c0 := (hT.b.cell 0).trans (Pdu.c0 _)
      go_wp2_with fail
      refine (rwaits_any W g r hT.a).mono ?_
      rintro e w2 ⟨rfl, rfl⟩
      rw [HW.out]
      go_wp2_with fail
      go_ret
      rw [HT.out]
      exact ⟨r, rfl, hT.a, rfl, rfl, rfl, .below hT.f⟩
    · have HT := Lib.hid (show takeR r.abs p = (({ r with h := none, asked := false } : RoT).abs, 0) by rw [HT0.out, if_neg (by rw [hw]; decide)]; rfl)
      have HW := Lib.hid hw
      clear hw HT0
      simp only [Pdu.val]
      have hT : RtP w g r w.heap.size p (w.alloc (.cells p.cells.toArray 69)) := ⟨h.next ((Below.refl _ _).alloc (Nat.le_refl _) _), Blk.new _ _ _, (Below.refl _ _).alloc (Nat.le_refl _) _⟩
      clear h
      go_enter Tryz.func62, Tryz.ntmps62
      go_upto_region 1 with fail
      refine wp_gen (RtP w g r w.heap.size p) hT ?_
      clear hT
      generalize w.heap.size = bx
      intro W hT
      have c0 := (hT.b.cell 0).trans (Pdu.c0 _)
      go_wp2_with fail
      refine (rwaits_any W g r hT.a).mono ?_
      rintro e w2 ⟨rfl, rfl⟩
      rw [HW.out]
      have c1 := hT.a.blk.cell 0
      have f1 := hT.a.blk.frozen 0
      have hA1 := hT.a.noHas
      have c3 := hA1.blk.cell 3
      have f3 := hA1.blk.frozen 3
      simp only [RoT.cells, List.getElem?_cons_zero, List.getElem?_cons_succ] at c1 c3
      go_wp2_with fail
      go_ret
      rw [HT.out]
      have hF1 : RFr W (W.setCell ⟨g, 0, none⟩ (.pointer none)) g r { r with h := none } := RFr.cell (fun t ht => by rcases ht with ht | ht; cases ht; exact .inr ht) (fun t ht => ht)
      have hF2 : RFr (W.setCell ⟨g, 0, none⟩ (.pointer none)) ((W.setCell ⟨g, 0, none⟩ (.pointer none)).setCell ⟨g, 3, none⟩ (.bool false)) g { r with h := none } { r with h := none, asked := false } := RFr.same rfl rfl
      exact ⟨{ r with h := none, asked := false }, rfl, hA1.setAsked false, rfl, rfl, rfl, ((RFr.below hT.f).trans hF1).trans hF2⟩
  have b8 : (p.kind == 8) = false := beq_eq_false_iff_ne.2 k8
  by_cases k10 : p.kind = 10
  · have b10 : (p.kind == 10) = true := beq_iff_eq.2 k10
    have HT0 := Lib.hid (show takeR r.abs p = (if p.code = 2 ∧ r.abs.waits = true then ({ r.abs with asked := false }, 0) else (r.abs, 2)) by unfold takeR; rw [if_neg k0, if_neg k3, if_neg k46, if_neg k7, if_neg k8, if_pos k10])
    clear k0 k3 k4 k6 k7 k46 k8 k10
    by_cases hc : p.code = 2
    · have bc : (p.code == 2) = true := beq_iff_eq.2 hc
      cases hw : r.abs.waits
      · have HT := Lib.hid (show takeR r.abs p = (r.abs, 2) by rw [HT0.out, if_neg (by rw [hw]; simp)])
        have HW := Lib.hid hw
        clear hw HT0 hc
        simp only [Pdu.val]
        have hT : RtP w g r w.heap.size p (w.alloc (.cells p.cells.toArray 69)) := ⟨h.next ((Below.refl _ _).alloc (Nat.le_refl _) _), Blk.new _ _ _, (Below.refl _ _).alloc (Nat.le_refl _) _⟩
        clear h
        go_enter Tryz.func62, Tryz.ntmps62
        go_upto_region 1 with fail
        refine wp_gen (RtP w g r w.heap.size p) hT ?_
        clear hT
        generalize w.heap.size = bx
        intro W hT
        have c0 := (hT.b.cell 0).trans (Pdu.c0 _)
        have c24 := (hT.b.cell 24).trans (Pdu.c24 _)
        go_wp2_with fail
        refine (rwaits_any W g r hT.a).mono ?_
        rintro e w2 ⟨rfl, rfl⟩
        rw [HW.out]
        go_wp2_with fail
        go_ret
        rw [HT.out]
        exact ⟨r, rfl, hT.a, rfl, rfl, rfl, .below hT.f⟩
      · have HT := Lib.hid (show takeR r.abs p = (({ r with asked := false } : RoT).abs, 0) by rw [HT0.out, if_pos ⟨hc, hw⟩]; rfl)
        have HW := Lib.hid hw
        clear hw HT0 hc
        simp only [Pdu.val]
        have hT : RtP w g r w.heap.size p (w.alloc (.cells p.cells.toArray 69)) := ⟨h.next ((Below.refl _ _).alloc (Nat.le_refl _) _), Blk.new _ _ _, (Below.refl _ _).alloc (Nat.le_refl _) _⟩
        clear h
        go_enter Tryz.func62, Tryz.ntmps62
        go_upto_region 1 with fail
        refine wp_gen (RtP w g r w.heap.size p) hT ?_
        clear hT
        generalize w.heap.size = bx
        intro W hT
        have c0 := (hT.b.cell 0).trans (Pdu.c0 _)
        have c24 := (hT.b.cell 24).trans (Pdu.c24 _)
        go_wp2_with fail
        refine (rwaits_any W g r hT.a).mono ?_
        rintro e w2 ⟨rfl, rfl⟩
        rw [HW.out]
        have c3 := hT.a.blk.cell 3
        have f3 := hT.a.blk.frozen 3
        simp only [RoT.cells, List.getElem?_cons_zero, List.getElem?_cons_succ] at c3
        go_wp2_with fail
        go_ret
        rw [HT.out]
        exact ⟨_, rfl, hT.a.setAsked false, rfl, rfl, rfl, (RFr.below hT.f).trans (RFr.same rfl rfl)⟩
    · have bc : (p.code == 2) = false := beq_eq_false_iff_ne.2 hc
      have HT := Lib.hid (show takeR r.abs p = (r.abs, 2) by rw [HT0.out, if_neg (fun h => hc h.1)])
      clear HT0 hc
      simp only [Pdu.val]
      have hT : RtP w g r w.heap.size p (w.alloc (.cells p.cells.toArray 69)) := ⟨h.next ((Below.refl _ _).alloc (Nat.le_refl _) _), Blk.new _ _ _, (Below.refl _ _).alloc (Nat.le_refl _) _⟩
      clear h
      go_enter Tryz.func62, Tryz.ntmps62
      go_upto_region 1 with fail
      refine wp_gen (RtP w g r w.heap.size p) hT ?_
      clear hT
      generalize w.heap.size = bx
      intro W hT
      have c0 := (hT.b.cell 0).trans (Pdu.c0 _)
      have c24 := (hT.b.cell 24).trans (Pdu.c24 _)
      go_wp2_with fail
      go_ret
      rw [HT.out]
      exact ⟨r, rfl, hT.a, rfl, rfl, rfl, .below hT.f⟩
  have b10 : (p.kind == 10) = false := beq_eq_false_iff_ne.2 k10
  have HT := Lib.hid (show takeR r.abs p = (r.abs, 2) by unfold takeR; rw [if_neg k0, if_neg k3, if_neg k46, if_neg k7, if_neg k8, if_neg k10])
  clear k0 k3 k4 k6 k7 k46 k8 k10
  simp only [Pdu.val]
  have hT : RtP w g r w.heap.size p (w.alloc (.cells p.cells.toArray 69)) := ⟨h.next ((Below.refl _ _).alloc (Nat.le_refl _) _), Blk.new _ _ _, (Below.refl _ _).alloc (Nat.le_refl _) _⟩
  clear h
  go_enter Tryz.func62, Tryz.ntmps62
  go_upto_region 1 with fail
  refine wp_gen (RtP w g r w.heap.size p) hT ?_
  clear hT
  generalize w.heap.size = bx
  intro W hT
  have c0 := (hT.b.cell 0).trans (Pdu.c0 _)
  go_wp2_with fail
  go_ret
  rw [HT.out]
  exact ⟨r, rfl, hT.a, rfl, rfl, rfl, .below hT.f⟩
end Go.Proofs.YtmoldmnhijcckaaGreat
