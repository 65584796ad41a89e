/- router's Ask, begin, change, end. -/
import Derived.Test.YtmoldmnhijcckaaGreatMa41
set_option linter.unusedVariables false
set_option linter.unusedSectionVars false
set_option linter.unusedSimpArgs false
namespace Go.Proofs.YtmoldmnhijcckaaGreat
open Go.RowKit
section
variable {W : World} {g : Nat} {r : RoT}
theorem RtA.setAsked (h : RtA W g r) (b : Bool) : RtA (W.setCell ⟨g, 3, none⟩ (.bool b)) g { r with asked := b } := h.setG 3 _ rfl h.has h.nxt h.ne h.left
theorem RtA.setKind (h : RtA W g r) (k : Int) : RtA (W.setCell ⟨g, 4, none⟩ (.int .i64 k)) g { r with kind := k } := h.setG 4 _ rfl h.has h.nxt h.ne h.left
theorem RtA.noNext (h : RtA W g r) : RtA (W.setCell ⟨g, 2, none⟩ (.pointer none)) g { r with nx := none } := h.setG 2 _ rfl h.has (fun t ht => by cases ht) (fun t t' _ ht => by cases ht) h.left
theorem RtA.noHas (h : RtA W g r) : RtA (W.setCell ⟨g, 0, none⟩ (.pointer none)) g { r with h := none } := h.setG 0 _ rfl (fun t ht => by cases ht) h.nxt (fun t t' ht _ => by cases ht) h.left
theorem RtA.setSn (h : RtA W g r) (s : UInt32) : RtA (W.setCell ⟨g, 1, none⟩ (.int .u32 s.toNat)) g { r with sn := s } := h.setG 1 _ rfl h.has h.nxt h.ne h.left
theorem RtA.setBroken (h : RtA W g r) (b : Bool) : RtA (W.setCell ⟨g, 6, none⟩ (.bool b)) g { r with broken := b } := h.setG 6 _ rfl h.has h.nxt h.ne h.left
theorem RtA.setLeft (h : RtA W g r) (lf : Lf) (hl : Reads W W.heap.size 1 lf.A lf.bs.length (lf.bs.map bv) ∧ lf.bs.length ≤ lf.c) : RtA (W.setCell ⟨g, 5, none⟩ lf.val) g { r with lf := lf } := h.setG 5 _ rfl h.has h.nxt h.ne hl
theorem RtA.setNext (h : RtA W g r) (t : TbV) (ht : TbAt W t) (hne : ∀ t', r.h = some t' → t'.m ≠ t.m) : RtA (W.setCell ⟨g, 2, none⟩ (.pointer (some ⟨t.s, 0, none⟩))) g { r with nx := some t } :=
  h.setG 2 _ rfl h.has (fun t' ht' => by cases ht'; exact ht) (fun t1 t2 h1 h2 => by cases h2; exact hne t1 h1) h.left
theorem RFr.same {i : Nat} {u : Value} {r' : RoT} (h1 : r'.h = r.h) (h2 : r'.nx = r.nx) : RFr W (W.setCell ⟨g, i, none⟩ u) g r r' := RFr.cell (fun t ht => by rw [h1, h2] at ht; exact ht) (fun t ht => by rw [h2] at ht; exact ht)
end
/-- A router, and a message in a box. -/
structure RtP (w : World) (g : Nat) (r : RoT) (bx : Nat) (p : Pdu) (W : World) : Prop where
  a : RtA W g r
  b : Blk W bx 69 p.cells
  f : Below w.heap.size w W
theorem RtP.next {w W W' : World} {g : Nat} {r : RoT} {bx : Nat} {p : Pdu} (h : RtP w g r bx p W) (hb : Below W.heap.size W W') : RtP w g r bx p W' := ⟨h.a.next hb, h.b.below hb h.b.lt, below_then h.f (Nat.le_refl _) hb⟩
theorem RtP.drew {w W : World} {g : Nat} {r : RoT} {bx : Nat} {p : Pdu} (h : RtP w g r bx p W) : RtP w g r bx p W.drew := h.next (Below.refl _ _).drew
def TakePost (w : World) (g : Nat) (r : RoT) (s : RoS × Int) (e : Ending) (w' : World) : Prop := ∃ r', e = .returned (.int .i64 s.2) ∧ RtA w' g r' ∧ r'.abs = s.1 ∧ r'.lf = r.lf ∧ r'.broken = r.broken ∧ RFr w w' g r r'
set_option maxRecDepth 100000 in
set_option maxHeartbeats 2000000 in
theorem rend_any (p : Pdu) (w : World) (g : Nat) (r : RoT) (h : RtA w g r) : Calls Tryz.prog 88 #[.pointer (some ⟨g, 0, none⟩), p.val] w (TakePost w g r (endR r.abs p)) := by
  cases hn : r.nx with
  | none =>
    have HE := Lib.hid (show endR r.abs p = (r.abs, 13) by unfold endR RoT.abs; rw [hn]; rfl)
    simp only [Pdu.val]
    have hT : RtP w g r w.heap.size p (w.alloc (.cells p.cells.toArray 69)) := ⟨h.next ((Below.refl _ _).alloc (Nat.le_refl _) _), Blk.new _ _ _, (Below.refl _ _).alloc (Nat.le_refl _) _⟩
    clear h
    go_enter Tryz.func88, Tryz.ntmps88
    go_upto_region 1 with fail
    refine wp_gen (RtP w g r w.heap.size p) hT ?_
    clear hT
    generalize w.heap.size = bx
    intro W hT
    have c0 := hT.a.blk.cell 0
    have c1 := hT.a.blk.cell 1
    have c2 := hT.a.blk.cell 2
    have c3 := hT.a.blk.cell 3
    have c4 := hT.a.blk.cell 4
    have c5 := hT.a.blk.cell 5
    have c6 := hT.a.blk.cell 6
    have f0 := hT.a.blk.frozen 0
    have f1 := hT.a.blk.frozen 1
    have f2 := hT.a.blk.frozen 2
    have f3 := hT.a.blk.frozen 3
    have f4 := hT.a.blk.frozen 4
    have f5 := hT.a.blk.frozen 5
    have f6 := hT.a.blk.frozen 6
    simp only [RoT.cells, tbP, List.getElem?_cons_zero, List.getElem?_cons_succ] at c0 c1 c2 c3 c4 c5 c6
    rw [hn] at c2
    simp only at c2
    clear hn
    go_wp2_with fail
    go_ret
    rw [HE.out]
    exact ⟨r, rfl, hT.a, rfl, rfl, rfl, .below hT.f⟩
  | some t =>
    by_cases hs : t.sess = p.session
    · have HE := Lib.hid (show endR r.abs p = (({ r with h := some t, sn := p.serial, nx := none, asked := false } : RoT).abs, 0) by simp [endR, RoT.abs, TbV.abs, hn, hs])
      have be : (t.sess != p.session) = false := by simp [hs]
      simp only [Pdu.val]
      have hT : RtP w g r w.heap.size p (w.alloc (.cells p.cells.toArray 69)) := ⟨h.next ((Below.refl _ _).alloc (Nat.le_refl _) _), Blk.new _ _ _, (Below.refl _ _).alloc (Nat.le_refl _) _⟩
      clear h
      go_enter Tryz.func88, Tryz.ntmps88
      go_upto_region 1 with fail
      refine wp_gen (RtP w g r w.heap.size p) hT ?_
      clear hT
      generalize w.heap.size = bx
      intro W hT
      have c0 := hT.a.blk.cell 0
      have c1 := hT.a.blk.cell 1
      have c2 := hT.a.blk.cell 2
      have c3 := hT.a.blk.cell 3
      have c4 := hT.a.blk.cell 4
      have c5 := hT.a.blk.cell 5
      have c6 := hT.a.blk.cell 6
      have f0 := hT.a.blk.frozen 0
      have f1 := hT.a.blk.frozen 1
      have f2 := hT.a.blk.frozen 2
      have f3 := hT.a.blk.frozen 3
      have f4 := hT.a.blk.frozen 4
      have f5 := hT.a.blk.frozen 5
      have f6 := hT.a.blk.frozen 6
      simp only [RoT.cells, tbP, List.getElem?_cons_zero, List.getElem?_cons_succ] at c0 c1 c2 c3 c4 c5 c6
      have k0 := (hT.a.nxt t hn).b.cell 0
      have p1 := (hT.b.cell 1).trans (Pdu.c1 _)
      simp only [List.getElem?_cons_zero] at k0
      rw [hn] at c2
      simp only at c2
      have HN := Lib.hid hn
      have HS := Lib.hid hs
      clear hn hs
      go_upto_region 3 with fail
      clear c0 c1 c2 c3 c4 c5 c6 f0 f1 f2 f3 f4 f5 f6 k0 p1
      refine reg_sch2 11 [(true, 0), (true, 1), (true, 2), (true, 3), (true, 4), (true, 5), (true, 6), (true, 7), (true, 8), (true, 9), (true, 10)] (by kernel_rfl) (by kernel_rfl) (RtP w g r bx p) (RtP w g r bx p) ?_ ?_ ?_
      · first | exact hT.drew | exact hT
      · exact fun _ h => h
      intro W hSW
      simp only [List.map_cons, List.map_nil, List.getD_cons_zero, List.getD_cons_succ, List.drop_succ_cons, List.drop_zero]
      refine hd_pure (v := ?_) (by rfl) (fun W' hS' => ?_) ?_ -- 0
      rotate_left
      · have hB := hS'.a.blk; unfold RoT.cells at hB; rw [HN.out] at hB; have e2 := hB.cell 2; have k0 := (hS'.a.nxt t HN.out).b.cell 0; have p1 := (hS'.b.cell 1).trans (Pdu.c1 _); simp only [tbP, List.getElem?_cons_zero, List.getElem?_cons_succ] at e2 k0; clear hB; (go_simp; first | with_reducible rfl | rfl)
      try simp only [Act.put, List.setIfInBounds_toArray, List.set_cons_zero, List.set_cons_succ]
      refine hd_pure (v := ?_) (by rfl) (fun W' hS' => ?_) ?_ -- 1
      rotate_left
      · have hB := hS'.a.blk; unfold RoT.cells at hB; rw [HN.out] at hB; have e2 := hB.cell 2; have k0 := (hS'.a.nxt t HN.out).b.cell 0; have p1 := (hS'.b.cell 1).trans (Pdu.c1 _); simp only [tbP, List.getElem?_cons_zero, List.getElem?_cons_succ] at e2 k0; clear hB; (go_simp; first | with_reducible rfl | rfl)
      try simp only [Act.put, List.setIfInBounds_toArray, List.set_cons_zero, List.set_cons_succ]
      refine hd_pure (v := ?_) (by rfl) (fun W' hS' => ?_) ?_ -- 2
      rotate_left
      · have hB := hS'.a.blk; unfold RoT.cells at hB; rw [HN.out] at hB; have e2 := hB.cell 2; have k0 := (hS'.a.nxt t HN.out).b.cell 0; have p1 := (hS'.b.cell 1).trans (Pdu.c1 _); simp only [tbP, List.getElem?_cons_zero, List.getElem?_cons_succ] at e2 k0; clear hB; (go_simp; first | with_reducible rfl | rfl)
      try simp only [Act.put, List.setIfInBounds_toArray, List.set_cons_zero, List.set_cons_succ]
      refine hd_pure (v := ?_) (by rfl) (fun W' hS' => ?_) ?_ -- 3
      rotate_left
      · have hB := hS'.a.blk; unfold RoT.cells at hB; rw [HN.out] at hB; have e2 := hB.cell 2; have k0 := (hS'.a.nxt t HN.out).b.cell 0; have p1 := (hS'.b.cell 1).trans (Pdu.c1 _); simp only [tbP, List.getElem?_cons_zero, List.getElem?_cons_succ] at e2 k0; clear hB; (go_simp; first | with_reducible rfl | rfl)
      try simp only [Act.put, List.setIfInBounds_toArray, List.set_cons_zero, List.set_cons_succ]
      refine hd_pure (v := ?_) (by rfl) (fun W' hS' => ?_) ?_ -- 4
      rotate_left
      · have hB := hS'.a.blk; unfold RoT.cells at hB; rw [HN.out] at hB; have e2 := hB.cell 2; have k0 := (hS'.a.nxt t HN.out).b.cell 0; have p1 := (hS'.b.cell 1).trans (Pdu.c1 _); simp only [tbP, List.getElem?_cons_zero, List.getElem?_cons_succ] at e2 k0; clear hB; (go_simp; first | with_reducible rfl | rfl)
      try simp only [Act.put, List.setIfInBounds_toArray, List.set_cons_zero, List.set_cons_succ]
      refine hd_pure (v := ?_) (by rfl) (fun W' hS' => ?_) ?_ -- 5
      rotate_left
      · have hB := hS'.a.blk; unfold RoT.cells at hB; rw [HN.out] at hB; have e2 := hB.cell 2; have k0 := (hS'.a.nxt t HN.out).b.cell 0; have p1 := (hS'.b.cell 1).trans (Pdu.c1 _); simp only [tbP, List.getElem?_cons_zero, List.getElem?_cons_succ] at e2 k0; clear hB; (go_simp; first | with_reducible rfl | rfl)
      try simp only [Act.put, List.setIfInBounds_toArray, List.set_cons_zero, List.set_cons_succ]
      refine hd_pure (v := ?_) (by rfl) (fun W' hS' => ?_) ?_ -- 6
      rotate_left
      · have hB := hS'.a.blk; unfold RoT.cells at hB; rw [HN.out] at hB; have e2 := hB.cell 2; have k0 := (hS'.a.nxt t HN.out).b.cell 0; have p1 := (hS'.b.cell 1).trans (Pdu.c1 _); simp only [tbP, List.getElem?_cons_zero, List.getElem?_cons_succ] at e2 k0; clear hB; (go_simp; first | with_reducible rfl | rfl)
      try simp only [Act.put, List.setIfInBounds_toArray, List.set_cons_zero, List.set_cons_succ]
      refine hd_pure (v := ?_) (by rfl) (fun W' hS' => ?_) ?_ -- 7
      rotate_left
      · have hB := hS'.a.blk; unfold RoT.cells at hB; rw [HN.out] at hB; have e2 := hB.cell 2; have k0 := (hS'.a.nxt t HN.out).b.cell 0; have p1 := (hS'.b.cell 1).trans (Pdu.c1 _); simp only [tbP, List.getElem?_cons_zero, List.getElem?_cons_succ] at e2 k0; clear hB; (go_simp; first | with_reducible rfl | rfl)
      try simp only [Act.put, List.setIfInBounds_toArray, List.set_cons_zero, List.set_cons_succ]
      refine hd_pure (v := ?_) (by rfl) (fun W' hS' => ?_) ?_ -- 8
      rotate_left
      · have hB := hS'.a.blk; unfold RoT.cells at hB; rw [HN.out] at hB; have e2 := hB.cell 2; have k0 := (hS'.a.nxt t HN.out).b.cell 0; have p1 := (hS'.b.cell 1).trans (Pdu.c1 _); simp only [tbP, List.getElem?_cons_zero, List.getElem?_cons_succ] at e2 k0; clear hB; (go_simp; first | with_reducible rfl | rfl)
      try simp only [Act.put, List.setIfInBounds_toArray, List.set_cons_zero, List.set_cons_succ]
      refine hd_pure (v := ?_) (by rfl) (fun W' hS' => ?_) ?_ -- 9
      rotate_left
      · have hB := hS'.a.blk; unfold RoT.cells at hB; rw [HN.out] at hB; have e2 := hB.cell 2; have k0 := (hS'.a.nxt t HN.out).b.cell 0; have p1 := (hS'.b.cell 1).trans (Pdu.c1 _); simp only [tbP, List.getElem?_cons_zero, List.getElem?_cons_succ] at e2 k0; clear hB; (go_simp; first | with_reducible rfl | rfl)
      try simp only [Act.put, List.setIfInBounds_toArray, List.set_cons_zero, List.set_cons_succ]
      refine hd_pure (v := ?_) (by rfl) (fun W' hS' => ?_) ?_ -- 10
      rotate_left
      · have hB := hS'.a.blk; unfold RoT.cells at hB; rw [HN.out] at hB; have e2 := hB.cell 2; have k0 := (hS'.a.nxt t HN.out).b.cell 0; have p1 := (hS'.b.cell 1).trans (Pdu.c1 _); simp only [tbP, List.getElem?_cons_zero, List.getElem?_cons_succ] at e2 k0; clear hB; (go_simp; first | with_reducible rfl | rfl)
      try simp only [Act.put, List.setIfInBounds_toArray, List.set_cons_zero, List.set_cons_succ]
      refine hd_nil ?_
      replace hT := hSW; clear hSW
      refine wpList_nil (NoPanic.normal ?_)
      go_upto_region 5 with fail
      clear be
      refine reg_sch2 13 [(true, 0), (true, 1), (true, 2), (true, 3), (true, 4), (true, 5), (true, 6), (true, 7), (true, 8), (true, 9), (false, 10), (true, 11), (true, 12)] (by kernel_rfl) (by kernel_rfl) (fun W => (∃ v0, Blk W g 74 [v0, .int .u32 r.sn.toNat, .pointer (some ⟨t.s, 0, none⟩), .bool r.asked, .int .i64 r.kind, r.lf.val, .bool r.broken]) ∧ Blk W bx 69 p.cells) (RtP w g r bx p) ?_ ?_ ?_
      · first | exact hT.drew | exact hT.drew.drew
      · exact fun W h => ⟨⟨_, by have := h.a.blk; unfold RoT.cells at this; rw [HN.out] at this; exact this⟩, h.b⟩
      intro W hSW
      simp only [List.map_cons, List.map_nil, List.getD_cons_zero, List.getD_cons_succ, List.drop_succ_cons, List.drop_zero]
      refine hd_pure (v := ?_) (by rfl) (fun W' hS' => ?_) ?_ -- 0
      rotate_left
      · obtain ⟨⟨v0, hB⟩, hP⟩ := hS'; have e2 := hB.cell 2; have p2 := (hP.cell 2).trans (Pdu.c2 _); simp only [List.getElem?_cons_zero, List.getElem?_cons_succ] at e2; clear hB hP; (go_simp; first | with_reducible rfl | rfl)
      try simp only [Act.put, List.setIfInBounds_toArray, List.set_cons_zero, List.set_cons_succ]
      refine hd_pure (v := ?_) (by rfl) (fun W' hS' => ?_) ?_ -- 1
      rotate_left
      · obtain ⟨⟨v0, hB⟩, hP⟩ := hS'; have e2 := hB.cell 2; have p2 := (hP.cell 2).trans (Pdu.c2 _); simp only [List.getElem?_cons_zero, List.getElem?_cons_succ] at e2; clear hB hP; (go_simp; first | with_reducible rfl | rfl)
      try simp only [Act.put, List.setIfInBounds_toArray, List.set_cons_zero, List.set_cons_succ]
      refine hd_pure (v := ?_) (by rfl) (fun W' hS' => ?_) ?_ -- 2
      rotate_left
      · obtain ⟨⟨v0, hB⟩, hP⟩ := hS'; have e2 := hB.cell 2; have p2 := (hP.cell 2).trans (Pdu.c2 _); simp only [List.getElem?_cons_zero, List.getElem?_cons_succ] at e2; clear hB hP; (go_simp; first | with_reducible rfl | rfl)
      try simp only [Act.put, List.setIfInBounds_toArray, List.set_cons_zero, List.set_cons_succ]
      refine hd_pure (v := ?_) (by rfl) (fun W' hS' => ?_) ?_ -- 3
      rotate_left
      · obtain ⟨⟨v0, hB⟩, hP⟩ := hS'; have e2 := hB.cell 2; have p2 := (hP.cell 2).trans (Pdu.c2 _); simp only [List.getElem?_cons_zero, List.getElem?_cons_succ] at e2; clear hB hP; (go_simp; first | with_reducible rfl | rfl)
      try simp only [Act.put, List.setIfInBounds_toArray, List.set_cons_zero, List.set_cons_succ]
      refine hd_pure (v := ?_) (by rfl) (fun W' hS' => ?_) ?_ -- 4
      rotate_left
      · obtain ⟨⟨v0, hB⟩, hP⟩ := hS'; have e2 := hB.cell 2; have p2 := (hP.cell 2).trans (Pdu.c2 _); simp only [List.getElem?_cons_zero, List.getElem?_cons_succ] at e2; clear hB hP; (go_simp; first | with_reducible rfl | rfl)
      try simp only [Act.put, List.setIfInBounds_toArray, List.set_cons_zero, List.set_cons_succ]
      refine hd_pure (v := ?_) (by rfl) (fun W' hS' => ?_) ?_ -- 5
      rotate_left
      · obtain ⟨⟨v0, hB⟩, hP⟩ := hS'; have e2 := hB.cell 2; have p2 := (hP.cell 2).trans (Pdu.c2 _); simp only [List.getElem?_cons_zero, List.getElem?_cons_succ] at e2; clear hB hP; (go_simp; first | with_reducible rfl | rfl)
      try simp only [Act.put, List.setIfInBounds_toArray, List.set_cons_zero, List.set_cons_succ]
      refine hd_pure (v := ?_) (by rfl) (fun W' hS' => ?_) ?_ -- 6
      rotate_left
      · obtain ⟨⟨v0, hB⟩, hP⟩ := hS'; have e2 := hB.cell 2; have p2 := (hP.cell 2).trans (Pdu.c2 _); simp only [List.getElem?_cons_zero, List.getElem?_cons_succ] at e2; clear hB hP; (go_simp; first | with_reducible rfl | rfl)
      try simp only [Act.put, List.setIfInBounds_toArray, List.set_cons_zero, List.set_cons_succ]
      refine hd_pure (v := ?_) (by rfl) (fun W' hS' => ?_) ?_ -- 7
      rotate_left
      · obtain ⟨⟨v0, hB⟩, hP⟩ := hS'; have e2 := hB.cell 2; have p2 := (hP.cell 2).trans (Pdu.c2 _); simp only [List.getElem?_cons_zero, List.getElem?_cons_succ] at e2; clear hB hP; (go_simp; first | with_reducible rfl | rfl)
      try simp only [Act.put, List.setIfInBounds_toArray, List.set_cons_zero, List.set_cons_succ]
      refine hd_pure (v := ?_) (by rfl) (fun W' hS' => ?_) ?_ -- 8
      rotate_left
      · obtain ⟨⟨v0, hB⟩, hP⟩ := hS'; have e2 := hB.cell 2; have p2 := (hP.cell 2).trans (Pdu.c2 _); simp only [List.getElem?_cons_zero, List.getElem?_cons_succ] at e2; clear hB hP; (go_simp; first | with_reducible rfl | rfl)
      try simp only [Act.put, List.setIfInBounds_toArray, List.set_cons_zero, List.set_cons_succ]
      refine hd_pure (v := ?_) (by rfl) (fun W' hS' => ?_) ?_ -- 9
      rotate_left
      · obtain ⟨⟨v0, hB⟩, hP⟩ := hS'; have e2 := hB.cell 2; have p2 := (hP.cell 2).trans (Pdu.c2 _); simp only [List.getElem?_cons_zero, List.getElem?_cons_succ] at e2; clear hB hP; (go_simp; first | with_reducible rfl | rfl)
      try simp only [Act.put, List.setIfInBounds_toArray, List.set_cons_zero, List.set_cons_succ]
      refine hd_sole (by rfl) (fun K hK => ?_) -- 10
      have e0 := hSW.a.blk.cell 0; have f0 := hSW.a.blk.frozen 0; simp only [RoT.cells, List.getElem?_cons_zero] at e0
      go_simp
      clear e0 f0
      have hn1 := hSW.a.blk.set_ 0 (.pointer (some ⟨t.s, 0, none⟩)); unfold RoT.cells at hn1; rw [HN.out] at hn1; simp only [List.set_cons_zero, tbP] at hn1; have hn2 := hSW.b.far (p := ⟨g, 0, none⟩) (blk_typ_ne hSW.b hSW.a.blk (by decide)) (.pointer (some ⟨t.s, 0, none⟩))
      refine hK _ _ (⟨⟨_, hn1⟩, hn2⟩) ?_
      clear hK K
      intro hSW10
      try simp only [Act.put, List.setIfInBounds_toArray, List.set_cons_zero, List.set_cons_succ]
      refine hd_pure (v := ?_) (by rfl) (fun W' hS' => ?_) ?_ -- 11
      rotate_left
      · obtain ⟨⟨v0, hB⟩, hP⟩ := hS'; have e2 := hB.cell 2; have p2 := (hP.cell 2).trans (Pdu.c2 _); simp only [List.getElem?_cons_zero, List.getElem?_cons_succ] at e2; clear hB hP; (go_simp; first | with_reducible rfl | rfl)
      try simp only [Act.put, List.setIfInBounds_toArray, List.set_cons_zero, List.set_cons_succ]
      refine hd_pure (v := ?_) (by rfl) (fun W' hS' => ?_) ?_ -- 12
      rotate_left
      · obtain ⟨⟨v0, hB⟩, hP⟩ := hS'; have e2 := hB.cell 2; have p2 := (hP.cell 2).trans (Pdu.c2 _); simp only [List.getElem?_cons_zero, List.getElem?_cons_succ] at e2; clear hB hP; (go_simp; first | with_reducible rfl | rfl)
      try simp only [Act.put, List.setIfInBounds_toArray, List.set_cons_zero, List.set_cons_succ]
      refine hd_nil ?_
      have hB := hSW.a.blk; unfold RoT.cells at hB; rw [HN.out] at hB; have hB1 := hB.set_ 0 (.pointer (some ⟨t.s, 0, none⟩)); have e1 := hB1.cell 1; have q1 := hB1.frozen 1; simp only [List.set_cons_zero, List.getElem?_cons_zero, List.getElem?_cons_succ] at e1
      go_wp2_with fail
      refine NoPanic.normal ?_
      go_upto_region 6 with fail
      have hZ1 := hSW.a.toRtA0.setG (r' := { r with h := some t }) 0 (.pointer (some ⟨t.s, 0, none⟩)) rfl (fun t' ht' => by cases ht'; exact hSW.a.nxt t HN.out) hSW.a.nxt hSW.a.left
      have hZ2 := hZ1.setG (r' := { r with h := some t, sn := p.serial }) 1 (.int .u32 p.serial.toNat) rfl hZ1.has hZ1.nxt hZ1.left
      have hF2 : RFr W (W.setCell ⟨g, 0, none⟩ (.pointer (some ⟨t.s, 0, none⟩))) g r { r with h := some t } := RFr.cell (fun t' ht' => by rcases ht' with h | h; exact .inr (by rw [HN.out]; exact h); exact .inr h) (fun t' ht' => ht')
      have hF3 := ((RFr.below (r := r) (g := g) hSW.f).trans hF2).trans (RFr.same (r' := { r with h := some t, sn := p.serial }) (W := W.setCell ⟨g, 0, none⟩ (.pointer (some ⟨t.s, 0, none⟩))) (g := g) (r := { r with h := some t }) (i := 1) (u := .int .u32 p.serial.toNat) rfl rfl)
      refine wp_gen (fun W2 => RtA0 W2 g { r with h := some t, sn := p.serial } ∧ RFr w W2 g r { r with h := some t, sn := p.serial }) ⟨hZ2, hF3⟩ ?_
      clear hSW hSW10 hB hB1 e1 q1 hZ1 hZ2 hF2 hF3
      rintro W2 ⟨hZ, hF⟩
      have c0 := hZ.blk.cell 0
      have c1 := hZ.blk.cell 1
      have c2 := hZ.blk.cell 2
      have c3 := hZ.blk.cell 3
      have c4 := hZ.blk.cell 4
      have c5 := hZ.blk.cell 5
      have c6 := hZ.blk.cell 6
      have f0 := hZ.blk.frozen 0
      have f1 := hZ.blk.frozen 1
      have f2 := hZ.blk.frozen 2
      have f3 := hZ.blk.frozen 3
      have f4 := hZ.blk.frozen 4
      have f5 := hZ.blk.frozen 5
      have f6 := hZ.blk.frozen 6
      simp only [RoT.cells, tbP, List.getElem?_cons_zero, List.getElem?_cons_succ] at c0 c1 c2 c3 c4 c5 c6
      go_wp2_with fail
      go_ret
      have hZ3 := hZ.setG (r' := { r with h := some t, sn := p.serial, nx := none }) 2 (.pointer none) rfl hZ.has (fun t' ht' => by cases ht') hZ.left
      have hZ4 := hZ3.setG (r' := { r with h := some t, sn := p.serial, nx := none, asked := false }) 3 (.bool false) rfl hZ3.has hZ3.nxt hZ3.left
      rw [HE.out]
      refine ⟨{ r with h := some t, sn := p.serial, nx := none, asked := false }, rfl, ⟨hZ4, fun t t' _ ht => by cases ht⟩, rfl, rfl, rfl, (hF.trans (RFr.cell (fun t' ht' => ?_) (fun t' ht' => by cases ht'))).trans (RFr.same rfl rfl)⟩
      rcases ht' with h | h
      · exact .inl h
      · cases h
    · have HE := Lib.hid (show endR r.abs p = (r.abs, 12) by simp [endR, RoT.abs, TbV.abs, hn, hs])
      have be : (t.sess != p.session) = true := by simp [hs]
      simp only [Pdu.val]
      have hT : RtP w g r w.heap.size p (w.alloc (.cells p.cells.toArray 69)) := ⟨h.next ((Below.refl _ _).alloc (Nat.le_refl _) _), Blk.new _ _ _, (Below.refl _ _).alloc (Nat.le_refl _) _⟩
      clear h
      go_enter Tryz.func88, Tryz.ntmps88
      go_upto_region 1 with fail
      refine wp_gen (RtP w g r w.heap.size p) hT ?_
      clear hT
      generalize w.heap.size = bx
      intro W hT
      have c0 := hT.a.blk.cell 0
      have c1 := hT.a.blk.cell 1
      have c2 := hT.a.blk.cell 2
      have c3 := hT.a.blk.cell 3
      have c4 := hT.a.blk.cell 4
      have c5 := hT.a.blk.cell 5
      have c6 := hT.a.blk.cell 6
      have f0 := hT.a.blk.frozen 0
      have f1 := hT.a.blk.frozen 1
      have f2 := hT.a.blk.frozen 2
      have f3 := hT.a.blk.frozen 3
      have f4 := hT.a.blk.frozen 4
      have f5 := hT.a.blk.frozen 5
      have f6 := hT.a.blk.frozen 6
      simp only [RoT.cells, tbP, List.getElem?_cons_zero, List.getElem?_cons_succ] at c0 c1 c2 c3 c4 c5 c6
      rw [hn] at c2
      simp only at c2
      have HN := Lib.hid hn
      clear hn hs
      go_upto_region 3 with fail
      clear c0 c1 c2 c3 c4 c5 c6 f0 f1 f2 f3 f4 f5 f6
      refine reg_sch2 11 [(true, 0), (true, 1), (true, 2), (true, 3), (true, 4), (true, 5), (true, 6), (true, 7), (true, 8), (true, 9), (true, 10)] (by kernel_rfl) (by kernel_rfl) (RtP w g r bx p) (RtP w g r bx p) ?_ ?_ ?_
      · first | exact hT.drew | exact hT
      · exact fun _ h => h
      intro W hSW
      simp only [List.map_cons, List.map_nil, List.getD_cons_zero, List.getD_cons_succ, List.drop_succ_cons, List.drop_zero]
      refine hd_pure (v := ?_) (by rfl) (fun W' hS' => ?_) ?_ -- 0
      rotate_left
      · have hB := hS'.a.blk; unfold RoT.cells at hB; rw [HN.out] at hB; have e2 := hB.cell 2; have k0 := (hS'.a.nxt t HN.out).b.cell 0; have p1 := (hS'.b.cell 1).trans (Pdu.c1 _); simp only [tbP, List.getElem?_cons_zero, List.getElem?_cons_succ] at e2 k0; clear hB; (go_simp; first | with_reducible rfl | rfl)
      try simp only [Act.put, List.setIfInBounds_toArray, List.set_cons_zero, List.set_cons_succ]
      refine hd_pure (v := ?_) (by rfl) (fun W' hS' => ?_) ?_ -- 1
      rotate_left
      · have hB := hS'.a.blk; unfold RoT.cells at hB; rw [HN.out] at hB; have e2 := hB.cell 2; have k0 := (hS'.a.nxt t HN.out).b.cell 0; have p1 := (hS'.b.cell 1).trans (Pdu.c1 _); simp only [tbP, List.getElem?_cons_zero, List.getElem?_cons_succ] at e2 k0; clear hB; (go_simp; first | with_reducible rfl | rfl)
      try simp only [Act.put, List.setIfInBounds_toArray, List.set_cons_zero, List.set_cons_succ]
      refine hd_pure (v := ?_) (by rfl) (fun W' hS' => ?_) ?_ -- 2
      rotate_left
      · have hB := hS'.a.blk; unfold RoT.cells at hB; rw [HN.out] at hB; have e2 := hB.cell 2; have k0 := (hS'.a.nxt t HN.out).b.cell 0; have p1 := (hS'.b.cell 1).trans (Pdu.c1 _); simp only [tbP, List.getElem?_cons_zero, List.getElem?_cons_succ] at e2 k0; clear hB; (go_simp; first | with_reducible rfl | rfl)
      try simp only [Act.put, List.setIfInBounds_toArray, List.set_cons_zero, List.set_cons_succ]
      refine hd_pure (v := ?_) (by rfl) (fun W' hS' => ?_) ?_ -- 3
      rotate_left
      · have hB := hS'.a.blk; unfold RoT.cells at hB; rw [HN.out] at hB; have e2 := hB.cell 2; have k0 := (hS'.a.nxt t HN.out).b.cell 0; have p1 := (hS'.b.cell 1).trans (Pdu.c1 _); simp only [tbP, List.getElem?_cons_zero, List.getElem?_cons_succ] at e2 k0; clear hB; (go_simp; first | with_reducible rfl | rfl)
      try simp only [Act.put, List.setIfInBounds_toArray, List.set_cons_zero, List.set_cons_succ]
      refine hd_pure (v := ?_) (by rfl) (fun W' hS' => ?_) ?_ -- 4
      rotate_left
      · have hB := hS'.a.blk; unfold RoT.cells at hB; rw [HN.out] at hB; have e2 := hB.cell 2; have k0 := (hS'.a.nxt t HN.out).b.cell 0; have p1 := (hS'.b.cell 1).trans (Pdu.c1 _); simp only [tbP, List.getElem?_cons_zero, List.getElem?_cons_succ] at e2 k0; clear hB; (go_simp; first | with_reducible rfl | rfl)
      try simp only [Act.put, List.setIfInBounds_toArray, List.set_cons_zero, List.set_cons_succ]
      refine hd_pure (v := ?_) (by rfl) (fun W' hS' => ?_) ?_ -- 5
      rotate_left
      · have hB := hS'.a.blk; unfold RoT.cells at hB; rw [HN.out] at hB; have e2 := hB.cell 2; have k0 := (hS'.a.nxt t HN.out).b.cell 0; have p1 := (hS'.b.cell 1).trans (Pdu.c1 _); simp only [tbP, List.getElem?_cons_zero, List.getElem?_cons_succ] at e2 k0; clear hB; (go_simp; first | with_reducible rfl | rfl)
      try simp only [Act.put, List.setIfInBounds_toArray, List.set_cons_zero, List.set_cons_succ]
      refine hd_pure (v := ?_) (by rfl) (fun W' hS' => ?_) ?_ -- 6
      rotate_left
      · have hB := hS'.a.blk; unfold RoT.cells at hB; rw [HN.out] at hB; have e2 := hB.cell 2; have k0 := (hS'.a.nxt t HN.out).b.cell 0; have p1 := (hS'.b.cell 1).trans (Pdu.c1 _); simp only [tbP, List.getElem?_cons_zero, List.getElem?_cons_succ] at e2 k0; clear hB; (go_simp; first | with_reducible rfl | rfl)
      try simp only [Act.put, List.setIfInBounds_toArray, List.set_cons_zero, List.set_cons_succ]
      refine hd_pure (v := ?_) (by rfl) (fun W' hS' => ?_) ?_ -- 7
      rotate_left
      · have hB := hS'.a.blk; unfold RoT.cells at hB; rw [HN.out] at hB; have e2 := hB.cell 2; have k0 := (hS'.a.nxt t HN.out).b.cell 0; have p1 := (hS'.b.cell 1).trans (Pdu.c1 _); simp only [tbP, List.getElem?_cons_zero, List.getElem?_cons_succ] at e2 k0; clear hB; (go_simp; first | with_reducible rfl | rfl)
      try simp only [Act.put, List.setIfInBounds_toArray, List.set_cons_zero, List.set_cons_succ]
      refine hd_pure (v := ?_) (by rfl) (fun W' hS' => ?_) ?_ -- 8
      rotate_left
      · have hB := hS'.a.blk; unfold RoT.cells at hB; rw [HN.out] at hB; have e2 := hB.cell 2; have k0 := (hS'.a.nxt t HN.out).b.cell 0; have p1 := (hS'.b.cell 1).trans (Pdu.c1 _); simp only [tbP, List.getElem?_cons_zero, List.getElem?_cons_succ] at e2 k0; clear hB; (go_simp; first | with_reducible rfl | rfl)
      try simp only [Act.put, List.setIfInBounds_toArray, List.set_cons_zero, List.set_cons_succ]
      refine hd_pure (v := ?_) (by rfl) (fun W' hS' => ?_) ?_ -- 9
      rotate_left
      · have hB := hS'.a.blk; unfold RoT.cells at hB; rw [HN.out] at hB; have e2 := hB.cell 2; have k0 := (hS'.a.nxt t HN.out).b.cell 0; have p1 := (hS'.b.cell 1).trans (Pdu.c1 _); simp only [tbP, List.getElem?_cons_zero, List.getElem?_cons_succ] at e2 k0; clear hB; (go_simp; first | with_reducible rfl | rfl)
      try simp only [Act.put, List.setIfInBounds_toArray, List.set_cons_zero, List.set_cons_succ]
      refine hd_pure (v := ?_) (by rfl) (fun W' hS' => ?_) ?_ -- 10
      rotate_left
      · have hB := hS'.a.blk; unfold RoT.cells at hB; rw [HN.out] at hB; have e2 := hB.cell 2; have k0 := (hS'.a.nxt t HN.out).b.cell 0; have p1 := (hS'.b.cell 1).trans (Pdu.c1 _); simp only [tbP, List.getElem?_cons_zero, List.getElem?_cons_succ] at e2 k0; clear hB; (go_simp; first | with_reducible rfl | rfl)
      try simp only [Act.put, List.setIfInBounds_toArray, List.set_cons_zero, List.set_cons_succ]
      refine hd_nil ?_
      replace hT := hSW; clear hSW
      refine wpList_nil (NoPanic.normal ?_)
      go_wp2_with fail
      go_ret
      rw [HE.out]
      exact ⟨r, rfl, hT.a, rfl, rfl, rfl, .below hT.f⟩
/-- The answer's map turns. -/
theorem RtA.putMap {W W3 : World} {g : Nat} {r : RoT} {t : TbV} (h : RtA W g r) (hn : r.nx = some t) {ks' : List Vrp} (hM : MapV W3 t.m ks') (hG : W.grownBy W3 (some t.m)) : RtA W3 g { r with nx := some { t with ks := ks' } } := by
  have ht := h.nxt t hn
  have hk : ∀ k, k < W.heap.size → k ≠ t.m → W3.heap[k]? = W.heap[k]? := fun k hk hne => hG.block k hk (fun e => hne (Option.some.inj e))
  refine ⟨⟨?_, fun t' ht' => ?_, fun t' ht' => ?_, ?_, h.left.2⟩, fun t1 t2 h1 h2 => ?_⟩
  · have hb : Blk W3 g 74 r.cells := (hk g h.blk.lt (fun e => blk_map_ne h.blk ht.m e.symm)).trans h.blk
    have e : RoT.cells { r with nx := some { t with ks := ks' } } = r.cells := by simp [RoT.cells, hn, tbP]
    rw [e]
    exact hb
  · have hb := h.has t' ht'
    exact hb.kept (hk _ hb.b.lt (fun e => blk_map_ne hb.b ht.m e.symm)) (hk _ hb.m.lt (h.ne t' t ht' hn))
  · cases ht'
    exact ⟨(hk _ ht.b.lt (fun e => blk_map_ne ht.b ht.m e.symm)).trans ht.b, hM⟩
  · exact (h.left.1.offMap ht.m fun k hk1 hne => hk k hk1 hne).more hG.size
  · cases h2
    exact h.ne t1 t h1 hn
theorem RFr.map {W W3 : World} {g : Nat} {r : RoT} {t : TbV} (hn : r.nx = some t) {ks' : List Vrp} (hG : W.grownBy W3 (some t.m)) : RFr W W3 g r { r with nx := some { t with ks := ks' } } :=
  ⟨hG.os, hG.tape, hG.output, hG.size, fun k hk _ h2 => hG.block k hk (fun e => h2 t hn (Option.some.inj e)), fun t' ht' => .inl (by
    rcases ht' with h | h
    · exact ⟨t', .inl h, rfl⟩
    · cases h
      exact ⟨t, .inr hn, rfl⟩), fun t' ht' => .inl (by cases ht'; exact ⟨t, hn, rfl⟩)⟩
theorem RFr.fresh {w W : World} {g : Nat} {r : RoT} {t : TbV} {u : Value} (hb : Below w.heap.size w W) (hm : w.heap.size ≤ t.m) : RFr w (W.setCell ⟨g, 2, none⟩ u) g r { r with nx := some t } :=
  have hg := grown_setCell (grown_refl W (some g)) 2 u
  ⟨hg.os.trans hb.os, hg.tape.trans hb.tape, hg.output.trans hb.output, Nat.le_trans hb.size hg.size, fun k hk hne _ => (hg.block k (Nat.lt_of_lt_of_le hk hb.size) (fun e => hne (Option.some.inj e))).trans (hb.block k hk), fun t' ht' => by
    rcases ht' with h | h
    · exact .inl ⟨t', .inl h, rfl⟩
    · cases h
      exact .inr hm, fun t' ht' => by cases ht'; exact .inr hm⟩
set_option maxRecDepth 100000 in
set_option maxHeartbeats 4000000 in
theorem rchange_any (p : Pdu) (w : World) (g : Nat) (r : RoT) (h : RtA w g r) : Calls Tryz.prog 87 #[.pointer (some ⟨g, 0, none⟩), p.val] w (TakePost w g r (changeR r.abs p)) := by
  cases hn : r.nx with
  | none =>
    have HE := Lib.hid (show changeR r.abs p = (r.abs, 13) by unfold changeR RoT.abs; rw [hn]; rfl)
    simp only [Pdu.val]
    have hT : RtP w g r w.heap.size p (w.alloc (.cells p.cells.toArray 69)) := ⟨h.next ((Below.refl _ _).alloc (Nat.le_refl _) _), Blk.new _ _ _, (Below.refl _ _).alloc (Nat.le_refl _) _⟩
    clear h
    go_enter Tryz.func87, Tryz.ntmps87
    go_upto_region 2 with fail
    refine wp_gen (RtP w g r w.heap.size p) hT ?_
    clear hT
    generalize w.heap.size = bx
    intro W hT
    have c0 := hT.a.blk.cell 0
    have c1 := hT.a.blk.cell 1
    have c2 := hT.a.blk.cell 2
    have c3 := hT.a.blk.cell 3
    have c4 := hT.a.blk.cell 4
    have c5 := hT.a.blk.cell 5
    have c6 := hT.a.blk.cell 6
    have f0 := hT.a.blk.frozen 0
    have f1 := hT.a.blk.frozen 1
    have f2 := hT.a.blk.frozen 2
    have f3 := hT.a.blk.frozen 3
    have f4 := hT.a.blk.frozen 4
    have f5 := hT.a.blk.frozen 5
    have f6 := hT.a.blk.frozen 6
    simp only [RoT.cells, tbP, List.getElem?_cons_zero, List.getElem?_cons_succ] at c0 c1 c2 c3 c4 c5 c6
    rw [hn] at c2
    simp only at c2
    clear hn
    go_wp2_with fail
    go_ret
    rw [HE.out]
    exact ⟨r, rfl, hT.a, rfl, rfl, rfl, .below hT.f⟩
  | some t =>
    have hnx : r.abs.nx = some (t.sess, t.ks) := by unfold RoT.abs; rw [hn]; rfl
    cases ha : p.add
    · by_cases hd : p.v ∈ t.ks
      · have HE := Lib.hid (show changeR r.abs p = (({ r with nx := some { t with ks := t.ks.filter fun x => !decide (x = p.v) } } : RoT).abs, 0) by unfold changeR; rw [hnx]; simp [ha, hd, RoT.abs, TbV.abs])
        have HD := Lib.hid (decide_eq_true hd)
        have HA := Lib.hid ha
        have HND := Lib.hid hd
        clear hnx hd
        simp only [Pdu.val]
        have hT : RtP w g r w.heap.size p (w.alloc (.cells p.cells.toArray 69)) := ⟨h.next ((Below.refl _ _).alloc (Nat.le_refl _) _), Blk.new _ _ _, (Below.refl _ _).alloc (Nat.le_refl _) _⟩
        clear h
        go_enter Tryz.func87, Tryz.ntmps87
        go_upto_region 2 with fail
        refine wp_gen (RtP w g r w.heap.size p) hT ?_
        clear hT
        generalize w.heap.size = bx
        intro W hT
        have c0 := hT.a.blk.cell 0
        have c1 := hT.a.blk.cell 1
        have c2 := hT.a.blk.cell 2
        have c3 := hT.a.blk.cell 3
        have c4 := hT.a.blk.cell 4
        have c5 := hT.a.blk.cell 5
        have c6 := hT.a.blk.cell 6
        have f0 := hT.a.blk.frozen 0
        have f1 := hT.a.blk.frozen 1
        have f2 := hT.a.blk.frozen 2
        have f3 := hT.a.blk.frozen 3
        have f4 := hT.a.blk.frozen 4
        have f5 := hT.a.blk.frozen 5
        have f6 := hT.a.blk.frozen 6
        simp only [RoT.cells, tbP, List.getElem?_cons_zero, List.getElem?_cons_succ] at c0 c1 c2 c3 c4 c5 c6
        have p3 := (hT.b.cell 3).trans (Pdu.c3 _)
        rw [hn] at c2
        simp only at c2
        have HN := Lib.hid hn
        rw [ha] at p3
        go_upto_region 4 with fail
        clear c0 c1 c2 c3 c4 c5 c6 f0 f1 f2 f3 f4 f5 f6 p3
        refine reg_sch2 15 [(true, 0), (true, 1), (true, 2), (true, 3), (true, 4), (true, 5), (true, 6), (true, 7), (true, 8), (true, 9), (true, 10), (true, 11), (true, 12), (true, 13), (true, 14)] (by kernel_rfl) (by kernel_rfl) (RtP w g r bx p) (RtP w g r bx p) ?_ ?_ ?_
        · first | exact hT.drew | exact hT
        · exact fun _ h => h
        intro W hSW
        simp only [List.map_cons, List.map_nil, List.getD_cons_zero, List.getD_cons_succ, List.drop_succ_cons, List.drop_zero]
        refine hd_pure (v := ?_) (by rfl) (fun W' hS' => ?_) ?_ -- 0
        rotate_left
        · have hB := hS'.a.blk; unfold RoT.cells at hB; rw [HN.out] at hB; have e2 := hB.cell 2; have k1 := (hS'.a.nxt t HN.out).b.cell 1; have p3 := (hS'.b.cell 3).trans (Pdu.c3 _); have hlk := (hS'.a.nxt t HN.out).m.look p.v; rw [HD.out] at hlk; rw [HA.out] at p3; simp only [tbP, List.getElem?_cons_zero, List.getElem?_cons_succ] at e2 k1; clear hB; (go_simp; first | with_reducible rfl | rfl)
        try simp only [Act.put, List.setIfInBounds_toArray, List.set_cons_zero, List.set_cons_succ]
        refine hd_pure (v := ?_) (by rfl) (fun W' hS' => ?_) ?_ -- 1
        rotate_left
        · have hB := hS'.a.blk; unfold RoT.cells at hB; rw [HN.out] at hB; have e2 := hB.cell 2; have k1 := (hS'.a.nxt t HN.out).b.cell 1; have p3 := (hS'.b.cell 3).trans (Pdu.c3 _); have hlk := (hS'.a.nxt t HN.out).m.look p.v; rw [HD.out] at hlk; rw [HA.out] at p3; simp only [tbP, List.getElem?_cons_zero, List.getElem?_cons_succ] at e2 k1; clear hB; (go_simp; first | with_reducible rfl | rfl)
        try simp only [Act.put, List.setIfInBounds_toArray, List.set_cons_zero, List.set_cons_succ]
        refine hd_pure (v := ?_) (by rfl) (fun W' hS' => ?_) ?_ -- 2
        rotate_left
        · have hB := hS'.a.blk; unfold RoT.cells at hB; rw [HN.out] at hB; have e2 := hB.cell 2; have k1 := (hS'.a.nxt t HN.out).b.cell 1; have p3 := (hS'.b.cell 3).trans (Pdu.c3 _); have hlk := (hS'.a.nxt t HN.out).m.look p.v; rw [HD.out] at hlk; rw [HA.out] at p3; simp only [tbP, List.getElem?_cons_zero, List.getElem?_cons_succ] at e2 k1; clear hB; (go_simp; first | with_reducible rfl | rfl)
        try simp only [Act.put, List.setIfInBounds_toArray, List.set_cons_zero, List.set_cons_succ]
        refine hd_skip (by rfl) ?_
        try simp only [Act.put, List.setIfInBounds_toArray, List.set_cons_zero, List.set_cons_succ]
        refine hd_skip (by rfl) ?_
        try simp only [Act.put, List.setIfInBounds_toArray, List.set_cons_zero, List.set_cons_succ]
        refine hd_skip (by rfl) ?_
        try simp only [Act.put, List.setIfInBounds_toArray, List.set_cons_zero, List.set_cons_succ]
        refine hd_skip (by rfl) ?_
        try simp only [Act.put, List.setIfInBounds_toArray, List.set_cons_zero, List.set_cons_succ]
        refine hd_skip (by rfl) ?_
        try simp only [Act.put, List.setIfInBounds_toArray, List.set_cons_zero, List.set_cons_succ]
        refine hd_skip (by rfl) ?_
        try simp only [Act.put, List.setIfInBounds_toArray, List.set_cons_zero, List.set_cons_succ]
        refine hd_skip (by rfl) ?_
        try simp only [Act.put, List.setIfInBounds_toArray, List.set_cons_zero, List.set_cons_succ]
        refine hd_skip (by rfl) ?_
        try simp only [Act.put, List.setIfInBounds_toArray, List.set_cons_zero, List.set_cons_succ]
        refine hd_skip (by rfl) ?_
        try simp only [Act.put, List.setIfInBounds_toArray, List.set_cons_zero, List.set_cons_succ]
        refine hd_skip (by rfl) ?_
        try simp only [Act.put, List.setIfInBounds_toArray, List.set_cons_zero, List.set_cons_succ]
        refine hd_pure (v := ?_) (by rfl) (fun W' hS' => ?_) ?_ -- 13
        rotate_left
        · have hB := hS'.a.blk; unfold RoT.cells at hB; rw [HN.out] at hB; have e2 := hB.cell 2; have k1 := (hS'.a.nxt t HN.out).b.cell 1; have p3 := (hS'.b.cell 3).trans (Pdu.c3 _); have hlk := (hS'.a.nxt t HN.out).m.look p.v; rw [HD.out] at hlk; rw [HA.out] at p3; simp only [tbP, List.getElem?_cons_zero, List.getElem?_cons_succ] at e2 k1; clear hB; (go_simp; first | with_reducible rfl | rfl)
        try simp only [Act.put, List.setIfInBounds_toArray, List.set_cons_zero, List.set_cons_succ]
        refine hd_pure (v := ?_) (by rfl) (fun W' hS' => ?_) ?_ -- 14
        rotate_left
        · have hB := hS'.a.blk; unfold RoT.cells at hB; rw [HN.out] at hB; have e2 := hB.cell 2; have k1 := (hS'.a.nxt t HN.out).b.cell 1; have p3 := (hS'.b.cell 3).trans (Pdu.c3 _); have hlk := (hS'.a.nxt t HN.out).m.look p.v; rw [HD.out] at hlk; rw [HA.out] at p3; simp only [tbP, List.getElem?_cons_zero, List.getElem?_cons_succ] at e2 k1; clear hB; (go_simp; first | with_reducible rfl | rfl)
        try simp only [Act.put, List.setIfInBounds_toArray, List.set_cons_zero, List.set_cons_succ]
        refine hd_nil ?_
        replace hT := hSW; clear hSW
        refine wpList_nil (NoPanic.normal ?_)
        clear hn ha
        have p3 := (hT.b.cell 3).trans (Pdu.c3 _)
        rw [HA.out] at p3
        go_upto_region 8 with fail
        clear p3
        refine reg_sch2 12 [(true, 0), (true, 1), (true, 2), (true, 3), (true, 4), (true, 5), (true, 6), (true, 7), (true, 8), (true, 9), (true, 10), (true, 11)] (by kernel_rfl) (by kernel_rfl) (RtP w g r bx p) (RtP w g r bx p) ?_ ?_ ?_
        · first | exact hT.drew | exact hT
        · exact fun _ h => h
        intro W hSW
        simp only [List.map_cons, List.map_nil, List.getD_cons_zero, List.getD_cons_succ, List.drop_succ_cons, List.drop_zero]
        refine hd_pure (v := ?_) (by rfl) (fun W' hS' => ?_) ?_ -- 0
        rotate_left
        · have hB := hS'.a.blk; unfold RoT.cells at hB; rw [HN.out] at hB; have e2 := hB.cell 2; have k1 := (hS'.a.nxt t HN.out).b.cell 1; have p3 := (hS'.b.cell 3).trans (Pdu.c3 _); have hlk := (hS'.a.nxt t HN.out).m.look p.v; rw [HD.out] at hlk; rw [HA.out] at p3; simp only [tbP, List.getElem?_cons_zero, List.getElem?_cons_succ] at e2 k1; clear hB; (go_simp; first | with_reducible rfl | rfl)
        try simp only [Act.put, List.setIfInBounds_toArray, List.set_cons_zero, List.set_cons_succ]
        refine hd_pure (v := ?_) (by rfl) (fun W' hS' => ?_) ?_ -- 1
        rotate_left
        · have hB := hS'.a.blk; unfold RoT.cells at hB; rw [HN.out] at hB; have e2 := hB.cell 2; have k1 := (hS'.a.nxt t HN.out).b.cell 1; have p3 := (hS'.b.cell 3).trans (Pdu.c3 _); have hlk := (hS'.a.nxt t HN.out).m.look p.v; rw [HD.out] at hlk; rw [HA.out] at p3; simp only [tbP, List.getElem?_cons_zero, List.getElem?_cons_succ] at e2 k1; clear hB; (go_simp; first | with_reducible rfl | rfl)
        try simp only [Act.put, List.setIfInBounds_toArray, List.set_cons_zero, List.set_cons_succ]
        refine hd_pure (v := ?_) (by rfl) (fun W' hS' => ?_) ?_ -- 2
        rotate_left
        · have hB := hS'.a.blk; unfold RoT.cells at hB; rw [HN.out] at hB; have e2 := hB.cell 2; have k1 := (hS'.a.nxt t HN.out).b.cell 1; have p3 := (hS'.b.cell 3).trans (Pdu.c3 _); have hlk := (hS'.a.nxt t HN.out).m.look p.v; rw [HD.out] at hlk; rw [HA.out] at p3; simp only [tbP, List.getElem?_cons_zero, List.getElem?_cons_succ] at e2 k1; clear hB; (go_simp; first | with_reducible rfl | rfl)
        try simp only [Act.put, List.setIfInBounds_toArray, List.set_cons_zero, List.set_cons_succ]
        refine hd_pure (v := ?_) (by rfl) (fun W' hS' => ?_) ?_ -- 3
        rotate_left
        · have hB := hS'.a.blk; unfold RoT.cells at hB; rw [HN.out] at hB; have e2 := hB.cell 2; have k1 := (hS'.a.nxt t HN.out).b.cell 1; have p3 := (hS'.b.cell 3).trans (Pdu.c3 _); have hlk := (hS'.a.nxt t HN.out).m.look p.v; rw [HD.out] at hlk; rw [HA.out] at p3; simp only [tbP, List.getElem?_cons_zero, List.getElem?_cons_succ] at e2 k1; clear hB; (go_simp; first | with_reducible rfl | rfl)
        try simp only [Act.put, List.setIfInBounds_toArray, List.set_cons_zero, List.set_cons_succ]
        refine hd_pure (v := ?_) (by rfl) (fun W' hS' => ?_) ?_ -- 4
        rotate_left
        · have hB := hS'.a.blk; unfold RoT.cells at hB; rw [HN.out] at hB; have e2 := hB.cell 2; have k1 := (hS'.a.nxt t HN.out).b.cell 1; have p3 := (hS'.b.cell 3).trans (Pdu.c3 _); have hlk := (hS'.a.nxt t HN.out).m.look p.v; rw [HD.out] at hlk; rw [HA.out] at p3; simp only [tbP, List.getElem?_cons_zero, List.getElem?_cons_succ] at e2 k1; clear hB; (go_simp; first | with_reducible rfl | rfl)
        try simp only [Act.put, List.setIfInBounds_toArray, List.set_cons_zero, List.set_cons_succ]
        refine hd_pure (v := ?_) (by rfl) (fun W' hS' => ?_) ?_ -- 5
        rotate_left
        · have hB := hS'.a.blk; unfold RoT.cells at hB; rw [HN.out] at hB; have e2 := hB.cell 2; have k1 := (hS'.a.nxt t HN.out).b.cell 1; have p3 := (hS'.b.cell 3).trans (Pdu.c3 _); have hlk := (hS'.a.nxt t HN.out).m.look p.v; rw [HD.out] at hlk; rw [HA.out] at p3; simp only [tbP, List.getElem?_cons_zero, List.getElem?_cons_succ] at e2 k1; clear hB; (go_simp; first | with_reducible rfl | rfl)
        try simp only [Act.put, List.setIfInBounds_toArray, List.set_cons_zero, List.set_cons_succ]
        refine hd_pure (v := ?_) (by rfl) (fun W' hS' => ?_) ?_ -- 6
        rotate_left
        · have hB := hS'.a.blk; unfold RoT.cells at hB; rw [HN.out] at hB; have e2 := hB.cell 2; have k1 := (hS'.a.nxt t HN.out).b.cell 1; have p3 := (hS'.b.cell 3).trans (Pdu.c3 _); have hlk := (hS'.a.nxt t HN.out).m.look p.v; rw [HD.out] at hlk; rw [HA.out] at p3; simp only [tbP, List.getElem?_cons_zero, List.getElem?_cons_succ] at e2 k1; clear hB; (go_simp; first | with_reducible rfl | rfl)
        try simp only [Act.put, List.setIfInBounds_toArray, List.set_cons_zero, List.set_cons_succ]
        refine hd_pure (v := ?_) (by rfl) (fun W' hS' => ?_) ?_ -- 7
        rotate_left
        · have hB := hS'.a.blk; unfold RoT.cells at hB; rw [HN.out] at hB; have e2 := hB.cell 2; have k1 := (hS'.a.nxt t HN.out).b.cell 1; have p3 := (hS'.b.cell 3).trans (Pdu.c3 _); have hlk := (hS'.a.nxt t HN.out).m.look p.v; rw [HD.out] at hlk; rw [HA.out] at p3; simp only [tbP, List.getElem?_cons_zero, List.getElem?_cons_succ] at e2 k1; clear hB; (go_simp; first | with_reducible rfl | rfl)
        try simp only [Act.put, List.setIfInBounds_toArray, List.set_cons_zero, List.set_cons_succ]
        refine hd_pure (v := .agg p.v.cells.toArray) (by rfl) (fun W' hS' => exec_load_at 67 _ (by rfl) bx 4 20 (by rfl) _ _ hS'.b.pdu_vrp (Vrp.cells_length _) Tryz.underlying67 rfl info_vrp1) ?_ -- 8
        try simp only [Act.put, List.setIfInBounds_toArray, List.set_cons_zero, List.set_cons_succ]
        refine hd_pure (v := ?_) (by rfl) (fun W' hS' => ?_) ?_ -- 9
        rotate_left
        · have hB := hS'.a.blk; unfold RoT.cells at hB; rw [HN.out] at hB; have e2 := hB.cell 2; have k1 := (hS'.a.nxt t HN.out).b.cell 1; have p3 := (hS'.b.cell 3).trans (Pdu.c3 _); have hlk := (hS'.a.nxt t HN.out).m.look p.v; rw [HD.out] at hlk; rw [HA.out] at p3; simp only [tbP, List.getElem?_cons_zero, List.getElem?_cons_succ] at e2 k1; clear hB; (go_simp; first | with_reducible rfl | rfl)
        try simp only [Act.put, List.setIfInBounds_toArray, List.set_cons_zero, List.set_cons_succ]
        refine hd_pure (v := ?_) (by rfl) (fun W' hS' => ?_) ?_ -- 10
        rotate_left
        · have hB := hS'.a.blk; unfold RoT.cells at hB; rw [HN.out] at hB; have e2 := hB.cell 2; have k1 := (hS'.a.nxt t HN.out).b.cell 1; have p3 := (hS'.b.cell 3).trans (Pdu.c3 _); have hlk := (hS'.a.nxt t HN.out).m.look p.v; rw [HD.out] at hlk; rw [HA.out] at p3; simp only [tbP, List.getElem?_cons_zero, List.getElem?_cons_succ] at e2 k1; clear hB; (go_simp; first | with_reducible rfl | rfl)
        try simp only [Act.put, List.setIfInBounds_toArray, List.set_cons_zero, List.set_cons_succ]
        refine hd_pure (v := ?_) (by rfl) (fun W' hS' => ?_) ?_ -- 11
        rotate_left
        · have hB := hS'.a.blk; unfold RoT.cells at hB; rw [HN.out] at hB; have e2 := hB.cell 2; have k1 := (hS'.a.nxt t HN.out).b.cell 1; have p3 := (hS'.b.cell 3).trans (Pdu.c3 _); have hlk := (hS'.a.nxt t HN.out).m.look p.v; rw [HD.out] at hlk; rw [HA.out] at p3; simp only [tbP, List.getElem?_cons_zero, List.getElem?_cons_succ] at e2 k1; clear hB; (go_simp; first | with_reducible rfl | rfl)
        try simp only [Act.put, List.setIfInBounds_toArray, List.set_cons_zero, List.set_cons_succ]
        refine hd_nil ?_
        replace hT := hSW; clear hSW
        refine wpList_nil (NoPanic.normal ?_)
        have p3 := (hT.b.cell 3).trans (Pdu.c3 _)
        rw [HA.out] at p3
        go_upto_region 1 with fail
        clear p3
        refine reg_sch2 9 [(true, 0), (true, 1), (true, 2), (true, 3), (true, 4), (true, 5), (true, 6), (true, 7), (true, 8)] (by kernel_rfl) (by kernel_rfl) (RtP w g r bx p) (RtP w g r bx p) ?_ ?_ ?_
        · first | exact hT.drew | exact hT
        · exact fun _ h => h
        intro W hSW
        simp only [List.map_cons, List.map_nil, List.getD_cons_zero, List.getD_cons_succ, List.drop_succ_cons, List.drop_zero]
        refine hd_pure (v := ?_) (by rfl) (fun W' hS' => ?_) ?_ -- 0
        rotate_left
        · have hB := hS'.a.blk; unfold RoT.cells at hB; rw [HN.out] at hB; have e2 := hB.cell 2; have k1 := (hS'.a.nxt t HN.out).b.cell 1; have p3 := (hS'.b.cell 3).trans (Pdu.c3 _); have hlk := (hS'.a.nxt t HN.out).m.look p.v; rw [HD.out] at hlk; rw [HA.out] at p3; simp only [tbP, List.getElem?_cons_zero, List.getElem?_cons_succ] at e2 k1; clear hB; (go_simp; first | with_reducible rfl | rfl)
        try simp only [Act.put, List.setIfInBounds_toArray, List.set_cons_zero, List.set_cons_succ]
        refine hd_pure (v := ?_) (by rfl) (fun W' hS' => ?_) ?_ -- 1
        rotate_left
        · have hB := hS'.a.blk; unfold RoT.cells at hB; rw [HN.out] at hB; have e2 := hB.cell 2; have k1 := (hS'.a.nxt t HN.out).b.cell 1; have p3 := (hS'.b.cell 3).trans (Pdu.c3 _); have hlk := (hS'.a.nxt t HN.out).m.look p.v; rw [HD.out] at hlk; rw [HA.out] at p3; simp only [tbP, List.getElem?_cons_zero, List.getElem?_cons_succ] at e2 k1; clear hB; (go_simp; first | with_reducible rfl | rfl)
        try simp only [Act.put, List.setIfInBounds_toArray, List.set_cons_zero, List.set_cons_succ]
        refine hd_pure (v := ?_) (by rfl) (fun W' hS' => ?_) ?_ -- 2
        rotate_left
        · have hB := hS'.a.blk; unfold RoT.cells at hB; rw [HN.out] at hB; have e2 := hB.cell 2; have k1 := (hS'.a.nxt t HN.out).b.cell 1; have p3 := (hS'.b.cell 3).trans (Pdu.c3 _); have hlk := (hS'.a.nxt t HN.out).m.look p.v; rw [HD.out] at hlk; rw [HA.out] at p3; simp only [tbP, List.getElem?_cons_zero, List.getElem?_cons_succ] at e2 k1; clear hB; (go_simp; first | with_reducible rfl | rfl)
        try simp only [Act.put, List.setIfInBounds_toArray, List.set_cons_zero, List.set_cons_succ]
        refine hd_pure (v := ?_) (by rfl) (fun W' hS' => ?_) ?_ -- 3
        rotate_left
        · have hB := hS'.a.blk; unfold RoT.cells at hB; rw [HN.out] at hB; have e2 := hB.cell 2; have k1 := (hS'.a.nxt t HN.out).b.cell 1; have p3 := (hS'.b.cell 3).trans (Pdu.c3 _); have hlk := (hS'.a.nxt t HN.out).m.look p.v; rw [HD.out] at hlk; rw [HA.out] at p3; simp only [tbP, List.getElem?_cons_zero, List.getElem?_cons_succ] at e2 k1; clear hB; (go_simp; first | with_reducible rfl | rfl)
        try simp only [Act.put, List.setIfInBounds_toArray, List.set_cons_zero, List.set_cons_succ]
        refine hd_pure (v := ?_) (by rfl) (fun W' hS' => ?_) ?_ -- 4
        rotate_left
        · have hB := hS'.a.blk; unfold RoT.cells at hB; rw [HN.out] at hB; have e2 := hB.cell 2; have k1 := (hS'.a.nxt t HN.out).b.cell 1; have p3 := (hS'.b.cell 3).trans (Pdu.c3 _); have hlk := (hS'.a.nxt t HN.out).m.look p.v; rw [HD.out] at hlk; rw [HA.out] at p3; simp only [tbP, List.getElem?_cons_zero, List.getElem?_cons_succ] at e2 k1; clear hB; (go_simp; first | with_reducible rfl | rfl)
        try simp only [Act.put, List.setIfInBounds_toArray, List.set_cons_zero, List.set_cons_succ]
        refine hd_pure (v := ?_) (by rfl) (fun W' hS' => ?_) ?_ -- 5
        rotate_left
        · have hB := hS'.a.blk; unfold RoT.cells at hB; rw [HN.out] at hB; have e2 := hB.cell 2; have k1 := (hS'.a.nxt t HN.out).b.cell 1; have p3 := (hS'.b.cell 3).trans (Pdu.c3 _); have hlk := (hS'.a.nxt t HN.out).m.look p.v; rw [HD.out] at hlk; rw [HA.out] at p3; simp only [tbP, List.getElem?_cons_zero, List.getElem?_cons_succ] at e2 k1; clear hB; (go_simp; first | with_reducible rfl | rfl)
        try simp only [Act.put, List.setIfInBounds_toArray, List.set_cons_zero, List.set_cons_succ]
        refine hd_pure (v := ?_) (by rfl) (fun W' hS' => ?_) ?_ -- 6
        rotate_left
        · have hB := hS'.a.blk; unfold RoT.cells at hB; rw [HN.out] at hB; have e2 := hB.cell 2; have k1 := (hS'.a.nxt t HN.out).b.cell 1; have p3 := (hS'.b.cell 3).trans (Pdu.c3 _); have hlk := (hS'.a.nxt t HN.out).m.look p.v; rw [HD.out] at hlk; rw [HA.out] at p3; simp only [tbP, List.getElem?_cons_zero, List.getElem?_cons_succ] at e2 k1; clear hB; (go_simp; first | with_reducible rfl | rfl)
        try simp only [Act.put, List.setIfInBounds_toArray, List.set_cons_zero, List.set_cons_succ]
        refine hd_pure (v := ?_) (by rfl) (fun W' hS' => ?_) ?_ -- 7
        rotate_left
        · have hB := hS'.a.blk; unfold RoT.cells at hB; rw [HN.out] at hB; have e2 := hB.cell 2; have k1 := (hS'.a.nxt t HN.out).b.cell 1; have p3 := (hS'.b.cell 3).trans (Pdu.c3 _); have hlk := (hS'.a.nxt t HN.out).m.look p.v; rw [HD.out] at hlk; rw [HA.out] at p3; simp only [tbP, List.getElem?_cons_zero, List.getElem?_cons_succ] at e2 k1; clear hB; (go_simp; first | with_reducible rfl | rfl)
        try simp only [Act.put, List.setIfInBounds_toArray, List.set_cons_zero, List.set_cons_succ]
        refine hd_pure (v := .agg p.v.cells.toArray) (by rfl) (fun W' hS' => exec_load_at 67 _ (by rfl) bx 4 20 (by rfl) _ _ hS'.b.pdu_vrp (Vrp.cells_length _) Tryz.underlying67 rfl info_vrp1) ?_ -- 8
        try simp only [Act.put, List.setIfInBounds_toArray, List.set_cons_zero, List.set_cons_succ]
        refine hd_nil ?_
        replace hT := hSW; clear hSW; obtain ⟨W3, hdel, hM3, hG3⟩ := (hT.a.nxt t HN.out).m.del p.v HND.out
        go_wp2_with fail
        refine NoPanic.normal ?_
        go_wp2_with fail
        go_ret
        rw [HE.out]
        exact ⟨_, rfl, hT.a.putMap HN.out hM3 hG3, by simp [RoT.abs, TbV.abs], rfl, rfl, (RFr.below hT.f).trans (RFr.map HN.out hG3)⟩
      · have HE := Lib.hid (show changeR r.abs p = (r.abs, 10) by unfold changeR; rw [hnx]; simp [ha, hd])
        have HD := Lib.hid (decide_eq_false hd)
        have HA := Lib.hid ha
        clear hnx hd
        simp only [Pdu.val]
        have hT : RtP w g r w.heap.size p (w.alloc (.cells p.cells.toArray 69)) := ⟨h.next ((Below.refl _ _).alloc (Nat.le_refl _) _), Blk.new _ _ _, (Below.refl _ _).alloc (Nat.le_refl _) _⟩
        clear h
        go_enter Tryz.func87, Tryz.ntmps87
        go_upto_region 2 with fail
        refine wp_gen (RtP w g r w.heap.size p) hT ?_
        clear hT
        generalize w.heap.size = bx
        intro W hT
        have c0 := hT.a.blk.cell 0
        have c1 := hT.a.blk.cell 1
        have c2 := hT.a.blk.cell 2
        have c3 := hT.a.blk.cell 3
        have c4 := hT.a.blk.cell 4
        have c5 := hT.a.blk.cell 5
        have c6 := hT.a.blk.cell 6
        have f0 := hT.a.blk.frozen 0
        have f1 := hT.a.blk.frozen 1
        have f2 := hT.a.blk.frozen 2
        have f3 := hT.a.blk.frozen 3
        have f4 := hT.a.blk.frozen 4
        have f5 := hT.a.blk.frozen 5
        have f6 := hT.a.blk.frozen 6
        simp only [RoT.cells, tbP, List.getElem?_cons_zero, List.getElem?_cons_succ] at c0 c1 c2 c3 c4 c5 c6
        have p3 := (hT.b.cell 3).trans (Pdu.c3 _)
        rw [hn] at c2
        simp only at c2
        have HN := Lib.hid hn
        rw [ha] at p3
        go_upto_region 4 with fail
        clear c0 c1 c2 c3 c4 c5 c6 f0 f1 f2 f3 f4 f5 f6 p3
        refine reg_sch2 15 [(true, 0), (true, 1), (true, 2), (true, 3), (true, 4), (true, 5), (true, 6), (true, 7), (true, 8), (true, 9), (true, 10), (true, 11), (true, 12), (true, 13), (true, 14)] (by kernel_rfl) (by kernel_rfl) (RtP w g r bx p) (RtP w g r bx p) ?_ ?_ ?_
        · first | exact hT.drew | exact hT
        · exact fun _ h => h
        intro W hSW
        simp only [List.map_cons, List.map_nil, List.getD_cons_zero, List.getD_cons_succ, List.drop_succ_cons, List.drop_zero]
        refine hd_pure (v := ?_) (by rfl) (fun W' hS' => ?_) ?_ -- 0
        rotate_left
        · have hB := hS'.a.blk; unfold RoT.cells at hB; rw [HN.out] at hB; have e2 := hB.cell 2; have k1 := (hS'.a.nxt t HN.out).b.cell 1; have p3 := (hS'.b.cell 3).trans (Pdu.c3 _); have hlk := (hS'.a.nxt t HN.out).m.look p.v; rw [HD.out] at hlk; rw [HA.out] at p3; simp only [tbP, List.getElem?_cons_zero, List.getElem?_cons_succ] at e2 k1; clear hB; (go_simp; first | with_reducible rfl | rfl)
        try simp only [Act.put, List.setIfInBounds_toArray, List.set_cons_zero, List.set_cons_succ]
        refine hd_pure (v := ?_) (by rfl) (fun W' hS' => ?_) ?_ -- 1
        rotate_left
        · have hB := hS'.a.blk; unfold RoT.cells at hB; rw [HN.out] at hB; have e2 := hB.cell 2; have k1 := (hS'.a.nxt t HN.out).b.cell 1; have p3 := (hS'.b.cell 3).trans (Pdu.c3 _); have hlk := (hS'.a.nxt t HN.out).m.look p.v; rw [HD.out] at hlk; rw [HA.out] at p3; simp only [tbP, List.getElem?_cons_zero, List.getElem?_cons_succ] at e2 k1; clear hB; (go_simp; first | with_reducible rfl | rfl)
        try simp only [Act.put, List.setIfInBounds_toArray, List.set_cons_zero, List.set_cons_succ]
        refine hd_pure (v := ?_) (by rfl) (fun W' hS' => ?_) ?_ -- 2
        rotate_left
        · have hB := hS'.a.blk; unfold RoT.cells at hB; rw [HN.out] at hB; have e2 := hB.cell 2; have k1 := (hS'.a.nxt t HN.out).b.cell 1; have p3 := (hS'.b.cell 3).trans (Pdu.c3 _); have hlk := (hS'.a.nxt t HN.out).m.look p.v; rw [HD.out] at hlk; rw [HA.out] at p3; simp only [tbP, List.getElem?_cons_zero, List.getElem?_cons_succ] at e2 k1; clear hB; (go_simp; first | with_reducible rfl | rfl)
        try simp only [Act.put, List.setIfInBounds_toArray, List.set_cons_zero, List.set_cons_succ]
        refine hd_skip (by rfl) ?_
        try simp only [Act.put, List.setIfInBounds_toArray, List.set_cons_zero, List.set_cons_succ]
        refine hd_skip (by rfl) ?_
        try simp only [Act.put, List.setIfInBounds_toArray, List.set_cons_zero, List.set_cons_succ]
        refine hd_skip (by rfl) ?_
        try simp only [Act.put, List.setIfInBounds_toArray, List.set_cons_zero, List.set_cons_succ]
        refine hd_skip (by rfl) ?_
        try simp only [Act.put, List.setIfInBounds_toArray, List.set_cons_zero, List.set_cons_succ]
        refine hd_skip (by rfl) ?_
        try simp only [Act.put, List.setIfInBounds_toArray, List.set_cons_zero, List.set_cons_succ]
        refine hd_skip (by rfl) ?_
        try simp only [Act.put, List.setIfInBounds_toArray, List.set_cons_zero, List.set_cons_succ]
        refine hd_skip (by rfl) ?_
        try simp only [Act.put, List.setIfInBounds_toArray, List.set_cons_zero, List.set_cons_succ]
        refine hd_skip (by rfl) ?_
        try simp only [Act.put, List.setIfInBounds_toArray, List.set_cons_zero, List.set_cons_succ]
        refine hd_skip (by rfl) ?_
        try simp only [Act.put, List.setIfInBounds_toArray, List.set_cons_zero, List.set_cons_succ]
        refine hd_skip (by rfl) ?_
        try simp only [Act.put, List.setIfInBounds_toArray, List.set_cons_zero, List.set_cons_succ]
        refine hd_pure (v := ?_) (by rfl) (fun W' hS' => ?_) ?_ -- 13
        rotate_left
        · have hB := hS'.a.blk; unfold RoT.cells at hB; rw [HN.out] at hB; have e2 := hB.cell 2; have k1 := (hS'.a.nxt t HN.out).b.cell 1; have p3 := (hS'.b.cell 3).trans (Pdu.c3 _); have hlk := (hS'.a.nxt t HN.out).m.look p.v; rw [HD.out] at hlk; rw [HA.out] at p3; simp only [tbP, List.getElem?_cons_zero, List.getElem?_cons_succ] at e2 k1; clear hB; (go_simp; first | with_reducible rfl | rfl)
        try simp only [Act.put, List.setIfInBounds_toArray, List.set_cons_zero, List.set_cons_succ]
        refine hd_pure (v := ?_) (by rfl) (fun W' hS' => ?_) ?_ -- 14
        rotate_left
        · have hB := hS'.a.blk; unfold RoT.cells at hB; rw [HN.out] at hB; have e2 := hB.cell 2; have k1 := (hS'.a.nxt t HN.out).b.cell 1; have p3 := (hS'.b.cell 3).trans (Pdu.c3 _); have hlk := (hS'.a.nxt t HN.out).m.look p.v; rw [HD.out] at hlk; rw [HA.out] at p3; simp only [tbP, List.getElem?_cons_zero, List.getElem?_cons_succ] at e2 k1; clear hB; (go_simp; first | with_reducible rfl | rfl)
        try simp only [Act.put, List.setIfInBounds_toArray, List.set_cons_zero, List.set_cons_succ]
        refine hd_nil ?_
        replace hT := hSW; clear hSW
        refine wpList_nil (NoPanic.normal ?_)
        clear hn ha
        have p3 := (hT.b.cell 3).trans (Pdu.c3 _)
        rw [HA.out] at p3
        go_upto_region 8 with fail
        clear p3
        refine reg_sch2 12 [(true, 0), (true, 1), (true, 2), (true, 3), (true, 4), (true, 5), (true, 6), (true, 7), (true, 8), (true, 9), (true, 10), (true, 11)] (by kernel_rfl) (by kernel_rfl) (RtP w g r bx p) (RtP w g r bx p) ?_ ?_ ?_
        · first | exact hT.drew | exact hT
        · exact fun _ h => h
        intro W hSW
        simp only [List.map_cons, List.map_nil, List.getD_cons_zero, List.getD_cons_succ, List.drop_succ_cons, List.drop_zero]
        refine hd_pure (v := ?_) (by rfl) (fun W' hS' => ?_) ?_ -- 0
        rotate_left
        · have hB := hS'.a.blk; unfold RoT.cells at hB; rw [HN.out] at hB; have e2 := hB.cell 2; have k1 := (hS'.a.nxt t HN.out).b.cell 1; have p3 := (hS'.b.cell 3).trans (Pdu.c3 _); have hlk := (hS'.a.nxt t HN.out).m.look p.v; rw [HD.out] at hlk; rw [HA.out] at p3; simp only [tbP, List.getElem?_cons_zero, List.getElem?_cons_succ] at e2 k1; clear hB; (go_simp; first | with_reducible rfl | rfl)
        try simp only [Act.put, List.setIfInBounds_toArray, List.set_cons_zero, List.set_cons_succ]
        refine hd_pure (v := ?_) (by rfl) (fun W' hS' => ?_) ?_ -- 1
        rotate_left
        · have hB := hS'.a.blk; unfold RoT.cells at hB; rw [HN.out] at hB; have e2 := hB.cell 2; have k1 := (hS'.a.nxt t HN.out).b.cell 1; have p3 := (hS'.b.cell 3).trans (Pdu.c3 _); have hlk := (hS'.a.nxt t HN.out).m.look p.v; rw [HD.out] at hlk; rw [HA.out] at p3; simp only [tbP, List.getElem?_cons_zero, List.getElem?_cons_succ] at e2 k1; clear hB; (go_simp; first | with_reducible rfl | rfl)
        try simp only [Act.put, List.setIfInBounds_toArray, List.set_cons_zero, List.set_cons_succ]
        refine hd_pure (v := ?_) (by rfl) (fun W' hS' => ?_) ?_ -- 2
        rotate_left
        · have hB := hS'.a.blk; unfold RoT.cells at hB; rw [HN.out] at hB; have e2 := hB.cell 2; have k1 := (hS'.a.nxt t HN.out).b.cell 1; have p3 := (hS'.b.cell 3).trans (Pdu.c3 _); have hlk := (hS'.a.nxt t HN.out).m.look p.v; rw [HD.out] at hlk; rw [HA.out] at p3; simp only [tbP, List.getElem?_cons_zero, List.getElem?_cons_succ] at e2 k1; clear hB; (go_simp; first | with_reducible rfl | rfl)
        try simp only [Act.put, List.setIfInBounds_toArray, List.set_cons_zero, List.set_cons_succ]
        refine hd_pure (v := ?_) (by rfl) (fun W' hS' => ?_) ?_ -- 3
        rotate_left
        · have hB := hS'.a.blk; unfold RoT.cells at hB; rw [HN.out] at hB; have e2 := hB.cell 2; have k1 := (hS'.a.nxt t HN.out).b.cell 1; have p3 := (hS'.b.cell 3).trans (Pdu.c3 _); have hlk := (hS'.a.nxt t HN.out).m.look p.v; rw [HD.out] at hlk; rw [HA.out] at p3; simp only [tbP, List.getElem?_cons_zero, List.getElem?_cons_succ] at e2 k1; clear hB; (go_simp; first | with_reducible rfl | rfl)
        try simp only [Act.put, List.setIfInBounds_toArray, List.set_cons_zero, List.set_cons_succ]
        refine hd_pure (v := ?_) (by rfl) (fun W' hS' => ?_) ?_ -- 4
        rotate_left
        · have hB := hS'.a.blk; unfold RoT.cells at hB; rw [HN.out] at hB; have e2 := hB.cell 2; have k1 := (hS'.a.nxt t HN.out).b.cell 1; have p3 := (hS'.b.cell 3).trans (Pdu.c3 _); have hlk := (hS'.a.nxt t HN.out).m.look p.v; rw [HD.out] at hlk; rw [HA.out] at p3; simp only [tbP, List.getElem?_cons_zero, List.getElem?_cons_succ] at e2 k1; clear hB; (go_simp; first | with_reducible rfl | rfl)
        try simp only [Act.put, List.setIfInBounds_toArray, List.set_cons_zero, List.set_cons_succ]
        refine hd_pure (v := ?_) (by rfl) (fun W' hS' => ?_) ?_ -- 5
        rotate_left
        · have hB := hS'.a.blk; unfold RoT.cells at hB; rw [HN.out] at hB; have e2 := hB.cell 2; have k1 := (hS'.a.nxt t HN.out).b.cell 1; have p3 := (hS'.b.cell 3).trans (Pdu.c3 _); have hlk := (hS'.a.nxt t HN.out).m.look p.v; rw [HD.out] at hlk; rw [HA.out] at p3; simp only [tbP, List.getElem?_cons_zero, List.getElem?_cons_succ] at e2 k1; clear hB; (go_simp; first | with_reducible rfl | rfl)
        try simp only [Act.put, List.setIfInBounds_toArray, List.set_cons_zero, List.set_cons_succ]
        refine hd_pure (v := ?_) (by rfl) (fun W' hS' => ?_) ?_ -- 6
        rotate_left
        · have hB := hS'.a.blk; unfold RoT.cells at hB; rw [HN.out] at hB; have e2 := hB.cell 2; have k1 := (hS'.a.nxt t HN.out).b.cell 1; have p3 := (hS'.b.cell 3).trans (Pdu.c3 _); have hlk := (hS'.a.nxt t HN.out).m.look p.v; rw [HD.out] at hlk; rw [HA.out] at p3; simp only [tbP, List.getElem?_cons_zero, List.getElem?_cons_succ] at e2 k1; clear hB; (go_simp; first | with_reducible rfl | rfl)
        try simp only [Act.put, List.setIfInBounds_toArray, List.set_cons_zero, List.set_cons_succ]
        refine hd_pure (v := ?_) (by rfl) (fun W' hS' => ?_) ?_ -- 7
        rotate_left
        · have hB := hS'.a.blk; unfold RoT.cells at hB; rw [HN.out] at hB; have e2 := hB.cell 2; have k1 := (hS'.a.nxt t HN.out).b.cell 1; have p3 := (hS'.b.cell 3).trans (Pdu.c3 _); have hlk := (hS'.a.nxt t HN.out).m.look p.v; rw [HD.out] at hlk; rw [HA.out] at p3; simp only [tbP, List.getElem?_cons_zero, List.getElem?_cons_succ] at e2 k1; clear hB; (go_simp; first | with_reducible rfl | rfl)
        try simp only [Act.put, List.setIfInBounds_toArray, List.set_cons_zero, List.set_cons_succ]
        refine hd_pure (v := .agg p.v.cells.toArray) (by rfl) (fun W' hS' => exec_load_at 67 _ (by rfl) bx 4 20 (by rfl) _ _ hS'.b.pdu_vrp (Vrp.cells_length _) Tryz.underlying67 rfl info_vrp1) ?_ -- 8
        try simp only [Act.put, List.setIfInBounds_toArray, List.set_cons_zero, List.set_cons_succ]
        refine hd_pure (v := ?_) (by rfl) (fun W' hS' => ?_) ?_ -- 9
        rotate_left
        · have hB := hS'.a.blk; unfold RoT.cells at hB; rw [HN.out] at hB; have e2 := hB.cell 2; have k1 := (hS'.a.nxt t HN.out).b.cell 1; have p3 := (hS'.b.cell 3).trans (Pdu.c3 _); have hlk := (hS'.a.nxt t HN.out).m.look p.v; rw [HD.out] at hlk; rw [HA.out] at p3; simp only [tbP, List.getElem?_cons_zero, List.getElem?_cons_succ] at e2 k1; clear hB; (go_simp; first | with_reducible rfl | rfl)
        try simp only [Act.put, List.setIfInBounds_toArray, List.set_cons_zero, List.set_cons_succ]
        refine hd_pure (v := ?_) (by rfl) (fun W' hS' => ?_) ?_ -- 10
        rotate_left
        · have hB := hS'.a.blk; unfold RoT.cells at hB; rw [HN.out] at hB; have e2 := hB.cell 2; have k1 := (hS'.a.nxt t HN.out).b.cell 1; have p3 := (hS'.b.cell 3).trans (Pdu.c3 _); have hlk := (hS'.a.nxt t HN.out).m.look p.v; rw [HD.out] at hlk; rw [HA.out] at p3; simp only [tbP, List.getElem?_cons_zero, List.getElem?_cons_succ] at e2 k1; clear hB; (go_simp; first | with_reducible rfl | rfl)
        try simp only [Act.put, List.setIfInBounds_toArray, List.set_cons_zero, List.set_cons_succ]
        refine hd_pure (v := ?_) (by rfl) (fun W' hS' => ?_) ?_ -- 11
        rotate_left
        · have hB := hS'.a.blk; unfold RoT.cells at hB; rw [HN.out] at hB; have e2 := hB.cell 2; have k1 := (hS'.a.nxt t HN.out).b.cell 1; have p3 := (hS'.b.cell 3).trans (Pdu.c3 _); have hlk := (hS'.a.nxt t HN.out).m.look p.v; rw [HD.out] at hlk; rw [HA.out] at p3; simp only [tbP, List.getElem?_cons_zero, List.getElem?_cons_succ] at e2 k1; clear hB; (go_simp; first | with_reducible rfl | rfl)
        try simp only [Act.put, List.setIfInBounds_toArray, List.set_cons_zero, List.set_cons_succ]
        refine hd_nil ?_
        replace hT := hSW; clear hSW
        refine wpList_nil (NoPanic.normal ?_)
        go_wp2_with fail
        go_ret
        rw [HE.out]
        exact ⟨r, rfl, hT.a, rfl, rfl, rfl, .below hT.f⟩
    · by_cases hd : p.v ∈ t.ks
      · have HE := Lib.hid (show changeR r.abs p = (r.abs, 9) by unfold changeR; rw [hnx]; simp [ha, hd])
        have HD := Lib.hid (decide_eq_true hd)
        have HA := Lib.hid ha
        clear hnx hd
        simp only [Pdu.val]
        have hT : RtP w g r w.heap.size p (w.alloc (.cells p.cells.toArray 69)) := ⟨h.next ((Below.refl _ _).alloc (Nat.le_refl _) _), Blk.new _ _ _, (Below.refl _ _).alloc (Nat.le_refl _) _⟩
        clear h
        go_enter Tryz.func87, Tryz.ntmps87
        go_upto_region 2 with fail
        refine wp_gen (RtP w g r w.heap.size p) hT ?_
        clear hT
        generalize w.heap.size = bx
        intro W hT
        have c0 := hT.a.blk.cell 0
        have c1 := hT.a.blk.cell 1
        have c2 := hT.a.blk.cell 2
        have c3 := hT.a.blk.cell 3
        have c4 := hT.a.blk.cell 4
        have c5 := hT.a.blk.cell 5
        have c6 := hT.a.blk.cell 6
        have f0 := hT.a.blk.frozen 0
        have f1 := hT.a.blk.frozen 1
        have f2 := hT.a.blk.frozen 2
        have f3 := hT.a.blk.frozen 3
        have f4 := hT.a.blk.frozen 4
        have f5 := hT.a.blk.frozen 5
        have f6 := hT.a.blk.frozen 6
        simp only [RoT.cells, tbP, List.getElem?_cons_zero, List.getElem?_cons_succ] at c0 c1 c2 c3 c4 c5 c6
        have p3 := (hT.b.cell 3).trans (Pdu.c3 _)
        rw [hn] at c2
        simp only at c2
        have HN := Lib.hid hn
        rw [ha] at p3
        go_upto_region 4 with fail
        clear c0 c1 c2 c3 c4 c5 c6 f0 f1 f2 f3 f4 f5 f6 p3
        refine reg_sch2 15 [(true, 0), (true, 1), (true, 2), (true, 3), (true, 4), (true, 5), (true, 6), (true, 7), (true, 8), (true, 9), (true, 10), (true, 11), (true, 12), (true, 13), (true, 14)] (by kernel_rfl) (by kernel_rfl) (RtP w g r bx p) (RtP w g r bx p) ?_ ?_ ?_
        · first | exact hT.drew | exact hT
        · exact fun _ h => h
        intro W hSW
        simp only [List.map_cons, List.map_nil, List.getD_cons_zero, List.getD_cons_succ, List.drop_succ_cons, List.drop_zero]
        refine hd_pure (v := ?_) (by rfl) (fun W' hS' => ?_) ?_ -- 0
        rotate_left
        · have hB := hS'.a.blk; unfold RoT.cells at hB; rw [HN.out] at hB; have e2 := hB.cell 2; have k1 := (hS'.a.nxt t HN.out).b.cell 1; have p3 := (hS'.b.cell 3).trans (Pdu.c3 _); have hlk := (hS'.a.nxt t HN.out).m.look p.v; rw [HD.out] at hlk; rw [HA.out] at p3; simp only [tbP, List.getElem?_cons_zero, List.getElem?_cons_succ] at e2 k1; clear hB; (go_simp; first | with_reducible rfl | rfl)
        try simp only [Act.put, List.setIfInBounds_toArray, List.set_cons_zero, List.set_cons_succ]
        refine hd_pure (v := ?_) (by rfl) (fun W' hS' => ?_) ?_ -- 1
        rotate_left
        · have hB := hS'.a.blk; unfold RoT.cells at hB; rw [HN.out] at hB; have e2 := hB.cell 2; have k1 := (hS'.a.nxt t HN.out).b.cell 1; have p3 := (hS'.b.cell 3).trans (Pdu.c3 _); have hlk := (hS'.a.nxt t HN.out).m.look p.v; rw [HD.out] at hlk; rw [HA.out] at p3; simp only [tbP, List.getElem?_cons_zero, List.getElem?_cons_succ] at e2 k1; clear hB; (go_simp; first | with_reducible rfl | rfl)
        try simp only [Act.put, List.setIfInBounds_toArray, List.set_cons_zero, List.set_cons_succ]
        refine hd_pure (v := ?_) (by rfl) (fun W' hS' => ?_) ?_ -- 2
        rotate_left
        · have hB := hS'.a.blk; unfold RoT.cells at hB; rw [HN.out] at hB; have e2 := hB.cell 2; have k1 := (hS'.a.nxt t HN.out).b.cell 1; have p3 := (hS'.b.cell 3).trans (Pdu.c3 _); have hlk := (hS'.a.nxt t HN.out).m.look p.v; rw [HD.out] at hlk; rw [HA.out] at p3; simp only [tbP, List.getElem?_cons_zero, List.getElem?_cons_succ] at e2 k1; clear hB; (go_simp; first | with_reducible rfl | rfl)
        try simp only [Act.put, List.setIfInBounds_toArray, List.set_cons_zero, List.set_cons_succ]
        refine hd_pure (v := ?_) (by rfl) (fun W' hS' => ?_) ?_ -- 3
        rotate_left
        · have hB := hS'.a.blk; unfold RoT.cells at hB; rw [HN.out] at hB; have e2 := hB.cell 2; have k1 := (hS'.a.nxt t HN.out).b.cell 1; have p3 := (hS'.b.cell 3).trans (Pdu.c3 _); have hlk := (hS'.a.nxt t HN.out).m.look p.v; rw [HD.out] at hlk; rw [HA.out] at p3; simp only [tbP, List.getElem?_cons_zero, List.getElem?_cons_succ] at e2 k1; clear hB; (go_simp; first | with_reducible rfl | rfl)
        try simp only [Act.put, List.setIfInBounds_toArray, List.set_cons_zero, List.set_cons_succ]
        refine hd_pure (v := ?_) (by rfl) (fun W' hS' => ?_) ?_ -- 4
        rotate_left
        · have hB := hS'.a.blk; unfold RoT.cells at hB; rw [HN.out] at hB; have e2 := hB.cell 2; have k1 := (hS'.a.nxt t HN.out).b.cell 1; have p3 := (hS'.b.cell 3).trans (Pdu.c3 _); have hlk := (hS'.a.nxt t HN.out).m.look p.v; rw [HD.out] at hlk; rw [HA.out] at p3; simp only [tbP, List.getElem?_cons_zero, List.getElem?_cons_succ] at e2 k1; clear hB; (go_simp; first | with_reducible rfl | rfl)
        try simp only [Act.put, List.setIfInBounds_toArray, List.set_cons_zero, List.set_cons_succ]
        refine hd_pure (v := ?_) (by rfl) (fun W' hS' => ?_) ?_ -- 5
        rotate_left
        · have hB := hS'.a.blk; unfold RoT.cells at hB; rw [HN.out] at hB; have e2 := hB.cell 2; have k1 := (hS'.a.nxt t HN.out).b.cell 1; have p3 := (hS'.b.cell 3).trans (Pdu.c3 _); have hlk := (hS'.a.nxt t HN.out).m.look p.v; rw [HD.out] at hlk; rw [HA.out] at p3; simp only [tbP, List.getElem?_cons_zero, List.getElem?_cons_succ] at e2 k1; clear hB; (go_simp; first | with_reducible rfl | rfl)
        try simp only [Act.put, List.setIfInBounds_toArray, List.set_cons_zero, List.set_cons_succ]
        refine hd_pure (v := ?_) (by rfl) (fun W' hS' => ?_) ?_ -- 6
        rotate_left
        · have hB := hS'.a.blk; unfold RoT.cells at hB; rw [HN.out] at hB; have e2 := hB.cell 2; have k1 := (hS'.a.nxt t HN.out).b.cell 1; have p3 := (hS'.b.cell 3).trans (Pdu.c3 _); have hlk := (hS'.a.nxt t HN.out).m.look p.v; rw [HD.out] at hlk; rw [HA.out] at p3; simp only [tbP, List.getElem?_cons_zero, List.getElem?_cons_succ] at e2 k1; clear hB; (go_simp; first | with_reducible rfl | rfl)
        try simp only [Act.put, List.setIfInBounds_toArray, List.set_cons_zero, List.set_cons_succ]
        refine hd_pure (v := ?_) (by rfl) (fun W' hS' => ?_) ?_ -- 7
        rotate_left
        · have hB := hS'.a.blk; unfold RoT.cells at hB; rw [HN.out] at hB; have e2 := hB.cell 2; have k1 := (hS'.a.nxt t HN.out).b.cell 1; have p3 := (hS'.b.cell 3).trans (Pdu.c3 _); have hlk := (hS'.a.nxt t HN.out).m.look p.v; rw [HD.out] at hlk; rw [HA.out] at p3; simp only [tbP, List.getElem?_cons_zero, List.getElem?_cons_succ] at e2 k1; clear hB; (go_simp; first | with_reducible rfl | rfl)
        try simp only [Act.put, List.setIfInBounds_toArray, List.set_cons_zero, List.set_cons_succ]
        refine hd_pure (v := ?_) (by rfl) (fun W' hS' => ?_) ?_ -- 8
        rotate_left
        · have hB := hS'.a.blk; unfold RoT.cells at hB; rw [HN.out] at hB; have e2 := hB.cell 2; have k1 := (hS'.a.nxt t HN.out).b.cell 1; have p3 := (hS'.b.cell 3).trans (Pdu.c3 _); have hlk := (hS'.a.nxt t HN.out).m.look p.v; rw [HD.out] at hlk; rw [HA.out] at p3; simp only [tbP, List.getElem?_cons_zero, List.getElem?_cons_succ] at e2 k1; clear hB; (go_simp; first | with_reducible rfl | rfl)
        try simp only [Act.put, List.setIfInBounds_toArray, List.set_cons_zero, List.set_cons_succ]
        refine hd_pure (v := ?_) (by rfl) (fun W' hS' => ?_) ?_ -- 9
        rotate_left
        · have hB := hS'.a.blk; unfold RoT.cells at hB; rw [HN.out] at hB; have e2 := hB.cell 2; have k1 := (hS'.a.nxt t HN.out).b.cell 1; have p3 := (hS'.b.cell 3).trans (Pdu.c3 _); have hlk := (hS'.a.nxt t HN.out).m.look p.v; rw [HD.out] at hlk; rw [HA.out] at p3; simp only [tbP, List.getElem?_cons_zero, List.getElem?_cons_succ] at e2 k1; clear hB; (go_simp; first | with_reducible rfl | rfl)
        try simp only [Act.put, List.setIfInBounds_toArray, List.set_cons_zero, List.set_cons_succ]
        refine hd_pure (v := ?_) (by rfl) (fun W' hS' => ?_) ?_ -- 10
        rotate_left
        · have hB := hS'.a.blk; unfold RoT.cells at hB; rw [HN.out] at hB; have e2 := hB.cell 2; have k1 := (hS'.a.nxt t HN.out).b.cell 1; have p3 := (hS'.b.cell 3).trans (Pdu.c3 _); have hlk := (hS'.a.nxt t HN.out).m.look p.v; rw [HD.out] at hlk; rw [HA.out] at p3; simp only [tbP, List.getElem?_cons_zero, List.getElem?_cons_succ] at e2 k1; clear hB; (go_simp; first | with_reducible rfl | rfl)
        try simp only [Act.put, List.setIfInBounds_toArray, List.set_cons_zero, List.set_cons_succ]
        refine hd_pure (v := .agg p.v.cells.toArray) (by rfl) (fun W' hS' => exec_load_at 67 _ (by rfl) bx 4 20 (by rfl) _ _ hS'.b.pdu_vrp (Vrp.cells_length _) Tryz.underlying67 rfl info_vrp1) ?_ -- 11
        try simp only [Act.put, List.setIfInBounds_toArray, List.set_cons_zero, List.set_cons_succ]
        refine hd_pure (v := ?_) (by rfl) (fun W' hS' => ?_) ?_ -- 12
        rotate_left
        · have hB := hS'.a.blk; unfold RoT.cells at hB; rw [HN.out] at hB; have e2 := hB.cell 2; have k1 := (hS'.a.nxt t HN.out).b.cell 1; have p3 := (hS'.b.cell 3).trans (Pdu.c3 _); have hlk := (hS'.a.nxt t HN.out).m.look p.v; rw [HD.out] at hlk; rw [HA.out] at p3; simp only [tbP, List.getElem?_cons_zero, List.getElem?_cons_succ] at e2 k1; clear hB; (go_simp; first | with_reducible rfl | rfl)
        try simp only [Act.put, List.setIfInBounds_toArray, List.set_cons_zero, List.set_cons_succ]
        refine hd_pure (v := ?_) (by rfl) (fun W' hS' => ?_) ?_ -- 13
        rotate_left
        · have hB := hS'.a.blk; unfold RoT.cells at hB; rw [HN.out] at hB; have e2 := hB.cell 2; have k1 := (hS'.a.nxt t HN.out).b.cell 1; have p3 := (hS'.b.cell 3).trans (Pdu.c3 _); have hlk := (hS'.a.nxt t HN.out).m.look p.v; rw [HD.out] at hlk; rw [HA.out] at p3; simp only [tbP, List.getElem?_cons_zero, List.getElem?_cons_succ] at e2 k1; clear hB; (go_simp; first | with_reducible rfl | rfl)
        try simp only [Act.put, List.setIfInBounds_toArray, List.set_cons_zero, List.set_cons_succ]
        refine hd_pure (v := ?_) (by rfl) (fun W' hS' => ?_) ?_ -- 14
        rotate_left
        · have hB := hS'.a.blk; unfold RoT.cells at hB; rw [HN.out] at hB; have e2 := hB.cell 2; have k1 := (hS'.a.nxt t HN.out).b.cell 1; have p3 := (hS'.b.cell 3).trans (Pdu.c3 _); have hlk := (hS'.a.nxt t HN.out).m.look p.v; rw [HD.out] at hlk; rw [HA.out] at p3; simp only [tbP, List.getElem?_cons_zero, List.getElem?_cons_succ] at e2 k1; clear hB; (go_simp; first | with_reducible rfl | rfl)
        try simp only [Act.put, List.setIfInBounds_toArray, List.set_cons_zero, List.set_cons_succ]
        refine hd_nil ?_
        replace hT := hSW; clear hSW
        refine wpList_nil (NoPanic.normal ?_)
        clear hn ha
        go_wp2_with fail
        go_ret
        rw [HE.out]
        exact ⟨r, rfl, hT.a, rfl, rfl, rfl, .below hT.f⟩
      · have HE := Lib.hid (show changeR r.abs p = (({ r with nx := some { t with ks := t.ks ++ [p.v] } } : RoT).abs, 0) by unfold changeR; rw [hnx]; simp [ha, hd, RoT.abs, TbV.abs])
        have HD := Lib.hid (decide_eq_false hd)
        have HA := Lib.hid ha
        have HND := Lib.hid hd
        clear hnx hd
        simp only [Pdu.val]
        have hT : RtP w g r w.heap.size p (w.alloc (.cells p.cells.toArray 69)) := ⟨h.next ((Below.refl _ _).alloc (Nat.le_refl _) _), Blk.new _ _ _, (Below.refl _ _).alloc (Nat.le_refl _) _⟩
        clear h
        go_enter Tryz.func87, Tryz.ntmps87
        go_upto_region 2 with fail
        refine wp_gen (RtP w g r w.heap.size p) hT ?_
        clear hT
        generalize w.heap.size = bx
        intro W hT
        have c0 := hT.a.blk.cell 0
        have c1 := hT.a.blk.cell 1
        have c2 := hT.a.blk.cell 2
        have c3 := hT.a.blk.cell 3
        have c4 := hT.a.blk.cell 4
        have c5 := hT.a.blk.cell 5
        have c6 := hT.a.blk.cell 6
        have f0 := hT.a.blk.frozen 0
        have f1 := hT.a.blk.frozen 1
        have f2 := hT.a.blk.frozen 2
        have f3 := hT.a.blk.frozen 3
        have f4 := hT.a.blk.frozen 4
        have f5 := hT.a.blk.frozen 5
        have f6 := hT.a.blk.frozen 6
        simp only [RoT.cells, tbP, List.getElem?_cons_zero, List.getElem?_cons_succ] at c0 c1 c2 c3 c4 c5 c6
        have p3 := (hT.b.cell 3).trans (Pdu.c3 _)
        rw [hn] at c2
        simp only at c2
        have HN := Lib.hid hn
        rw [ha] at p3
        go_upto_region 4 with fail
        clear c0 c1 c2 c3 c4 c5 c6 f0 f1 f2 f3 f4 f5 f6 p3
        refine reg_sch2 15 [(true, 0), (true, 1), (true, 2), (true, 3), (true, 4), (true, 5), (true, 6), (true, 7), (true, 8), (true, 9), (true, 10), (true, 11), (true, 12), (true, 13), (true, 14)] (by kernel_rfl) (by kernel_rfl) (RtP w g r bx p) (RtP w g r bx p) ?_ ?_ ?_
        · first | exact hT.drew | exact hT
        · exact fun _ h => h
        intro W hSW
        simp only [List.map_cons, List.map_nil, List.getD_cons_zero, List.getD_cons_succ, List.drop_succ_cons, List.drop_zero]
        refine hd_pure (v := ?_) (by rfl) (fun W' hS' => ?_) ?_ -- 0
        rotate_left
        · have hB := hS'.a.blk; unfold RoT.cells at hB; rw [HN.out] at hB; have e2 := hB.cell 2; have k1 := (hS'.a.nxt t HN.out).b.cell 1; have p3 := (hS'.b.cell 3).trans (Pdu.c3 _); have hlk := (hS'.a.nxt t HN.out).m.look p.v; rw [HD.out] at hlk; rw [HA.out] at p3; simp only [tbP, List.getElem?_cons_zero, List.getElem?_cons_succ] at e2 k1; clear hB; (go_simp; first | with_reducible rfl | rfl)
        try simp only [Act.put, List.setIfInBounds_toArray, List.set_cons_zero, List.set_cons_succ]
        refine hd_pure (v := ?_) (by rfl) (fun W' hS' => ?_) ?_ -- 1
        rotate_left
        · have hB := hS'.a.blk; unfold RoT.cells at hB; rw [HN.out] at hB; have e2 := hB.cell 2; have k1 := (hS'.a.nxt t HN.out).b.cell 1; have p3 := (hS'.b.cell 3).trans (Pdu.c3 _); have hlk := (hS'.a.nxt t HN.out).m.look p.v; rw [HD.out] at hlk; rw [HA.out] at p3; simp only [tbP, List.getElem?_cons_zero, List.getElem?_cons_succ] at e2 k1; clear hB; (go_simp; first | with_reducible rfl | rfl)
        try simp only [Act.put, List.setIfInBounds_toArray, List.set_cons_zero, List.set_cons_succ]
        refine hd_pure (v := ?_) (by rfl) (fun W' hS' => ?_) ?_ -- 2
        rotate_left
        · have hB := hS'.a.blk; unfold RoT.cells at hB; rw [HN.out] at hB; have e2 := hB.cell 2; have k1 := (hS'.a.nxt t HN.out).b.cell 1; have p3 := (hS'.b.cell 3).trans (Pdu.c3 _); have hlk := (hS'.a.nxt t HN.out).m.look p.v; rw [HD.out] at hlk; rw [HA.out] at p3; simp only [tbP, List.getElem?_cons_zero, List.getElem?_cons_succ] at e2 k1; clear hB; (go_simp; first | with_reducible rfl | rfl)
        try simp only [Act.put, List.setIfInBounds_toArray, List.set_cons_zero, List.set_cons_succ]
        refine hd_pure (v := ?_) (by rfl) (fun W' hS' => ?_) ?_ -- 3
        rotate_left
        · have hB := hS'.a.blk; unfold RoT.cells at hB; rw [HN.out] at hB; have e2 := hB.cell 2; have k1 := (hS'.a.nxt t HN.out).b.cell 1; have p3 := (hS'.b.cell 3).trans (Pdu.c3 _); have hlk := (hS'.a.nxt t HN.out).m.look p.v; rw [HD.out] at hlk; rw [HA.out] at p3; simp only [tbP, List.getElem?_cons_zero, List.getElem?_cons_succ] at e2 k1; clear hB; (go_simp; first | with_reducible rfl | rfl)
        try simp only [Act.put, List.setIfInBounds_toArray, List.set_cons_zero, List.set_cons_succ]
        refine hd_pure (v := ?_) (by rfl) (fun W' hS' => ?_) ?_ -- 4
        rotate_left
        · have hB := hS'.a.blk; unfold RoT.cells at hB; rw [HN.out] at hB; have e2 := hB.cell 2; have k1 := (hS'.a.nxt t HN.out).b.cell 1; have p3 := (hS'.b.cell 3).trans (Pdu.c3 _); have hlk := (hS'.a.nxt t HN.out).m.look p.v; rw [HD.out] at hlk; rw [HA.out] at p3; simp only [tbP, List.getElem?_cons_zero, List.getElem?_cons_succ] at e2 k1; clear hB; (go_simp; first | with_reducible rfl | rfl)
        try simp only [Act.put, List.setIfInBounds_toArray, List.set_cons_zero, List.set_cons_succ]
        refine hd_pure (v := ?_) (by rfl) (fun W' hS' => ?_) ?_ -- 5
        rotate_left
        · have hB := hS'.a.blk; unfold RoT.cells at hB; rw [HN.out] at hB; have e2 := hB.cell 2; have k1 := (hS'.a.nxt t HN.out).b.cell 1; have p3 := (hS'.b.cell 3).trans (Pdu.c3 _); have hlk := (hS'.a.nxt t HN.out).m.look p.v; rw [HD.out] at hlk; rw [HA.out] at p3; simp only [tbP, List.getElem?_cons_zero, List.getElem?_cons_succ] at e2 k1; clear hB; (go_simp; first | with_reducible rfl | rfl)
        try simp only [Act.put, List.setIfInBounds_toArray, List.set_cons_zero, List.set_cons_succ]
        refine hd_pure (v := ?_) (by rfl) (fun W' hS' => ?_) ?_ -- 6
        rotate_left
        · have hB := hS'.a.blk; unfold RoT.cells at hB; rw [HN.out] at hB; have e2 := hB.cell 2; have k1 := (hS'.a.nxt t HN.out).b.cell 1; have p3 := (hS'.b.cell 3).trans (Pdu.c3 _); have hlk := (hS'.a.nxt t HN.out).m.look p.v; rw [HD.out] at hlk; rw [HA.out] at p3; simp only [tbP, List.getElem?_cons_zero, List.getElem?_cons_succ] at e2 k1; clear hB; (go_simp; first | with_reducible rfl | rfl)
        try simp only [Act.put, List.setIfInBounds_toArray, List.set_cons_zero, List.set_cons_succ]
        refine hd_pure (v := ?_) (by rfl) (fun W' hS' => ?_) ?_ -- 7
        rotate_left
        · have hB := hS'.a.blk; unfold RoT.cells at hB; rw [HN.out] at hB; have e2 := hB.cell 2; have k1 := (hS'.a.nxt t HN.out).b.cell 1; have p3 := (hS'.b.cell 3).trans (Pdu.c3 _); have hlk := (hS'.a.nxt t HN.out).m.look p.v; rw [HD.out] at hlk; rw [HA.out] at p3; simp only [tbP, List.getElem?_cons_zero, List.getElem?_cons_succ] at e2 k1; clear hB; (go_simp; first | with_reducible rfl | rfl)
        try simp only [Act.put, List.setIfInBounds_toArray, List.set_cons_zero, List.set_cons_succ]
        refine hd_pure (v := ?_) (by rfl) (fun W' hS' => ?_) ?_ -- 8
        rotate_left
        · have hB := hS'.a.blk; unfold RoT.cells at hB; rw [HN.out] at hB; have e2 := hB.cell 2; have k1 := (hS'.a.nxt t HN.out).b.cell 1; have p3 := (hS'.b.cell 3).trans (Pdu.c3 _); have hlk := (hS'.a.nxt t HN.out).m.look p.v; rw [HD.out] at hlk; rw [HA.out] at p3; simp only [tbP, List.getElem?_cons_zero, List.getElem?_cons_succ] at e2 k1; clear hB; (go_simp; first | with_reducible rfl | rfl)
        try simp only [Act.put, List.setIfInBounds_toArray, List.set_cons_zero, List.set_cons_succ]
        refine hd_pure (v := ?_) (by rfl) (fun W' hS' => ?_) ?_ -- 9
        rotate_left
        · have hB := hS'.a.blk; unfold RoT.cells at hB; rw [HN.out] at hB; have e2 := hB.cell 2; have k1 := (hS'.a.nxt t HN.out).b.cell 1; have p3 := (hS'.b.cell 3).trans (Pdu.c3 _); have hlk := (hS'.a.nxt t HN.out).m.look p.v; rw [HD.out] at hlk; rw [HA.out] at p3; simp only [tbP, List.getElem?_cons_zero, List.getElem?_cons_succ] at e2 k1; clear hB; (go_simp; first | with_reducible rfl | rfl)
        try simp only [Act.put, List.setIfInBounds_toArray, List.set_cons_zero, List.set_cons_succ]
        refine hd_pure (v := ?_) (by rfl) (fun W' hS' => ?_) ?_ -- 10
        rotate_left
        · have hB := hS'.a.blk; unfold RoT.cells at hB; rw [HN.out] at hB; have e2 := hB.cell 2; have k1 := (hS'.a.nxt t HN.out).b.cell 1; have p3 := (hS'.b.cell 3).trans (Pdu.c3 _); have hlk := (hS'.a.nxt t HN.out).m.look p.v; rw [HD.out] at hlk; rw [HA.out] at p3; simp only [tbP, List.getElem?_cons_zero, List.getElem?_cons_succ] at e2 k1; clear hB; (go_simp; first | with_reducible rfl | rfl)
        try simp only [Act.put, List.setIfInBounds_toArray, List.set_cons_zero, List.set_cons_succ]
        refine hd_pure (v := .agg p.v.cells.toArray) (by rfl) (fun W' hS' => exec_load_at 67 _ (by rfl) bx 4 20 (by rfl) _ _ hS'.b.pdu_vrp (Vrp.cells_length _) Tryz.underlying67 rfl info_vrp1) ?_ -- 11
        try simp only [Act.put, List.setIfInBounds_toArray, List.set_cons_zero, List.set_cons_succ]
        refine hd_pure (v := ?_) (by rfl) (fun W' hS' => ?_) ?_ -- 12
        rotate_left
        · have hB := hS'.a.blk; unfold RoT.cells at hB; rw [HN.out] at hB; have e2 := hB.cell 2; have k1 := (hS'.a.nxt t HN.out).b.cell 1; have p3 := (hS'.b.cell 3).trans (Pdu.c3 _); have hlk := (hS'.a.nxt t HN.out).m.look p.v; rw [HD.out] at hlk; rw [HA.out] at p3; simp only [tbP, List.getElem?_cons_zero, List.getElem?_cons_succ] at e2 k1; clear hB; (go_simp; first | with_reducible rfl | rfl)
        try simp only [Act.put, List.setIfInBounds_toArray, List.set_cons_zero, List.set_cons_succ]
        refine hd_pure (v := ?_) (by rfl) (fun W' hS' => ?_) ?_ -- 13
        rotate_left
        · have hB := hS'.a.blk; unfold RoT.cells at hB; rw [HN.out] at hB; have e2 := hB.cell 2; have k1 := (hS'.a.nxt t HN.out).b.cell 1; have p3 := (hS'.b.cell 3).trans (Pdu.c3 _); have hlk := (hS'.a.nxt t HN.out).m.look p.v; rw [HD.out] at hlk; rw [HA.out] at p3; simp only [tbP, List.getElem?_cons_zero, List.getElem?_cons_succ] at e2 k1; clear hB; (go_simp; first | with_reducible rfl | rfl)
        try simp only [Act.put, List.setIfInBounds_toArray, List.set_cons_zero, List.set_cons_succ]
        refine hd_pure (v := ?_) (by rfl) (fun W' hS' => ?_) ?_ -- 14
        rotate_left
        · have hB := hS'.a.blk; unfold RoT.cells at hB; rw [HN.out] at hB; have e2 := hB.cell 2; have k1 := (hS'.a.nxt t HN.out).b.cell 1; have p3 := (hS'.b.cell 3).trans (Pdu.c3 _); have hlk := (hS'.a.nxt t HN.out).m.look p.v; rw [HD.out] at hlk; rw [HA.out] at p3; simp only [tbP, List.getElem?_cons_zero, List.getElem?_cons_succ] at e2 k1; clear hB; (go_simp; first | with_reducible rfl | rfl)
        try simp only [Act.put, List.setIfInBounds_toArray, List.set_cons_zero, List.set_cons_succ]
        refine hd_nil ?_
        replace hT := hSW; clear hSW
        refine wpList_nil (NoPanic.normal ?_)
        clear hn ha
        have p3 := (hT.b.cell 3).trans (Pdu.c3 _)
        rw [HA.out] at p3
        go_upto_region 7 with fail
        clear p3
        refine reg_sch2 9 [(true, 0), (true, 1), (true, 2), (true, 3), (true, 4), (true, 5), (true, 6), (true, 7), (true, 8)] (by kernel_rfl) (by kernel_rfl) (RtP w g r bx p) (RtP w g r bx p) ?_ ?_ ?_
        · first | exact hT.drew | exact hT
        · exact fun _ h => h
        intro W hSW
        simp only [List.map_cons, List.map_nil, List.getD_cons_zero, List.getD_cons_succ, List.drop_succ_cons, List.drop_zero]
        refine hd_pure (v := ?_) (by rfl) (fun W' hS' => ?_) ?_ -- 0
        rotate_left
        · have hB := hS'.a.blk; unfold RoT.cells at hB; rw [HN.out] at hB; have e2 := hB.cell 2; have k1 := (hS'.a.nxt t HN.out).b.cell 1; have p3 := (hS'.b.cell 3).trans (Pdu.c3 _); have hlk := (hS'.a.nxt t HN.out).m.look p.v; rw [HD.out] at hlk; rw [HA.out] at p3; simp only [tbP, List.getElem?_cons_zero, List.getElem?_cons_succ] at e2 k1; clear hB; (go_simp; first | with_reducible rfl | rfl)
        try simp only [Act.put, List.setIfInBounds_toArray, List.set_cons_zero, List.set_cons_succ]
        refine hd_pure (v := ?_) (by rfl) (fun W' hS' => ?_) ?_ -- 1
        rotate_left
        · have hB := hS'.a.blk; unfold RoT.cells at hB; rw [HN.out] at hB; have e2 := hB.cell 2; have k1 := (hS'.a.nxt t HN.out).b.cell 1; have p3 := (hS'.b.cell 3).trans (Pdu.c3 _); have hlk := (hS'.a.nxt t HN.out).m.look p.v; rw [HD.out] at hlk; rw [HA.out] at p3; simp only [tbP, List.getElem?_cons_zero, List.getElem?_cons_succ] at e2 k1; clear hB; (go_simp; first | with_reducible rfl | rfl)
        try simp only [Act.put, List.setIfInBounds_toArray, List.set_cons_zero, List.set_cons_succ]
        refine hd_pure (v := ?_) (by rfl) (fun W' hS' => ?_) ?_ -- 2
        rotate_left
        · have hB := hS'.a.blk; unfold RoT.cells at hB; rw [HN.out] at hB; have e2 := hB.cell 2; have k1 := (hS'.a.nxt t HN.out).b.cell 1; have p3 := (hS'.b.cell 3).trans (Pdu.c3 _); have hlk := (hS'.a.nxt t HN.out).m.look p.v; rw [HD.out] at hlk; rw [HA.out] at p3; simp only [tbP, List.getElem?_cons_zero, List.getElem?_cons_succ] at e2 k1; clear hB; (go_simp; first | with_reducible rfl | rfl)
        try simp only [Act.put, List.setIfInBounds_toArray, List.set_cons_zero, List.set_cons_succ]
        refine hd_pure (v := ?_) (by rfl) (fun W' hS' => ?_) ?_ -- 3
        rotate_left
        · have hB := hS'.a.blk; unfold RoT.cells at hB; rw [HN.out] at hB; have e2 := hB.cell 2; have k1 := (hS'.a.nxt t HN.out).b.cell 1; have p3 := (hS'.b.cell 3).trans (Pdu.c3 _); have hlk := (hS'.a.nxt t HN.out).m.look p.v; rw [HD.out] at hlk; rw [HA.out] at p3; simp only [tbP, List.getElem?_cons_zero, List.getElem?_cons_succ] at e2 k1; clear hB; (go_simp; first | with_reducible rfl | rfl)
        try simp only [Act.put, List.setIfInBounds_toArray, List.set_cons_zero, List.set_cons_succ]
        refine hd_pure (v := ?_) (by rfl) (fun W' hS' => ?_) ?_ -- 4
        rotate_left
        · have hB := hS'.a.blk; unfold RoT.cells at hB; rw [HN.out] at hB; have e2 := hB.cell 2; have k1 := (hS'.a.nxt t HN.out).b.cell 1; have p3 := (hS'.b.cell 3).trans (Pdu.c3 _); have hlk := (hS'.a.nxt t HN.out).m.look p.v; rw [HD.out] at hlk; rw [HA.out] at p3; simp only [tbP, List.getElem?_cons_zero, List.getElem?_cons_succ] at e2 k1; clear hB; (go_simp; first | with_reducible rfl | rfl)
        try simp only [Act.put, List.setIfInBounds_toArray, List.set_cons_zero, List.set_cons_succ]
        refine hd_pure (v := ?_) (by rfl) (fun W' hS' => ?_) ?_ -- 5
        rotate_left
        · have hB := hS'.a.blk; unfold RoT.cells at hB; rw [HN.out] at hB; have e2 := hB.cell 2; have k1 := (hS'.a.nxt t HN.out).b.cell 1; have p3 := (hS'.b.cell 3).trans (Pdu.c3 _); have hlk := (hS'.a.nxt t HN.out).m.look p.v; rw [HD.out] at hlk; rw [HA.out] at p3; simp only [tbP, List.getElem?_cons_zero, List.getElem?_cons_succ] at e2 k1; clear hB; (go_simp; first | with_reducible rfl | rfl)
        try simp only [Act.put, List.setIfInBounds_toArray, List.set_cons_zero, List.set_cons_succ]
        refine hd_pure (v := ?_) (by rfl) (fun W' hS' => ?_) ?_ -- 6
        rotate_left
        · have hB := hS'.a.blk; unfold RoT.cells at hB; rw [HN.out] at hB; have e2 := hB.cell 2; have k1 := (hS'.a.nxt t HN.out).b.cell 1; have p3 := (hS'.b.cell 3).trans (Pdu.c3 _); have hlk := (hS'.a.nxt t HN.out).m.look p.v; rw [HD.out] at hlk; rw [HA.out] at p3; simp only [tbP, List.getElem?_cons_zero, List.getElem?_cons_succ] at e2 k1; clear hB; (go_simp; first | with_reducible rfl | rfl)
        try simp only [Act.put, List.setIfInBounds_toArray, List.set_cons_zero, List.set_cons_succ]
        refine hd_pure (v := ?_) (by rfl) (fun W' hS' => ?_) ?_ -- 7
        rotate_left
        · have hB := hS'.a.blk; unfold RoT.cells at hB; rw [HN.out] at hB; have e2 := hB.cell 2; have k1 := (hS'.a.nxt t HN.out).b.cell 1; have p3 := (hS'.b.cell 3).trans (Pdu.c3 _); have hlk := (hS'.a.nxt t HN.out).m.look p.v; rw [HD.out] at hlk; rw [HA.out] at p3; simp only [tbP, List.getElem?_cons_zero, List.getElem?_cons_succ] at e2 k1; clear hB; (go_simp; first | with_reducible rfl | rfl)
        try simp only [Act.put, List.setIfInBounds_toArray, List.set_cons_zero, List.set_cons_succ]
        refine hd_pure (v := .agg p.v.cells.toArray) (by rfl) (fun W' hS' => exec_load_at 67 _ (by rfl) bx 4 20 (by rfl) _ _ hS'.b.pdu_vrp (Vrp.cells_length _) Tryz.underlying67 rfl info_vrp1) ?_ -- 8
        try simp only [Act.put, List.setIfInBounds_toArray, List.set_cons_zero, List.set_cons_succ]
        refine hd_nil ?_
        replace hT := hSW; clear hSW; obtain ⟨W3, hput, hM3, hG3⟩ := (hT.a.nxt t HN.out).m.put p.v HND.out
        go_wp2_with fail
        refine NoPanic.normal ?_
        go_wp2_with fail
        go_ret
        rw [HE.out]
        exact ⟨_, rfl, hT.a.putMap HN.out hM3 hG3, by simp [RoT.abs, TbV.abs], rfl, rfl, (RFr.below hT.f).trans (RFr.map HN.out hG3)⟩
theorem RoT.asked_of {r : RoT} (h : r.abs.waits = true) : r.asked = true := by
  unfold RoS.waits RoT.abs at h
  cases ha : r.asked
  · simp [ha] at h
  · rfl
set_option maxRecDepth 100000 in
set_option maxHeartbeats 4000000 in
theorem rbegin_any (p : Pdu) (w : World) (g : Nat) (r : RoT) (h : RtA w g r) (hok : r.abs.ok) : Calls Tryz.prog 86 #[.pointer (some ⟨g, 0, none⟩), p.val] w (TakePost w g r (beginR r.abs p)) := by
  cases hw : r.abs.waits
  · have HE := Lib.hid (show beginR r.abs p = (r.abs, 13) by unfold beginR; rw [hw]; rfl)
    have HW := Lib.hid hw
    clear hw
    simp only [Pdu.val]
    have hT : RtP w g r w.heap.size p (w.alloc (.cells p.cells.toArray 69)) := ⟨h.next ((Below.refl _ _).alloc (Nat.le_refl _) _), Blk.new _ _ _, (Below.refl _ _).alloc (Nat.le_refl _) _⟩
    clear h
    go_enter Tryz.func86, Tryz.ntmps86
    go_upto_region 1 with fail
    refine wp_gen (RtP w g r w.heap.size p) hT ?_
    clear hT
    generalize w.heap.size = bx
    intro W hT
    go_wp2_with fail
    refine (rwaits_any W g r hT.a).mono ?_
    rintro e w2 ⟨rfl, rfl⟩
    rw [HW.out]
    go_wp2_with fail
    go_ret
    rw [HE.out]
    exact ⟨r, rfl, hT.a, rfl, rfl, rfl, .below hT.f⟩
  have HW := Lib.hid hw
  by_cases hk : r.kind = 1
  · obtain ⟨t, ht⟩ : ∃ t, r.h = some t := by
      have h1 := hok (RoT.asked_of hw) hk
      cases hh : r.h with
      | none => exact absurd (show r.abs.h = none by unfold RoT.abs; rw [hh]; rfl) h1
      | some t => exact ⟨t, rfl⟩
    have hah : r.abs.h = some (t.sess, t.ks) := by unfold RoT.abs; rw [ht]; rfl
    have hak : r.abs.kind = 1 := hk
    have bk : (r.kind == 1) = true := beq_iff_eq.2 hk
    by_cases hs : p.session = t.sess
    · have HE := fun s m : Nat => Lib.hid (show beginR r.abs p = (({ r with nx := some ⟨s, m, p.session, t.ks⟩ } : RoT).abs, 0) by unfold beginR; rw [hw, hak, hah]; simp [hs, RoT.abs, TbV.abs, ht, hk])
      have bs : (p.session != t.sess) = false := by simp [hs]
      have HT := Lib.hid ht
      clear hw hk hah hak hs ht
      simp only [Pdu.val]
      have hT : RtP w g r w.heap.size p (w.alloc (.cells p.cells.toArray 69)) := ⟨h.next ((Below.refl _ _).alloc (Nat.le_refl _) _), Blk.new _ _ _, (Below.refl _ _).alloc (Nat.le_refl _) _⟩
      clear h
      go_enter Tryz.func86, Tryz.ntmps86
      go_upto_region 1 with fail
      refine wp_gen (RtP w g r w.heap.size p) hT ?_
      clear hT
      generalize w.heap.size = bx
      intro W hT
      go_wp2_with fail
      refine (rwaits_any W g r hT.a).mono ?_
      rintro e w2 ⟨rfl, rfl⟩
      rw [HW.out]
      have hmm := @run_makeMap Tryz.prog
      have hT2 := hT.next ((Below.refl W.heap.size W).alloc (Nat.le_refl _) (.map #[] 0))
      go_upto_region 4 with fail
      refine wp_gen (RtP w g r bx p) hT2 ?_
      clear hT hT2 hmm
      intro W hT
      have c4 := hT.a.blk.cell 4
      simp only [RoT.cells, List.getElem?_cons_zero, List.getElem?_cons_succ] at c4
      go_upto_region 5 with fail
      clear c4
      refine reg_sch2 10 [(true, 0), (true, 1), (true, 2), (true, 3), (true, 4), (true, 5), (true, 6), (true, 7), (true, 8), (true, 9)] (by kernel_rfl) (by kernel_rfl) (RtP w g r bx p) (RtP w g r bx p) ?_ ?_ ?_
      · first | exact hT.drew | exact hT
      · exact fun _ h => h
      intro W hSW
      simp only [List.map_cons, List.map_nil, List.getD_cons_zero, List.getD_cons_succ, List.drop_succ_cons, List.drop_zero]
      refine hd_pure (v := ?_) (by rfl) (fun W' hS' => ?_) ?_ -- 0
      rotate_left
      · have hB := hS'.a.blk; unfold RoT.cells at hB; rw [HT.out] at hB; have e0 := hB.cell 0; have k0 := (hS'.a.has t HT.out).b.cell 0; have p1 := (hS'.b.cell 1).trans (Pdu.c1 _); simp only [tbP, List.getElem?_cons_zero, List.getElem?_cons_succ] at e0 k0; clear hB; (go_simp; first | with_reducible rfl | rfl)
      try simp only [Act.put, List.setIfInBounds_toArray, List.set_cons_zero, List.set_cons_succ]
      refine hd_pure (v := ?_) (by rfl) (fun W' hS' => ?_) ?_ -- 1
      rotate_left
      · have hB := hS'.a.blk; unfold RoT.cells at hB; rw [HT.out] at hB; have e0 := hB.cell 0; have k0 := (hS'.a.has t HT.out).b.cell 0; have p1 := (hS'.b.cell 1).trans (Pdu.c1 _); simp only [tbP, List.getElem?_cons_zero, List.getElem?_cons_succ] at e0 k0; clear hB; (go_simp; first | with_reducible rfl | rfl)
      try simp only [Act.put, List.setIfInBounds_toArray, List.set_cons_zero, List.set_cons_succ]
      refine hd_pure (v := ?_) (by rfl) (fun W' hS' => ?_) ?_ -- 2
      rotate_left
      · have hB := hS'.a.blk; unfold RoT.cells at hB; rw [HT.out] at hB; have e0 := hB.cell 0; have k0 := (hS'.a.has t HT.out).b.cell 0; have p1 := (hS'.b.cell 1).trans (Pdu.c1 _); simp only [tbP, List.getElem?_cons_zero, List.getElem?_cons_succ] at e0 k0; clear hB; (go_simp; first | with_reducible rfl | rfl)
      try simp only [Act.put, List.setIfInBounds_toArray, List.set_cons_zero, List.set_cons_succ]
      refine hd_pure (v := ?_) (by rfl) (fun W' hS' => ?_) ?_ -- 3
      rotate_left
      · have hB := hS'.a.blk; unfold RoT.cells at hB; rw [HT.out] at hB; have e0 := hB.cell 0; have k0 := (hS'.a.has t HT.out).b.cell 0; have p1 := (hS'.b.cell 1).trans (Pdu.c1 _); simp only [tbP, List.getElem?_cons_zero, List.getElem?_cons_succ] at e0 k0; clear hB; (go_simp; first | with_reducible rfl | rfl)
      try simp only [Act.put, List.setIfInBounds_toArray, List.set_cons_zero, List.set_cons_succ]
      refine hd_pure (v := ?_) (by rfl) (fun W' hS' => ?_) ?_ -- 4
      rotate_left
      · have hB := hS'.a.blk; unfold RoT.cells at hB; rw [HT.out] at hB; have e0 := hB.cell 0; have k0 := (hS'.a.has t HT.out).b.cell 0; have p1 := (hS'.b.cell 1).trans (Pdu.c1 _); simp only [tbP, List.getElem?_cons_zero, List.getElem?_cons_succ] at e0 k0; clear hB; (go_simp; first | with_reducible rfl | rfl)
      try simp only [Act.put, List.setIfInBounds_toArray, List.set_cons_zero, List.set_cons_succ]
      refine hd_pure (v := ?_) (by rfl) (fun W' hS' => ?_) ?_ -- 5
      rotate_left
      · have hB := hS'.a.blk; unfold RoT.cells at hB; rw [HT.out] at hB; have e0 := hB.cell 0; have k0 := (hS'.a.has t HT.out).b.cell 0; have p1 := (hS'.b.cell 1).trans (Pdu.c1 _); simp only [tbP, List.getElem?_cons_zero, List.getElem?_cons_succ] at e0 k0; clear hB; (go_simp; first | with_reducible rfl | rfl)
      try simp only [Act.put, List.setIfInBounds_toArray, List.set_cons_zero, List.set_cons_succ]
      refine hd_pure (v := ?_) (by rfl) (fun W' hS' => ?_) ?_ -- 6
      rotate_left
      · have hB := hS'.a.blk; unfold RoT.cells at hB; rw [HT.out] at hB; have e0 := hB.cell 0; have k0 := (hS'.a.has t HT.out).b.cell 0; have p1 := (hS'.b.cell 1).trans (Pdu.c1 _); simp only [tbP, List.getElem?_cons_zero, List.getElem?_cons_succ] at e0 k0; clear hB; (go_simp; first | with_reducible rfl | rfl)
      try simp only [Act.put, List.setIfInBounds_toArray, List.set_cons_zero, List.set_cons_succ]
      refine hd_pure (v := ?_) (by rfl) (fun W' hS' => ?_) ?_ -- 7
      rotate_left
      · have hB := hS'.a.blk; unfold RoT.cells at hB; rw [HT.out] at hB; have e0 := hB.cell 0; have k0 := (hS'.a.has t HT.out).b.cell 0; have p1 := (hS'.b.cell 1).trans (Pdu.c1 _); simp only [tbP, List.getElem?_cons_zero, List.getElem?_cons_succ] at e0 k0; clear hB; (go_simp; first | with_reducible rfl | rfl)
      try simp only [Act.put, List.setIfInBounds_toArray, List.set_cons_zero, List.set_cons_succ]
      refine hd_pure (v := ?_) (by rfl) (fun W' hS' => ?_) ?_ -- 8
      rotate_left
      · have hB := hS'.a.blk; unfold RoT.cells at hB; rw [HT.out] at hB; have e0 := hB.cell 0; have k0 := (hS'.a.has t HT.out).b.cell 0; have p1 := (hS'.b.cell 1).trans (Pdu.c1 _); simp only [tbP, List.getElem?_cons_zero, List.getElem?_cons_succ] at e0 k0; clear hB; (go_simp; first | with_reducible rfl | rfl)
      try simp only [Act.put, List.setIfInBounds_toArray, List.set_cons_zero, List.set_cons_succ]
      refine hd_pure (v := ?_) (by rfl) (fun W' hS' => ?_) ?_ -- 9
      rotate_left
      · have hB := hS'.a.blk; unfold RoT.cells at hB; rw [HT.out] at hB; have e0 := hB.cell 0; have k0 := (hS'.a.has t HT.out).b.cell 0; have p1 := (hS'.b.cell 1).trans (Pdu.c1 _); simp only [tbP, List.getElem?_cons_zero, List.getElem?_cons_succ] at e0 k0; clear hB; (go_simp; first | with_reducible rfl | rfl)
      try simp only [Act.put, List.setIfInBounds_toArray, List.set_cons_zero, List.set_cons_succ]
      refine hd_nil ?_
      replace hT := hSW; clear hSW
      refine wpList_nil (NoPanic.normal ?_)
      have hta := hT.a.has t HT.out
      have c0 := hT.a.blk.cell 0
      have k1 := hta.b.cell 1
      simp only [RoT.cells, HT.out, tbP, List.getElem?_cons_zero, List.getElem?_cons_succ] at c0 k1
      go_upto_region 7 with fail
      go_wp2_with fail
      refine (mclone_any W t.m t.ks hta.m).mono ?_
      rintro e w3 ⟨rfl, hM3, hb3⟩
      have hge := hT.f.size
      have hlt : ∀ t', r.h = some t' → t'.m ≠ W.heap.size := fun t' ht' e => by have := (hT.a.has t' ht').m.lt; omega
      have hT3 := hT.next hb3
      clear hT hta c0 k1 hb3
      generalize W.heap.size = m at hlt hge hM3
      have c0 := hT3.a.blk.cell 0
      have c1 := hT3.a.blk.cell 1
      have c2 := hT3.a.blk.cell 2
      have c3 := hT3.a.blk.cell 3
      have c4 := hT3.a.blk.cell 4
      have c5 := hT3.a.blk.cell 5
      have c6 := hT3.a.blk.cell 6
      have f0 := hT3.a.blk.frozen 0
      have f1 := hT3.a.blk.frozen 1
      have f2 := hT3.a.blk.frozen 2
      have f3 := hT3.a.blk.frozen 3
      have f4 := hT3.a.blk.frozen 4
      have f5 := hT3.a.blk.frozen 5
      have f6 := hT3.a.blk.frozen 6
      simp only [RoT.cells, tbP, List.getElem?_cons_zero, List.getElem?_cons_succ] at c0 c1 c2 c3 c4 c5 c6
      have p1 := (hT3.b.cell 1).trans (Pdu.c1 _)
      have hT4 := hT3.next ((Below.refl w3.heap.size w3).alloc (Nat.le_refl _) (.cells #[.int .i64 p.session, .map (some m)] 78))
      have hB4 := Blk.new w3 78 [.int .i64 p.session, .map (some m)]
      have d2 := hT4.a.blk.cell 2
      have g2 := hT4.a.blk.frozen 2
      simp only [RoT.cells, List.getElem?_cons_zero, List.getElem?_cons_succ] at d2
      have hM4 := hM3.below ((Below.refl w3.heap.size w3).alloc (Nat.le_refl _) (.cells #[.int .i64 p.session, .map (some m)] 78))
      go_wp2_with fail
      go_ret
      rw [(HE w3.heap.size m).out]
      exact ⟨_, rfl, hT4.a.setNext ⟨w3.heap.size, m, p.session, t.ks⟩ ⟨hB4, hM4⟩ hlt, rfl, rfl, rfl, RFr.fresh hT4.f hge⟩
    · have HE := Lib.hid (show beginR r.abs p = (r.abs, 12) by unfold beginR; rw [hw, hak, hah]; simp [hs])
      have bs : (p.session != t.sess) = true := by simp [hs]
      have HT := Lib.hid ht
      clear hw hk hah hak hs ht
      simp only [Pdu.val]
      have hT : RtP w g r w.heap.size p (w.alloc (.cells p.cells.toArray 69)) := ⟨h.next ((Below.refl _ _).alloc (Nat.le_refl _) _), Blk.new _ _ _, (Below.refl _ _).alloc (Nat.le_refl _) _⟩
      clear h
      go_enter Tryz.func86, Tryz.ntmps86
      go_upto_region 1 with fail
      refine wp_gen (RtP w g r w.heap.size p) hT ?_
      clear hT
      generalize w.heap.size = bx
      intro W hT
      go_wp2_with fail
      refine (rwaits_any W g r hT.a).mono ?_
      rintro e w2 ⟨rfl, rfl⟩
      rw [HW.out]
      have hmm := @run_makeMap Tryz.prog
      have hT2 := hT.next ((Below.refl W.heap.size W).alloc (Nat.le_refl _) (.map #[] 0))
      go_upto_region 4 with fail
      refine wp_gen (RtP w g r bx p) hT2 ?_
      clear hT hT2 hmm
      intro W hT
      have c4 := hT.a.blk.cell 4
      simp only [RoT.cells, List.getElem?_cons_zero, List.getElem?_cons_succ] at c4
      go_upto_region 5 with fail
      clear c4
      refine reg_sch2 10 [(true, 0), (true, 1), (true, 2), (true, 3), (true, 4), (true, 5), (true, 6), (true, 7), (true, 8), (true, 9)] (by kernel_rfl) (by kernel_rfl) (RtP w g r bx p) (RtP w g r bx p) ?_ ?_ ?_
      · first | exact hT.drew | exact hT
      · exact fun _ h => h
      intro W hSW
      simp only [List.map_cons, List.map_nil, List.getD_cons_zero, List.getD_cons_succ, List.drop_succ_cons, List.drop_zero]
      refine hd_pure (v := ?_) (by rfl) (fun W' hS' => ?_) ?_ -- 0
      rotate_left
      · have hB := hS'.a.blk; unfold RoT.cells at hB; rw [HT.out] at hB; have e0 := hB.cell 0; have k0 := (hS'.a.has t HT.out).b.cell 0; have p1 := (hS'.b.cell 1).trans (Pdu.c1 _); simp only [tbP, List.getElem?_cons_zero, List.getElem?_cons_succ] at e0 k0; clear hB; (go_simp; first | with_reducible rfl | rfl)
      try simp only [Act.put, List.setIfInBounds_toArray, List.set_cons_zero, List.set_cons_succ]
      refine hd_pure (v := ?_) (by rfl) (fun W' hS' => ?_) ?_ -- 1
      rotate_left
      · have hB := hS'.a.blk; unfold RoT.cells at hB; rw [HT.out] at hB; have e0 := hB.cell 0; have k0 := (hS'.a.has t HT.out).b.cell 0; have p1 := (hS'.b.cell 1).trans (Pdu.c1 _); simp only [tbP, List.getElem?_cons_zero, List.getElem?_cons_succ] at e0 k0; clear hB; (go_simp; first | with_reducible rfl | rfl)
      try simp only [Act.put, List.setIfInBounds_toArray, List.set_cons_zero, List.set_cons_succ]
      refine hd_pure (v := ?_) (by rfl) (fun W' hS' => ?_) ?_ -- 2
      rotate_left
      · have hB := hS'.a.blk; unfold RoT.cells at hB; rw [HT.out] at hB; have e0 := hB.cell 0; have k0 := (hS'.a.has t HT.out).b.cell 0; have p1 := (hS'.b.cell 1).trans (Pdu.c1 _); simp only [tbP, List.getElem?_cons_zero, List.getElem?_cons_succ] at e0 k0; clear hB; (go_simp; first | with_reducible rfl | rfl)
      try simp only [Act.put, List.setIfInBounds_toArray, List.set_cons_zero, List.set_cons_succ]
      refine hd_pure (v := ?_) (by rfl) (fun W' hS' => ?_) ?_ -- 3
      rotate_left
      · have hB := hS'.a.blk; unfold RoT.cells at hB; rw [HT.out] at hB; have e0 := hB.cell 0; have k0 := (hS'.a.has t HT.out).b.cell 0; have p1 := (hS'.b.cell 1).trans (Pdu.c1 _); simp only [tbP, List.getElem?_cons_zero, List.getElem?_cons_succ] at e0 k0; clear hB; (go_simp; first | with_reducible rfl | rfl)
      try simp only [Act.put, List.setIfInBounds_toArray, List.set_cons_zero, List.set_cons_succ]
      refine hd_pure (v := ?_) (by rfl) (fun W' hS' => ?_) ?_ -- 4
      rotate_left
      · have hB := hS'.a.blk; unfold RoT.cells at hB; rw [HT.out] at hB; have e0 := hB.cell 0; have k0 := (hS'.a.has t HT.out).b.cell 0; have p1 := (hS'.b.cell 1).trans (Pdu.c1 _); simp only [tbP, List.getElem?_cons_zero, List.getElem?_cons_succ] at e0 k0; clear hB; (go_simp; first | with_reducible rfl | rfl)
      try simp only [Act.put, List.setIfInBounds_toArray, List.set_cons_zero, List.set_cons_succ]
      refine hd_pure (v := ?_) (by rfl) (fun W' hS' => ?_) ?_ -- 5
      rotate_left
      · have hB := hS'.a.blk; unfold RoT.cells at hB; rw [HT.out] at hB; have e0 := hB.cell 0; have k0 := (hS'.a.has t HT.out).b.cell 0; have p1 := (hS'.b.cell 1).trans (Pdu.c1 _); simp only [tbP, List.getElem?_cons_zero, List.getElem?_cons_succ] at e0 k0; clear hB; (go_simp; first | with_reducible rfl | rfl)
      try simp only [Act.put, List.setIfInBounds_toArray, List.set_cons_zero, List.set_cons_succ]
      refine hd_pure (v := ?_) (by rfl) (fun W' hS' => ?_) ?_ -- 6
      rotate_left
      · have hB := hS'.a.blk; unfold RoT.cells at hB; rw [HT.out] at hB; have e0 := hB.cell 0; have k0 := (hS'.a.has t HT.out).b.cell 0; have p1 := (hS'.b.cell 1).trans (Pdu.c1 _); simp only [tbP, List.getElem?_cons_zero, List.getElem?_cons_succ] at e0 k0; clear hB; (go_simp; first | with_reducible rfl | rfl)
      try simp only [Act.put, List.setIfInBounds_toArray, List.set_cons_zero, List.set_cons_succ]
      refine hd_pure (v := ?_) (by rfl) (fun W' hS' => ?_) ?_ -- 7
      rotate_left
      · have hB := hS'.a.blk; unfold RoT.cells at hB; rw [HT.out] at hB; have e0 := hB.cell 0; have k0 := (hS'.a.has t HT.out).b.cell 0; have p1 := (hS'.b.cell 1).trans (Pdu.c1 _); simp only [tbP, List.getElem?_cons_zero, List.getElem?_cons_succ] at e0 k0; clear hB; (go_simp; first | with_reducible rfl | rfl)
      try simp only [Act.put, List.setIfInBounds_toArray, List.set_cons_zero, List.set_cons_succ]
      refine hd_pure (v := ?_) (by rfl) (fun W' hS' => ?_) ?_ -- 8
      rotate_left
      · have hB := hS'.a.blk; unfold RoT.cells at hB; rw [HT.out] at hB; have e0 := hB.cell 0; have k0 := (hS'.a.has t HT.out).b.cell 0; have p1 := (hS'.b.cell 1).trans (Pdu.c1 _); simp only [tbP, List.getElem?_cons_zero, List.getElem?_cons_succ] at e0 k0; clear hB; (go_simp; first | with_reducible rfl | rfl)
      try simp only [Act.put, List.setIfInBounds_toArray, List.set_cons_zero, List.set_cons_succ]
      refine hd_pure (v := ?_) (by rfl) (fun W' hS' => ?_) ?_ -- 9
      rotate_left
      · have hB := hS'.a.blk; unfold RoT.cells at hB; rw [HT.out] at hB; have e0 := hB.cell 0; have k0 := (hS'.a.has t HT.out).b.cell 0; have p1 := (hS'.b.cell 1).trans (Pdu.c1 _); simp only [tbP, List.getElem?_cons_zero, List.getElem?_cons_succ] at e0 k0; clear hB; (go_simp; first | with_reducible rfl | rfl)
      try simp only [Act.put, List.setIfInBounds_toArray, List.set_cons_zero, List.set_cons_succ]
      refine hd_nil ?_
      replace hT := hSW; clear hSW
      refine wpList_nil (NoPanic.normal ?_)
      go_wp2_with fail
      go_ret
      rw [HE.out]
      exact ⟨r, rfl, hT.a, rfl, rfl, rfl, .below hT.f⟩
  · have HE := fun s m : Nat => Lib.hid (show beginR r.abs p = (({ r with nx := some ⟨s, m, p.session, []⟩ } : RoT).abs, 0) by unfold beginR; rw [hw]; simp [hk, RoT.abs, TbV.abs])
    have bk : (r.kind == 1) = false := beq_eq_false_iff_ne.2 hk
    clear hw hk
    simp only [Pdu.val]
    have hT : RtP w g r w.heap.size p (w.alloc (.cells p.cells.toArray 69)) := ⟨h.next ((Below.refl _ _).alloc (Nat.le_refl _) _), Blk.new _ _ _, (Below.refl _ _).alloc (Nat.le_refl _) _⟩
    clear h
    go_enter Tryz.func86, Tryz.ntmps86
    go_upto_region 1 with fail
    refine wp_gen (RtP w g r w.heap.size p) hT ?_
    clear hT
    generalize w.heap.size = bx
    intro W hT
    go_wp2_with fail
    refine (rwaits_any W g r hT.a).mono ?_
    rintro e w2 ⟨rfl, rfl⟩
    rw [HW.out]
    have hmm := @run_makeMap Tryz.prog
    have hT2 := hT.next ((Below.refl W.heap.size W).alloc (Nat.le_refl _) (.map #[] 0))
    have hM := MapV.new W _ rfl
    have hlt : ∀ t', r.h = some t' → t'.m ≠ W.heap.size := fun t' ht' e => by have := (hT.a.has t' ht').m.lt; omega
    have hge := hT.f.size
    go_upto_region 4 with fail
    refine wp_gen (fun W2 => RtP w g r bx p W2 ∧ MapV W2 W.heap.size []) ⟨hT2, hM⟩ ?_
    clear hT hT2 hmm hM
    generalize W.heap.size = m at hlt hge
    rintro W2 ⟨hT, hM⟩
    have c0 := hT.a.blk.cell 0
    have c1 := hT.a.blk.cell 1
    have c2 := hT.a.blk.cell 2
    have c3 := hT.a.blk.cell 3
    have c4 := hT.a.blk.cell 4
    have c5 := hT.a.blk.cell 5
    have c6 := hT.a.blk.cell 6
    have f0 := hT.a.blk.frozen 0
    have f1 := hT.a.blk.frozen 1
    have f2 := hT.a.blk.frozen 2
    have f3 := hT.a.blk.frozen 3
    have f4 := hT.a.blk.frozen 4
    have f5 := hT.a.blk.frozen 5
    have f6 := hT.a.blk.frozen 6
    simp only [RoT.cells, tbP, List.getElem?_cons_zero, List.getElem?_cons_succ] at c0 c1 c2 c3 c4 c5 c6
    have p1 := (hT.b.cell 1).trans (Pdu.c1 _)
    have hT4 := hT.next ((Below.refl W2.heap.size W2).alloc (Nat.le_refl _) (.cells #[.int .i64 p.session, .map (some m)] 78))
    have hB4 := Blk.new W2 78 [.int .i64 p.session, .map (some m)]
    have d2 := hT4.a.blk.cell 2
    have g2 := hT4.a.blk.frozen 2
    simp only [RoT.cells, List.getElem?_cons_zero, List.getElem?_cons_succ] at d2
    have hM4 := hM.below ((Below.refl W2.heap.size W2).alloc (Nat.le_refl _) (.cells #[.int .i64 p.session, .map (some m)] 78))
    go_wp2_with fail
    go_ret
    rw [(HE W2.heap.size m).out]
    exact ⟨_, rfl, hT4.a.setNext ⟨W2.heap.size, m, p.session, []⟩ ⟨hB4, hM4⟩ hlt, rfl, rfl, rfl, RFr.fresh hT4.f hge⟩
end Go.Proofs.YtmoldmnhijcckaaGreat
