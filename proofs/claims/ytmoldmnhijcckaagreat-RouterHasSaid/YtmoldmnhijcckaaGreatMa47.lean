/- router's Has. -/
import Derived.Test.YtmoldmnhijcckaaGreatMa45
import Derived.Test.YtmoldmnhijcckaaGreatMa46
import Derived.Test.YtmoldmnhijcckaaGreatMa39
import Derived.Test.YtmoldmnhijcckaaGreatMa33
set_option linter.unusedVariables false
set_option linter.unusedSectionVars false
set_option linter.unusedSimpArgs false
namespace Go.Proofs.YtmoldmnhijcckaaGreat
open Go.RowKit Go.Shelf
set_option maxRecDepth 100000 in
set_option maxHeartbeats 1000000 in
theorem collectV_in (F : Fence) (n : Nat) (h8 : F.fn 40) (h11 : F.fn 68) (h10 : F.fn 69) (hro : F.round = none) (hn : 4 ≤ n) (Bm b : Nat) (ks : List Vrp) (hk6 : ks.length ≤ 1000000) (w : World) (hBm : Bm < w.heap.size) (hm : w.cell? ⟨Bm, 0, none⟩ = some (.map (some b))) (hM : MapV w b ks) :
    CallsIn F n Tryz.prog 40 #[.func (.func 69) #[] #[.pointer (some ⟨Bm, 0, none⟩)]] w fun e w' => ∃ (v : Value) (xs : List Vrp), e = .returned v ∧ (xs.Nodup ∧ ∀ x, x ∈ xs ↔ x ∈ ks) ∧ w'.ownsRow w.heap.size 67 20 v xs.length (xs.flatMap Vrp.cells) ∧ Below w.heap.size w w' := by
  have h1 : 1 ≤ n := by omega
  refine callsIn_of_wp Tryz.func40 rfl h8 ?_ hro
  simp only [Tryz.ntmps40, List.size_toArray, List.length_cons, List.length_nil, Nat.reduceAdd, Nat.reduceSub, Array.replicate_succ, Array.replicate_zero, List.push_toArray, List.append_toArray, List.nil_append, List.cons_append]
  gi_wp2_with (gi_at_call 68; refine (appendV_in F (n - 1) h11 h10 hro (by omega) Bm b ks hk6 _ hBm hm hM).mono ?_; rintro e w' ⟨v, ss, rfl, hS, hrow, hb⟩)
  go_ret
  exact ⟨v, ss, rfl, hS, hrow, hb⟩
theorem collectV_any (Bm b : Nat) (ks : List Vrp) (hk6 : ks.length ≤ 1000000) (w : World) (hBm : Bm < w.heap.size) (hm : w.cell? ⟨Bm, 0, none⟩ = some (.map (some b))) (hM : MapV w b ks) :
    Calls Tryz.prog 40 #[.func (.func 69) #[] #[.pointer (some ⟨Bm, 0, none⟩)]] w fun e w' => ∃ (v : Value) (xs : List Vrp), e = .returned v ∧ (xs.Nodup ∧ ∀ x, x ∈ xs ↔ x ∈ ks) ∧ w'.ownsRow w.heap.size 67 20 v xs.length (xs.flatMap Vrp.cells) ∧ Below w.heap.size w w' :=
  callsIn_wide.1 (collectV_in Fence.wide 4 trivial trivial trivial rfl (by omega) Bm b ks hk6 w hBm hm hM)
set_option maxRecDepth 100000 in
set_option maxHeartbeats 1000000 in
theorem keysV_any (mb : Option Nat) (w : World) : Calls Tryz.prog 41 #[.map mb] w fun e w' => e = .returned (.func (.func 69) #[] #[.pointer (some ⟨w.heap.size, 0, none⟩)]) ∧ w' = w.alloc (.cells #[.map mb] 76) := by
  go_enter Tryz.func41, Tryz.ntmps41
  go_wp2_with fail
  go_ret
  exact ⟨rfl, rfl⟩
structure HsS (w : World) (g : Nat) (r : RoT) (W : World) : Prop where
  a : RtA W g r
  f : Below w.heap.size w W
theorem HsS.next {w W W' : World} {g : Nat} {r : RoT} (h : HsS w g r W) (hb : Below W.heap.size W W') : HsS w g r W' := ⟨h.a.next hb, below_then h.f (Nat.le_refl _) hb⟩
def HasPost (w : World) (h : Option (Int × List Vrp)) (sn : UInt32) (e : Ending) (w' : World) : Prop :=
  match h with
  | none => e = .returned (.tuple #[.slice none 0 0, .int .u32 0, .bool false]) ∧ Below w.heap.size w w'
  | some t => ∃ A c, e = .returned (.tuple #[.slice A (rowOf t.2).length c, .int .u32 sn.toNat, .bool true]) ∧ w'.ownsRow w.heap.size 67 20 (.slice A (rowOf t.2).length c) (rowOf t.2).length ((rowOf t.2).flatMap Vrp.cells) ∧ Below w.heap.size w w'
set_option maxRecDepth 100000 in
set_option maxHeartbeats 4000000 in
theorem rhas_any (w : World) (g : Nat) (r : RoT) (h : RtA w g r) (hk6 : ∀ t, r.h = some t → t.ks.length ≤ 1000000) : Calls Tryz.prog 12 #[.pointer (some ⟨g, 0, none⟩)] w (HasPost w r.abs.h r.abs.sn) := by
  have c0 := h.blk.cell 0
  simp only [RoT.cells, List.getElem?_cons_zero] at c0
  cases hh : r.h with
  | none =>
    have HH := Lib.hid (show r.abs.h = none by unfold RoT.abs; rw [hh]; rfl)
    rw [hh] at c0
    simp only [tbP] at c0
    rw [HH.out]
    clear hh hk6
    go_enter Tryz.func12, Tryz.ntmps12
    go_wp2_with fail
    refine bodyPost_ret (v := .tuple #[.slice none 0 0, .int .u32 0, .bool false]) (by simp [results, Tryz.results12, go_sem]) rfl ?_
    exact ⟨rfl, Below.refl _ _⟩
  | some t =>
    have HH := Lib.hid (show r.abs.h = some (t.sess, t.ks) by unfold RoT.abs; rw [hh]; rfl)
    have hk := hk6 t hh
    have HR := Lib.hid hh
    rw [hh] at c0
    simp only [tbP] at c0
    rw [HH.out]
    have hS0 : HsS w g r w := ⟨h, Below.refl _ _⟩
    clear hh hk6
    obtain ⟨ir, hir, hrz0, hrz1, hrz2⟩ := info_parts info_vrow
    go_enter Tryz.func12, Tryz.ntmps12
    go_upto_region 3 with fail
    clear c0
    refine reg_sch2 18 [(true, 0), (true, 1), (true, 2), (true, 3), (true, 4), (true, 5), (true, 6), (true, 11), (true, 12), (true, 13), (true, 14), (false, 7), (false, 8), (false, 9), (false, 10), (true, 15), (true, 16), (true, 17)] (by kernel_rfl) (by kernel_rfl) (HsS w g r) (HsS w g r) ?_ ?_ ?_
    · first | exact hS0.next (Below.refl _ _).drew | exact hS0
    · exact fun _ h => h
    intro W hSW
    simp only [List.map_cons, List.map_nil, List.getD_cons_zero, List.getD_cons_succ, List.drop_succ_cons, List.drop_zero]
    refine hd_pure (v := ?_) (by rfl) (fun W' hS' => ?_) ?_ -- 0
    rotate_left
    · have hB := hS'.a.blk; unfold RoT.cells at hB; rw [HR.out] at hB; have e0 := hB.cell 0; have e1 := hB.cell 1; have k1 := (hS'.a.has t HR.out).b.cell 1; simp only [tbP, List.getElem?_cons_zero, List.getElem?_cons_succ] at e0 e1 k1; clear hB; (go_simp; first | with_reducible rfl | rfl)
    try simp only [Act.put, List.setIfInBounds_toArray, List.set_cons_zero, List.set_cons_succ]
    refine hd_pure (v := ?_) (by rfl) (fun W' hS' => ?_) ?_ -- 1
    rotate_left
    · have hB := hS'.a.blk; unfold RoT.cells at hB; rw [HR.out] at hB; have e0 := hB.cell 0; have e1 := hB.cell 1; have k1 := (hS'.a.has t HR.out).b.cell 1; simp only [tbP, List.getElem?_cons_zero, List.getElem?_cons_succ] at e0 e1 k1; clear hB; (go_simp; first | with_reducible rfl | rfl)
    try simp only [Act.put, List.setIfInBounds_toArray, List.set_cons_zero, List.set_cons_succ]
    refine hd_pure (v := ?_) (by rfl) (fun W' hS' => ?_) ?_ -- 2
    rotate_left
    · have hB := hS'.a.blk; unfold RoT.cells at hB; rw [HR.out] at hB; have e0 := hB.cell 0; have e1 := hB.cell 1; have k1 := (hS'.a.has t HR.out).b.cell 1; simp only [tbP, List.getElem?_cons_zero, List.getElem?_cons_succ] at e0 e1 k1; clear hB; (go_simp; first | with_reducible rfl | rfl)
    try simp only [Act.put, List.setIfInBounds_toArray, List.set_cons_zero, List.set_cons_succ]
    refine hd_pure (v := ?_) (by rfl) (fun W' hS' => ?_) ?_ -- 3
    rotate_left
    · have hB := hS'.a.blk; unfold RoT.cells at hB; rw [HR.out] at hB; have e0 := hB.cell 0; have e1 := hB.cell 1; have k1 := (hS'.a.has t HR.out).b.cell 1; simp only [tbP, List.getElem?_cons_zero, List.getElem?_cons_succ] at e0 e1 k1; clear hB; (go_simp; first | with_reducible rfl | rfl)
    try simp only [Act.put, List.setIfInBounds_toArray, List.set_cons_zero, List.set_cons_succ]
    refine hd_pure (v := ?_) (by rfl) (fun W' hS' => ?_) ?_ -- 4
    rotate_left
    · have hB := hS'.a.blk; unfold RoT.cells at hB; rw [HR.out] at hB; have e0 := hB.cell 0; have e1 := hB.cell 1; have k1 := (hS'.a.has t HR.out).b.cell 1; simp only [tbP, List.getElem?_cons_zero, List.getElem?_cons_succ] at e0 e1 k1; clear hB; (go_simp; first | with_reducible rfl | rfl)
    try simp only [Act.put, List.setIfInBounds_toArray, List.set_cons_zero, List.set_cons_succ]
    refine hd_pure (v := ?_) (by rfl) (fun W' hS' => ?_) ?_ -- 5
    rotate_left
    · have hB := hS'.a.blk; unfold RoT.cells at hB; rw [HR.out] at hB; have e0 := hB.cell 0; have e1 := hB.cell 1; have k1 := (hS'.a.has t HR.out).b.cell 1; simp only [tbP, List.getElem?_cons_zero, List.getElem?_cons_succ] at e0 e1 k1; clear hB; (go_simp; first | with_reducible rfl | rfl)
    try simp only [Act.put, List.setIfInBounds_toArray, List.set_cons_zero, List.set_cons_succ]
    refine hd_pure (v := ?_) (by rfl) (fun W' hS' => ?_) ?_ -- 6
    rotate_left
    · have hB := hS'.a.blk; unfold RoT.cells at hB; rw [HR.out] at hB; have e0 := hB.cell 0; have e1 := hB.cell 1; have k1 := (hS'.a.has t HR.out).b.cell 1; simp only [tbP, List.getElem?_cons_zero, List.getElem?_cons_succ] at e0 e1 k1; clear hB; (go_simp; first | with_reducible rfl | rfl)
    try simp only [Act.put, List.setIfInBounds_toArray, List.set_cons_zero, List.set_cons_succ]
    refine hd_pure (v := ?_) (by rfl) (fun W' hS' => ?_) ?_ -- 11
    rotate_left
    · have hB := hS'.a.blk; unfold RoT.cells at hB; rw [HR.out] at hB; have e0 := hB.cell 0; have e1 := hB.cell 1; have k1 := (hS'.a.has t HR.out).b.cell 1; simp only [tbP, List.getElem?_cons_zero, List.getElem?_cons_succ] at e0 e1 k1; clear hB; (go_simp; first | with_reducible rfl | rfl)
    try simp only [Act.put, List.setIfInBounds_toArray, List.set_cons_zero, List.set_cons_succ]
    refine hd_pure (v := ?_) (by rfl) (fun W' hS' => ?_) ?_ -- 12
    rotate_left
    · have hB := hS'.a.blk; unfold RoT.cells at hB; rw [HR.out] at hB; have e0 := hB.cell 0; have e1 := hB.cell 1; have k1 := (hS'.a.has t HR.out).b.cell 1; simp only [tbP, List.getElem?_cons_zero, List.getElem?_cons_succ] at e0 e1 k1; clear hB; (go_simp; first | with_reducible rfl | rfl)
    try simp only [Act.put, List.setIfInBounds_toArray, List.set_cons_zero, List.set_cons_succ]
    refine hd_pure (v := ?_) (by rfl) (fun W' hS' => ?_) ?_ -- 13
    rotate_left
    · have hB := hS'.a.blk; unfold RoT.cells at hB; rw [HR.out] at hB; have e0 := hB.cell 0; have e1 := hB.cell 1; have k1 := (hS'.a.has t HR.out).b.cell 1; simp only [tbP, List.getElem?_cons_zero, List.getElem?_cons_succ] at e0 e1 k1; clear hB; (go_simp; first | with_reducible rfl | rfl)
    try simp only [Act.put, List.setIfInBounds_toArray, List.set_cons_zero, List.set_cons_succ]
    refine hd_pure (v := ?_) (by rfl) (fun W' hS' => ?_) ?_ -- 14
    rotate_left
    · have hB := hS'.a.blk; unfold RoT.cells at hB; rw [HR.out] at hB; have e0 := hB.cell 0; have e1 := hB.cell 1; have k1 := (hS'.a.has t HR.out).b.cell 1; simp only [tbP, List.getElem?_cons_zero, List.getElem?_cons_succ] at e0 e1 k1; clear hB; (go_simp; first | with_reducible rfl | rfl)
    try simp only [Act.put, List.setIfInBounds_toArray, List.set_cons_zero, List.set_cons_succ]
    refine hd_sole (by rfl) (fun K hK => ?_) -- 7
    go_simp
    have hM0 := (hSW.a.has t HR.out).m
    have hS1 := hSW
    refine (keysV_any (some t.m) W).mono ?_
    rintro e w1 ⟨rfl, rfl⟩
    have hb1 : Below W.heap.size W (W.alloc (.cells #[.map (some t.m)] 76)) := (Below.refl _ _).alloc (Nat.le_refl _) _
    refine hK _ _ (hS1.next hb1) ?_
    clear hK K hSW
    intro hSW
    try simp only [Act.put, List.setIfInBounds_toArray, List.set_cons_zero, List.set_cons_succ]
    refine hd_sole (by rfl) (fun K hK => ?_) -- 8
    go_simp
    refine (collectV_any W.heap.size t.m t.ks hk _ (by simp) ((Blk.new W 76 [.map (some t.m)]).cell 0) (hM0.below hb1)).mono ?_
    rintro e w2 ⟨v, xs, rfl, ⟨hnd, hxs⟩, hrow, hb2⟩
    obtain ⟨A2, c2, rfl⟩ := own_slice' hrow
    have hS2 := hSW.next hb2
    refine hK _ _ (hS2) ?_
    clear hK K hSW
    intro hSW
    try simp only [Act.put, List.setIfInBounds_toArray, List.set_cons_zero, List.set_cons_succ]
    refine hd_sole (by rfl) (fun K hK => ?_) -- 9
    go_simp
    have hb3 : Below w2.heap.size w2 (w2.alloc (.cells #[.slice A2 xs.length c2] 27)) := (Below.refl _ _).alloc (Nat.le_refl _) _
    have hcl : (w2.alloc (.cells #[.slice A2 xs.length c2] 27)).cell? ⟨w2.heap.size, 0, none⟩ = some (.slice A2 xs.length c2) := (Blk.new w2 27 [.slice A2 xs.length c2]).cell 0
    refine hK _ _ (hS2.next hb3) ?_
    clear hK K hSW
    intro hSW
    try simp only [Act.put, List.setIfInBounds_toArray, List.set_cons_zero, List.set_cons_succ]
    refine hd_sole (by rfl) (fun K hK => ?_) -- 10
    go_simp
    refine (join1_any xs _ rfl A2 c2 _ w2.heap.size 1 (Nat.le_trans (nodup_le hnd (fun x hx => (hxs x).1 hx)) hk) _ (by simp) ((Reads.of_own hrow).alloc (Nat.le_refl _) _) hcl (by simp)).mono ?_
    rintro e w4 ⟨A4, c4, rfl, hrow4, hb4⟩
    refine hK _ _ ((hS2.next hb3).next hb4) ?_
    clear hK K hSW
    intro hSW
    try simp only [Act.put, List.setIfInBounds_toArray, List.set_cons_zero, List.set_cons_succ]
    refine hd_pure (v := ?_) (by rfl) (fun W' hS' => ?_) ?_ -- 15
    rotate_left
    · have hB := hS'.a.blk; unfold RoT.cells at hB; rw [HR.out] at hB; have e0 := hB.cell 0; have e1 := hB.cell 1; have k1 := (hS'.a.has t HR.out).b.cell 1; simp only [tbP, List.getElem?_cons_zero, List.getElem?_cons_succ] at e0 e1 k1; clear hB; (go_simp; first | with_reducible rfl | rfl)
    try simp only [Act.put, List.setIfInBounds_toArray, List.set_cons_zero, List.set_cons_succ]
    refine hd_pure (v := ?_) (by rfl) (fun W' hS' => ?_) ?_ -- 16
    rotate_left
    · have hB := hS'.a.blk; unfold RoT.cells at hB; rw [HR.out] at hB; have e0 := hB.cell 0; have e1 := hB.cell 1; have k1 := (hS'.a.has t HR.out).b.cell 1; simp only [tbP, List.getElem?_cons_zero, List.getElem?_cons_succ] at e0 e1 k1; clear hB; (go_simp; first | with_reducible rfl | rfl)
    try simp only [Act.put, List.setIfInBounds_toArray, List.set_cons_zero, List.set_cons_succ]
    refine hd_pure (v := ?_) (by rfl) (fun W' hS' => ?_) ?_ -- 17
    rotate_left
    · have hB := hS'.a.blk; unfold RoT.cells at hB; rw [HR.out] at hB; have e0 := hB.cell 0; have e1 := hB.cell 1; have k1 := (hS'.a.has t HR.out).b.cell 1; simp only [tbP, List.getElem?_cons_zero, List.getElem?_cons_succ] at e0 e1 k1; clear hB; (go_simp; first | with_reducible rfl | rfl)
    try simp only [Act.put, List.setIfInBounds_toArray, List.set_cons_zero, List.set_cons_succ]
    refine hd_nil ?_
    have hfin := hSW.f; have hbs := hS2.f.size; rw [rowOf_congr hxs] at hrow4 ⊢; clear hSW
    refine wpList_nil (NoPanic.normal ?_)
    go_wp2_with fail
    refine bodyPost_ret (v := .tuple #[.slice A4 (rowOf t.ks).length c4, .int .u32 r.sn.toNat, .bool true]) (by simp [results, Tryz.results12, go_sem]) rfl ?_
    exact ⟨A4, c4, rfl, own_base_mono hrow4 (by simp; omega), hfin⟩
end Go.Proofs.YtmoldmnhijcckaaGreat
/- lanyardlaw27.ten, bytes; a slice literal of three structs. -/
set_option linter.unusedVariables false
set_option linter.unusedSectionVars false
set_option linter.unusedSimpArgs false
namespace Go.Proofs.YtmoldmnhijcckaaGreat
open Go.RowKit
theorem fold_setO (o : Nat) : ∀ (l : List Value) (j : Nat) (pre mid post : List Value), mid.length = l.length → pre.length = o + j → (l.zipIdx j).foldl (fun cs x => cs.setIfInBounds (o + x.snd) x.fst) (pre ++ (mid ++ post)).toArray = (pre ++ (l ++ post)).toArray
  | [], j, pre, mid, post, hm, hp => by rw [List.eq_nil_of_length_eq_zero hm]; rfl
  | v :: l, j, pre, m :: mid, post, hm, hp => by
    rw [List.zipIdx_cons, List.foldl_cons]
    have e : (pre ++ (m :: mid ++ post)).toArray.setIfInBounds (o + j) v = ((pre ++ [v]) ++ (mid ++ post)).toArray := by
      rw [List.setIfInBounds_toArray, ← hp, List.set_append_right _ _ (Nat.le_refl _), Nat.sub_self]
      simp
    rw [e, fold_setO o l (j + 1) (pre ++ [v]) mid post (by simpa using hm) (by simp; omega)]
    simp
theorem fold_setA (o : Nat) (l pre mid post : List Value) (hm : mid.length = l.length) (hp : pre.length = o) : Array.foldl (fun (cs : Array Value) (x : Value × Nat) => cs.setIfInBounds (o + x.snd) x.fst) (pre ++ (mid ++ post)).toArray l.toArray.zipIdx = (pre ++ (l ++ post)).toArray := by
  have h := fold_setO o l 0 pre mid post hm hp
  rw [← Array.foldl_toList]
  have e : l.toArray.zipIdx.toList = l.zipIdx := by simp
  rw [e]
  exact h
theorem fill3 (s : Nat) (Z : Array Value) (hZ : Z.size = 3 * s) (a b c : List Value) (ha : a.length = s) (hb : b.length = s) (hc : c.length = s) :
    Instr.fill (fun i => some (i * s, s)) Z [(0, .agg a.toArray), (1, .agg b.toArray), (2, .agg c.toArray)] = some (a ++ (b ++ c)).toArray := by
  obtain ⟨z1, z2, z3, rfl, h1, h2, h3⟩ : ∃ z1 z2 z3 : List Value, Z = (z1 ++ (z2 ++ z3)).toArray ∧ z1.length = s ∧ z2.length = s ∧ z3.length = s := by
    refine ⟨Z.toList.take s, (Z.toList.drop s).take s, (Z.toList.drop s).drop s, ?_, ?_, ?_, ?_⟩
    · rw [List.take_append_drop, List.take_append_drop]
    · simp; omega
    · simp; omega
    · simp; omega
  have e1 := fold_setA 0 a [] z1 (z2 ++ z3) (by omega) rfl
  have e2 := fold_setA s b a z2 z3 (by omega) (by omega)
  have e3 := fold_setA (2 * s) c (a ++ b) z3 [] (by omega) (by simp; omega)
  simp only [Nat.zero_add, List.nil_append, List.append_nil] at e1 e2 e3
  rw [List.append_assoc, List.append_assoc] at e3
  simp only [Instr.fill, Value.cells, List.size_toArray, List.length_append, Nat.zero_mul, Nat.one_mul, ha, hb, hc, h1, h2, h3, Nat.zero_add]
  rw [e1]
  simp only [List.size_toArray, List.length_append, ha, hb, hc, h1, h2, h3]
  rw [e2]
  simp only [List.size_toArray, List.length_append, ha, hb, hc, h1, h2, h3]
  rw [e3]
  simp
  omega
theorem wpList_build3 {P : Program} {ops : Array Oper} {rest : List Oper} {o : Oper} {a : Act} {w : World} {Q : Exit → Act → World → Prop} (hg : o.guard = none) (t e : TypeId) (x y z : Operand) (ho : o.op = .buildSlice t 3 #[(0, x), (1, y), (2, z)]) (cx cy cz : List Value) (n : Nat) (hx : a.eval x = .agg cx.toArray) (hy : a.eval y = .agg cy.toArray) (hz : a.eval z = .agg cz.toArray)
    (lx : cx.length = n) (ly : cy.length = n) (lz : cz.length = n) (hu : P.underlying t = some (.slice e)) (hie : (P.info? e).map (·.size) = some n) (hzz : ((P.info? e).bind (·.zero)).isSome = true) (hp : 0 < n) (hsm : n ≤ 1000)
    (h : wpList P ops Q rest (a.put o.dst (.slice (some ⟨w.heap.size, 0, none⟩) 3 3)) (w.alloc (.cells (cx ++ (cy ++ cz)).toArray e))) : wpList P ops Q (o :: rest) a w := by
  cases hq : P.info? e with
  | none => simp [hq] at hie
  | some ie =>
    simp only [hq, Option.map_some, Option.some.injEq, Option.bind_some] at hie hzz
    obtain ⟨zz, hzz⟩ := Option.isSome_iff_exists.1 hzz
    refine wpList_buildSlice hg t e 3 _ ho _ ie zz hu hq hzz (by rw [hie]; omega) (by rw [hie]; omega) ?_ h
    simp only [List.map_toArray, List.map_cons, List.map_nil, hx, hy, hz, hie]
    exact fill3 n _ (by simp) cx cy cz lx ly lz
set_option maxRecDepth 100000 in
set_option maxHeartbeats 1000000 in
theorem ten27_any (w : World) : Calls Tryz.prog 33 #[.int .u32 1] w fun e w' => e = .returned (.agg tenV.cells.toArray) ∧ Below w.heap.size w w' := by
  have hz0 : Blk (w.alloc (.cells zV.toArray 67)) w.heap.size 67 zV := Blk.new _ _ _
  have hb0 : Below w.heap.size w ((w.alloc (.cells zV.toArray 67)).setCells w.heap.size 0 tenV.cells) := Below.setCells (Nat.le_refl _) _ _ ((Below.refl _ _).alloc (Nat.le_refl _) _)
  have hz1 := hz0.setCells_all (vs := tenV.cells) (Vrp.cells_length _)
  go_enter Tryz.func33, Tryz.ntmps33
  go_wp2_with (refine wpList_store_at rfl 67 _ _ rfl w.heap.size 0 20 67 tenV.cells zV rfl rfl hz0 (Vrp.cells_length _) (by decide) info_vrp1 (Vrp.one _) ?_)
  exact bodyPost_ret (results_cell1 rfl _ w.heap.size 0 20 tenV.cells _ rfl hz1.range (Vrp.cells_length _) Tryz.underlying67 rfl info_vrp1) rfl ⟨rfl, hb0⟩
def wrAll (ps : List Pdu) : List UInt8 := ps.flatMap wrD
theorem wrAll_succ (ps : List Pdu) (k : Nat) (hk : k < ps.length) : wrAll (ps.take (k + 1)) = wrAll (ps.take k) ++ wrD ps[k] := by
  unfold wrAll
  rw [List.take_succ_eq_append_getElem hk, List.flatMap_append]
  simp
theorem wrAll_len (ps : List Pdu) : (wrAll ps).length ≤ 232 * ps.length := by
  unfold wrAll
  induction ps with
  | nil => simp
  | cons p ps ih =>
    have := wrD_len p
    rw [List.flatMap_cons, List.length_append, List.length_cons]
    omega
set_option maxRecDepth 100000 in
set_option maxHeartbeats 4000000 in
theorem bytes27_any (ps : List Pdu) (n : Nat) (hn : ps.length = n) (hn6 : n ≤ 1000) (A : Option Addr) (c B : Nat) (w : World) (hB : B ≤ w.heap.size) (hr : Reads w B 26 A n (ps.flatMap Pdu.cells)) :
    Calls Tryz.prog 32 #[.slice A n c] w fun e w' => ∃ A' c', e = .returned (.slice A' (wrAll ps).length c') ∧ w'.ownsRow w.heap.size 5 1 (.slice A' (wrAll ps).length c') (wrAll ps).length ((wrAll ps).map bv) ∧ Below w.heap.size w w' := by
  subst hn
  obtain ⟨i0, hi0, hz0, hz1, hz2⟩ := info_parts info5b
  go_enter Tryz.func32, Tryz.ntmps32
  go_wp2_with fail
  go_loopw [3, 4] (fun v i W => ∃ k : Nat, k ≤ ps.length ∧ i = .int .i64 k ∧ W.ownsRow w.heap.size 5 1 v (wrAll (ps.take k)).length ((wrAll (ps.take k)).map bv) ∧ Below w.heap.size w W) (fun _ i _ => ps.length - (intOf i).toNat)
  case atStart => exact ⟨0, Nat.zero_le _, rfl, World.ownsRow_nil _ _ _ _, Below.refl _ _⟩
  case round =>
    obtain ⟨k, hk, rfl, ho, hlo⟩ := hrel
    by_cases hlt : k < ps.length
    · have hk0 : (0 : Int) ≤ (k : Int) := by omega
      have hk1 : (k : Int) < (ps.length : Int) := by omega
      obtain ⟨ad, rfl, _, _⟩ := hr.2 (by omega)
      have hat : AtAdr wr (ad.add (k * 26)) ps[k].cells := (hr.below hlo hB).elem Pdu.cells_length hlt rfl
      have HT := Lib.hid (wrAll_succ ps k hlt)
      have hl1 := wrAll_len (ps.take k)
      have hl2 : (ps.take k).length ≤ 1000 := by rw [List.length_take]; omega
      have hl3 := wrD_len ps[k]
      obtain ⟨Av, cv, rfl⟩ := own_slice' ho
      generalize ps[k] = p at hat HT hl3
      go_wp2_with (refine wpList_load_adr (by rfl) 69 _ rfl (ad.add (k * 26)) 26 (by rfl) _ _ hat (Pdu.cells_length _) Tryz.underlying69 rfl info_pdu ?_)
      refine (write_d p wr).mono ?_
      rintro e w2 ⟨A2, c2, x2, rfl, hrd, hb2⟩
      replace ho := own_below ho hb2
      replace hlo := below_then hlo (Nat.le_refl _) hb2
      clear hat hb2
      go_wp2_with (at_builtin; go_must (refine wpList_append_any _ rfl _ _ 29 rfl w.heap.size 5 i0 _ 1 1 Tryz.underlying29 hi0 hz0 hz1 hz2 rfl (by omega) _ _ _ rfl ho _ A2 (wrD p).length c2 _ rfl hrd (bv_one _) (by simp only [maxLen]; omega) (by omega) hlo.size ?_; intro v4 w4 ho4 hg4 _; rw [← List.map_append, ← List.length_append, ← HT.out] at ho4; have hb4 := hlo.grown hg4 hlo.size (fun k hk => (own_base_le ho k hk).1); clear hg4))
      go_roundw
      case rel => exact ⟨k + 1, by omega, by go_num, ho4, hb4⟩
      case measure => simp [intOf]; omega
    · have hkk : k = ps.length := by omega
      subst hkk
      rw [List.take_length] at ho
      obtain ⟨Av, cv, rfl⟩ := own_slice' ho
      go_wp2_with fail
      go_ret
      exact ⟨Av, cv, rfl, ho, hlo⟩
end Go.Proofs.YtmoldmnhijcckaaGreat
