/- The contract of lanyardref21's Only. -/
import Derived.Test.YtmoldmnhijcckaaDoorG21
set_option linter.unusedVariables false
set_option linter.unusedSectionVars false
set_option linter.unusedSimpArgs false
namespace Go.Proofs.YtmoldmnhijcckaaDoor
open Go.RowKit
theorem onlyF_snoc (es : List Blb) (ks : List ByteArray) (k : Nat) (h : k < ks.length) : onlyF es (ks.take (k + 1)) = onlyF es (ks.take k) ++ (match getK es ks[k] with | some bs => [(ks[k], bs)] | none => []) := by
  unfold onlyF
  rw [List.take_succ_eq_append_getElem h, List.filterMap_append]
  congr 1
  simp only [List.filterMap_cons, List.filterMap_nil]
  cases getK es ks[k] <;> rfl
theorem OS.next {w W W' : World} {es : List Blb} {ks : List ByteArray} {k : Nat} {v : Value} {ys : List Blb} (h : OS w es ks k v ys W) (hb : Below W.heap.size W W') : OS w es ks k v ys W' := ⟨own_below h.o hb, fun y hy => ⟨own_below (h.b y hy).1 hb, (h.b y hy).2⟩, below_then h.lo (Nat.le_refl _) hb, h.e, h.l⟩
theorem OS.drew {w W : World} {es : List Blb} {ks : List ByteArray} {k : Nat} {v : Value} {ys : List Blb} (h : OS w es ks k v ys W) : OS w es ks k v ys W.drew := ⟨h.o, h.b, h.lo.drew, h.e, h.l⟩
set_option maxRecDepth 100000 in
set_option maxHeartbeats 4000000 in
theorem only21_any (w : World) (g : Nat) (ls : List Blb) (ks : List ByteArray) (h : R21 w g ls ks) (hl : ls.length ≤ 1000000) (hk : ks.length ≤ 1000000) :
    Calls Tryd.prog 27 #[.pointer (some ⟨g, 0, none⟩)] w fun e w' => ∃ (A : Option Addr) (c : Nat) (ys : List Blb), e = .returned (.slice A ys.length c) ∧ w'.ownsRow w.heap.size 27 2 (.slice A ys.length c) ys.length (ys.flatMap Blb.cells) ∧ (∀ y ∈ ys, OwnB w' w.heap.size y) ∧ ys.map (fun y => (y.u, y.bs)) = onlyF ls ks ∧ Below w.heap.size w w' := by
  obtain ⟨v, a, hB, hv, ha⟩ := h.blk
  obtain ⟨AL, cL, rfl⟩ := own_slice' hv
  obtain ⟨Aa, ca, rfl⟩ := own_slice' ha
  obtain ⟨ib, hib, hbz0, hbz1, hbz2⟩ := info_parts info_blbO
  obtain ⟨iu, hiu, huz0, huz1, huz2⟩ := info_parts info5b
  have hS : OS w ls ks 0 (.slice none 0 0) [] w := ⟨World.ownsRow_nil _ _ _ _, fun y hy => by simp at hy, Below.refl _ _, rfl, by simp⟩
  have hcg : ∀ W, Below w.heap.size w W → W.cell? ⟨g, 0, none⟩ = some (.slice AL ls.length cL) ∧ W.cell? ⟨g, 1, none⟩ = some (.slice Aa ks.length ca) := fun W hW => ⟨(hW.cell (p := ⟨g, 0, none⟩) hB.lt).trans (hB.cell 0), (hW.cell (p := ⟨g, 1, none⟩) hB.lt).trans (hB.cell 1)⟩
  go_enter Tryd.func27, Tryd.ntmps27
  go_wp2_with fail
  go_loopw [3, 4, 5] (fun v3 i v5 wr => ∃ (k : Nat) (ys : List Blb), k ≤ ks.length ∧ i = .int .i64 k ∧ OS w ls ks k v3 ys wr) (fun _ i _ _ => ks.length - (intOf i).toNat)
  case atStart => exact ⟨0, [], by omega, rfl, hS⟩
  case round =>
    clear hS
    obtain ⟨k, ys, hkk, rfl, hS⟩ := hrel
    obtain ⟨cg0, cg1⟩ := hcg _ hS.lo
    by_cases hlt : k < ks.length
    · have hk0 : (0 : Int) ≤ (k : Int) := by omega
      have hk1 : (k : Int) < (ks.length : Int) := by omega
      obtain ⟨gg, rfl, _, hcl⟩ := own_at (own_below ha hS.lo) (by omega)
      have c1 : wr.cell? ⟨gg, k, none⟩ = some (.string ks[k]) := hcl k _ (by simp [hlt])
      have HT := Lib.hid (onlyF_snoc ls ks k hlt)
      generalize ks[k] = u at c1 HT
      clear hcl
      go_wp2_with fail
      refine (at21_any u wr g ls ks (h.next hS.lo) hl).mono ?_
      rintro e w2 ⟨hpost, rfl⟩
      rcases hpost with ⟨i, hi, rfl, hiu', hno⟩ | ⟨rfl, hno⟩
      · have HX := Lib.hid (show onlyF ls (ks.take (k + 1)) = onlyF ls (ks.take k) ++ [(ls[i].u, ls[i].bs)] by rw [HT.out, getK_at hi hiu' hno, hiu'])
        have hrL : ∀ W, Below w.heap.size w W → Reads W w.heap.size 2 AL ls.length (ls.flatMap Blb.cells) := fun W hW => (Reads.of_own hv).below hW (Nat.le_refl _)
        obtain ⟨ad, rfl, _, _⟩ := (hrL _ hS.lo).2 (by omega)
        have hat : ∀ W, Below w.heap.size w W → AtAdr W (ad.add (i * 2)) ls[i].cells := fun W hW => (hrL W hW).elem Blb.len hi rfl
        have hxr : ∀ W, Below w.heap.size w W → Reads W w.heap.size 1 ls[i].A ls[i].bs.length (ls[i].bs.map bv) := fun W hW => (Reads.of_own (h.rd ls[i] (List.getElem_mem hi)).1).below hW (Nat.le_refl _)
        have hxl := (h.rd ls[i] (List.getElem_mem hi)).2
        generalize ls[i] = x at hat hxr hxl HX hiu'
        have hi0 : (0 : Int) ≤ (i : Int) := by omega
        have hi1 : (i : Int) < (ls.length : Int) := by omega
        have d0 : decide ((0 : Int) ≤ (i : Int)) = true := decide_eq_true hi0
        clear hno hiu' c1 cg0 cg1 HT hrL
        go_upto_region 7 with fail
        refine reg_sch2 21 [(true, 0), (true, 1), (true, 2), (true, 3), (true, 4), (true, 5), (true, 6), (true, 7), (true, 8), (true, 10), (true, 11), (true, 12), (true, 13), (true, 14), (true, 15), (true, 16), (true, 17), (false, 9), (false, 18), (true, 19), (false, 20)] (by kernel_rfl) (by kernel_rfl) (OS w ls ks k u3 ys) (OS w ls ks k u3 ys) ?_ ?_ ?_
        · exact hS.drew
        · exact fun _ h => h
        intro W hSW
        simp only [List.map_cons, List.map_nil, List.getD_cons_zero, List.getD_cons_succ, List.drop_succ_cons, List.drop_zero]
        refine hd_pure (v := ?_) (by rfl) (fun W' hS' => ?_) ?_ -- 0
        rotate_left
        · have c0 := hat _ hS'.lo 0 _ rfl; have c1 := hat _ hS'.lo 1 _ rfl; have cg := (hcg _ hS'.lo).1; rw [add_nil'] at c0; rw [add_pos _ (by decide)] at c1; clear hS'; (go_simp; first | with_reducible rfl | rfl)
        try simp only [Act.put, List.setIfInBounds_toArray, List.set_cons_zero, List.set_cons_succ]
        refine hd_pure (v := ?_) (by rfl) (fun W' hS' => ?_) ?_ -- 1
        rotate_left
        · have c0 := hat _ hS'.lo 0 _ rfl; have c1 := hat _ hS'.lo 1 _ rfl; have cg := (hcg _ hS'.lo).1; rw [add_nil'] at c0; rw [add_pos _ (by decide)] at c1; clear hS'; (go_simp; first | with_reducible rfl | rfl)
        try simp only [Act.put, List.setIfInBounds_toArray, List.set_cons_zero, List.set_cons_succ]
        refine hd_pure (v := ?_) (by rfl) (fun W' hS' => ?_) ?_ -- 2
        rotate_left
        · have c0 := hat _ hS'.lo 0 _ rfl; have c1 := hat _ hS'.lo 1 _ rfl; have cg := (hcg _ hS'.lo).1; rw [add_nil'] at c0; rw [add_pos _ (by decide)] at c1; clear hS'; (go_simp; first | with_reducible rfl | rfl)
        try simp only [Act.put, List.setIfInBounds_toArray, List.set_cons_zero, List.set_cons_succ]
        refine hd_pure (v := ?_) (by rfl) (fun W' hS' => ?_) ?_ -- 3
        rotate_left
        · have c0 := hat _ hS'.lo 0 _ rfl; have c1 := hat _ hS'.lo 1 _ rfl; have cg := (hcg _ hS'.lo).1; rw [add_nil'] at c0; rw [add_pos _ (by decide)] at c1; clear hS'; (go_simp; first | with_reducible rfl | rfl)
        try simp only [Act.put, List.setIfInBounds_toArray, List.set_cons_zero, List.set_cons_succ]
        refine hd_pure (v := ?_) (by rfl) (fun W' hS' => ?_) ?_ -- 4
        rotate_left
        · have c0 := hat _ hS'.lo 0 _ rfl; have c1 := hat _ hS'.lo 1 _ rfl; have cg := (hcg _ hS'.lo).1; rw [add_nil'] at c0; rw [add_pos _ (by decide)] at c1; clear hS'; (go_simp; first | with_reducible rfl | rfl)
        try simp only [Act.put, List.setIfInBounds_toArray, List.set_cons_zero, List.set_cons_succ]
        refine hd_pure (v := ?_) (by rfl) (fun W' hS' => ?_) ?_ -- 5
        rotate_left
        · have c0 := hat _ hS'.lo 0 _ rfl; have c1 := hat _ hS'.lo 1 _ rfl; have cg := (hcg _ hS'.lo).1; rw [add_nil'] at c0; rw [add_pos _ (by decide)] at c1; clear hS'; (go_simp; first | with_reducible rfl | rfl)
        try simp only [Act.put, List.setIfInBounds_toArray, List.set_cons_zero, List.set_cons_succ]
        refine hd_pure (v := ?_) (by rfl) (fun W' hS' => ?_) ?_ -- 6
        rotate_left
        · have c0 := hat _ hS'.lo 0 _ rfl; have c1 := hat _ hS'.lo 1 _ rfl; have cg := (hcg _ hS'.lo).1; rw [add_nil'] at c0; rw [add_pos _ (by decide)] at c1; clear hS'; (go_simp; first | with_reducible rfl | rfl)
        try simp only [Act.put, List.setIfInBounds_toArray, List.set_cons_zero, List.set_cons_succ]
        refine hd_pure (v := ?_) (by rfl) (fun W' hS' => ?_) ?_ -- 7
        rotate_left
        · have c0 := hat _ hS'.lo 0 _ rfl; have c1 := hat _ hS'.lo 1 _ rfl; have cg := (hcg _ hS'.lo).1; rw [add_nil'] at c0; rw [add_pos _ (by decide)] at c1; clear hS'; (go_simp; first | with_reducible rfl | rfl)
        try simp only [Act.put, List.setIfInBounds_toArray, List.set_cons_zero, List.set_cons_succ]
        refine hd_pure (v := ?_) (by rfl) (fun W' hS' => ?_) ?_ -- 8
        rotate_left
        · have c0 := hat _ hS'.lo 0 _ rfl; have c1 := hat _ hS'.lo 1 _ rfl; have cg := (hcg _ hS'.lo).1; rw [add_nil'] at c0; rw [add_pos _ (by decide)] at c1; clear hS'; (go_simp; first | with_reducible rfl | rfl)
        try simp only [Act.put, List.setIfInBounds_toArray, List.set_cons_zero, List.set_cons_succ]
        refine hd_pure (v := ?_) (by rfl) (fun W' hS' => ?_) ?_ -- 10
        rotate_left
        · have c0 := hat _ hS'.lo 0 _ rfl; have c1 := hat _ hS'.lo 1 _ rfl; have cg := (hcg _ hS'.lo).1; rw [add_nil'] at c0; rw [add_pos _ (by decide)] at c1; clear hS'; (go_simp; first | with_reducible rfl | rfl)
        try simp only [Act.put, List.setIfInBounds_toArray, List.set_cons_zero, List.set_cons_succ]
        refine hd_pure (v := ?_) (by rfl) (fun W' hS' => ?_) ?_ -- 11
        rotate_left
        · have c0 := hat _ hS'.lo 0 _ rfl; have c1 := hat _ hS'.lo 1 _ rfl; have cg := (hcg _ hS'.lo).1; rw [add_nil'] at c0; rw [add_pos _ (by decide)] at c1; clear hS'; (go_simp; first | with_reducible rfl | rfl)
        try simp only [Act.put, List.setIfInBounds_toArray, List.set_cons_zero, List.set_cons_succ]
        refine hd_pure (v := ?_) (by rfl) (fun W' hS' => ?_) ?_ -- 12
        rotate_left
        · have c0 := hat _ hS'.lo 0 _ rfl; have c1 := hat _ hS'.lo 1 _ rfl; have cg := (hcg _ hS'.lo).1; rw [add_nil'] at c0; rw [add_pos _ (by decide)] at c1; clear hS'; (go_simp; first | with_reducible rfl | rfl)
        try simp only [Act.put, List.setIfInBounds_toArray, List.set_cons_zero, List.set_cons_succ]
        refine hd_pure (v := ?_) (by rfl) (fun W' hS' => ?_) ?_ -- 13
        rotate_left
        · have c0 := hat _ hS'.lo 0 _ rfl; have c1 := hat _ hS'.lo 1 _ rfl; have cg := (hcg _ hS'.lo).1; rw [add_nil'] at c0; rw [add_pos _ (by decide)] at c1; clear hS'; (go_simp; first | with_reducible rfl | rfl)
        try simp only [Act.put, List.setIfInBounds_toArray, List.set_cons_zero, List.set_cons_succ]
        refine hd_pure (v := ?_) (by rfl) (fun W' hS' => ?_) ?_ -- 14
        rotate_left
        · have c0 := hat _ hS'.lo 0 _ rfl; have c1 := hat _ hS'.lo 1 _ rfl; have cg := (hcg _ hS'.lo).1; rw [add_nil'] at c0; rw [add_pos _ (by decide)] at c1; clear hS'; (go_simp; first | with_reducible rfl | rfl)
        try simp only [Act.put, List.setIfInBounds_toArray, List.set_cons_zero, List.set_cons_succ]
        refine hd_pure (v := ?_) (by rfl) (fun W' hS' => ?_) ?_ -- 15
        rotate_left
        · have c0 := hat _ hS'.lo 0 _ rfl; have c1 := hat _ hS'.lo 1 _ rfl; have cg := (hcg _ hS'.lo).1; rw [add_nil'] at c0; rw [add_pos _ (by decide)] at c1; clear hS'; (go_simp; first | with_reducible rfl | rfl)
        try simp only [Act.put, List.setIfInBounds_toArray, List.set_cons_zero, List.set_cons_succ]
        refine hd_pure (v := ?_) (by rfl) (fun W' hS' => ?_) ?_ -- 16
        rotate_left
        · have c0 := hat _ hS'.lo 0 _ rfl; have c1 := hat _ hS'.lo 1 _ rfl; have cg := (hcg _ hS'.lo).1; rw [add_nil'] at c0; rw [add_pos _ (by decide)] at c1; clear hS'; (go_simp; first | with_reducible rfl | rfl)
        try simp only [Act.put, List.setIfInBounds_toArray, List.set_cons_zero, List.set_cons_succ]
        refine hd_pure (v := ?_) (by rfl) (fun W' hS' => ?_) ?_ -- 17
        rotate_left
        · have c0 := hat _ hS'.lo 0 _ rfl; have c1 := hat _ hS'.lo 1 _ rfl; have cg := (hcg _ hS'.lo).1; rw [add_nil'] at c0; rw [add_pos _ (by decide)] at c1; clear hS'; (go_simp; first | with_reducible rfl | rfl)
        try simp only [Act.put, List.setIfInBounds_toArray, List.set_cons_zero, List.set_cons_succ]
        refine hd_sole (by rfl) (fun K hK => ?_) -- 9
        go_simp
        refine hK _ _ (hSW.next ((Below.refl _ _).alloc (Nat.le_refl _) _)) ?_
        clear hK K
        intro hSW9
        try simp only [Act.put, List.setIfInBounds_toArray, List.set_cons_zero, List.set_cons_succ]
        refine hd_sole (by rfl) (fun K hK => ?_) -- 18
        refine wp_append_any _ _ _ 25 rfl W.heap.size 5 iu _ 1 1 Tryd.underlying25 hiu huz0 huz1 huz2 rfl (by omega) _ 0 _ rfl (own_lit0 W W.heap.size 5 1 (Nat.le_refl _)) w.heap.size x.A x.bs.length x.c _ rfl (hxr _ hSW9.lo) (bv_one _) (by simp only [maxLen]; omega) (by omega) (by rw [World.size_alloc]; omega) ?_
        intro v4 w4 ho4 hg4 _
        rw [Nat.zero_add, List.nil_append] at ho4
        obtain ⟨A4, c4, rfl⟩ := own_slice' ho4
        have hb12 : Below W.heap.size W w4 := Below.grown ((Below.refl _ _).alloc (Nat.le_refl _) _) hg4 (by rw [World.size_alloc]; omega) (fun k hk => (own_base_le (own_lit0 W W.heap.size 5 1 (Nat.le_refl _)) k hk).1)
        refine hK _ _ (hSW.next hb12) ?_
        clear hK K
        intro hSW18
        try simp only [Act.put, List.setIfInBounds_toArray, List.set_cons_zero, List.set_cons_succ]
        refine hd_pure (v := ?_) (by rfl) (fun W' hS' => ?_) ?_ -- 19
        rotate_left
        · have c0 := hat _ hS'.lo 0 _ rfl; have c1 := hat _ hS'.lo 1 _ rfl; have cg := (hcg _ hS'.lo).1; rw [add_nil'] at c0; rw [add_pos _ (by decide)] at c1; clear hS'; (go_simp; first | with_reducible rfl | rfl)
        try simp only [Act.put, List.setIfInBounds_toArray, List.set_cons_zero, List.set_cons_succ]
        refine hd_sole (by rfl) (fun K hK => ?_) -- 20
        refine wp_build1 22 27 _ rfl (Blb.cells ⟨x.u, A4, c4, x.bs⟩) 2 rfl rfl Tryd.underlying22 (by kernel_rfl) (by kernel_rfl) (by omega) (by omega) ?_
        refine hK _ _ (hSW18.next ((Below.refl _ _).alloc (Nat.le_refl _) _)) ?_
        clear hK K
        intro hSW20
        try simp only [Act.put, List.setIfInBounds_toArray, List.set_cons_zero, List.set_cons_succ]
        refine hd_nil ?_
        have hWs := hSW.lo.size; have hw4 := hSW18.lo.size; have hyl := hS.l
        go_wp2_with (at_builtin; refine wpList_append_any _ rfl _ _ 22 rfl w.heap.size 27 ib _ 2 40 Tryd.underlying22 hib hbz0 hbz1 hbz2 rfl (by omega) _ ys.length _ rfl hSW20.o (w4.heap.size + 1) (some ⟨w4.heap.size, 0, none⟩) 1 1 _ rfl (reads_blkO (Blk.new w4 _ (Blb.cells ⟨x.u, A4, c4, x.bs⟩)) rfl) (Blb.one ⟨x.u, A4, c4, x.bs⟩) (by simp only [maxLen]; omega) (by omega) (by rw [World.size_alloc]; omega) ?_; intro v7 w7 ho7 hg7 _)
        refine NoPanic.normal ?_
        have hS7 : OS w ls ks (k + 1) v7 (ys ++ [⟨x.u, A4, c4, x.bs⟩]) w7 := by
          refine ⟨by rw [List.length_append, List.flatMap_append]; simpa using ho7, fun y hy => ?_, Below.grown hSW20.lo hg7 (by rw [World.size_alloc]; omega) (fun k hk => (own_base_le hSW20.o k hk).1), by rw [HX.out, List.map_append, hS.e]; rfl, by simp; omega⟩
          rcases List.mem_append.1 hy with hy | hy
          · exact ⟨own_grown (hSW20.b y hy).1 hg7 (fun k hk => own_own_ne (hSW20.b y hy).1 hSW20.o (by decide) k hk), (hSW20.b y hy).2⟩
          · obtain rfl := List.mem_singleton.1 hy
            have h1 := own_below (own_base_mono ho4 hWs) ((Below.refl w4.heap.size w4).alloc (Nat.le_refl _) (.cells (Blb.cells ⟨x.u, A4, c4, x.bs⟩).toArray 27))
            exact ⟨own_grown h1 hg7 (fun k hk => own_own_ne h1 hSW20.o (by decide) k hk), hxl⟩
        clear hSW hSW9 hSW18 hSW20 ho4 hg4 hb12 ho7 hg7 hS hat hxr
        go_wp2_with fail
        go_roundw
        case rel => exact ⟨k + 1, _, by omega, by go_num, hS7⟩
        case measure => simp [intOf]; omega
      · have HX := Lib.hid (show onlyF ls (ks.take (k + 1)) = onlyF ls (ks.take k) by rw [HT.out, getK_no hno]; simp)
        clear hno HT c1
        go_wp2_with fail
        go_roundw
        case rel => exact ⟨k + 1, ys, by omega, by go_num, hS.o, hS.b, hS.lo, by rw [HX.out]; exact hS.e, by have := hS.l; omega⟩
        case measure => simp [intOf]; omega
    · have hkk' : k = ks.length := by omega
      subst hkk'
      obtain ⟨A3, c3, rfl⟩ := own_slice' hS.o
      go_wp2_with fail
      go_ret
      exact ⟨A3, c3, ys, rfl, hS.o, hS.b, by rw [hS.e, List.take_length], hS.lo⟩
end Go.Proofs.YtmoldmnhijcckaaDoor
