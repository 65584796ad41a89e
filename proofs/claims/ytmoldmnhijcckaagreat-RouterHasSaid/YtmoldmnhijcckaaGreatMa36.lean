/- session.Update ahead of any router: the walk. -/
import Derived.Test.YtmoldmnhijcckaaGreatMa35
set_option linter.unusedVariables false
set_option linter.unusedSectionVars false
set_option linter.unusedSimpArgs false
namespace Go.Proofs.YtmoldmnhijcckaaGreat
open Go.RowKit
/-- The rest of a row of sets. -/
theorem tail_set (A : Option Addr) (c n : Nat) (h1 : 1 ≤ n) (hc : n ≤ c) : ∃ A2 : Option Addr, (∀ W, (Instr.sliceAt 90 (.slice A n c) (some (.int .i64 1)) none none).run Tryz.prog W = .ok (.slice A2 (n - 1) (c - 1)) W) ∧
    ∀ (W : World) (B : Nat) (ts : List SetV), ts.length = n → Reads W B 2 A n (ts.flatMap SetV.cells) → Reads W B 2 A2 (n - 1) ((ts.drop 1).flatMap SetV.cells) := by
  have ht : Tryz.prog.underlying 90 = some (.slice (Tryz.prog.elem 90)) := by kernel_rfl
  have he : Tryz.prog.elem 90 = 100 := by kernel_rfl
  refine ⟨(if c = 1 then A else A.map (·.add (1 * 2))), fun W => ?_, fun W B ts hl h => ?_⟩
  · rw [run_sliceAt_slice _ _ _ _ _ _ ht, run_slice_l _ _ _ _ _ ht _ _ (by omega) (by omega), he, Tryz.sizeOf100]
    simp [Result.andThen, sliced]
  · have h2 := h.cut (k := 1) (cap := c) h1 hc
    have e : ((ts.flatMap SetV.cells).drop (1 * 2)) = (ts.drop 1).flatMap SetV.cells := by
      cases ts with
      | nil => rfl
      | cons s r => rfl
    rw [e] at h2
    exact h2
theorem absS_len (ss : List SetV) : (absS ss).length = ss.length := by unfold absS; simp
/-- Ahead of the change: the new row, the serial gone up. -/
structure UQ (w : World) (lo g b : Nat) (sess : Int) (sn : UInt32) (v : Value) (ss : List SetV) (f : Int → Option Lf) (many : Int) (x : SetV) (W : World) : Prop where
  c : CA W lo g b sess sn v ss f many
  x : W.ownsRow lo 67 20 (.slice x.A x.l.length x.c) x.l.length (x.l.flatMap Vrp.cells)
  lo : LoS lo g w W
theorem UQ.next {w W W' : World} {lo g b : Nat} {sess : Int} {sn : UInt32} {v : Value} {ss : List SetV} {f : Int → Option Lf} {many : Int} {x : SetV} (h : UQ w lo g b sess sn v ss f many x W) (hb : Below W.heap.size W W') : UQ w lo g b sess sn v ss f many x W' :=
  ⟨h.c.next hb, own_below h.x hb, h.lo.then (by have := h.c.l1; have := h.c.l2; have := h.c.blk.lt; omega) hb⟩
theorem UQ.drew {w W : World} {lo g b : Nat} {sess : Int} {sn : UInt32} {v : Value} {ss : List SetV} {f : Int → Option Lf} {many : Int} {x : SetV} (h : UQ w lo g b sess sn v ss f many x W) : UQ w lo g b sess sn v ss f many x W.drew := h.next (Below.refl _ _).drew
theorem UQ.push {w W w7 : World} {lo g b : Nat} {sess : Int} {sn : UInt32} {v v7 : Value} {ss : List SetV} {f : Int → Option Lf} (hf0 : E0 f) {many : Int} {x : SetV} {o : Obj} (h : UQ w lo g b sess sn v ss f many x W) (hg : (W.alloc o).grownBy w7 v.ownBlock)
    (ho : w7.ownsRow lo 100 2 v7 (ss.length + 1) ((ss ++ [x]).flatMap SetV.cells)) : CA (w7.setCell ⟨g, 2, none⟩ v7) lo g b sess sn v7 (ss ++ [x]) f many ∧ LoS lo g w (w7.setCell ⟨g, 2, none⟩ v7) := by
  have hA := h.next ((Below.refl W.heap.size W).alloc (Nat.le_refl _) o)
  have hl1 := h.c.l1
  have hl2 := h.c.l2
  have hk : ∀ {base n : Nat} {u : Value} {ys : List Value}, (W.alloc o).ownsRow base 67 20 u n ys → w7.ownsRow base 67 20 u n ys := fun hu => own_kept hu fun k hk => hg.block k (own_base_le hu k hk).2 (fun e => own_own_ne' hu hA.c.row (by decide) k hk e.symm)
  refine ⟨hA.c.setRow hf0 hg (own_blk_ne hA.c.row hA.c.blk (by decide)) (own_map_ne hA.c.mp hA.c.row) (by rw [List.length_append]; exact ho) (fun s hs => ?_), (hA.lo.row (by have := hA.c.blk.lt; omega) (Nat.le_refl _) hA.c.row hg).setCell (by omega) 2 v7⟩
  rcases List.mem_append.1 hs with hs | hs
  · exact hk (hA.c.sets s hs)
  · obtain rfl := List.mem_singleton.1 hs
    exact hk hA.x
theorem own_setB {w : World} {base n c : Nat} {A : Option Addr} {xs : List Value} (h : w.ownsRow base 100 2 (.slice A n c) n xs) (hn : 0 < n) : ∃ g7, A = some ⟨g7, 0, none⟩ ∧ base ≤ g7 ∧ (∃ cur, Blk w g7 100 cur ∧ n * 2 ≤ cur.length) ∧ n ≤ c := by
  rcases h.2 with ⟨e, hz⟩ | ⟨g, cap, cur, e, hb, hh, q1, q2, q3, q4⟩
  · omega
  · injection e with e1 e2 e3
    subst e3
    exact ⟨g, e1, hb, ⟨cur.toList, hh, by rw [Array.length_toList, q3]; exact Nat.mul_le_mul_right 2 q1⟩, q1⟩
theorem set_tail {W : World} {B g7 n c : Nat} {ts : List SetV} {x : SetV} (h : Reads W B 2 (some ⟨g7, 0, none⟩) (n + 1) ((ts ++ [x]).flatMap SetV.cells)) (hc : n + 1 ≤ c) (h1 : ¬ c = 1) : Reads W B 2 (some ⟨g7, 2, none⟩) n (((ts ++ [x]).drop 1).flatMap SetV.cells) := by
  have h2 := h.cut (k := 1) (cap := c) (by omega) hc
  rw [if_neg h1] at h2
  have e : (((ts ++ [x]).flatMap SetV.cells).drop (1 * 2)) = ((ts ++ [x]).drop 1).flatMap SetV.cells := by
    cases ts with
    | nil => rfl
    | cons s r => rfl
  rw [e] at h2
  exact h2
theorem CA.clear {W : World} {lo g b : Nat} {sess : Int} {serial : UInt32} {v : Value} {ss : List SetV} {f : Int → Option Lf} (hf0 : E0 f) {many : Int} (h : CA W lo g b sess serial v ss f many) {g7 : Nat} {cur vs : List Value} (hB : Blk W g7 100 cur) (hv : v.ownBlock ≠ some g7) : CA (W.setCells g7 0 vs) lo g b sess serial v ss f many := by
  have hk : ∀ k, k ≠ g7 → (W.setCells g7 0 vs).heap[k]? = W.heap[k]? := fun k hk => heap_setCells vs W 0 k hk
  have hgg : g ≠ g7 := h.blk.ne_ hB (by decide)
  have hbg : b ≠ g7 := fun e => by
    obtain ⟨es, m, hh, _⟩ := h.mp
    subst e
    unfold Blk at hB
    rw [hh] at hB
    cases hB
  exact ⟨(hk g hgg).trans h.blk, own_kept h.row fun k hk2 => hk k (fun e => by subst e; exact hv hk2), fun s hs => own_kept (h.sets s hs) fun k hk2 => hk k (fun e => by subst e; exact own_blk_ne (h.sets s hs) hB (by decide) hk2), h.mp.kept (hk b hbg), (fun k x hx => hf0.reads hx _ (h.left k x hx).2), h.l1, h.l2⟩
set_option maxRecDepth 100000 in
set_option maxHeartbeats 8000000 in
theorem updateF_any (xs : List Vrp) (n : Nat) (hn : xs.length = n) (A : Option Addr) (c B : Nat) (hx : n ≤ 400) (w : World) (lo g b : Nat) (sess : Int) (serial : UInt32) (v : Value) (ss : List SetV) (f : Int → Option Lf) (hf0 : E0 f) (many : Int) (h : CA w lo g b sess serial v ss f many) (hss : ss.length ≤ 5) (hs6 : ∀ s ∈ ss, s.l.length ≤ 1000000)
    (hB : B ≤ w.heap.size) (hr : Reads w B 20 A n (xs.flatMap Vrp.cells)) :
    Calls Tryz.prog 19 #[.pointer (some ⟨g, 0, none⟩), .slice A n c] w (UpdPostF w lo g b sess serial v ss f many (rowOf xs)) := by
  have hl1 := h.l1
  have hl2 := h.l2
  have hgw := h.blk.lt
  have hb0 : Below w.heap.size w (w.alloc (.cells #[.slice A n c] 27)) := (Below.refl _ _).alloc (Nat.le_refl _) _
  have hcl : (w.alloc (.cells #[.slice A n c] 27)).cell? ⟨w.heap.size, 0, none⟩ = some (.slice A n c) := (Blk.new w 27 [.slice A n c]).cell 0
  have hsz : w.heap.size < (w.alloc (.cells #[.slice A n c] 27)).heap.size := by rw [World.size_alloc]; omega
  have hrl := rowOf_len xs
  go_enter Tryz.func19, Tryz.ntmps19
  go_wp2_with fail
  refine (join1_any xs n hn A c B w.heap.size 1 (by omega) _ (by omega) (hr.alloc hB _) hcl hsz).mono ?_
  rintro e w1 ⟨A1, c1, rfl, ho1, hb1⟩
  have hb01 : Below w.heap.size w w1 := below_then hb0 (Nat.le_refl _) hb1
  have hC1 := h.next hb01
  replace ho1 := own_base_mono ho1 (show lo ≤ _ by omega)
  clear hb0 hcl hb1 hsz hr h
  have HR := Lib.hid (show (rowOf xs).length ≤ 400 by omega)
  generalize hRR : rowOf xs = R at ho1 HR ⊢
  have HRR := Lib.hid hRR
  clear hRR
  have d4 : decide ((400 : Int) < (R.length : Int)) = false := decide_eq_false (by have := HR.out; omega)
  go_wp2_with fail
  refine (last_any w1 lo g b sess serial v ss f many hC1 (by omega)).mono ?_
  rintro e w2 ⟨hlp, hb2⟩
  have hC2 := hC1.next hb2
  have hrow2 := own_below ho1 hb2
  have hlo2 : LoS lo g w w2 := (LoS.mk (hb01.mono (by omega)) (.of g hb01)).then (by have := hC1.blk.lt; omega) hb2
  clear hC1 ho1 hb01 hb2 d4
  rcases hlp with ⟨he, rfl⟩ | ⟨s, gs, cs, hs, rfl, rfl⟩
  · have HE := Lib.hid (show ss.getLast?.map SetV.l ≠ some R by rw [he]; simp)
    obtain ⟨w3, hw3⟩ : ∃ w3, w3 = w2 := ⟨_, rfl⟩
    rw [← hw3] at hC2 hrow2 hlo2 ⊢
    have hC3 := hC2
    have hrow := hrow2
    have hlo3 := hlo2
    clear hw3 hC2 hrow2 hlo2 he
    go_upto_region 7 with fail
    have hU := (UQ.mk (w := w) (x := ⟨A1, c1, R, serial + 1⟩) (hC3.setG hf0 (sn := serial + 1) 1 (.int .u32 (serial + 1).toNat) rfl) (own_kept hrow fun k hk => Below.heap_setCell w3 ⟨g, 1, none⟩ _ k (fun e => by have e2 : k = g := e; subst e2; exact own_blk_ne hrow hC3.blk (by decide) hk)) (hlo3.setCell (by omega) 1 _))
    have c1' := hC3.blk.cell 1
    have f1' := hC3.blk.frozen 1
    simp only [List.getElem?_cons_zero, List.getElem?_cons_succ] at c1'
    clear hC3 hrow hlo3
    go_upto_region 8 with fail
    have hw : ((serial.toNat : Int) + 1) % 4294967296 = ((serial + 1).toNat : Int) := by
      rw [UInt32.toNat_add]
      have h1 : (1 : UInt32).toNat = 1 := rfl
      rw [h1]
      omega
    rw [hw]
    generalize w3.setCell ⟨g, 1, none⟩ (.int .u32 (serial + 1).toNat) = w5 at hU ⊢
    clear c1' f1' hw
    obtain ⟨Av, cv, rfl⟩ := own_slice' hU.c.row
    obtain ⟨i0, hi0, hz0, hz1, hz2⟩ := info_parts info_setO
    refine reg_sch2 15 [(true, 0), (true, 1), (true, 2), (true, 3), (true, 4), (true, 5), (true, 6), (true, 7), (true, 8), (true, 9), (true, 10), (false, 11), (false, 12), (true, 13), (true, 14)] (by kernel_rfl) (by kernel_rfl) (fun W => Blk W g 92 [.int .i64 sess, .int .u32 (serial + 1).toNat, .slice Av ss.length cv, .map (some b), .int .i64 many]) (UQ w lo g b sess (serial + 1) (.slice Av ss.length cv) ss f many ⟨A1, c1, R, serial + 1⟩) ?_ ?_ ?_
    · exact hU.drew
    · exact fun _ h => h.c.blk
    intro W hSW
    simp only [List.map_cons, List.map_nil, List.getD_cons_zero, List.getD_cons_succ, List.drop_succ_cons, List.drop_zero]
    refine hd_pure (v := ?_) (by rfl) (fun W' hS' => ?_) ?_ -- 0
    rotate_left
    · have c1' := hS'.cell 1; have c2' := hS'.cell 2; simp only [List.getElem?_cons_zero, List.getElem?_cons_succ] at c1' c2'; clear hS'; (go_simp; first | with_reducible rfl | rfl)
    try simp only [Act.put, List.setIfInBounds_toArray, List.set_cons_zero, List.set_cons_succ]
    refine hd_pure (v := ?_) (by rfl) (fun W' hS' => ?_) ?_ -- 1
    rotate_left
    · have c1' := hS'.cell 1; have c2' := hS'.cell 2; simp only [List.getElem?_cons_zero, List.getElem?_cons_succ] at c1' c2'; clear hS'; (go_simp; first | with_reducible rfl | rfl)
    try simp only [Act.put, List.setIfInBounds_toArray, List.set_cons_zero, List.set_cons_succ]
    refine hd_pure (v := ?_) (by rfl) (fun W' hS' => ?_) ?_ -- 2
    rotate_left
    · have c1' := hS'.cell 1; have c2' := hS'.cell 2; simp only [List.getElem?_cons_zero, List.getElem?_cons_succ] at c1' c2'; clear hS'; (go_simp; first | with_reducible rfl | rfl)
    try simp only [Act.put, List.setIfInBounds_toArray, List.set_cons_zero, List.set_cons_succ]
    refine hd_pure (v := ?_) (by rfl) (fun W' hS' => ?_) ?_ -- 3
    rotate_left
    · have c1' := hS'.cell 1; have c2' := hS'.cell 2; simp only [List.getElem?_cons_zero, List.getElem?_cons_succ] at c1' c2'; clear hS'; (go_simp; first | with_reducible rfl | rfl)
    try simp only [Act.put, List.setIfInBounds_toArray, List.set_cons_zero, List.set_cons_succ]
    refine hd_pure (v := ?_) (by rfl) (fun W' hS' => ?_) ?_ -- 4
    rotate_left
    · have c1' := hS'.cell 1; have c2' := hS'.cell 2; simp only [List.getElem?_cons_zero, List.getElem?_cons_succ] at c1' c2'; clear hS'; (go_simp; first | with_reducible rfl | rfl)
    try simp only [Act.put, List.setIfInBounds_toArray, List.set_cons_zero, List.set_cons_succ]
    refine hd_pure (v := ?_) (by rfl) (fun W' hS' => ?_) ?_ -- 5
    rotate_left
    · have c1' := hS'.cell 1; have c2' := hS'.cell 2; simp only [List.getElem?_cons_zero, List.getElem?_cons_succ] at c1' c2'; clear hS'; (go_simp; first | with_reducible rfl | rfl)
    try simp only [Act.put, List.setIfInBounds_toArray, List.set_cons_zero, List.set_cons_succ]
    refine hd_pure (v := ?_) (by rfl) (fun W' hS' => ?_) ?_ -- 6
    rotate_left
    · have c1' := hS'.cell 1; have c2' := hS'.cell 2; simp only [List.getElem?_cons_zero, List.getElem?_cons_succ] at c1' c2'; clear hS'; (go_simp; first | with_reducible rfl | rfl)
    try simp only [Act.put, List.setIfInBounds_toArray, List.set_cons_zero, List.set_cons_succ]
    refine hd_pure (v := ?_) (by rfl) (fun W' hS' => ?_) ?_ -- 7
    rotate_left
    · have c1' := hS'.cell 1; have c2' := hS'.cell 2; simp only [List.getElem?_cons_zero, List.getElem?_cons_succ] at c1' c2'; clear hS'; (go_simp; first | with_reducible rfl | rfl)
    try simp only [Act.put, List.setIfInBounds_toArray, List.set_cons_zero, List.set_cons_succ]
    refine hd_pure (v := ?_) (by rfl) (fun W' hS' => ?_) ?_ -- 8
    rotate_left
    · have c1' := hS'.cell 1; have c2' := hS'.cell 2; simp only [List.getElem?_cons_zero, List.getElem?_cons_succ] at c1' c2'; clear hS'; (go_simp; first | with_reducible rfl | rfl)
    try simp only [Act.put, List.setIfInBounds_toArray, List.set_cons_zero, List.set_cons_succ]
    refine hd_pure (v := ?_) (by rfl) (fun W' hS' => ?_) ?_ -- 9
    rotate_left
    · have c1' := hS'.cell 1; have c2' := hS'.cell 2; simp only [List.getElem?_cons_zero, List.getElem?_cons_succ] at c1' c2'; clear hS'; (go_simp; first | with_reducible rfl | rfl)
    try simp only [Act.put, List.setIfInBounds_toArray, List.set_cons_zero, List.set_cons_succ]
    refine hd_pure (v := ?_) (by rfl) (fun W' hS' => ?_) ?_ -- 10
    rotate_left
    · have c1' := hS'.cell 1; have c2' := hS'.cell 2; simp only [List.getElem?_cons_zero, List.getElem?_cons_succ] at c1' c2'; clear hS'; (go_simp; first | with_reducible rfl | rfl)
    try simp only [Act.put, List.setIfInBounds_toArray, List.set_cons_zero, List.set_cons_succ]
    refine hd_sole (by rfl) (fun K hK => ?_) -- 11
    refine wp_build1S 90 100 _ rfl (SetV.cells ⟨A1, c1, R, serial + 1⟩) 2 rfl rfl Tryz.underlying90 (by kernel_rfl) (by kernel_rfl) (by omega) (by omega) ?_
    refine hK _ _ (hSW.c.blk.alloc _) ?_
    clear hK K
    intro hSW11
    try simp only [Act.put, List.setIfInBounds_toArray, List.set_cons_zero, List.set_cons_succ]
    refine hd_sole (by rfl) (fun K hK => ?_) -- 12
    refine wp_append_any _ _ _ 90 rfl lo 100 i0 _ 2 32 Tryz.underlying90 hi0 hz0 hz1 hz2 rfl (by omega) _ ss.length _ rfl (own_below hSW.c.row ((Below.refl _ _).alloc (Nat.le_refl _) _)) (W.heap.size + 1) (some ⟨W.heap.size, 0, none⟩) 1 1 _ rfl (reads_blkV (Blk.new W 100 (SetV.cells ⟨A1, c1, R, serial + 1⟩)) (n := 1) (size := 2) rfl) (SetV.one _) (by simp only [maxLen]; omega) (by omega) (by have := hSW.c.blk.lt; rw [World.size_alloc]; omega) ?_
    intro v7 w7 ho7 hg7 _
    obtain ⟨A7, c7, rfl⟩ := own_slice' ho7
    have hP := hSW.push hf0 (x := ⟨A1, c1, R, serial + 1⟩) hg7 (by rw [List.flatMap_append]; simpa using ho7)
    have hB7 := (hSW.c.blk.alloc (.cells (SetV.cells ⟨A1, c1, R, serial + 1⟩).toArray 100)).grown hg7 (fun e => own_blk_ne hSW.c.row hSW.c.blk (by decide) e.symm)
    refine hK _ _ (hB7) ?_
    clear hK K
    intro hSW12
    try simp only [Act.put, List.setIfInBounds_toArray, List.set_cons_zero, List.set_cons_succ]
    refine hd_pure (v := ?_) (by rfl) (fun W' hS' => ?_) ?_ -- 13
    rotate_left
    · have c1' := hS'.cell 1; have c2' := hS'.cell 2; simp only [List.getElem?_cons_zero, List.getElem?_cons_succ] at c1' c2'; clear hS'; (go_simp; first | with_reducible rfl | rfl)
    try simp only [Act.put, List.setIfInBounds_toArray, List.set_cons_zero, List.set_cons_succ]
    refine hd_pure (v := ?_) (by rfl) (fun W' hS' => ?_) ?_ -- 14
    rotate_left
    · have c1' := hS'.cell 1; have c2' := hS'.cell 2; simp only [List.getElem?_cons_zero, List.getElem?_cons_succ] at c1' c2'; clear hS'; (go_simp; first | with_reducible rfl | rfl)
    try simp only [Act.put, List.setIfInBounds_toArray, List.set_cons_zero, List.set_cons_succ]
    refine hd_nil ?_
    have c7' := hB7.cell 2; have f7' := hB7.frozen 2; simp only [List.getElem?_cons_zero, List.getElem?_cons_succ] at c7'
    go_wp2_with fail
    refine NoPanic.normal ?_
    obtain ⟨hC8, hlo8⟩ := hP
    clear hSW hSW11 hSW12 hU ho7 hg7 hB7
    go_upto_region 9 with fail
    generalize w7.setCell ⟨g, 2, none⟩ (.slice A7 (ss.length + 1) c7) = w8 at hC8 hlo8 ⊢
    clear c7' f7'
    have c2 := hC8.blk.cell 2
    simp only [List.getElem?_cons_zero, List.getElem?_cons_succ] at c2
    by_cases h5 : ss.length = 5
    · have HS5 := Lib.hid (show absS ((ss ++ [(⟨A1, c1, R, serial + 1⟩ : SetV)]).drop 1) = updS (absS ss ++ [(R, serial + 1)]) by
        unfold updS
        rw [if_pos (by rw [List.length_append, absS_len]; simp; omega)]
        unfold absS
        rw [List.map_drop, List.map_append]
        rfl)
      have d5 : decide ((5 : Int) < (ss.length : Int) + 1) = true := decide_eq_true (by omega)
      have d5' : decide (5 < ss.length + 1) = true := decide_eq_true (by omega)
      have hnn : (ss ++ [(⟨A1, c1, R, serial + 1⟩ : SetV)]).length = ss.length + 1 := by simp
      have hdl : ((ss ++ [(⟨A1, c1, R, serial + 1⟩ : SetV)]).drop 1).length = ss.length := by rw [List.length_drop, hnn]; omega
      have hrow8 := hC8.row
      rw [hnn] at hrow8
      obtain ⟨g7, rfl, hg7lo, hB7, hcap7⟩ := own_setB hrow8 (by omega)
      obtain ⟨cur, hB7, hcl⟩ := hB7
      have hci : ¬ c7 = 1 := by omega
      have hrd : Reads w8 w8.heap.size 2 (some ⟨g7, 2, none⟩) ss.length (((ss ++ [(⟨A1, c1, R, serial + 1⟩ : SetV)]).drop 1).flatMap SetV.cells) := set_tail (Reads.of_own hrow8) hcap7 hci
      have hi1 : (1 : Int) ≤ (ss.length : Int) + 1 := by omega
      clear hrow8 h5
      go_wp2_with fail
      refine (cloneS_any _ ss.length hdl ⟨g7, 2, none⟩ (c7 - 1) _ (by omega) w8 (Nat.le_refl _) hrd).mono ?_
      rintro e w9 ⟨A9, c9, rfl, ho9, hb9⟩
      have hC9 := hC8.next hb9
      have hlt7 := hB7.lt
      have hB79 := hB7.below hb9 hlt7
      have c29 := hC9.blk.cell 2
      have f29 := hC9.blk.frozen 2
      simp only [List.getElem?_cons_zero, List.getElem?_cons_succ] at c29
      have hgg7 : g ≠ g7 := hC9.blk.ne_ hB79 (by decide)
      have hB10 : Blk (w9.setCell ⟨g, 2, none⟩ (.slice A9 ss.length c9)) g7 100 cur := hB79.far (fun e => hgg7 e.symm) _
      have hC10 := hC9.setRow hf0 (w7 := w9) (row := none) (v7 := .slice A9 ss.length c9) (ss' := (ss ++ [(⟨A1, c1, R, serial + 1⟩ : SetV)]).drop 1) (grown_refl _ _) (by simp) (by simp) (by rw [hdl]; exact own_base_mono ho9 (by have := hC8.blk.lt; omega)) (fun s hs => hC9.sets s (List.mem_of_mem_drop hs))
      obtain ⟨vs, hvl, hclr⟩ := run_clearK (P := Tryz.prog) (w9.setCell ⟨g, 2, none⟩ (.slice A9 ss.length c9)) 90 100 (.agg zSet.toArray) zSet Tryz.underlying90 Tryz.zeroValue100 rfl (by decide) (by decide) g7 0 (ss.length + 1) c7 (by omega)
        (fun t ht => by rw [show zSet.length = 2 from rfl] at ht; rw [Nat.zero_add, hB10.cell, List.getElem?_eq_getElem (by omega)]; rfl) (fun t _ => hB10.frozen _)
      have hC11 := hC10.clear hf0 hB10 (vs := vs) (fun e => by have := (own_base_le ho9 g7 e).1; omega)
      have hlo11 : LoS lo g w ((w9.setCell ⟨g, 2, none⟩ (.slice A9 ss.length c9)).setCells g7 0 vs) := ((hlo8.then (by have := hC8.blk.lt; omega) hb9).setCell (by omega) 2 _).cells vs hg7lo hB10
      clear hC8 hC9 hC10 hB7 hB79 hB10 ho9 hb9 hlo8 hvl hrd c2 hcl
      go_wp2_with fail
      exact bodyPost_ret (v := .tuple #[.bool true, .int .i64 0]) (by simp [results, Tryz.results19, go_sem]) rfl (by rw [HRR.out]; exact ⟨.inr ⟨HE.out, rfl, _, _, HS5.out, hC11⟩, hlo11⟩)
    · have HS5 := Lib.hid (show absS (ss ++ [(⟨A1, c1, R, serial + 1⟩ : SetV)]) = updS (absS ss ++ [(R, serial + 1)]) by
        unfold updS
        rw [if_neg (by rw [List.length_append, absS_len]; simp; omega)]
        unfold absS
        rw [List.map_append]
        rfl)
      have d5 : decide ((5 : Int) < (ss.length : Int) + 1) = false := decide_eq_false (by omega)
      have d5' : decide (5 < ss.length + 1) = false := decide_eq_false (by omega)
      clear h5
      go_wp2_with fail
      exact bodyPost_ret (v := .tuple #[.bool true, .int .i64 0]) (by simp [results, Tryz.results19, go_sem]) rfl (by rw [HRR.out]; exact ⟨.inr ⟨HE.out, rfl, _, _, HS5.out, hC8⟩, hlo8⟩)
  · obtain ⟨k0, k1, hsm⟩ := hC2.lastAt hs rfl
    have hso := hC2.sets s hsm
    obtain ⟨q, hq⟩ : ∃ q, decide (s.l = R) = q := ⟨_, rfl⟩
    have HQ := Lib.hid hq
    have HS := Lib.hid hs
    have HSM := Lib.hid hsm
    clear hq hs hsm
    go_wp2_with fail
    refine (equalV_any s.l R _ _ rfl rfl s.A A1 s.c c1 _ (hs6 s HSM.out) w2 (Nat.le_refl _) (Reads.of_own hso) (Reads.of_own hrow2)).mono ?_
    rintro e w3 ⟨rfl, hb3⟩
    rw [HQ.out]
    have hC3 := hC2.next hb3
    have hrow := own_below hrow2 hb3
    have hlo3 := hlo2.then (by have := hC2.blk.lt; omega) hb3
    clear hC2 hrow2 hlo2 hso k0 k1 hb3
    cases q
    · have HE := Lib.hid (show ss.getLast?.map SetV.l ≠ some R by rw [HS.out]; intro e; exact (of_decide_eq_false HQ.out) (Option.some.inj e))
      go_upto_region 7 with fail
      generalize Value.slice (some ⟨gs, 0, none⟩) ss.length cs = v at hC3 ⊢
      have hU := (UQ.mk (w := w) (x := ⟨A1, c1, R, serial + 1⟩) (hC3.setG hf0 (sn := serial + 1) 1 (.int .u32 (serial + 1).toNat) rfl) (own_kept hrow fun k hk => Below.heap_setCell w3 ⟨g, 1, none⟩ _ k (fun e => by have e2 : k = g := e; subst e2; exact own_blk_ne hrow hC3.blk (by decide) hk)) (hlo3.setCell (by omega) 1 _))
      have c1' := hC3.blk.cell 1
      have f1' := hC3.blk.frozen 1
      simp only [List.getElem?_cons_zero, List.getElem?_cons_succ] at c1'
      clear hC3 hrow hlo3
      go_upto_region 8 with fail
      have hw : ((serial.toNat : Int) + 1) % 4294967296 = ((serial + 1).toNat : Int) := by
        rw [UInt32.toNat_add]
        have h1 : (1 : UInt32).toNat = 1 := rfl
        rw [h1]
        omega
      rw [hw]
      generalize w3.setCell ⟨g, 1, none⟩ (.int .u32 (serial + 1).toNat) = w5 at hU ⊢
      clear c1' f1' hw
      obtain ⟨Av, cv, rfl⟩ := own_slice' hU.c.row
      obtain ⟨i0, hi0, hz0, hz1, hz2⟩ := info_parts info_setO
      refine reg_sch2 15 [(true, 0), (true, 1), (true, 2), (true, 3), (true, 4), (true, 5), (true, 6), (true, 7), (true, 8), (true, 9), (true, 10), (false, 11), (false, 12), (true, 13), (true, 14)] (by kernel_rfl) (by kernel_rfl) (fun W => Blk W g 92 [.int .i64 sess, .int .u32 (serial + 1).toNat, .slice Av ss.length cv, .map (some b), .int .i64 many]) (UQ w lo g b sess (serial + 1) (.slice Av ss.length cv) ss f many ⟨A1, c1, R, serial + 1⟩) ?_ ?_ ?_
      · exact hU.drew
      · exact fun _ h => h.c.blk
      intro W hSW
      simp only [List.map_cons, List.map_nil, List.getD_cons_zero, List.getD_cons_succ, List.drop_succ_cons, List.drop_zero]
      refine hd_pure (v := ?_) (by rfl) (fun W' hS' => ?_) ?_ -- 0
      rotate_left
      · have c1' := hS'.cell 1; have c2' := hS'.cell 2; simp only [List.getElem?_cons_zero, List.getElem?_cons_succ] at c1' c2'; clear hS'; (go_simp; first | with_reducible rfl | rfl)
      try simp only [Act.put, List.setIfInBounds_toArray, List.set_cons_zero, List.set_cons_succ]
      refine hd_pure (v := ?_) (by rfl) (fun W' hS' => ?_) ?_ -- 1
      rotate_left
      · have c1' := hS'.cell 1; have c2' := hS'.cell 2; simp only [List.getElem?_cons_zero, List.getElem?_cons_succ] at c1' c2'; clear hS'; (go_simp; first | with_reducible rfl | rfl)
      try simp only [Act.put, List.setIfInBounds_toArray, List.set_cons_zero, List.set_cons_succ]
      refine hd_pure (v := ?_) (by rfl) (fun W' hS' => ?_) ?_ -- 2
      rotate_left
      · have c1' := hS'.cell 1; have c2' := hS'.cell 2; simp only [List.getElem?_cons_zero, List.getElem?_cons_succ] at c1' c2'; clear hS'; (go_simp; first | with_reducible rfl | rfl)
      try simp only [Act.put, List.setIfInBounds_toArray, List.set_cons_zero, List.set_cons_succ]
      refine hd_pure (v := ?_) (by rfl) (fun W' hS' => ?_) ?_ -- 3
      rotate_left
      · have c1' := hS'.cell 1; have c2' := hS'.cell 2; simp only [List.getElem?_cons_zero, List.getElem?_cons_succ] at c1' c2'; clear hS'; (go_simp; first | with_reducible rfl | rfl)
      try simp only [Act.put, List.setIfInBounds_toArray, List.set_cons_zero, List.set_cons_succ]
      refine hd_pure (v := ?_) (by rfl) (fun W' hS' => ?_) ?_ -- 4
      rotate_left
      · have c1' := hS'.cell 1; have c2' := hS'.cell 2; simp only [List.getElem?_cons_zero, List.getElem?_cons_succ] at c1' c2'; clear hS'; (go_simp; first | with_reducible rfl | rfl)
      try simp only [Act.put, List.setIfInBounds_toArray, List.set_cons_zero, List.set_cons_succ]
      refine hd_pure (v := ?_) (by rfl) (fun W' hS' => ?_) ?_ -- 5
      rotate_left
      · have c1' := hS'.cell 1; have c2' := hS'.cell 2; simp only [List.getElem?_cons_zero, List.getElem?_cons_succ] at c1' c2'; clear hS'; (go_simp; first | with_reducible rfl | rfl)
      try simp only [Act.put, List.setIfInBounds_toArray, List.set_cons_zero, List.set_cons_succ]
      refine hd_pure (v := ?_) (by rfl) (fun W' hS' => ?_) ?_ -- 6
      rotate_left
      · have c1' := hS'.cell 1; have c2' := hS'.cell 2; simp only [List.getElem?_cons_zero, List.getElem?_cons_succ] at c1' c2'; clear hS'; (go_simp; first | with_reducible rfl | rfl)
      try simp only [Act.put, List.setIfInBounds_toArray, List.set_cons_zero, List.set_cons_succ]
      refine hd_pure (v := ?_) (by rfl) (fun W' hS' => ?_) ?_ -- 7
      rotate_left
      · have c1' := hS'.cell 1; have c2' := hS'.cell 2; simp only [List.getElem?_cons_zero, List.getElem?_cons_succ] at c1' c2'; clear hS'; (go_simp; first | with_reducible rfl | rfl)
      try simp only [Act.put, List.setIfInBounds_toArray, List.set_cons_zero, List.set_cons_succ]
      refine hd_pure (v := ?_) (by rfl) (fun W' hS' => ?_) ?_ -- 8
      rotate_left
      · have c1' := hS'.cell 1; have c2' := hS'.cell 2; simp only [List.getElem?_cons_zero, List.getElem?_cons_succ] at c1' c2'; clear hS'; (go_simp; first | with_reducible rfl | rfl)
      try simp only [Act.put, List.setIfInBounds_toArray, List.set_cons_zero, List.set_cons_succ]
      refine hd_pure (v := ?_) (by rfl) (fun W' hS' => ?_) ?_ -- 9
      rotate_left
      · have c1' := hS'.cell 1; have c2' := hS'.cell 2; simp only [List.getElem?_cons_zero, List.getElem?_cons_succ] at c1' c2'; clear hS'; (go_simp; first | with_reducible rfl | rfl)
      try simp only [Act.put, List.setIfInBounds_toArray, List.set_cons_zero, List.set_cons_succ]
      refine hd_pure (v := ?_) (by rfl) (fun W' hS' => ?_) ?_ -- 10
      rotate_left
      · have c1' := hS'.cell 1; have c2' := hS'.cell 2; simp only [List.getElem?_cons_zero, List.getElem?_cons_succ] at c1' c2'; clear hS'; (go_simp; first | with_reducible rfl | rfl)
      try simp only [Act.put, List.setIfInBounds_toArray, List.set_cons_zero, List.set_cons_succ]
      refine hd_sole (by rfl) (fun K hK => ?_) -- 11
      refine wp_build1S 90 100 _ rfl (SetV.cells ⟨A1, c1, R, serial + 1⟩) 2 rfl rfl Tryz.underlying90 (by kernel_rfl) (by kernel_rfl) (by omega) (by omega) ?_
      refine hK _ _ (hSW.c.blk.alloc _) ?_
      clear hK K
      intro hSW11
      try simp only [Act.put, List.setIfInBounds_toArray, List.set_cons_zero, List.set_cons_succ]
      refine hd_sole (by rfl) (fun K hK => ?_) -- 12
      refine wp_append_any _ _ _ 90 rfl lo 100 i0 _ 2 32 Tryz.underlying90 hi0 hz0 hz1 hz2 rfl (by omega) _ ss.length _ rfl (own_below hSW.c.row ((Below.refl _ _).alloc (Nat.le_refl _) _)) (W.heap.size + 1) (some ⟨W.heap.size, 0, none⟩) 1 1 _ rfl (reads_blkV (Blk.new W 100 (SetV.cells ⟨A1, c1, R, serial + 1⟩)) (n := 1) (size := 2) rfl) (SetV.one _) (by simp only [maxLen]; omega) (by omega) (by have := hSW.c.blk.lt; rw [World.size_alloc]; omega) ?_
      intro v7 w7 ho7 hg7 _
      obtain ⟨A7, c7, rfl⟩ := own_slice' ho7
      have hP := hSW.push hf0 (x := ⟨A1, c1, R, serial + 1⟩) hg7 (by rw [List.flatMap_append]; simpa using ho7)
      have hB7 := (hSW.c.blk.alloc (.cells (SetV.cells ⟨A1, c1, R, serial + 1⟩).toArray 100)).grown hg7 (fun e => own_blk_ne hSW.c.row hSW.c.blk (by decide) e.symm)
      refine hK _ _ (hB7) ?_
      clear hK K
      intro hSW12
      try simp only [Act.put, List.setIfInBounds_toArray, List.set_cons_zero, List.set_cons_succ]
      refine hd_pure (v := ?_) (by rfl) (fun W' hS' => ?_) ?_ -- 13
      rotate_left
      · have c1' := hS'.cell 1; have c2' := hS'.cell 2; simp only [List.getElem?_cons_zero, List.getElem?_cons_succ] at c1' c2'; clear hS'; (go_simp; first | with_reducible rfl | rfl)
      try simp only [Act.put, List.setIfInBounds_toArray, List.set_cons_zero, List.set_cons_succ]
      refine hd_pure (v := ?_) (by rfl) (fun W' hS' => ?_) ?_ -- 14
      rotate_left
      · have c1' := hS'.cell 1; have c2' := hS'.cell 2; simp only [List.getElem?_cons_zero, List.getElem?_cons_succ] at c1' c2'; clear hS'; (go_simp; first | with_reducible rfl | rfl)
      try simp only [Act.put, List.setIfInBounds_toArray, List.set_cons_zero, List.set_cons_succ]
      refine hd_nil ?_
      have c7' := hB7.cell 2; have f7' := hB7.frozen 2; simp only [List.getElem?_cons_zero, List.getElem?_cons_succ] at c7'
      go_wp2_with fail
      refine NoPanic.normal ?_
      obtain ⟨hC8, hlo8⟩ := hP
      clear hSW hSW11 hSW12 hU ho7 hg7 hB7
      go_upto_region 9 with fail
      generalize w7.setCell ⟨g, 2, none⟩ (.slice A7 (ss.length + 1) c7) = w8 at hC8 hlo8 ⊢
      clear c7' f7'
      have c2 := hC8.blk.cell 2
      simp only [List.getElem?_cons_zero, List.getElem?_cons_succ] at c2
      by_cases h5 : ss.length = 5
      · have HS5 := Lib.hid (show absS ((ss ++ [(⟨A1, c1, R, serial + 1⟩ : SetV)]).drop 1) = updS (absS ss ++ [(R, serial + 1)]) by
          unfold updS
          rw [if_pos (by rw [List.length_append, absS_len]; simp; omega)]
          unfold absS
          rw [List.map_drop, List.map_append]
          rfl)
        have d5 : decide ((5 : Int) < (ss.length : Int) + 1) = true := decide_eq_true (by omega)
        have d5' : decide (5 < ss.length + 1) = true := decide_eq_true (by omega)
        have hnn : (ss ++ [(⟨A1, c1, R, serial + 1⟩ : SetV)]).length = ss.length + 1 := by simp
        have hdl : ((ss ++ [(⟨A1, c1, R, serial + 1⟩ : SetV)]).drop 1).length = ss.length := by rw [List.length_drop, hnn]; omega
        have hrow8 := hC8.row
        rw [hnn] at hrow8
        obtain ⟨g7, rfl, hg7lo, hB7, hcap7⟩ := own_setB hrow8 (by omega)
        obtain ⟨cur, hB7, hcl⟩ := hB7
        have hci : ¬ c7 = 1 := by omega
        have hrd : Reads w8 w8.heap.size 2 (some ⟨g7, 2, none⟩) ss.length (((ss ++ [(⟨A1, c1, R, serial + 1⟩ : SetV)]).drop 1).flatMap SetV.cells) := set_tail (Reads.of_own hrow8) hcap7 hci
        have hi1 : (1 : Int) ≤ (ss.length : Int) + 1 := by omega
        clear hrow8 h5
        go_wp2_with fail
        refine (cloneS_any _ ss.length hdl ⟨g7, 2, none⟩ (c7 - 1) _ (by omega) w8 (Nat.le_refl _) hrd).mono ?_
        rintro e w9 ⟨A9, c9, rfl, ho9, hb9⟩
        have hC9 := hC8.next hb9
        have hlt7 := hB7.lt
        have hB79 := hB7.below hb9 hlt7
        have c29 := hC9.blk.cell 2
        have f29 := hC9.blk.frozen 2
        simp only [List.getElem?_cons_zero, List.getElem?_cons_succ] at c29
        have hgg7 : g ≠ g7 := hC9.blk.ne_ hB79 (by decide)
        have hB10 : Blk (w9.setCell ⟨g, 2, none⟩ (.slice A9 ss.length c9)) g7 100 cur := hB79.far (fun e => hgg7 e.symm) _
        have hC10 := hC9.setRow hf0 (w7 := w9) (row := none) (v7 := .slice A9 ss.length c9) (ss' := (ss ++ [(⟨A1, c1, R, serial + 1⟩ : SetV)]).drop 1) (grown_refl _ _) (by simp) (by simp) (by rw [hdl]; exact own_base_mono ho9 (by have := hC8.blk.lt; omega)) (fun s hs => hC9.sets s (List.mem_of_mem_drop hs))
        obtain ⟨vs, hvl, hclr⟩ := run_clearK (P := Tryz.prog) (w9.setCell ⟨g, 2, none⟩ (.slice A9 ss.length c9)) 90 100 (.agg zSet.toArray) zSet Tryz.underlying90 Tryz.zeroValue100 rfl (by decide) (by decide) g7 0 (ss.length + 1) c7 (by omega)
          (fun t ht => by rw [show zSet.length = 2 from rfl] at ht; rw [Nat.zero_add, hB10.cell, List.getElem?_eq_getElem (by omega)]; rfl) (fun t _ => hB10.frozen _)
        have hC11 := hC10.clear hf0 hB10 (vs := vs) (fun e => by have := (own_base_le ho9 g7 e).1; omega)
        have hlo11 : LoS lo g w ((w9.setCell ⟨g, 2, none⟩ (.slice A9 ss.length c9)).setCells g7 0 vs) := ((hlo8.then (by have := hC8.blk.lt; omega) hb9).setCell (by omega) 2 _).cells vs hg7lo hB10
        clear hC8 hC9 hC10 hB7 hB79 hB10 ho9 hb9 hlo8 hvl hrd c2 hcl
        go_wp2_with fail
        exact bodyPost_ret (v := .tuple #[.bool true, .int .i64 0]) (by simp [results, Tryz.results19, go_sem]) rfl (by rw [HRR.out]; exact ⟨.inr ⟨HE.out, rfl, _, _, HS5.out, hC11⟩, hlo11⟩)
      · have HS5 := Lib.hid (show absS (ss ++ [(⟨A1, c1, R, serial + 1⟩ : SetV)]) = updS (absS ss ++ [(R, serial + 1)]) by
          unfold updS
          rw [if_neg (by rw [List.length_append, absS_len]; simp; omega)]
          unfold absS
          rw [List.map_append]
          rfl)
        have d5 : decide ((5 : Int) < (ss.length : Int) + 1) = false := decide_eq_false (by omega)
        have d5' : decide (5 < ss.length + 1) = false := decide_eq_false (by omega)
        clear h5
        go_wp2_with fail
        exact bodyPost_ret (v := .tuple #[.bool true, .int .i64 0]) (by simp [results, Tryz.results19, go_sem]) rfl (by rw [HRR.out]; exact ⟨.inr ⟨HE.out, rfl, _, _, HS5.out, hC8⟩, hlo8⟩)
    · have HE := Lib.hid (show ss.getLast?.map SetV.l = some R by rw [HS.out]; exact congrArg some (of_decide_eq_true HQ.out))
      go_wp2_with fail
      exact bodyPost_ret (v := .tuple #[.bool false, .int .i64 0]) (by simp [results, Tryz.results19, go_sem]) rfl (by rw [HRR.out]; exact ⟨.inl ⟨HE.out, rfl, hC3⟩, hlo3⟩)
theorem update_any (xs : List Vrp) (n : Nat) (hn : xs.length = n) (A : Option Addr) (c B : Nat) (hx : n ≤ 400) (w : World) (lo g b : Nat) (sess : Int) (serial : UInt32) (v : Value) (ss : List SetV) (many : Int) (h : CA w lo g b sess serial v ss noLf many) (hss : ss.length ≤ 5) (hs6 : ∀ s ∈ ss, s.l.length ≤ 1000000)
    (hB : B ≤ w.heap.size) (hr : Reads w B 20 A n (xs.flatMap Vrp.cells)) :
    Calls Tryz.prog 19 #[.pointer (some ⟨g, 0, none⟩), .slice A n c] w (UpdPost w lo g b sess serial v ss many (rowOf xs)) :=
  (updateF_any xs n hn A c B hx w lo g b sess serial v ss noLf E0.none_ many h hss hs6 hB hr).mono fun e w' hU => ⟨hU.1, hU.2.lo⟩
end Go.Proofs.YtmoldmnhijcckaaGreat
