/- vrp.Join at one list. -/
import Derived.Test.YtmoldmnhijcckaaGreatMa32
import Derived.Test.YtmoldmnhijcckaaGreatMa12
set_option linter.unusedVariables false
set_option linter.unusedSectionVars false
set_option linter.unusedSimpArgs false
namespace Go.Proofs.YtmoldmnhijcckaaGreat
open Go.RowKit
theorem addD_idem (ys : List Vrp) : dedF (dedF ys) = dedF ys := by
  have : ∀ n (ys : List Vrp), ys.length = n → dedF (dedF ys) = dedF ys := by
    intro n
    induction n with
    | zero => intro ys h; rw [List.eq_nil_of_length_eq_zero h]; rfl
    | succ n ih =>
      intro ys h
      have hne : ys ≠ [] := fun e => by rw [e] at h; simp at h
      have e0 : ys = ys.dropLast ++ [ys.getLast hne] := (List.dropLast_concat_getLast hne).symm
      have hih := ih ys.dropLast (by rw [List.length_dropLast]; omega)
      rw [e0, dedF_snoc]
      unfold addD
      split
      · exact hih
      · rename_i hn
        rw [dedF_snoc, hih]
        unfold addD
        rw [if_neg hn]
  exact this _ ys rfl
theorem info_vrow : (Tryz.prog.info? 27).map (fun i => (i.zero, i.size, i.bytes)) = some (some (.slice none 0 0), 1, 24) := by kernel_rfl
/-- The queue while it is emptied. -/
structure JS (w : World) (L : List Vrp) (R E cE : Nat) (A0 : Option Addr) (c0 : Nat) (rest : List Value) (j : Nat) (Aj : Option Addr) (cj : Nat) (v : Value) (out : List Vrp) (W : World) : Prop where
  o : W.ownsRow w.heap.size 67 20 (.slice A0 L.length c0) L.length (L.flatMap Vrp.cells)
  im : ∀ W B, Reads W B 20 A0 L.length (L.flatMap Vrp.cells) → Reads W B 20 Aj (L.length - j) ((L.drop j).flatMap Vrp.cells)
  hj : j ≤ L.length
  hcj : L.length - j ≤ cj
  q : (j < L.length ∧ J1 W R E cE (.slice Aj (L.length - j) cj) rest) ∨ (j = L.length ∧ Blk W R 125 [.slice (some ⟨E, 0, none⟩) 0 cE])
  ou : W.ownsRow w.heap.size 67 20 v out.length (out.flatMap Vrp.cells)
  ap : ∀ k, v.ownBlock = some k → (Value.slice A0 L.length c0).ownBlock ≠ some k
  lo : Below w.heap.size w W
  hR : w.heap.size ≤ R
  hE : w.heap.size ≤ E
  c1 : 1 ≤ cE
theorem JS.next {w W W' : World} {L : List Vrp} {R E cE : Nat} {A0 : Option Addr} {c0 : Nat} {rest : List Value} {j : Nat} {Aj : Option Addr} {cj : Nat} {v : Value} {out : List Vrp} (h : JS w L R E cE A0 c0 rest j Aj cj v out W) (hb : Below W.heap.size W W') : JS w L R E cE A0 c0 rest j Aj cj v out W' := by
  refine ⟨own_below h.o hb, h.im, h.hj, h.hcj, ?_, own_below h.ou hb, h.ap, below_then h.lo (Nat.le_refl _) hb, h.hR, h.hE, h.c1⟩
  · rcases h.q with ⟨h1, h2⟩ | ⟨h1, h2⟩
    · exact .inl ⟨h1, h2.next hb⟩
    · exact .inr ⟨h1, h2.below hb h2.lt⟩
theorem JS.drew {w W : World} {L : List Vrp} {R E cE : Nat} {A0 : Option Addr} {c0 : Nat} {rest : List Value} {j : Nat} {Aj : Option Addr} {cj : Nat} {v : Value} {out : List Vrp} (h : JS w L R E cE A0 c0 rest j Aj cj v out W) : JS w L R E cE A0 c0 rest j Aj cj v out W.drew := h.next (Below.refl _ _).drew
/-- The first one is taken. -/
theorem JS.took {w W W' : World} {L : List Vrp} {R E cE : Nat} {A0 : Option Addr} {c0 : Nat} {rest : List Value} {j : Nat} {Aj : Option Addr} {cj : Nat} {v : Value} {out : List Vrp} (h : JS w L R E cE A0 c0 rest j Aj cj v out W) (hj : j < L.length) (hJ : J1 W R E cE (.slice Aj (L.length - j) cj) rest) {e : Ending} {B : Nat}
    (hp : FirstPost W R E cE rest L[j] (L.drop (j + 1)) (L.length - j) Aj cj B e W') : e = .returned L[j].val ∧ ∃ A2, JS w L R E cE A0 c0 rest (j + 1) A2 (cj - 1) v out W' := by
  obtain ⟨rfl, hf, hq⟩ := hp
  have hcj := h.hcj
  have hkeep : ∀ {base n : Nat} {u : Value} {ys : List Value}, W.ownsRow base 67 20 u n ys → W'.ownsRow base 67 20 u n ys := fun hu => own_kept hu fun k hk => hf.block k (own_base_le hu k hk).2 (fun e => by subst e; exact own_blk_ne hu hJ.e (by decide) hk) (fun e => by subst e; exact own_blk_ne hu hJ.r (by decide) hk)
  have hlo : Below w.heap.size w W' := by
    have h1 := h.hR
    have h2 := h.hE
    exact ⟨hf.os.trans h.lo.os, hf.tape.trans h.lo.tape, hf.output.trans h.lo.output, Nat.le_trans h.lo.size hf.size, fun k hk => (hf.block k (Nat.lt_of_lt_of_le hk h.lo.size) (by omega) (by omega)).trans (h.lo.block k hk)⟩
  refine ⟨rfl, ?_⟩
  rcases hq with ⟨hr, hR⟩ | ⟨hr, A2, hJ2, hrd⟩
  · have hlen : L.length = j + 1 := by
      have := congrArg List.length hr
      rw [List.length_drop] at this
      simp at this
      omega
    exact ⟨none, hkeep h.o, fun W B _ => by rw [hlen, Nat.sub_self, List.drop_of_length_le (by omega)]; exact Reads.none_, by omega, by omega, .inr ⟨hlen.symm, hR⟩, hkeep h.ou, h.ap, hlo, h.hR, h.hE, h.c1⟩
  · have hlen : j + 1 < L.length := by
      have : 0 < (L.drop (j + 1)).length := List.length_pos_iff.2 hr
      rw [List.length_drop] at this
      omega
    refine ⟨A2, hkeep h.o, fun W B hW => ?_, by omega, by omega, .inl ⟨hlen, by rw [show L.length - (j + 1) = L.length - j - 1 by omega]; exact hJ2⟩, hkeep h.ou, h.ap, hlo, h.hR, h.hE, h.c1⟩
    have h1 := h.im W B hW
    rw [List.drop_eq_getElem_cons hj] at h1
    have h2 := hrd W B h1
    rw [show L.length - (j + 1) = L.length - j - 1 by omega]
    exact h2
theorem JS.push {w W W' : World} {L : List Vrp} {R E cE : Nat} {A0 : Option Addr} {c0 : Nat} {rest : List Value} {j : Nat} {Aj : Option Addr} {cj : Nat} {v v' : Value} {out : List Vrp} {o : Obj} (h : JS w L R E cE A0 c0 rest j Aj cj v out W) (x : Vrp) (hg : (W.alloc o).grownBy W' v.ownBlock)
    (ho : W'.ownsRow w.heap.size 67 20 v' (out.length + 1) ((out ++ [x]).flatMap Vrp.cells)) (how : v'.ownBlock = v.ownBlock ∨ v'.ownBlock = some (W.alloc o).heap.size) : JS w L R E cE A0 c0 rest j Aj cj v' (out ++ [x]) W' := by
  have hA := h.next ((Below.refl W.heap.size W).alloc (Nat.le_refl _) o)
  refine ⟨own_kept hA.o fun k hk => hg.block k (own_base_le hA.o k hk).2 (fun e => h.ap k e.symm hk), h.im, h.hj, h.hcj, ?_, by rw [List.length_append]; exact ho, fun k hk e => ?_, Below.grown hA.lo hg hA.lo.size (fun k hk => (own_base_le h.ou k hk).1), h.hR, h.hE, h.c1⟩
  · rcases hA.q with ⟨h1, h2⟩ | ⟨h1, h2⟩
    · exact .inl ⟨h1, h2.r.grown hg (fun e => own_blk_ne hA.ou h2.r (by decide) e.symm), h2.e.grown hg (fun e => own_blk_ne hA.ou h2.e (by decide) e.symm)⟩
    · exact .inr ⟨h1, h2.grown hg (fun e => own_blk_ne hA.ou h2 (by decide) e.symm)⟩
  · rcases how with h1 | h1
    · exact h.ap k (by rw [← h1]; exact hk) e
    · rw [h1] at hk
      have h2 := Option.some.inj hk
      have h3 := (own_base_le hA.o k e).2
      omega
/-- What is left in the queue. -/
def qLeft (R E : Nat) (W : World) : Nat := match W.cell? ⟨R, 0, none⟩ with
  | some (.slice _ 0 _) => 0
  | _ => match W.cell? ⟨E, 0, none⟩ with
    | some (.slice _ n _) => n
    | _ => 0
theorem JS.left {w W : World} {L : List Vrp} {R E cE : Nat} {A0 : Option Addr} {c0 : Nat} {rest : List Value} {j : Nat} {Aj : Option Addr} {cj : Nat} {v : Value} {out : List Vrp} (h : JS w L R E cE A0 c0 rest j Aj cj v out W) : qLeft R E W = L.length - j := by
  rcases h.q with ⟨h1, h2⟩ | ⟨h1, h2⟩
  · have c1 := h2.r.cell 0
    have c2 := h2.e.cell 0
    simp only [List.getElem?_cons_zero] at c1 c2
    unfold qLeft
    rw [c1, c2]
    first | rfl | simp
  · have c1 := h2.cell 0
    simp only [List.getElem?_cons_zero] at c1
    unfold qLeft
    rw [c1]
    simp [h1]
theorem own_oneV {w : World} {base : Nat} {v u : Value} (h : w.ownsRow base 27 1 v 1 [u]) : ∃ E cE rest, v = .slice (some ⟨E, 0, none⟩) 1 cE ∧ base ≤ E ∧ Blk w E 27 (u :: rest) ∧ 1 ≤ cE := by
  rcases h.2 with ⟨_, hz⟩ | ⟨E, cE, cur, rfl, hb, hh, q1, q2, q3, q4⟩
  · omega
  · refine ⟨E, cE, cur.toList.drop 1, rfl, hb, ?_, q1⟩
    unfold Blk
    rw [hh]
    have : u :: cur.toList.drop 1 = cur.toList := by
      have h1 := List.take_append_drop 1 cur.toList
      rw [show (1 : Nat) = 1 * 1 from rfl, q4] at h1
      exact h1
    rw [this]
theorem JS.start {w W w7 : World} {L : List Vrp} {R E cE : Nat} {A0 : Option Addr} {c0 : Nat} {rest : List Value} {o : Obj} (hR : Blk W R 125 [.slice none 0 0]) (hlo : Below w.heap.size w W) (hRw : w.heap.size ≤ R) (ho : W.ownsRow w.heap.size 67 20 (.slice A0 L.length c0) L.length (L.flatMap Vrp.cells)) (hl : 0 < L.length)
    (hg : (W.alloc o).grownBy w7 none) (hE : Blk w7 E 27 (.slice A0 L.length c0 :: rest)) (hEw : w.heap.size ≤ E) (hc : 1 ≤ cE) : JS w L R E cE A0 c0 rest 0 A0 c0 (.slice none 0 0) [] (w7.setCell ⟨R, 0, none⟩ (.slice (some ⟨E, 0, none⟩) 1 cE)) := by
  have hbA : Below W.heap.size W (W.alloc o) := (Below.refl _ _).alloc (Nat.le_refl _) o
  have hb7 : Below W.heap.size W w7 := Below.grown hbA hg hbA.size (fun k hk => by cases hk)
  have hR7 := hR.below hb7 hR.lt
  have ho7 := own_below ho hb7
  have hset : ∀ k, k ≠ R → (w7.setCell ⟨R, 0, none⟩ (.slice (some ⟨E, 0, none⟩) 1 cE)).heap[k]? = w7.heap[k]? := fun k hk => Below.heap_setCell w7 ⟨R, 0, none⟩ _ k hk
  refine ⟨own_kept ho7 fun k hk => hset k (fun e => by subst e; exact own_blk_ne ho7 hR7 (by decide) hk), fun _ _ h => h, Nat.zero_le _, by have := own_capV ho; omega, .inl ⟨hl, hR7.set_ 0 _, (hset E (fun e => Blk.ne_ hE hR7 (by decide) e)).trans hE⟩, World.ownsRow_nil _ _ _ _, fun k hk => by simp [Value.ownBlock] at hk, (below_then hlo (Nat.le_refl _) hb7).setCell hRw _, hRw, hEw, hc⟩
theorem dedF_rowOf (xs : List Vrp) : dedF (rowOf xs) = rowOf xs := addD_idem _
set_option maxRecDepth 100000 in
set_option maxHeartbeats 8000000 in
theorem join1_any (xs : List Vrp) (n : Nat) (hn : xs.length = n) (A : Option Addr) (c B : Nat) (gL cl : Nat) (hlen : n ≤ 1000000) (w : World) (hB : B ≤ w.heap.size) (hr : Reads w B 20 A n (xs.flatMap Vrp.cells)) (hl : w.cell? ⟨gL, 0, none⟩ = some (.slice A n c)) (hgL : gL < w.heap.size) :
    Calls Tryz.prog 39 #[.slice (some ⟨gL, 0, none⟩) 1 cl] w fun e w' => ∃ A' c', e = .returned (.slice A' (rowOf xs).length c') ∧ w'.ownsRow w.heap.size 67 20 (.slice A' (rowOf xs).length c') (rowOf xs).length ((rowOf xs).flatMap Vrp.cells) ∧ Below w.heap.size w w' := by
  obtain ⟨ir, hir, hrz0, hrz1, hrz2⟩ := info_parts info_vrow
  obtain ⟨i0, hi0, hz0, hz1, hz2⟩ := info_parts info_vrpO
  have hS0 : Blk (w.alloc (.cells #[.slice none 0 0] 125)) w.heap.size 125 [.slice none 0 0] ∧ Below w.heap.size w (w.alloc (.cells #[.slice none 0 0] 125)) := ⟨Blk.new w _ [.slice none 0 0], (Below.refl _ _).alloc (Nat.le_refl _) _⟩
  have hm60 := rowOf_len xs
  go_enter Tryz.func39, Tryz.ntmps39
  go_upto_region 2 with fail
  obtain ⟨R, hR⟩ : ∃ R, w.heap.size = R := ⟨_, rfl⟩
  refine wp_gen (fun W => Blk W w.heap.size 125 [.slice none 0 0] ∧ Below w.heap.size w W) hS0 ?_
  clear hS0
  rintro W1 ⟨hS0, hlo0⟩
  have HRR := Lib.hid (Nat.le_of_eq hR)
  rw [hR] at hS0 ⊢
  clear hR
  go_wp2_with fail
  go_loopw [5, 11] (fun v5 i W => ∃ k : Nat, k ≤ 1 ∧ i = .int .i64 k ∧ ((k = 0 ∧ Blk W R 125 [.slice none 0 0] ∧ Below w.heap.size w W) ∨ (k = 1 ∧ ((rowOf xs = [] ∧ Blk W R 125 [.slice none 0 0] ∧ Below w.heap.size w W) ∨ (rowOf xs ≠ [] ∧ ∃ E cE A0 c0 rest, JS w (rowOf xs) R E cE A0 c0 rest 0 A0 c0 (.slice none 0 0) [] W))))) (fun _ i _ => 1 - (intOf i).toNat)
  case atStart => exact ⟨0, by omega, rfl, .inl ⟨rfl, hS0, hlo0⟩⟩
  case round =>
    clear hS0 hlo0
    obtain ⟨k, hk, rfl, hcase⟩ := hrel
    rcases hcase with ⟨rfl, hRb, hlo⟩ | ⟨rfl, hcase⟩
    · have c1 : wr.cell? ⟨gL, 0, none⟩ = some (.slice A n c) := (hlo.cell (p := ⟨gL, 0, none⟩) hgL).trans hl
      have hi0 : (0 : Int) < 1 := by omega
      go_wp2_with fail
      refine (vrow_any xs n hn A c B hlen wr (by have := hlo.size; omega) (hr.below hlo hB)).mono ?_
      rintro e w2 ⟨A1, c1', rfl, ho, hb⟩
      have hR2 := hRb.below hb hRb.lt
      have hlo2 : Below w.heap.size w w2 := hlo.trans (hb.mono hlo.size)
      replace ho := own_base_mono ho hlo.size
      clear hb c1 hRb hlo
      by_cases hm0 : (rowOf xs).length = 0
      · have he : rowOf xs = [] := List.eq_nil_of_length_eq_zero hm0
        have HE := Lib.hid he
        have d0 : decide (0 < (rowOf xs).length) = false := decide_eq_false (by omega)
        have d1 : decide ((0 : Int) < ((rowOf xs).length : Int)) = false := decide_eq_false (by omega)
        clear hm0 he ho
        go_wp2_with fail
        go_roundw
        case rel => exact ⟨1, by omega, by go_num, .inr ⟨rfl, .inl ⟨HE.out, hR2, hlo2⟩⟩⟩
        case measure => simp [intOf]
      · have d0 : decide (0 < (rowOf xs).length) = true := decide_eq_true (by omega)
        have d1 : decide ((0 : Int) < ((rowOf xs).length : Int)) = true := decide_eq_true (by omega)
        have cR := hR2.cell 0
        simp only [List.getElem?_cons_zero] at cR
        have HNE := Lib.hid (show rowOf xs ≠ [] from fun e => hm0 (by rw [e]; rfl))
        have hlen0 : 0 < (rowOf xs).length := by omega
        have hcap := own_capV ho
        have hw2 := hlo2.size
        have hRw : w.heap.size ≤ R := HRR.out
        have hlow := hlo2
        clear hm0
        go_wp2_with (at_builtin; go_must (refine wpList_append_any _ rfl _ _ 125 rfl w.heap.size 27 ir _ 1 24 Tryz.underlying125 hir hrz0 hrz1 hrz2 rfl (by omega) _ 0 _ rfl (World.ownsRow_nil _ _ _ _) (w2.heap.size + 1) (some ⟨w2.heap.size, 0, none⟩) 1 1 _ rfl (reads_blkV (Blk.new w2 27 [.slice A1 (rowOf xs).length c1']) (n := 1) (size := 1) rfl) (by intro u hu; have := List.mem_singleton.1 hu; subst this; rfl) (by simp only [maxLen]; omega) (by omega) (by rw [World.size_alloc]; omega) ?_; intro v7 w7 ho7 hg7 _; replace hg7 : (w2.alloc (.cells #[.slice A1 (rowOf xs).length c1'] 27)).grownBy w7 none := hg7; obtain ⟨E, cE, rest, rfl, hE, hBE, hcE⟩ := own_oneV (by simpa using ho7); have hb7 : Below w2.heap.size w2 w7 := Below.grown ((Below.refl _ _).alloc (Nat.le_refl _) _) hg7 (by rw [World.size_alloc]; omega) (fun k hk => by cases hk); have hR7 := hR2.below hb7 hR2.lt; have f7 := hR7.frozen 0; have c7 := hR7.cell 0; simp only [List.getElem?_cons_zero] at c7))
        have hJS : JS w (rowOf xs) R E cE A1 c1' rest 0 A1 c1' (.slice none 0 0) [] (w7.setCell ⟨R, 0, none⟩ (.slice (some ⟨E, 0, none⟩) 1 cE)) :=
          JS.start hR2 hlow hRw ho hlen0 hg7 hBE (by omega) hcE
        clear hb7 hR7 f7 c7 ho7 hg7 hBE hR2 hlo2 ho cR hlow
        go_roundw
        case rel => exact ⟨1, by omega, by go_num, .inr ⟨rfl, .inr ⟨HNE.out, E, cE, A1, c1', rest, hJS⟩⟩⟩
        case measure => simp [intOf]
    · rcases hcase with ⟨he, hRb, hlo⟩ | ⟨hne, E, cE, A0, c0, rest, hJS⟩
      · have c1 := hRb.cell 0
        simp only [List.getElem?_cons_zero] at c1
        have hm := meth_len 318 wr R _ c1
        have HE := Lib.hid he
        clear he
        go_wp2_with fail
        refine (init_0 R none 0 wr c1).mono ?_
        rintro e w3 ⟨rfl, rfl⟩
        go_wp2_with fail
        go_loopw [7, 8] (fun v7 v8 W => v7 = .slice none 0 0 ∧ wr = W) (fun _ _ _ => 0)
        case atStart => exact ⟨rfl, rfl⟩
        case round =>
          obtain ⟨rfl, rfl⟩ := hrel
          go_wp2_with fail
          refine (len_any none 0 0 wr).mono ?_
          rintro e w3 ⟨rfl, rfl⟩
          go_wp2_with fail
          go_ret
          exact ⟨none, 0, by rw [HE.out]; rfl, by rw [HE.out]; exact World.ownsRow_nil _ _ _ _, hlo⟩
      · have hdl := dedF_rowOf xs
        have hLn : 0 < (rowOf xs).length := List.length_pos_iff.2 hne
        have hL6 : (rowOf xs).length ≤ 1000000 := by omega
        have HDL := Lib.hid hdl
        have hJ0 : J1 wr R E cE (.slice A0 (rowOf xs).length c0) rest := by
          rcases hJS.q with ⟨_, h⟩ | ⟨h, _⟩
          · exact h
          · omega
        have c1 := hJ0.r.cell 0
        simp only [List.getElem?_cons_zero] at c1
        have hm := meth_len 318 wr R _ c1
        clear hdl hne hJ0
        generalize hLL : rowOf xs = L at *
        have HLL := Lib.hid hLL
        clear hLL
        go_wp2_with fail
        refine (init_1 R (some ⟨E, 0, none⟩) cE wr c1).mono ?_
        rintro e w3 ⟨rfl, rfl⟩
        clear hm c1
        go_wp2_with fail
        go_loopw [7, 8] (fun v7 v8 W => ∃ (j : Nat) (Aj : Option Addr) (cj : Nat) (out : List Vrp), JS w L R E cE A0 c0 rest j Aj cj v7 out W ∧ Hid (out = dedF (L.take j))) (fun _ _ W => qLeft R E W)
        case atStart => exact ⟨0, A0, c0, [], hJS, Lib.hid rfl⟩
        case round =>
          clear hJS
          obtain ⟨j, Aj, cj, out, hJS, HO⟩ := hrel
          have hleft := hJS.left
          rcases hJS.q with ⟨hj, hJ1⟩ | ⟨hj, hRe⟩
          · have c1 := hJ1.r.cell 0
            simp only [List.getElem?_cons_zero] at c1
            have hm := meth_len 318 wr R _ c1
            have hLW := Lib.hid hleft
            have HS := Lib.hid (show L.take (j + 1) = L.take j ++ [L[j]] from List.take_succ_eq_append_getElem hj)
            clear hleft
            go_wp2_with fail
            refine (len_any _ 1 cE wr).mono ?_
            rintro e w3 ⟨rfl, rfl⟩
            have hrd := hJS.im _ _ (Reads.of_own hJS.o)
            rw [List.drop_eq_getElem_cons hj] at hrd
            have hcj := hJS.hcj
            have hc1 := hJS.c1
            go_wp2_with fail
            refine (first_any L[j] (L.drop (j + 1)) (L.length - j) (by rw [List.length_drop]; omega) Aj cj wr.heap.size R E cE rest wr hrd hJ1 hcj (by omega) hc1 (Nat.le_refl _)).mono ?_
            rintro e w3 hfp
            obtain ⟨rfl, A2, hJS2⟩ := hJS.took hj hJ1 hfp
            clear hJS hfp hrd hJ1 c1 hm
            generalize hx : L[j] = x at HS hJS2 ⊢
            clear hx
            have hJb : JS w L R E cE A0 c0 rest (j + 1) A2 (cj - 1) u7 out ((w3.alloc (.cells zV.toArray 67)).setCells w3.heap.size 0 x.cells) ∧ Blk ((w3.alloc (.cells zV.toArray 67)).setCells w3.heap.size 0 x.cells) w3.heap.size 67 x.cells :=
              ⟨hJS2.next (Below.setCells (Nat.le_refl _) _ _ ((Below.refl _ _).alloc (Nat.le_refl _) _)), (Blk.new _ _ _).setCells_all (Vrp.cells_length _)⟩
            simp only [show zV = [.int .u32 0, .bool false, .int .u8 0, .int .u8 0, .int .u8 0, .int .u8 0, .int .u8 0, .int .u8 0, .int .u8 0, .int .u8 0, .int .u8 0, .int .u8 0, .int .u8 0, .int .u8 0, .int .u8 0, .int .u8 0, .int .u8 0, .int .u8 0, .int .i64 0, .int .i64 0] from rfl] at hJb
            clear hJS2
            obtain ⟨Ao, co, rfl⟩ := own_slice' hJb.1.ou
            have hol : out.length ≤ j := by rw [HO.out]; have := row_len (L.take j); rw [List.length_take] at this; omega
            have hoc := own_capV hJb.1.ou
            go_upto_region 14 with (refine wpList_store_at rfl 67 _ _ rfl w3.heap.size 0 20 67 _ zV rfl rfl (Blk.new _ _ _) (Vrp.cells_length _) (by decide) info_vrp1 (Vrp.one _) ?_)
            refine wp_gen (fun W => JS w L R E cE A0 c0 rest (j + 1) A2 (cj - 1) (.slice Ao out.length co) out W ∧ Blk W w3.heap.size 67 x.cells) hJb ?_
            clear hJb
            generalize w3.heap.size = a8
            rintro W ⟨hJS, hX⟩
            have HD := Lib.hid (show dedF (L.take (j + 1)) = addD out x by rw [HS.out, dedF_snoc, HO.out])
            by_cases hz : out.length = 0
            · have ho0 : out = [] := List.eq_nil_of_length_eq_zero hz
              have HE := Lib.hid (show dedF (L.take (j + 1)) = out ++ [x] by rw [HD.out, ho0]; rfl)
              have be0 : ((out.length : Int) == 0) = true := by simp [hz]
              clear hz HD HO
              have HO0 := Lib.hid ho0
              clear ho0
              refine reg_sch2 13 [(true, 0), (true, 1), (true, 2), (true, 3), (true, 4), (true, 5), (true, 6), (true, 7), (true, 8), (true, 9), (true, 10), (true, 11), (true, 12)] (by kernel_rfl) (by kernel_rfl) (fun W => JS w L R E cE A0 c0 rest (j + 1) A2 (cj - 1) (.slice Ao out.length co) out W ∧ Blk W a8 67 x.cells) (fun W => JS w L R E cE A0 c0 rest (j + 1) A2 (cj - 1) (.slice Ao out.length co) out W ∧ Blk W a8 67 x.cells) ?_ ?_ ?_
              · exact ⟨hJS.drew, hX.drew⟩
              · exact fun _ h => h
              intro W hSW
              simp only [List.map_cons, List.map_nil, List.getD_cons_zero, List.getD_cons_succ, List.drop_succ_cons, List.drop_zero]
              refine hd_pure (v := ?_) (by rfl) (fun W' hS' => ?_) ?_ -- 0
              rotate_left
              · clear hS'; (go_simp; first | with_reducible rfl | rfl)
              try simp only [Act.put, List.setIfInBounds_toArray, List.set_cons_zero, List.set_cons_succ]
              refine hd_pure (v := ?_) (by rfl) (fun W' hS' => ?_) ?_ -- 1
              rotate_left
              · clear hS'; (go_simp; first | with_reducible rfl | rfl)
              try simp only [Act.put, List.setIfInBounds_toArray, List.set_cons_zero, List.set_cons_succ]
              refine hd_pure (v := ?_) (by rfl) (fun W' hS' => ?_) ?_ -- 2
              rotate_left
              · clear hS'; (go_simp; first | with_reducible rfl | rfl)
              try simp only [Act.put, List.setIfInBounds_toArray, List.set_cons_zero, List.set_cons_succ]
              refine hd_pure (v := ?_) (by rfl) (fun W' hS' => ?_) ?_ -- 3
              rotate_left
              · clear hS'; (go_simp; first | with_reducible rfl | rfl)
              try simp only [Act.put, List.setIfInBounds_toArray, List.set_cons_zero, List.set_cons_succ]
              refine hd_skip (by rfl) ?_
              try simp only [Act.put, List.setIfInBounds_toArray, List.set_cons_zero, List.set_cons_succ]
              refine hd_skip (by rfl) ?_
              try simp only [Act.put, List.setIfInBounds_toArray, List.set_cons_zero, List.set_cons_succ]
              refine hd_skip (by rfl) ?_
              try simp only [Act.put, List.setIfInBounds_toArray, List.set_cons_zero, List.set_cons_succ]
              refine hd_skip (by rfl) ?_
              try simp only [Act.put, List.setIfInBounds_toArray, List.set_cons_zero, List.set_cons_succ]
              refine hd_skip (by rfl) ?_
              try simp only [Act.put, List.setIfInBounds_toArray, List.set_cons_zero, List.set_cons_succ]
              refine hd_skip (by rfl) ?_
              try simp only [Act.put, List.setIfInBounds_toArray, List.set_cons_zero, List.set_cons_succ]
              refine hd_skip (by rfl) ?_
              try simp only [Act.put, List.setIfInBounds_toArray, List.set_cons_zero, List.set_cons_succ]
              refine hd_skip (by rfl) ?_
              try simp only [Act.put, List.setIfInBounds_toArray, List.set_cons_zero, List.set_cons_succ]
              refine hd_pure (v := ?_) (by rfl) (fun W' hS' => ?_) ?_ -- 12
              rotate_left
              · clear hS'; (go_simp; first | with_reducible rfl | rfl)
              try simp only [Act.put, List.setIfInBounds_toArray, List.set_cons_zero, List.set_cons_succ]
              refine hd_nil ?_
              obtain ⟨hJS, hX⟩ := hSW
              refine wpList_nil (NoPanic.normal ?_)
              have hXr := hX.range
              have hW1 := hJS.lo.size
              go_wp2_with (first | (refine wpList_load_at rfl 67 _ rfl a8 0 20 rfl _ _ hXr (Vrp.cells_length _) Tryz.underlying67 rfl info_vrp1 ?_) | (refine wpList_build1 rfl 27 67 _ rfl x.cells 20 rfl (Vrp.cells_length _) Tryz.underlying27 (by kernel_rfl) (by kernel_rfl) (by omega) (by omega) ?_) | (at_builtin; go_must (refine wpList_append_any _ rfl _ _ 27 rfl w.heap.size 67 i0 _ 20 48 Tryz.underlying27 hi0 hz0 hz1 hz2 rfl (by omega) _ out.length _ rfl (own_below hJS.ou ((Below.refl _ _).alloc (Nat.le_refl _) _)) (W.heap.size + 1) (some ⟨W.heap.size, 0, none⟩) 1 1 _ rfl (reads_blkV (Blk.new W 67 x.cells) (n := 1) (size := 20) (Vrp.cells_length _)) (Vrp.one x) (by simp only [maxLen]; omega) (by omega) (by rw [World.size_alloc]; omega) ?_; intro v9 w9 ho9 hg9 how9)))
              have hP := hJS.push x hg9 (by rw [List.flatMap_append]; simpa using ho9) how9
              have hPl := hP.left
              clear ho9 hg9 how9 hJS hX hXr
              go_wp2_with fail
              go_roundw
              case rel => exact ⟨j + 1, A2, cj - 1, out ++ [x], hP, Lib.hid HE.out.symm⟩
              case measure => rw [hPl, hLW.out]; omega
            · obtain ⟨y, hy⟩ : ∃ y, out.getLast? = some y := by
                cases h : out.getLast? with
                | none => rw [List.getLast?_eq_none_iff] at h; rw [h] at hz; simp at hz
                | some y => exact ⟨y, rfl⟩
              have hlt : out.length - 1 < out.length := by omega
              have hyl : out[out.length - 1] = y := by
                rw [List.getLast?_eq_getElem?, List.getElem?_eq_getElem hlt] at hy
                exact Option.some.inj hy
              obtain ⟨go, hgo⟩ : ∃ go, Ao = some ⟨go, 0, none⟩ := by
                rcases own_blkV hJS.ou with ⟨_, h, _⟩ | ⟨g, _, h, _⟩
                · omega
                · exact ⟨g, h⟩
              subst hgo
              have hra : ∀ W, JS w L R E cE A0 c0 rest (j + 1) A2 (cj - 1) (.slice (some ⟨go, 0, none⟩) out.length co) out W → W.rangeAt go ((out.length - 1) * 20) y.cells := fun W hW => by
                rcases own_blkV hW.ou with ⟨h, _⟩ | ⟨g, sp, h, _, hb, _⟩
                · cases h
                · have e : g = go := by injection h with h; injection h with h1; exact h1.symm
                  subst e
                  rw [← hyl]
                  exact rowV_at hb hlt
              have be0 : ((out.length : Int) == 0) = false := beq_eq_false_iff_ne.2 (by omega)
              have hkm : IntKind.i64.wrap ((out.length : Int) - 1) = ((out.length - 1 : Nat) : Int) := by rw [IntWalk.i64_in _ (by omega)]; omega
              have hk3 : ((out.length - 1 : Nat) : Int) < (out.length : Int) := by omega
              have hk4 : (0 : Int) ≤ ((out.length - 1 : Nat) : Int) := by omega
              have HYY := Lib.hid hy
              clear hyl hy
              by_cases hyx : y = x
              · have he : ∀ W, (Go.binOp .neq 67 (.agg y.cells.toArray) (.agg x.cells.toArray)).run Tryz.prog W = .ok (.bool false) W := fun W => by rw [neq_vrp, decide_eq_true hyx]; rfl
                have HE := Lib.hid (show out = dedF (L.take (j + 1)) by rw [HD.out]; unfold addD; rw [HYY.out, hyx, if_pos rfl])
                clear hyx hz HD HO
                refine reg_sch2 13 [(true, 0), (true, 1), (true, 2), (true, 3), (true, 4), (true, 5), (true, 6), (true, 7), (true, 8), (true, 9), (true, 10), (true, 11), (true, 12)] (by kernel_rfl) (by kernel_rfl) (fun W => JS w L R E cE A0 c0 rest (j + 1) A2 (cj - 1) (.slice (some ⟨go, 0, none⟩) out.length co) out W ∧ Blk W a8 67 x.cells) (fun W => JS w L R E cE A0 c0 rest (j + 1) A2 (cj - 1) (.slice (some ⟨go, 0, none⟩) out.length co) out W ∧ Blk W a8 67 x.cells) ?_ ?_ ?_
                · exact ⟨hJS.drew, hX.drew⟩
                · exact fun _ h => h
                intro W hSW
                simp only [List.map_cons, List.map_nil, List.getD_cons_zero, List.getD_cons_succ, List.drop_succ_cons, List.drop_zero]
                refine hd_pure (v := ?_) (by rfl) (fun W' hS' => ?_) ?_ -- 0
                rotate_left
                · clear hS'; (go_simp; first | with_reducible rfl | rfl)
                try simp only [Act.put, List.setIfInBounds_toArray, List.set_cons_zero, List.set_cons_succ]
                refine hd_pure (v := ?_) (by rfl) (fun W' hS' => ?_) ?_ -- 1
                rotate_left
                · clear hS'; (go_simp; first | with_reducible rfl | rfl)
                try simp only [Act.put, List.setIfInBounds_toArray, List.set_cons_zero, List.set_cons_succ]
                refine hd_pure (v := ?_) (by rfl) (fun W' hS' => ?_) ?_ -- 2
                rotate_left
                · clear hS'; (go_simp; first | with_reducible rfl | rfl)
                try simp only [Act.put, List.setIfInBounds_toArray, List.set_cons_zero, List.set_cons_succ]
                refine hd_pure (v := ?_) (by rfl) (fun W' hS' => ?_) ?_ -- 3
                rotate_left
                · clear hS'; (go_simp; first | with_reducible rfl | rfl)
                try simp only [Act.put, List.setIfInBounds_toArray, List.set_cons_zero, List.set_cons_succ]
                refine hd_pure (v := ?_) (by rfl) (fun W' hS' => ?_) ?_ -- 4
                rotate_left
                · clear hS'; (go_simp; first | with_reducible rfl | rfl)
                try simp only [Act.put, List.setIfInBounds_toArray, List.set_cons_zero, List.set_cons_succ]
                refine hd_pure (v := ?_) (by rfl) (fun W' hS' => ?_) ?_ -- 5
                rotate_left
                · clear hS'; (go_simp; first | with_reducible rfl | rfl)
                try simp only [Act.put, List.setIfInBounds_toArray, List.set_cons_zero, List.set_cons_succ]
                refine hd_pure (v := ?_) (by rfl) (fun W' hS' => ?_) ?_ -- 6
                rotate_left
                · clear hS'; (go_simp; first | with_reducible rfl | rfl)
                try simp only [Act.put, List.setIfInBounds_toArray, List.set_cons_zero, List.set_cons_succ]
                refine hd_pure (v := ?_) (by rfl) (fun W' hS' => ?_) ?_ -- 7
                rotate_left
                · clear hS'; (go_simp; first | with_reducible rfl | rfl)
                try simp only [Act.put, List.setIfInBounds_toArray, List.set_cons_zero, List.set_cons_succ]
                refine hd_pure (v := ?_) (by rfl) (fun W' hS' => ?_) ?_ -- 8
                rotate_left
                · clear hS'; (go_simp; first | with_reducible rfl | rfl)
                try simp only [Act.put, List.setIfInBounds_toArray, List.set_cons_zero, List.set_cons_succ]
                refine hd_pure (v := .agg y.cells.toArray) (by rfl) (fun W' hS' => exec_load_at 67 _ (by rfl) go ((out.length - 1) * 20) 20 (by rfl) _ _ (hra _ hS'.1) (Vrp.cells_length _) Tryz.underlying67 rfl info_vrp1) ?_ -- 9
                try simp only [Act.put, List.setIfInBounds_toArray, List.set_cons_zero, List.set_cons_succ]
                refine hd_pure (v := .agg x.cells.toArray) (by rfl) (fun W' hS' => exec_load_at 67 _ (by rfl) a8 0 20 (by rfl) _ _ hS'.2.range (Vrp.cells_length _) Tryz.underlying67 rfl info_vrp1) ?_ -- 10
                try simp only [Act.put, List.setIfInBounds_toArray, List.set_cons_zero, List.set_cons_succ]
                refine hd_pure (v := ?_) (by rfl) (fun W' hS' => ?_) ?_ -- 11
                rotate_left
                · clear hS'; (go_simp; first | with_reducible rfl | rfl)
                try simp only [Act.put, List.setIfInBounds_toArray, List.set_cons_zero, List.set_cons_succ]
                refine hd_pure (v := ?_) (by rfl) (fun W' hS' => ?_) ?_ -- 12
                rotate_left
                · clear hS'; (go_simp; first | with_reducible rfl | rfl)
                try simp only [Act.put, List.setIfInBounds_toArray, List.set_cons_zero, List.set_cons_succ]
                refine hd_nil ?_
                obtain ⟨hJS, hX⟩ := hSW
                refine wpList_nil (NoPanic.normal ?_)
                have hP := hJS.left
                clear he hra hX
                go_wp2_with fail
                go_roundw
                case rel => exact ⟨j + 1, A2, cj - 1, out, hJS, HE⟩
                case measure => rw [hP, hLW.out]; omega
              · have he : ∀ W, (Go.binOp .neq 67 (.agg y.cells.toArray) (.agg x.cells.toArray)).run Tryz.prog W = .ok (.bool true) W := fun W => by rw [neq_vrp, decide_eq_false hyx]; rfl
                have HE := Lib.hid (show dedF (L.take (j + 1)) = out ++ [x] by rw [HD.out]; unfold addD; rw [HYY.out, if_neg (fun e => hyx (Option.some.inj e))])
                clear hyx hz HD HO
                refine reg_sch2 13 [(true, 0), (true, 1), (true, 2), (true, 3), (true, 4), (true, 5), (true, 6), (true, 7), (true, 8), (true, 9), (true, 10), (true, 11), (true, 12)] (by kernel_rfl) (by kernel_rfl) (fun W => JS w L R E cE A0 c0 rest (j + 1) A2 (cj - 1) (.slice (some ⟨go, 0, none⟩) out.length co) out W ∧ Blk W a8 67 x.cells) (fun W => JS w L R E cE A0 c0 rest (j + 1) A2 (cj - 1) (.slice (some ⟨go, 0, none⟩) out.length co) out W ∧ Blk W a8 67 x.cells) ?_ ?_ ?_
                · exact ⟨hJS.drew, hX.drew⟩
                · exact fun _ h => h
                intro W hSW
                simp only [List.map_cons, List.map_nil, List.getD_cons_zero, List.getD_cons_succ, List.drop_succ_cons, List.drop_zero]
                refine hd_pure (v := ?_) (by rfl) (fun W' hS' => ?_) ?_ -- 0
                rotate_left
                · clear hS'; (go_simp; first | with_reducible rfl | rfl)
                try simp only [Act.put, List.setIfInBounds_toArray, List.set_cons_zero, List.set_cons_succ]
                refine hd_pure (v := ?_) (by rfl) (fun W' hS' => ?_) ?_ -- 1
                rotate_left
                · clear hS'; (go_simp; first | with_reducible rfl | rfl)
                try simp only [Act.put, List.setIfInBounds_toArray, List.set_cons_zero, List.set_cons_succ]
                refine hd_pure (v := ?_) (by rfl) (fun W' hS' => ?_) ?_ -- 2
                rotate_left
                · clear hS'; (go_simp; first | with_reducible rfl | rfl)
                try simp only [Act.put, List.setIfInBounds_toArray, List.set_cons_zero, List.set_cons_succ]
                refine hd_pure (v := ?_) (by rfl) (fun W' hS' => ?_) ?_ -- 3
                rotate_left
                · clear hS'; (go_simp; first | with_reducible rfl | rfl)
                try simp only [Act.put, List.setIfInBounds_toArray, List.set_cons_zero, List.set_cons_succ]
                refine hd_pure (v := ?_) (by rfl) (fun W' hS' => ?_) ?_ -- 4
                rotate_left
                · clear hS'; (go_simp; first | with_reducible rfl | rfl)
                try simp only [Act.put, List.setIfInBounds_toArray, List.set_cons_zero, List.set_cons_succ]
                refine hd_pure (v := ?_) (by rfl) (fun W' hS' => ?_) ?_ -- 5
                rotate_left
                · clear hS'; (go_simp; first | with_reducible rfl | rfl)
                try simp only [Act.put, List.setIfInBounds_toArray, List.set_cons_zero, List.set_cons_succ]
                refine hd_pure (v := ?_) (by rfl) (fun W' hS' => ?_) ?_ -- 6
                rotate_left
                · clear hS'; (go_simp; first | with_reducible rfl | rfl)
                try simp only [Act.put, List.setIfInBounds_toArray, List.set_cons_zero, List.set_cons_succ]
                refine hd_pure (v := ?_) (by rfl) (fun W' hS' => ?_) ?_ -- 7
                rotate_left
                · clear hS'; (go_simp; first | with_reducible rfl | rfl)
                try simp only [Act.put, List.setIfInBounds_toArray, List.set_cons_zero, List.set_cons_succ]
                refine hd_pure (v := ?_) (by rfl) (fun W' hS' => ?_) ?_ -- 8
                rotate_left
                · clear hS'; (go_simp; first | with_reducible rfl | rfl)
                try simp only [Act.put, List.setIfInBounds_toArray, List.set_cons_zero, List.set_cons_succ]
                refine hd_pure (v := .agg y.cells.toArray) (by rfl) (fun W' hS' => exec_load_at 67 _ (by rfl) go ((out.length - 1) * 20) 20 (by rfl) _ _ (hra _ hS'.1) (Vrp.cells_length _) Tryz.underlying67 rfl info_vrp1) ?_ -- 9
                try simp only [Act.put, List.setIfInBounds_toArray, List.set_cons_zero, List.set_cons_succ]
                refine hd_pure (v := .agg x.cells.toArray) (by rfl) (fun W' hS' => exec_load_at 67 _ (by rfl) a8 0 20 (by rfl) _ _ hS'.2.range (Vrp.cells_length _) Tryz.underlying67 rfl info_vrp1) ?_ -- 10
                try simp only [Act.put, List.setIfInBounds_toArray, List.set_cons_zero, List.set_cons_succ]
                refine hd_pure (v := ?_) (by rfl) (fun W' hS' => ?_) ?_ -- 11
                rotate_left
                · clear hS'; (go_simp; first | with_reducible rfl | rfl)
                try simp only [Act.put, List.setIfInBounds_toArray, List.set_cons_zero, List.set_cons_succ]
                refine hd_pure (v := ?_) (by rfl) (fun W' hS' => ?_) ?_ -- 12
                rotate_left
                · clear hS'; (go_simp; first | with_reducible rfl | rfl)
                try simp only [Act.put, List.setIfInBounds_toArray, List.set_cons_zero, List.set_cons_succ]
                refine hd_nil ?_
                obtain ⟨hJS, hX⟩ := hSW
                refine wpList_nil (NoPanic.normal ?_)
                clear he hra
                have hXr := hX.range
                have hW1 := hJS.lo.size
                go_wp2_with (first | (refine wpList_load_at rfl 67 _ rfl a8 0 20 rfl _ _ hXr (Vrp.cells_length _) Tryz.underlying67 rfl info_vrp1 ?_) | (refine wpList_build1 rfl 27 67 _ rfl x.cells 20 rfl (Vrp.cells_length _) Tryz.underlying27 (by kernel_rfl) (by kernel_rfl) (by omega) (by omega) ?_) | (at_builtin; go_must (refine wpList_append_any _ rfl _ _ 27 rfl w.heap.size 67 i0 _ 20 48 Tryz.underlying27 hi0 hz0 hz1 hz2 rfl (by omega) _ out.length _ rfl (own_below hJS.ou ((Below.refl _ _).alloc (Nat.le_refl _) _)) (W.heap.size + 1) (some ⟨W.heap.size, 0, none⟩) 1 1 _ rfl (reads_blkV (Blk.new W 67 x.cells) (n := 1) (size := 20) (Vrp.cells_length _)) (Vrp.one x) (by simp only [maxLen]; omega) (by omega) (by rw [World.size_alloc]; omega) ?_; intro v9 w9 ho9 hg9 how9)))
                have hP := hJS.push x hg9 (by rw [List.flatMap_append]; simpa using ho9) how9
                have hPl := hP.left
                clear ho9 hg9 how9 hJS hX hXr
                go_wp2_with fail
                go_roundw
                case rel => exact ⟨j + 1, A2, cj - 1, out ++ [x], hP, Lib.hid HE.out.symm⟩
                case measure => rw [hPl, hLW.out]; omega
          · have c1 := hRe.cell 0
            simp only [List.getElem?_cons_zero] at c1
            have hm := meth_len 318 wr R _ c1
            have HF := Lib.hid (show out = L by rw [HO.out, hj, List.take_length, HDL.out])
            obtain ⟨Ao, co, rfl⟩ := own_slice' hJS.ou
            have hou := hJS.ou
            have hlo := hJS.lo
            clear hleft hj
            go_wp2_with fail
            refine (len_any _ 0 cE wr).mono ?_
            rintro e w3 ⟨rfl, rfl⟩
            go_wp2_with fail
            go_ret
            refine ⟨Ao, co, ?_, ?_, hlo⟩
            · rw [HLL.out, ← HF.out]; rfl
            · rw [HLL.out, ← HF.out]; exact hou
end Go.Proofs.YtmoldmnhijcckaaGreat
