/- The contract of lanyardref21.New. -/
import Derived.Test.YtmoldmnhijcckaaDoorG21
set_option linter.unusedVariables false
set_option linter.unusedSectionVars false
set_option linter.unusedSimpArgs false
namespace Go.Proofs.YtmoldmnhijcckaaDoor
open Go.RowKit
/-- The repo while blobs are put into it. -/
structure QN (w : World) (xs : List Blb) (g k : Nat) (v : Value) (ls : List Blb) (W : World) : Prop where
  b : Blk W g 44 [v, .slice none 0 0]
  o : W.ownsRow (g + 1) 27 2 v ls.length (ls.flatMap Blb.cells)
  rd : ∀ e ∈ ls, OwnB W (g + 1) e
  lo : Below w.heap.size w W
  hg : w.heap.size ≤ g
  e : ls.map (fun e => (e.u, e.bs)) = firstsOf (xs.take k)
  l : ls.length ≤ k
theorem QN.next {w W W' : World} {xs : List Blb} {g k : Nat} {v : Value} {ls : List Blb} (h : QN w xs g k v ls W) (hb : Below W.heap.size W W') : QN w xs g k v ls W' :=
  ⟨h.b.below hb h.b.lt, own_below h.o hb, fun e he => ⟨own_below (h.rd e he).1 hb, (h.rd e he).2⟩, below_then h.lo (Nat.le_refl _) hb, h.hg, h.e, h.l⟩
theorem QN.drew {w W : World} {xs : List Blb} {g k : Nat} {v : Value} {ls : List Blb} (h : QN w xs g k v ls W) : QN w xs g k v ls W.drew := ⟨h.b.drew, h.o, h.rd, h.lo.drew, h.hg, h.e, h.l⟩
theorem QN.r {w W : World} {xs : List Blb} {g k : Nat} {v : Value} {ls : List Blb} (h : QN w xs g k v ls W) : R21 W g ls [] := ⟨⟨v, _, h.b, h.o, World.ownsRow_nil _ _ _ _⟩, h.rd⟩
theorem QN.start {w W : World} {xs : List Blb} (hlo : Below w.heap.size w W) : QN w xs W.heap.size 0 (.slice none 0 0) [] (W.alloc (.cells #[.slice none 0 0, .slice none 0 0] 44)) :=
  ⟨blk_new' _ _ [_, _] _ (by simp), World.ownsRow_nil _ _ _ _, fun e he => absurd he (by simp), hlo.alloc hlo.size _, hlo.size, rfl, Nat.le_refl _⟩
theorem QN.skip {w W : World} {xs : List Blb} {g k : Nat} {v : Value} {ls : List Blb} (h : QN w xs g k v ls W) (e : ls.map (fun e => (e.u, e.bs)) = firstsOf (xs.take (k + 1))) : QN w xs g (k + 1) v ls W :=
  ⟨h.b, h.o, h.rd, h.lo, h.hg, e, Nat.le_succ_of_le h.l⟩
theorem QN.put {w W w7 : World} {xs : List Blb} {g k : Nat} {v v7 : Value} {ls : List Blb} {o : Obj} (h : QN w xs g k v ls W) (x : Blb) (hx : OwnB W (g + 1) x) (hg7 : (W.alloc o).grownBy w7 v.ownBlock)
    (ho7 : w7.ownsRow (g + 1) 27 2 v7 (ls.length + 1) ((ls ++ [x]).flatMap Blb.cells)) (e : (ls ++ [x]).map (fun e => (e.u, e.bs)) = firstsOf (xs.take (k + 1))) : QN w xs g (k + 1) v7 (ls ++ [x]) (w7.setCell ⟨g, 0, none⟩ v7) := by
  have hbA : Below W.heap.size W (W.alloc o) := (Below.refl _ _).alloc (Nat.le_refl _) _
  have hne1 : ∀ k, v.ownBlock = some k → g + 1 ≤ k := fun k hk => (own_base_le h.o k hk).1
  have hA := h.next hbA
  have hst : ∀ {base n : Nat} {t : TypeId} {size : Nat} {u : Value} {ys : List Value}, g + 1 ≤ base → w7.ownsRow base t size u n ys → (w7.setCell ⟨g, 0, none⟩ v7).ownsRow base t size u n ys := fun hb hu => own_kept hu fun k hk => Below.heap_setCell w7 _ v7 k (by have := (own_base_le hu k hk).1; show k ≠ g; omega)
  have hgw := h.hg
  refine ⟨(hA.b.grown hg7 (fun e => by have := hne1 g e.symm; omega)).set_ 0 v7, by rw [List.length_append]; exact hst (Nat.le_refl _) ho7, fun y hy => ?_, (Below.grown hA.lo hg7 hA.lo.size (fun k hk => by have := hne1 k hk; omega)).setCell hgw _, hgw, e, by rw [List.length_append]; have := h.l; simp; omega⟩
  have hy2 : OwnB (W.alloc o) (g + 1) y := by
    rcases List.mem_append.1 hy with hy | hy
    · exact hA.rd y hy
    · obtain rfl := List.mem_singleton.1 hy
      exact ⟨own_below hx.1 hbA, hx.2⟩
  exact ⟨hst (Nat.le_refl _) (own_grown hy2.1 hg7 (fun k hk => own_own_ne hy2.1 hA.o (by decide) k hk)), hy2.2⟩
def New21Post (w : World) (xs : List Blb) (e : Ending) (w' : World) : Prop :=
  if xs.all goodB && !largeB xs then ∃ g ls, e = .returned (.tuple #[.pointer (some ⟨g, 0, none⟩), .int .i64 0]) ∧ R21 w' g ls [] ∧ ls.map (fun e => (e.u, e.bs)) = firstsOf xs ∧ w.heap.size ≤ g
  else e = .returned (.tuple #[.pointer none, .int .i64 (if xs.all goodB then 5 else 1)])
theorem any_at {ls xs : List Blb} {k : Nat} (he : ls.map (fun e => (e.u, e.bs)) = firstsOf (xs.take k)) {u : ByteArray} {i : Nat} (hi : i < ls.length) (h : ls[i].u = u) : (firstsOf (xs.take k)).any (fun q => u == q.1) = true := by
  rw [← he, List.any_eq_true]
  exact ⟨(ls[i].u, ls[i].bs), List.mem_map.2 ⟨ls[i], List.getElem_mem hi, rfl⟩, by rw [h]; simp⟩
theorem any_no {ls xs : List Blb} {k : Nat} (he : ls.map (fun e => (e.u, e.bs)) = firstsOf (xs.take k)) {u : ByteArray} (h : ∀ y ∈ ls, y.u ≠ u) : (firstsOf (xs.take k)).any (fun q => u == q.1) = false := by
  rw [← he, List.any_eq_false]
  intro q hq
  obtain ⟨y, hy, rfl⟩ := List.mem_map.1 hq
  simpa using fun e => h y hy e.symm
set_option maxRecDepth 100000 in
set_option maxHeartbeats 8000000 in
theorem new21_any (xs : List Blb) (A : Option Addr) (c : Nat) (m : Int) (w : World) (hp : NewPre w m A xs) (hus : ∀ x ∈ xs, x.u.size ≤ 9223372036854775800) (hn6 : xs.length ≤ 1000000) :
    Calls Tryd.prog 21 #[.slice A xs.length c] w fun e w' => New21Post w xs e w' ∧ Below w.heap.size w w' := by
  obtain ⟨ib, hib, hbz0, hbz1, hbz2⟩ := info_parts info_blbO
  obtain ⟨iu, hiu, huz0, huz1, huz2⟩ := info_parts info5b
  have HN := hp.hn
  obtain ⟨l0, hl0⟩ : ∃ b, decide ((400 : Int) < (xs.length : Int)) = b := ⟨_, rfl⟩
  have HL0 := Lib.hid (show decide (400 < xs.length) = l0 by rw [← hl0]; exact decide_eq_decide.2 (by omega))
  go_enter Tryd.func21, Tryd.ntmps21
  go_wp2_with fail
  clear hl0
  go_loopw [4, 5] (fun v4 i wr => ∃ (k : Nat) (lg : Bool), k ≤ xs.length ∧ i = .int .i64 k ∧ v4 = .bool lg ∧ w = wr ∧ Hid (lg = (l0 || (xs.take k).any fun b => decide (20000 < b.bs.length)) ∧ (xs.take k).all goodB = true)) (fun _ i _ => xs.length - (intOf i).toNat)
  case atStart => exact ⟨0, l0, by omega, rfl, rfl, rfl, Lib.hid ⟨by simp, rfl⟩⟩
  case round =>
    obtain ⟨k, lg, hk, rfl, rfl, rfl, HG⟩ := hrel
    by_cases hlt : k < xs.length
    · obtain ⟨ad, rfl, _, _⟩ := hp.hr.2 (by omega)
      have hk0 : (0 : Int) ≤ (k : Int) := by omega
      have hk1 : (k : Int) < (xs.length : Int) := by omega
      have hat : AtAdr w (ad.add (k * 2)) xs[k].cells := hp.hr.elem Blb.len hlt rfl
      have hus' := hus xs[k] (List.getElem_mem hlt)
      have HT := Lib.hid (show xs.take (k + 1) = xs.take k ++ [xs[k]] from List.take_succ_eq_append_getElem hlt)
      have HM := Lib.hid (show xs[k] ∈ xs from List.getElem_mem hlt)
      generalize xs[k] = x at hat hus' HT HM
      have c0 := hat 0 _ rfl
      have c1 := hat 1 _ rfl
      rw [add_nil'] at c0
      rw [add_pos _ (by decide)] at c1
      clear hat
      cases hu : uriB x.u
      · have HB := Lib.hid (show xs.all goodB = false from List.all_eq_false.2 ⟨x, HM.out, by unfold goodB; rw [hu]; simp⟩)
        have HU := Lib.hid hu
        clear hu
        go_wp2_with fail
        refine (uri20_any x.u hus' w).mono ?_
        rintro e w2 ⟨rfl, rfl⟩
        rw [HU.out]
        go_wp2_with fail
        exact bodyPost_ret (v := .tuple #[.pointer none, .int .i64 1]) (by simp [results, Tryd.results21, go_sem]) rfl ⟨by unfold New21Post; rw [HB.out]; rfl, Below.refl _ _⟩
      · have HU := Lib.hid hu
        cases hd : dirB x.u
        · have HG2 := Lib.hid (show (xs.take (k + 1)).all goodB = true by rw [HT.out, List.all_append, HG.out.2]; simp [goodB, hu, hd])
          have HG1 := Lib.hid (show (lg || decide (20000 < x.bs.length)) = (l0 || (xs.take (k + 1)).any fun b => decide (20000 < b.bs.length)) by rw [HT.out, List.any_append, HG.out.1]; simp [Bool.or_assoc])
          have HD := Lib.hid hd
          clear hu hd
          go_wp2_with fail
          refine (uri20_any x.u hus' w).mono ?_
          rintro e w2 ⟨rfl, rfl⟩
          rw [HU.out]
          go_wp2_with fail
          refine (dir20_any x.u hus' w).mono ?_
          rintro e w3 ⟨rfl, rfl⟩
          rw [HD.out]
          obtain ⟨dd, hdd⟩ : ∃ b, decide ((20000 : Int) < (x.bs.length : Int)) = b := ⟨_, rfl⟩
          have HDD := Lib.hid (show decide (20000 < x.bs.length) = dd by rw [← hdd]; exact decide_eq_decide.2 (by omega))
          cases lg
          · go_wp2_with fail
            clear hdd
            go_roundw
            case rel => exact ⟨k + 1, dd, by omega, by go_num, rfl, by first | rfl | trivial, Lib.hid ⟨by rw [← HG1.out, HDD.out]; rfl, HG2.out⟩⟩
            case measure => simp [intOf]; omega
          · go_wp2_with fail
            clear hdd
            go_roundw
            case rel => exact ⟨k + 1, true, by omega, by go_num, rfl, by first | rfl | trivial, Lib.hid ⟨by rw [← HG1.out]; rfl, HG2.out⟩⟩
            case measure => simp [intOf]; omega
        · have HB := Lib.hid (show xs.all goodB = false from List.all_eq_false.2 ⟨x, HM.out, by unfold goodB; rw [hd]; simp⟩)
          have HD := Lib.hid hd
          clear hu hd
          go_wp2_with fail
          refine (uri20_any x.u hus' w).mono ?_
          rintro e w2 ⟨rfl, rfl⟩
          rw [HU.out]
          go_wp2_with fail
          refine (dir20_any x.u hus' w).mono ?_
          rintro e w3 ⟨rfl, rfl⟩
          rw [HD.out]
          go_wp2_with fail
          exact bodyPost_ret (v := .tuple #[.pointer none, .int .i64 1]) (by simp [results, Tryd.results21, go_sem]) rfl ⟨by unfold New21Post; rw [HB.out]; rfl, Below.refl _ _⟩
    · have hkk : k = xs.length := by omega
      subst hkk
      have HA := Lib.hid (show xs.all goodB = true by have := HG.out.2; rwa [List.take_length] at this)
      have HLG := Lib.hid (show largeB xs = lg by have := HG.out.1; rw [List.take_length] at this; rw [this, ← HL0.out]; rfl)
      clear HG hlt hk
      cases lg
      · have HQ := Lib.hid (show (xs.all goodB && !largeB xs) = true by rw [HA.out, HLG.out]; rfl)
        have hQ0 := QN.start (xs := xs) (Below.refl w.heap.size w)
        clear HA HLG
        go_wp2_with fail
        refine wp_gen (QN w xs w.heap.size 0 (.slice none 0 0) []) hQ0 ?_
        clear hQ0
        intro w5 hQ
        have hgg := hQ.hg
        generalize w.heap.size = g at hQ ⊢
        go_loopw [7] (fun i W => ∃ (k : Nat) (v : Value) (ls : List Blb), k ≤ xs.length ∧ i = .int .i64 k ∧ QN w xs g k v ls W) (fun i _ => xs.length - (intOf i).toNat)
        case atStart => exact ⟨0, _, _, by omega, rfl, hQ⟩
        case round =>
          clear hQ
          obtain ⟨k, v, ls, hk, rfl, hQ⟩ := hrel
          by_cases hlt : k < xs.length
          · obtain ⟨ad, rfl, _, _⟩ := hp.hr.2 (by omega)
            have hk0 : (0 : Int) ≤ (k : Int) := by omega
            have hk1 : (k : Int) < (xs.length : Int) := by omega
            have hat : ∀ W, Below w.heap.size w W → AtAdr W (ad.add (k * 2)) xs[k].cells := fun W hW => (hp.hr.below hW (Nat.le_refl _)).elem Blb.len hlt rfl
            have hxr : ∀ W, Below w.heap.size w W → Reads W w.heap.size 1 xs[k].A xs[k].bs.length (xs[k].bs.map bv) := fun W hW => (hp.hf xs[k] (List.getElem_mem hlt)).rd.below hW (Nat.le_refl _)
            have hxl := (hp.hf xs[k] (List.getElem_mem hlt)).bl
            have HT := Lib.hid (show firstsOf (xs.take (k + 1)) = addF (firstsOf (xs.take k)) xs[k] by rw [List.take_succ_eq_append_getElem hlt, firstsOf_snoc])
            generalize xs[k] = x at hat hxr hxl HT
            have c0 := hat _ hQ.lo 0 _ rfl
            rw [add_nil'] at c0
            have hll := hQ.l
            go_wp2_with fail
            refine (at21_any x.u wr g ls [] hQ.r (by omega)).mono ?_
            rintro e w2 ⟨hpost, rfl⟩
            rcases hpost with ⟨i, hi, rfl, hiu, _⟩ | ⟨rfl, hno⟩
            · have hQ2 := hQ.skip (by rw [HT.out, addF, any_at hQ.e hi hiu]; exact hQ.e)
              have d0 : decide ((i : Int) < 0) = false := decide_eq_false (by omega)
              clear hiu
              go_wp2_with fail
              go_roundw
              case rel => exact ⟨k + 1, v, ls, by omega, by go_num, hQ2⟩
              case measure => simp [intOf]; omega
            · have HE := Lib.hid (show ∀ A4 c4, (ls ++ [(⟨x.u, A4, c4, x.bs⟩ : Blb)]).map (fun e => (e.u, e.bs)) = firstsOf (xs.take (k + 1)) from fun A4 c4 => by rw [HT.out, addF, any_no hQ.e hno, ← hQ.e]; simp)
              obtain ⟨AL, cL, rfl⟩ := own_slice' hQ.o
              clear hno c0
              go_upto_region 15 with fail
              refine reg_sch2 22 [(true, 0), (true, 1), (true, 2), (true, 3), (true, 4), (true, 5), (true, 6), (true, 7), (true, 8), (true, 9), (true, 11), (true, 12), (true, 13), (true, 14), (true, 15), (false, 10), (false, 16), (true, 17), (false, 18), (false, 19), (true, 20), (true, 21)] (by kernel_rfl) (by kernel_rfl) (fun W => Blk W g 44 [.slice AL ls.length cL, .slice none 0 0] ∧ Below w.heap.size w W) (QN w xs g k (.slice AL ls.length cL) ls) ?_ ?_ ?_
              · exact hQ.drew
              · exact fun _ h => ⟨h.b, h.lo⟩
              intro W hSW
              simp only [List.map_cons, List.map_nil, List.getD_cons_zero, List.getD_cons_succ, List.drop_succ_cons, List.drop_zero]
              refine hd_pure (v := ?_) (by rfl) (fun W' hS' => ?_) ?_ -- 0
              rotate_left
              · have c0 := hat _ hS'.2 0 _ rfl; have c1 := hat _ hS'.2 1 _ rfl; have cg := hS'.1.cell 0; simp only [List.getElem?_cons_zero] at cg; rw [add_nil'] at c0; rw [add_pos _ (by decide)] at c1; clear hS'; (go_simp; first | with_reducible rfl | rfl)
              try simp only [Act.put, List.setIfInBounds_toArray, List.set_cons_zero, List.set_cons_succ]
              refine hd_pure (v := ?_) (by rfl) (fun W' hS' => ?_) ?_ -- 1
              rotate_left
              · have c0 := hat _ hS'.2 0 _ rfl; have c1 := hat _ hS'.2 1 _ rfl; have cg := hS'.1.cell 0; simp only [List.getElem?_cons_zero] at cg; rw [add_nil'] at c0; rw [add_pos _ (by decide)] at c1; clear hS'; (go_simp; first | with_reducible rfl | rfl)
              try simp only [Act.put, List.setIfInBounds_toArray, List.set_cons_zero, List.set_cons_succ]
              refine hd_pure (v := ?_) (by rfl) (fun W' hS' => ?_) ?_ -- 2
              rotate_left
              · have c0 := hat _ hS'.2 0 _ rfl; have c1 := hat _ hS'.2 1 _ rfl; have cg := hS'.1.cell 0; simp only [List.getElem?_cons_zero] at cg; rw [add_nil'] at c0; rw [add_pos _ (by decide)] at c1; clear hS'; (go_simp; first | with_reducible rfl | rfl)
              try simp only [Act.put, List.setIfInBounds_toArray, List.set_cons_zero, List.set_cons_succ]
              refine hd_pure (v := ?_) (by rfl) (fun W' hS' => ?_) ?_ -- 3
              rotate_left
              · have c0 := hat _ hS'.2 0 _ rfl; have c1 := hat _ hS'.2 1 _ rfl; have cg := hS'.1.cell 0; simp only [List.getElem?_cons_zero] at cg; rw [add_nil'] at c0; rw [add_pos _ (by decide)] at c1; clear hS'; (go_simp; first | with_reducible rfl | rfl)
              try simp only [Act.put, List.setIfInBounds_toArray, List.set_cons_zero, List.set_cons_succ]
              refine hd_pure (v := ?_) (by rfl) (fun W' hS' => ?_) ?_ -- 4
              rotate_left
              · have c0 := hat _ hS'.2 0 _ rfl; have c1 := hat _ hS'.2 1 _ rfl; have cg := hS'.1.cell 0; simp only [List.getElem?_cons_zero] at cg; rw [add_nil'] at c0; rw [add_pos _ (by decide)] at c1; clear hS'; (go_simp; first | with_reducible rfl | rfl)
              try simp only [Act.put, List.setIfInBounds_toArray, List.set_cons_zero, List.set_cons_succ]
              refine hd_pure (v := ?_) (by rfl) (fun W' hS' => ?_) ?_ -- 5
              rotate_left
              · have c0 := hat _ hS'.2 0 _ rfl; have c1 := hat _ hS'.2 1 _ rfl; have cg := hS'.1.cell 0; simp only [List.getElem?_cons_zero] at cg; rw [add_nil'] at c0; rw [add_pos _ (by decide)] at c1; clear hS'; (go_simp; first | with_reducible rfl | rfl)
              try simp only [Act.put, List.setIfInBounds_toArray, List.set_cons_zero, List.set_cons_succ]
              refine hd_pure (v := ?_) (by rfl) (fun W' hS' => ?_) ?_ -- 6
              rotate_left
              · have c0 := hat _ hS'.2 0 _ rfl; have c1 := hat _ hS'.2 1 _ rfl; have cg := hS'.1.cell 0; simp only [List.getElem?_cons_zero] at cg; rw [add_nil'] at c0; rw [add_pos _ (by decide)] at c1; clear hS'; (go_simp; first | with_reducible rfl | rfl)
              try simp only [Act.put, List.setIfInBounds_toArray, List.set_cons_zero, List.set_cons_succ]
              refine hd_pure (v := ?_) (by rfl) (fun W' hS' => ?_) ?_ -- 7
              rotate_left
              · have c0 := hat _ hS'.2 0 _ rfl; have c1 := hat _ hS'.2 1 _ rfl; have cg := hS'.1.cell 0; simp only [List.getElem?_cons_zero] at cg; rw [add_nil'] at c0; rw [add_pos _ (by decide)] at c1; clear hS'; (go_simp; first | with_reducible rfl | rfl)
              try simp only [Act.put, List.setIfInBounds_toArray, List.set_cons_zero, List.set_cons_succ]
              refine hd_pure (v := ?_) (by rfl) (fun W' hS' => ?_) ?_ -- 8
              rotate_left
              · have c0 := hat _ hS'.2 0 _ rfl; have c1 := hat _ hS'.2 1 _ rfl; have cg := hS'.1.cell 0; simp only [List.getElem?_cons_zero] at cg; rw [add_nil'] at c0; rw [add_pos _ (by decide)] at c1; clear hS'; (go_simp; first | with_reducible rfl | rfl)
              try simp only [Act.put, List.setIfInBounds_toArray, List.set_cons_zero, List.set_cons_succ]
              refine hd_pure (v := ?_) (by rfl) (fun W' hS' => ?_) ?_ -- 9
              rotate_left
              · have c0 := hat _ hS'.2 0 _ rfl; have c1 := hat _ hS'.2 1 _ rfl; have cg := hS'.1.cell 0; simp only [List.getElem?_cons_zero] at cg; rw [add_nil'] at c0; rw [add_pos _ (by decide)] at c1; clear hS'; (go_simp; first | with_reducible rfl | rfl)
              try simp only [Act.put, List.setIfInBounds_toArray, List.set_cons_zero, List.set_cons_succ]
              refine hd_pure (v := ?_) (by rfl) (fun W' hS' => ?_) ?_ -- 11
              rotate_left
              · have c0 := hat _ hS'.2 0 _ rfl; have c1 := hat _ hS'.2 1 _ rfl; have cg := hS'.1.cell 0; simp only [List.getElem?_cons_zero] at cg; rw [add_nil'] at c0; rw [add_pos _ (by decide)] at c1; clear hS'; (go_simp; first | with_reducible rfl | rfl)
              try simp only [Act.put, List.setIfInBounds_toArray, List.set_cons_zero, List.set_cons_succ]
              refine hd_pure (v := ?_) (by rfl) (fun W' hS' => ?_) ?_ -- 12
              rotate_left
              · have c0 := hat _ hS'.2 0 _ rfl; have c1 := hat _ hS'.2 1 _ rfl; have cg := hS'.1.cell 0; simp only [List.getElem?_cons_zero] at cg; rw [add_nil'] at c0; rw [add_pos _ (by decide)] at c1; clear hS'; (go_simp; first | with_reducible rfl | rfl)
              try simp only [Act.put, List.setIfInBounds_toArray, List.set_cons_zero, List.set_cons_succ]
              refine hd_pure (v := ?_) (by rfl) (fun W' hS' => ?_) ?_ -- 13
              rotate_left
              · have c0 := hat _ hS'.2 0 _ rfl; have c1 := hat _ hS'.2 1 _ rfl; have cg := hS'.1.cell 0; simp only [List.getElem?_cons_zero] at cg; rw [add_nil'] at c0; rw [add_pos _ (by decide)] at c1; clear hS'; (go_simp; first | with_reducible rfl | rfl)
              try simp only [Act.put, List.setIfInBounds_toArray, List.set_cons_zero, List.set_cons_succ]
              refine hd_pure (v := ?_) (by rfl) (fun W' hS' => ?_) ?_ -- 14
              rotate_left
              · have c0 := hat _ hS'.2 0 _ rfl; have c1 := hat _ hS'.2 1 _ rfl; have cg := hS'.1.cell 0; simp only [List.getElem?_cons_zero] at cg; rw [add_nil'] at c0; rw [add_pos _ (by decide)] at c1; clear hS'; (go_simp; first | with_reducible rfl | rfl)
              try simp only [Act.put, List.setIfInBounds_toArray, List.set_cons_zero, List.set_cons_succ]
              refine hd_pure (v := ?_) (by rfl) (fun W' hS' => ?_) ?_ -- 15
              rotate_left
              · have c0 := hat _ hS'.2 0 _ rfl; have c1 := hat _ hS'.2 1 _ rfl; have cg := hS'.1.cell 0; simp only [List.getElem?_cons_zero] at cg; rw [add_nil'] at c0; rw [add_pos _ (by decide)] at c1; clear hS'; (go_simp; first | with_reducible rfl | rfl)
              try simp only [Act.put, List.setIfInBounds_toArray, List.set_cons_zero, List.set_cons_succ]
              refine hd_sole (by rfl) (fun K hK => ?_) -- 10
              have hq10 := hSW.next ((Below.refl _ _).alloc (Nat.le_refl _) (.cells #[] 5))
              go_simp
              refine hK _ _ (⟨hq10.b, hq10.lo⟩) ?_
              clear hK K
              intro hSW10
              try simp only [Act.put, List.setIfInBounds_toArray, List.set_cons_zero, List.set_cons_succ]
              refine hd_sole (by rfl) (fun K hK => ?_) -- 16
              refine wp_append_any _ _ _ 25 rfl W.heap.size 5 iu _ 1 1 Tryd.underlying25 hiu huz0 huz1 huz2 rfl (by omega) _ 0 _ rfl (own_lit0 W W.heap.size 5 1 (Nat.le_refl _)) w.heap.size x.A x.bs.length x.c _ rfl (hxr _ hq10.lo) (bv_one _) (by simp only [maxLen]; omega) (by omega) (by rw [World.size_alloc]; omega) ?_
              intro v4 w4 ho4 hg4 _
              rw [Nat.zero_add, List.nil_append] at ho4
              obtain ⟨A4, c4, rfl⟩ := own_slice' ho4
              have hb12 : Below W.heap.size W w4 := Below.grown ((Below.refl _ _).alloc (Nat.le_refl _) _) hg4 (by rw [World.size_alloc]; omega) (fun k hk => (own_base_le (own_lit0 W W.heap.size 5 1 (Nat.le_refl _)) k hk).1)
              have hq16 := hSW.next hb12
              refine hK _ _ (⟨hq16.b, hq16.lo⟩) ?_
              clear hK K
              intro hSW16
              try simp only [Act.put, List.setIfInBounds_toArray, List.set_cons_zero, List.set_cons_succ]
              refine hd_pure (v := ?_) (by rfl) (fun W' hS' => ?_) ?_ -- 17
              rotate_left
              · have c0 := hat _ hS'.2 0 _ rfl; have c1 := hat _ hS'.2 1 _ rfl; have cg := hS'.1.cell 0; simp only [List.getElem?_cons_zero] at cg; rw [add_nil'] at c0; rw [add_pos _ (by decide)] at c1; clear hS'; (go_simp; first | with_reducible rfl | rfl)
              try simp only [Act.put, List.setIfInBounds_toArray, List.set_cons_zero, List.set_cons_succ]
              refine hd_sole (by rfl) (fun K hK => ?_) -- 18
              have hq18 := hq16.next ((Below.refl w4.heap.size w4).alloc (Nat.le_refl _) (.cells (Blb.cells ⟨x.u, A4, c4, x.bs⟩).toArray 27))
              refine wp_build1 22 27 _ rfl (Blb.cells ⟨x.u, A4, c4, x.bs⟩) 2 rfl rfl Tryd.underlying22 (by kernel_rfl) (by kernel_rfl) (by omega) (by omega) ?_
              refine hK _ _ (⟨hq18.b, hq18.lo⟩) ?_
              clear hK K
              intro hSW18
              try simp only [Act.put, List.setIfInBounds_toArray, List.set_cons_zero, List.set_cons_succ]
              refine hd_sole (by rfl) (fun K hK => ?_) -- 19
              refine wp_append_any _ _ _ 22 rfl (g + 1) 27 ib _ 2 40 Tryd.underlying22 hib hbz0 hbz1 hbz2 rfl (by omega) _ ls.length _ rfl hq18.o (w4.heap.size + 1) (some ⟨w4.heap.size, 0, none⟩) 1 1 _ rfl (reads_blkO (Blk.new w4 _ (Blb.cells ⟨x.u, A4, c4, x.bs⟩)) rfl) (Blb.one ⟨x.u, A4, c4, x.bs⟩) (by simp only [maxLen]; omega) (by omega) (by have := hq18.b.lt; omega) ?_
              intro v7 w7 ho7 hg7 _
              obtain ⟨A7, c7, rfl⟩ := own_slice' ho7
              have hB7 := hq18.b.grown hg7 (fun e => (own_blk_ne hq18.o hq18.b (by decide)) e.symm)
              have hlo7 := Below.grown hq18.lo hg7 hq18.lo.size (fun k hk => by have := (own_base_le hq18.o k hk).1; have := hq18.hg; omega)
              refine hK _ _ (⟨hB7, hlo7⟩) ?_
              clear hK K
              intro hSW19
              try simp only [Act.put, List.setIfInBounds_toArray, List.set_cons_zero, List.set_cons_succ]
              refine hd_pure (v := ?_) (by rfl) (fun W' hS' => ?_) ?_ -- 20
              rotate_left
              · have c0 := hat _ hS'.2 0 _ rfl; have c1 := hat _ hS'.2 1 _ rfl; have cg := hS'.1.cell 0; simp only [List.getElem?_cons_zero] at cg; rw [add_nil'] at c0; rw [add_pos _ (by decide)] at c1; clear hS'; (go_simp; first | with_reducible rfl | rfl)
              try simp only [Act.put, List.setIfInBounds_toArray, List.set_cons_zero, List.set_cons_succ]
              refine hd_pure (v := ?_) (by rfl) (fun W' hS' => ?_) ?_ -- 21
              rotate_left
              · have c0 := hat _ hS'.2 0 _ rfl; have c1 := hat _ hS'.2 1 _ rfl; have cg := hS'.1.cell 0; simp only [List.getElem?_cons_zero] at cg; rw [add_nil'] at c0; rw [add_pos _ (by decide)] at c1; clear hS'; (go_simp; first | with_reducible rfl | rfl)
              try simp only [Act.put, List.setIfInBounds_toArray, List.set_cons_zero, List.set_cons_succ]
              refine hd_nil ?_
              have hWs := hSW.b.lt; have f07 := hB7.frozen 0; have c07 := hB7.cell 0; simp only [List.getElem?_cons_zero] at c07
              go_wp2_with fail
              refine NoPanic.normal ?_
              have hQ7 := hq16.put ⟨x.u, A4, c4, x.bs⟩ ⟨own_base_mono ho4 hWs, hxl⟩ hg7 (by rw [List.flatMap_append]; simpa using ho7) (HE.out A4 c4)
              clear hSW hSW10 hSW16 hSW18 hSW19 hq10 hq16 hq18 hB7 hlo7 ho4 hg4 hb12 ho7 hg7 hQ hat hxr f07 c07
              go_wp2_with fail
              go_roundw
              case rel => exact ⟨k + 1, _, _, by omega, by go_num, hQ7⟩
              case measure => simp [intOf]; omega
          · have hkk : k = xs.length := by omega
            subst hkk
            have he := hQ.e
            rw [List.take_length] at he
            have HE := Lib.hid he
            clear he hlt hk
            go_wp2_with fail
            refine bodyPost_ret (v := .tuple #[.pointer (some ⟨g, 0, none⟩), .int .i64 0]) (by simp [results, Tryd.results21, go_sem]) rfl ⟨?_, hQ.lo⟩
            unfold New21Post
            rw [HQ.out]
            exact ⟨g, ls, rfl, hQ.r, HE.out, hQ.hg⟩
      · go_wp2_with fail
        exact bodyPost_ret (v := .tuple #[.pointer none, .int .i64 5]) (by simp [results, Tryd.results21, go_sem]) rfl ⟨by unfold New21Post; rw [HA.out, HLG.out]; rfl, Below.refl _ _⟩
end Go.Proofs.YtmoldmnhijcckaaDoor
