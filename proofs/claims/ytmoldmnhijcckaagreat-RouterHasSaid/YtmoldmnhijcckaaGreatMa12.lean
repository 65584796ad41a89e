/- A slice literal of one struct: a new block of just its cells. For whatever program. -/
import Derived.Test.YtmoldmnhijcckaaGreatMa04
import Derived.Great.BuildSlice
import Derived.Test.YtmoldmnhijcckaaGreatMa11
set_option linter.unusedVariables false
set_option linter.unusedSectionVars false
set_option linter.unusedSimpArgs false
namespace Go.Proofs.YtmoldmnhijcckaaGreat
open Go Go.RowKit
theorem fold_set : ∀ (l : List Value) (z : Array Value) (k : Nat), k + l.length ≤ z.size → (List.foldl (fun (cs : Array Value) (x : Value × Nat) => cs.setIfInBounds x.2 x.1) z (l.zipIdx k)).toList = z.toList.take k ++ l ++ z.toList.drop (k + l.length)
  | [], z, k, h => by simp
  | v :: l, z, k, h => by
    simp only [List.length_cons] at h
    rw [List.zipIdx_cons, List.foldl_cons, fold_set l _ (k + 1) (by simp; omega)]
    have hk : k < z.toList.length := by simp; omega
    simp only [Array.toList_setIfInBounds, List.length_cons]
    rw [List.drop_set_of_lt (by omega), List.take_set, List.take_succ_eq_append_getElem hk, List.set_append_right _ _ (by simp; omega)]
    have : min k z.size = k := by simp at hk; omega
    simp [this, Nat.add_assoc, Nat.add_comm 1]
theorem fold_all (l : List Value) (z : Array Value) (h : l.length = z.size) : List.foldl (fun (cs : Array Value) (x : Value × Nat) => cs.setIfInBounds x.2 x.1) z l.zipIdx = l.toArray := by
  apply Array.ext'
  rw [fold_set l z 0 (by omega)]
  simp [h]
theorem run_build1 {P : Program} (w : World) (t e : TypeId) (ie : TypeInfo) (z : Value) (cs : List Value) (hu : P.underlying t = some (.slice e)) (hie : P.info? e = some ie) (hz : ie.zero = some z) (hs : ie.size = cs.length) (hp : 0 < cs.length) (hsm : cs.length ≤ 1000) :
    (Instr.buildSlice t 1 #[(0, .agg cs.toArray)]).run P w = .ok (.slice (some ⟨w.heap.size, 0, none⟩) 1 1) (w.alloc (.cells cs.toArray e)) := by
  refine run_buildSlice w t e 1 _ _ ie z hu hie hz (by rw [hs]; omega) (by rw [hs]; omega) ?_
  have hc : (Value.agg cs.toArray).cells.size = cs.length := by simp [Value.cells]
  simp [Instr.fill, hs, Value.cells]
  exact fold_all cs _ (by simp)
theorem wpList_build1 {P : Program} {ops : Array Oper} {rest : List Oper} {o : Oper} {a : Act} {w : World} {Q : Exit → Act → World → Prop} (hg : o.guard = none) (t e : TypeId) (x : Operand) (ho : o.op = .buildSlice t 1 #[(0, x)]) (cs : List Value) (n : Nat) (hx : a.eval x = .agg cs.toArray) (hl : cs.length = n)
    (hu : P.underlying t = some (.slice e)) (hie : (P.info? e).map (·.size) = some n) (hz : ((P.info? e).bind (·.zero)).isSome = true) (hp : 0 < n) (hsm : n ≤ 1000)
    (h : wpList P ops Q rest (a.put o.dst (.slice (some ⟨w.heap.size, 0, none⟩) 1 1)) (w.alloc (.cells cs.toArray e))) : wpList P ops Q (o :: rest) a w := by
  cases hq : P.info? e with
  | none => simp [hq] at hie
  | some ie =>
    simp only [hq, Option.map_some, Option.some.injEq, Option.bind_some] at hie hz
    obtain ⟨z, hz⟩ := Option.isSome_iff_exists.1 hz
    refine wpList_plain hg fun K hK => ?_
    unfold Oper.wp execOp
    have hr := run_build1 (P := P) w t e ie z cs hu hq hz (by rw [hl]; exact hie) (by omega) (by omega)
    simp only [ho, List.map_toArray, List.map_cons, List.map_nil, hx, Sem.run_bind, hr, Result.andThen_ok]
    exact hK _ _ h
end Go.Proofs.YtmoldmnhijcckaaGreat
/- vrp.without, Diff. -/
set_option linter.unusedVariables false
set_option linter.unusedSectionVars false
set_option linter.unusedSimpArgs false
namespace Go.Proofs.YtmoldmnhijcckaaGreat
open Go.RowKit
theorem mem_dedF {ys : List Vrp} {x : Vrp} (h : x ∈ dedF ys) : x ∈ ys := by
  have : ∀ (ys acc : List Vrp), x ∈ ys.foldl addD acc → x ∈ acc ∨ x ∈ ys := by
    intro ys
    induction ys with
    | nil => intro acc h; exact .inl h
    | cons y ys ih =>
      intro acc h
      rcases ih _ h with h1 | h1
      · unfold addD at h1
        split at h1
        · exact .inl h1
        · rcases List.mem_append.1 h1 with h2 | h2
          · exact .inl h2
          · exact .inr (by rw [List.mem_singleton.1 h2]; simp)
      · exact .inr (by simp [h1])
  rcases this ys [] h with h1 | h1
  · simp at h1
  · exact h1
theorem dedF_rise (ys : List Vrp) (h : ys.Pairwise fun a b => cmpV a b ≤ 0) : RiseV (dedF ys) := by
  have : ∀ n (ys : List Vrp), ys.length = n → (ys.Pairwise fun a b => cmpV a b ≤ 0) → RiseV (dedF ys) := by
    intro n
    induction n with
    | zero => intro ys h _; rw [List.eq_nil_of_length_eq_zero h]; exact List.Pairwise.nil
    | succ n ih =>
      intro ys h hp
      have hne : ys ≠ [] := fun e => by rw [e] at h; simp at h
      have e0 : ys = ys.dropLast ++ [ys.getLast hne] := (List.dropLast_concat_getLast hne).symm
      rw [e0] at hp ⊢
      obtain ⟨p1, _, p3⟩ := List.pairwise_append.1 hp
      have hih := ih ys.dropLast (by rw [List.length_dropLast]; omega) p1
      rw [dedF_snoc]
      unfold addD
      split
      · exact hih
      · rename_i hn
        unfold RiseV
        rw [List.pairwise_append]
        refine ⟨hih, List.pairwise_singleton _ _, fun a ha b hb => ?_⟩
        obtain rfl := List.mem_singleton.1 hb
        have h1 := p3 a (mem_dedF ha) _ (List.mem_singleton.2 rfl)
        by_cases hz : cmpV a (ys.getLast hne) = 0
        · exfalso
          have hax := cmpV_zero hz
          have hd : dedF ys.dropLast ≠ [] := fun e => by rw [e] at ha; simp at ha
          have hl : (dedF ys.dropLast).getLast? = some ((dedF ys.dropLast).getLast hd) := List.getLast?_eq_some_getLast hd
          have hlx := p3 _ (mem_dedF (List.getLast_mem hd)) _ (List.mem_singleton.2 rfl)
          have e1 : dedF ys.dropLast = (dedF ys.dropLast).dropLast ++ [(dedF ys.dropLast).getLast hd] := (List.dropLast_concat_getLast hd).symm
          rw [e1] at ha
          rcases List.mem_append.1 ha with h2 | h2
          · have h3 : cmpV a ((dedF ys.dropLast).getLast hd) < 0 := by
              have hq := hih
              unfold RiseV at hq
              rw [e1] at hq
              exact (List.pairwise_append.1 hq).2.2 a h2 _ (List.mem_singleton.2 rfl)
            rw [hax] at h3
            have := compV.anti (ys.getLast hne) ((dedF ys.dropLast).getLast hd)
            omega
          · have h3 := List.mem_singleton.1 h2
            rw [hl, ← h3, hax] at hn
            exact hn rfl
        · omega
  exact this _ ys rfl h
theorem rowOf_rise (xs : List Vrp) : RiseV (rowOf xs) := by
  refine dedF_rise _ ?_
  have tr : ∀ a b c : Vrp, leV a b = true → leV b c = true → leV a c = true := fun a b c h1 h2 => by
    simp only [leV, Bool.not_eq_true'] at *
    exact swoV.ntrans c b a h2 h1
  have tot : ∀ a b : Vrp, (leV a b || leV b a) = true := fun a b => by
    simp only [leV, Bool.or_eq_true, Bool.not_eq_true', ltV_eq, decide_eq_false_iff_not]
    have := compV.anti a b
    omega
  refine (List.pairwise_mergeSort tr tot (xs.filter vrpOk)).imp ?_
  intro a b h
  simp only [leV, Bool.not_eq_true', ltV_eq, decide_eq_false_iff_not] at h
  have := compV.anti a b
  omega
theorem rowOf_ok {xs : List Vrp} {x : Vrp} (h : x ∈ rowOf xs) : vrpOk x = true ∧ x ∈ xs := by
  have h1 := mem_dedF h
  rw [List.mem_mergeSort, List.mem_filter] at h1
  exact ⟨h1.2, h1.1⟩
def lessF (av bs : List Vrp) : List Vrp := av.filter fun v => !decide (v ∈ bs)
theorem lessF_snoc (av bs : List Vrp) (k : Nat) (h : k < av.length) : lessF (av.take (k + 1)) bs = lessF (av.take k) bs ++ (if decide (av[k] ∈ bs) then [] else [av[k]]) := by
  unfold lessF
  rw [List.take_succ_eq_append_getElem h, List.filter_append]
  congr 1
  by_cases hd : av[k] ∈ bs <;> simp [hd]
structure WtS (w : World) (v : Value) (out : List Vrp) (W : World) : Prop where
  o : W.ownsRow w.heap.size 67 20 v out.length (out.flatMap Vrp.cells)
  lo : Below w.heap.size w W
theorem WtS.next {w W W' : World} {v : Value} {out : List Vrp} (h : WtS w v out W) (hb : Below W.heap.size W W') : WtS w v out W' := ⟨own_below h.o hb, below_then h.lo (Nat.le_refl _) hb⟩
set_option maxRecDepth 100000 in
set_option maxHeartbeats 4000000 in
theorem without_any (av bs : List Vrp) (n m : Nat) (hn : av.length = n) (hm : bs.length = m) (A A' : Option Addr) (c c' B : Nat) (hlen : n ≤ 1000000) (hlen' : m ≤ 1000000) (hs : RiseV bs) (w : World) (hB : B ≤ w.heap.size) (hr : Reads w B 20 A n (av.flatMap Vrp.cells)) (hr' : Reads w B 20 A' m (bs.flatMap Vrp.cells)) :
    Calls Tryz.prog 125 #[.slice A n c, .slice A' m c'] w fun e w' => ∃ A2 c2, e = .returned (.slice A2 (lessF av bs).length c2) ∧ w'.ownsRow w.heap.size 67 20 (.slice A2 (lessF av bs).length c2) (lessF av bs).length ((lessF av bs).flatMap Vrp.cells) ∧ Below w.heap.size w w' := by
  subst hn
  obtain ⟨i0, hi0, hz0, hz1, hz2⟩ := info_parts info_vrpO
  have hS : WtS w (.slice none 0 0) [] w := ⟨World.ownsRow_nil _ _ _ _, Below.refl _ _⟩
  go_enter Tryz.func125, Tryz.ntmps125
  go_wp2_with fail
  go_loopw [5, 7, 10] (fun v5 v7 i W => ∃ (k : Nat) (out : List Vrp), k ≤ av.length ∧ i = .int .i64 k ∧ WtS w v5 out W ∧ Hid (lessF (av.take k) bs = out)) (fun _ _ i _ => av.length - (intOf i).toNat)
  case atStart => exact ⟨0, [], by omega, rfl, hS, Lib.hid rfl⟩
  case round =>
    clear hS
    obtain ⟨k, out, hk, rfl, hS, HO⟩ := hrel
    by_cases hlt : k < av.length
    · have hk0 : (0 : Int) ≤ (k : Int) := by omega
      have hk1 : (k : Int) < (av.length : Int) := by omega
      obtain ⟨ad, rfl, _, _⟩ := hr.2 (by omega)
      have hat : AtAdr wr (ad.add (k * 20)) av[k].cells := (hr.below hS.lo hB).elem Vrp.cells_length hlt rfl
      have HT := Lib.hid (lessF_snoc av bs k hlt)
      have hol : out.length ≤ k := by
        have h1 := List.length_filter_le (fun v => !decide (v ∈ bs)) (av.take k)
        have h2 := congrArg List.length HO.out
        unfold lessF at h2
        rw [List.length_take] at h1
        omega
      generalize av[k] = x at hat HT
      have hSb : WtS w u5 out ((wr.alloc (.cells zV.toArray 67)).setCells wr.heap.size 0 x.cells) ∧ Blk ((wr.alloc (.cells zV.toArray 67)).setCells wr.heap.size 0 x.cells) wr.heap.size 67 x.cells :=
        ⟨hS.next (Below.setCells (Nat.le_refl _) _ _ ((Below.refl _ _).alloc (Nat.le_refl _) _)), (Blk.new _ _ _).setCells_all (Vrp.cells_length _)⟩
      simp only [show zV = [.int .u32 0, .bool false, .int .u8 0, .int .u8 0, .int .u8 0, .int .u8 0, .int .u8 0, .int .u8 0, .int .u8 0, .int .u8 0, .int .u8 0, .int .u8 0, .int .u8 0, .int .u8 0, .int .u8 0, .int .u8 0, .int .u8 0, .int .u8 0, .int .i64 0, .int .i64 0] from rfl] at hSb
      go_upto_region 5 with (first | (refine wpList_load_adr (by rfl) 67 _ rfl (ad.add (k * 20)) 20 (by rfl) _ _ hat (Vrp.cells_length _) Tryz.underlying67 rfl info_vrp1 ?_) | (refine wpList_store_at rfl 67 _ _ rfl wr.heap.size 0 20 67 _ zV rfl rfl (Blk.new _ _ _) (Vrp.cells_length _) (by decide) info_vrp1 (Vrp.one _) ?_))
      refine wp_gen (fun W => WtS w u5 out W ∧ Blk W wr.heap.size 67 x.cells) hSb ?_
      clear hSb hS hat
      generalize wr.heap.size = bx
      rintro W ⟨hS, hX⟩
      have hxr := hX.range
      obtain ⟨b, hb⟩ : ∃ b, decide (x ∈ bs) = b := ⟨_, rfl⟩
      have HB := Lib.hid hb
      clear hb
      go_wp2_with (refine wpList_load_at rfl 67 _ rfl bx 0 20 rfl _ _ hxr (Vrp.cells_length _) Tryz.underlying67 rfl info_vrp1 ?_)
      refine (has_any bs m hm x A' c' B hlen' hs W (by have := hS.lo.size; omega) (hr'.below hS.lo hB)).mono ?_
      rintro e w3 ⟨rfl, hbb⟩
      rw [HB.out]
      replace hS := hS.next hbb
      replace hX := hX.below hbb hX.lt
      clear hbb hxr
      cases b
      · have HE := Lib.hid (show lessF (av.take (k + 1)) bs = out ++ [x] by rw [HT.out, HB.out, HO.out]; rfl)
        have hxr := hX.range
        have hw3 := hS.lo.size
        clear HT HO
        go_wp2_with (first | (refine wpList_load_at rfl 67 _ rfl bx 0 20 rfl _ _ hxr (Vrp.cells_length _) Tryz.underlying67 rfl info_vrp1 ?_) | (refine wpList_build1 rfl 27 67 _ rfl x.cells 20 rfl (Vrp.cells_length _) Tryz.underlying27 (by kernel_rfl) (by kernel_rfl) (by omega) (by omega) ?_) | (at_builtin; go_must (refine wpList_append_any _ rfl _ _ 27 rfl w.heap.size 67 i0 _ 20 48 Tryz.underlying27 hi0 hz0 hz1 hz2 rfl (by omega) _ out.length _ rfl (own_below hS.o ((Below.refl _ _).alloc (Nat.le_refl _) _)) (w3.heap.size + 1) (some ⟨w3.heap.size, 0, none⟩) 1 1 _ rfl (reads_blkV (Blk.new w3 67 x.cells) (n := 1) (size := 20) (Vrp.cells_length _)) (Vrp.one x) (by simp only [maxLen]; omega) (by omega) (by rw [World.size_alloc]; omega) ?_; intro v9 w9 ho9 hg9 _)))
        have hP : WtS w v9 (out ++ [x]) w9 := ⟨by rw [List.length_append, List.flatMap_append]; simpa using ho9, Below.grown (hS.lo.alloc hw3 (.cells x.cells.toArray 67)) hg9 (by rw [World.size_alloc]; omega) (fun k hk => (own_base_le hS.o k hk).1)⟩
        clear ho9 hg9 hS hX hxr
        go_wp2_with fail
        go_roundw
        case rel => exact ⟨k + 1, _, by omega, by go_num, hP, HE⟩
        case measure => simp [intOf]; omega
      · have HE := Lib.hid (show lessF (av.take (k + 1)) bs = out by rw [HT.out, HB.out, HO.out]; simp)
        clear HT HO hX
        go_wp2_with fail
        go_roundw
        case rel => exact ⟨k + 1, out, by omega, by go_num, hS, HE⟩
        case measure => simp [intOf]; omega
    · have hkk : k = av.length := by omega
      subst hkk
      obtain ⟨A3, c3, rfl⟩ := own_slice' hS.o
      have HE := Lib.hid (show lessF av bs = out by have := HO.out; rwa [List.take_length] at this)
      have ho := hS.o
      have hlo := hS.lo
      clear hS HO
      go_wp2_with fail
      go_ret
      rw [HE.out]
      exact ⟨A3, c3, rfl, ho, hlo⟩
def moreOf (xs ys : List Vrp) : List Vrp := lessF (rowOf ys) (rowOf xs)
theorem lessF_len (av bs : List Vrp) : (lessF av bs).length ≤ av.length := List.length_filter_le _ _
/-- What Diff tells: what the latter has more, and less. -/
def DiffPost (w : World) (xs ys : List Vrp) (e : Ending) (w' : World) : Prop :=
  ∃ A1 c1 A2 c2, e = .returned (.tuple #[.slice A1 (moreOf xs ys).length c1, .slice A2 (moreOf ys xs).length c2]) ∧
    w'.ownsRow w.heap.size 67 20 (.slice A1 (moreOf xs ys).length c1) (moreOf xs ys).length ((moreOf xs ys).flatMap Vrp.cells) ∧
    w'.ownsRow w.heap.size 67 20 (.slice A2 (moreOf ys xs).length c2) (moreOf ys xs).length ((moreOf ys xs).flatMap Vrp.cells) ∧ Below w.heap.size w w'
set_option maxRecDepth 100000 in
set_option maxHeartbeats 4000000 in
theorem diff_any (xs ys : List Vrp) (n m : Nat) (hn : xs.length = n) (hm : ys.length = m) (A A' : Option Addr) (c c' B : Nat) (hlen : n ≤ 1000000) (hlen' : m ≤ 1000000) (w : World) (hB : B ≤ w.heap.size) (hr : Reads w B 20 A n (xs.flatMap Vrp.cells)) (hr' : Reads w B 20 A' m (ys.flatMap Vrp.cells)) :
    Calls Tryz.prog 109 #[.slice A n c, .slice A' m c'] w (DiffPost w xs ys) := by
  have hxl := rowOf_len xs
  have hyl := rowOf_len ys
  go_enter Tryz.func109, Tryz.ntmps109
  go_wp2_with fail
  refine (vrow_any xs n hn A c B hlen w hB hr).mono ?_
  rintro e w1 ⟨A1, c1, rfl, ho1, hb1⟩
  have hlo := hb1
  have hw1 := hb1.size
  go_wp2_with fail
  refine (vrow_any ys m hm A' c' B hlen' w1 (by omega) (hr'.below hb1 hB)).mono ?_
  rintro e w2 ⟨A2, c2, rfl, ho2, hb2⟩
  replace ho1 := own_below ho1 hb2
  replace hlo := below_then hlo (Nat.le_refl _) hb2
  replace ho2 := own_base_mono ho2 hw1
  clear hb1 hb2
  have HX := Lib.hid (rowOf_rise xs)
  have HY := Lib.hid (rowOf_rise ys)
  have HM1 := Lib.hid (show moreOf xs ys = lessF (rowOf ys) (rowOf xs) from rfl)
  have HM2 := Lib.hid (show moreOf ys xs = lessF (rowOf xs) (rowOf ys) from rfl)
  generalize rowOf xs = X at ho1 HX HM1 HM2 hxl
  generalize rowOf ys = Y at ho2 HY HM1 HM2 hyl
  go_wp2_with fail
  refine (without_any Y X _ _ rfl rfl A2 A1 c2 c1 _ (by omega) (by omega) HX.out w2 (Nat.le_refl _) (Reads.of_own ho2) (Reads.of_own ho1)).mono ?_
  rintro e w3 ⟨A3, c3, rfl, ho3, hb3⟩
  replace ho1 := own_below ho1 hb3
  replace ho2 := own_below ho2 hb3
  replace ho3 := own_base_mono ho3 hlo.size
  replace hlo := below_then hlo (Nat.le_refl _) hb3
  clear hb3
  go_wp2_with fail
  refine (without_any X Y _ _ rfl rfl A1 A2 c1 c2 _ (by omega) (by omega) HY.out w3 (Nat.le_refl _) (Reads.of_own ho1) (Reads.of_own ho2)).mono ?_
  rintro e w4 ⟨A4, c4, rfl, ho4, hb4⟩
  replace ho3 := own_below ho3 hb4
  replace ho4 := own_base_mono ho4 hlo.size
  replace hlo := below_then hlo (Nat.le_refl _) hb4
  clear hb4 ho1 ho2
  rw [← HM1.out] at ho3 ⊢
  rw [← HM2.out] at ho4 ⊢
  go_wp2_with fail
  exact bodyPost_ret (v := .tuple #[.slice A3 (moreOf xs ys).length c3, .slice A4 (moreOf ys xs).length c4]) (by simp [results, Tryz.results109, go_sem]) rfl ⟨A3, c3, A4, c4, rfl, ho3, ho4, hlo⟩
end Go.Proofs.YtmoldmnhijcckaaGreat
