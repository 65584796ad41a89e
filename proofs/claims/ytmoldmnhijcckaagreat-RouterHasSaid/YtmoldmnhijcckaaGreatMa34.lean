/- session.New, Open, Close. -/
import Derived.Test.YtmoldmnhijcckaaGreatMa30
import Derived.Test.YtmoldmnhijcckaaGreatMa33
set_option linter.unusedVariables false
set_option linter.unusedSectionVars false
set_option linter.unusedSimpArgs false
namespace Go.Proofs.YtmoldmnhijcckaaGreat
open Go.RowKit
theorem CA.start (w : World) (sess : Int) (serial : UInt32) : CA ((w.alloc (.map #[] 0)).alloc (.cells #[.int .i64 sess, .int .u32 serial.toNat, .slice none 0 0, .map (some w.heap.size), .int .i64 0] 92)) w.heap.size (w.heap.size + 1) w.heap.size sess serial (.slice none 0 0) [] (fun _ => none) 0 := by
  refine ⟨blk_new' _ _ [_, _, _, _, _] _ (by simp), World.ownsRow_nil _ _ _ _, fun s hs => absurd hs (by simp), ⟨[], 0, ?_, by simp, fun k => rfl⟩, fun k x hx => (by cases hx), Nat.le_refl _, Nat.lt_succ_self _⟩
  rw [Below.heap_alloc _ _ _ (by simp)]
  exact heap_alloc_new w _
set_option maxRecDepth 100000 in
set_option maxHeartbeats 1000000 in
theorem snew_any (sess : Int) (serial : UInt32) (h0 : 0 ≤ sess) (h1 : sess ≤ 65535) (w : World) : Calls Tryz.prog 17 #[.int .i64 sess, .int .u32 serial.toNat] w fun e w' =>
    ∃ g b, e = .returned (.tuple #[.pointer (some ⟨g, 0, none⟩), .int .i64 0]) ∧ CA w' w.heap.size g b sess serial (.slice none 0 0) [] (fun _ => none) 0 ∧ Below w.heap.size w w' := by
  have hC := CA.start w sess serial
  have hlo : Below w.heap.size w ((w.alloc (.map #[] 0)).alloc (.cells #[.int .i64 sess, .int .u32 serial.toNat, .slice none 0 0, .map (some w.heap.size), .int .i64 0] 92)) := ((Below.refl _ _).alloc (Nat.le_refl _) _).alloc (by simp) _
  have d0 : decide (sess < 0) = false := decide_eq_false (by omega)
  have d1 : decide ((65535 : Int) < sess) = false := decide_eq_false (by omega)
  have hmm := @run_makeMap Tryz.prog
  go_enter Tryz.func17, Tryz.ntmps17
  go_wp2_with fail
  exact bodyPost_ret (v := .tuple #[.pointer (some ⟨w.heap.size + 1, 0, none⟩), .int .i64 0]) (by simp [results, Tryz.results17, go_sem]) rfl ⟨_, _, rfl, hC, hlo⟩
theorem CA.many {W : World} {lo g b : Nat} {sess : Int} {serial : UInt32} {v : Value} {ss : List SetV} {f : Int → Option Lf} {many : Int} (h : CA W lo g b sess serial v ss f many) (m : Int) (hlg : lo ≤ g) : CA (W.setCell ⟨g, 4, none⟩ (.int .i64 m)) lo g b sess serial v ss f m := by
  have hset : ∀ k, k ≠ g → (W.setCell ⟨g, 4, none⟩ (.int .i64 m)).heap[k]? = W.heap[k]? := fun k hk => Below.heap_setCell W ⟨g, 4, none⟩ _ k hk
  have hl2 := h.l2
  refine ⟨h.blk.set_ 4 _, own_kept h.row fun k hk => hset k (fun e => by subst e; exact own_blk_ne h.row h.blk (by decide) hk), fun s hs => own_kept (h.sets s hs) fun k hk => hset k (fun e => by subst e; exact own_blk_ne (h.sets s hs) h.blk (by decide) hk), h.mp.kept (hset b (by omega)), fun k x hx => ⟨?_, (h.left k x hx).2⟩, h.l1, h.l2⟩
  have hr := (h.left k x hx).1
  refine ⟨hr.1, fun hn => ?_⟩
  obtain ⟨ad, e, hb, hc⟩ := hr.2 hn
  refine ⟨ad, e, by rw [World.size_setCell]; exact hb, fun j u hu => ?_⟩
  rw [World.cell?_setCell_other]
  · exact hc j u hu
  · intro e2
    have h1 := hc j u hu
    rw [← e2, h.blk.cell 4] at h1
    have hj : j < x.bs.length := by have := (List.getElem?_eq_some_iff.1 hu).1; simpa using this
    rw [List.getElem?_map, List.getElem?_eq_getElem hj] at hu
    have h2 := hu.trans h1.symm
    simp [bv] at h2
set_option maxRecDepth 100000 in
set_option maxHeartbeats 1000000 in
theorem open_any (w : World) (lo g b : Nat) (sess : Int) (serial : UInt32) (v : Value) (ss : List SetV) (f : Int → Option Lf) (many : Int) (h : CA w lo g b sess serial v ss f many) (h0 : 0 ≤ many) (h1 : many ≤ 1000000) :
    Calls Tryz.prog 21 #[.pointer (some ⟨g, 0, none⟩)] w fun e w' => e = .returned (.int .i64 many) ∧ CA w' lo g b sess serial v ss (fun k => if k = many then some ⟨none, 0, []⟩ else f k) (many + 1) ∧ Fr2 w w' g b := by
  have c4 := h.blk.cell 4
  have f4 := h.blk.frozen 4
  simp only [List.getElem?_cons_zero, List.getElem?_cons_succ] at c4
  have hlg : lo ≤ g := by have := h.l1; have := h.l2; omega
  have hw : IntKind.i64.wrap (many + 1) = many + 1 := IntWalk.i64_in _ (by omega)
  have hC2 := h.many (many + 1) hlg
  have cm := hC2.blk.cell 3
  simp only [List.getElem?_cons_zero, List.getElem?_cons_succ] at cm
  obtain ⟨w4, hrun, hM4, hG4⟩ := hC2.mp.put (P := Tryz.prog) Tryz.underlying89 Tryz.underlying3 many (.slice none 0 0)
  have hC4 := hC2.putLeft many (some ⟨none, 0, []⟩) (fun y hy => by cases hy; exact ⟨Reads.nil, Nat.le_refl _⟩) hM4 hG4
  have hF : Fr2 w w4 g b := (Fr2.of (grown_setCell (grown_refl w (some g)) 4 (.int .i64 (many + 1)))).trans (Fr2.of' hG4)
  clear h hC2 hM4 hG4
  go_enter Tryz.func21, Tryz.ntmps21
  go_wp2_with fail
  go_ret
  exact ⟨rfl, hC4, hF⟩
set_option maxRecDepth 100000 in
set_option maxHeartbeats 1000000 in
theorem close_any (id : Int) (w : World) (lo g b : Nat) (sess : Int) (serial : UInt32) (v : Value) (ss : List SetV) (f : Int → Option Lf) (many : Int) (h : CA w lo g b sess serial v ss f many) :
    Calls Tryz.prog 23 #[.pointer (some ⟨g, 0, none⟩), .int .i64 id] w fun e w' => e = .returned (.int .i64 (if (f id).isSome then 0 else 10)) ∧ CA w' lo g b sess serial v ss (fun k => if k = id then none else f k) many ∧ w.grownBy w' (some b) := by
  have cm := h.blk.cell 3
  simp only [List.getElem?_cons_zero, List.getElem?_cons_succ] at cm
  cases hf : f id with
  | none =>
    have hlook := h.mp.look_none Tryz.underlying89 Tryz.underlying3 (P := Tryz.prog) (k := id) (Tryz.zeroValue29 w) (by simp [hf])
    have hfe : (fun k => if k = id then (none : Option Lf) else f k) = f := by
      funext k
      by_cases hk : k = id
      · rw [hk, hf]; simp
      · simp [hk]
    have hC : CA w lo g b sess serial v ss (fun k => if k = id then none else f k) many := by rw [hfe]; exact h
    have HF := Lib.hid hf
    clear hf hfe
    go_enter Tryz.func23, Tryz.ntmps23
    go_wp2_with fail
    go_ret
    exact ⟨rfl, hC, grown_refl _ _⟩
  | some x =>
    have hlook := h.mp.look_some Tryz.underlying89 Tryz.underlying3 (P := Tryz.prog) (k := id) (v := x.val) (by simp [hf])
    unfold Lf.val at hlook
    obtain ⟨w7, hrun7, hM7, hG7⟩ := h.mp.del (P := Tryz.prog) Tryz.underlying89 Tryz.underlying3 id (v0 := x.val) (by simp [hf])
    have hC7 := h.putLeft id none (fun y hy => by cases hy) hM7 hG7
    have HF := Lib.hid hf
    clear hf hM7
    go_enter Tryz.func23, Tryz.ntmps23
    go_wp2_with fail
    go_ret
    exact ⟨rfl, hC7, hG7⟩
end Go.Proofs.YtmoldmnhijcckaaGreat
/- slices.Equal at rows of api.Vrp; session.Now. -/
set_option linter.unusedVariables false
set_option linter.unusedSectionVars false
set_option linter.unusedSimpArgs false
namespace Go.Proofs.YtmoldmnhijcckaaGreat
open Go.RowKit
set_option maxRecDepth 100000 in
set_option maxHeartbeats 2000000 in
theorem equalV_any (xs ys : List Vrp) (n m : Nat) (hn : xs.length = n) (hm : ys.length = m) (A A' : Option Addr) (c c' B : Nat) (hl : n ≤ 1000000) (w : World) (hB : B ≤ w.heap.size) (hr : Reads w B 20 A n (xs.flatMap Vrp.cells)) (hr' : Reads w B 20 A' m (ys.flatMap Vrp.cells)) :
    Calls Tryz.prog 46 #[.slice A n c, .slice A' m c'] w fun e w' => e = .returned (.bool (decide (xs = ys))) ∧ Below w.heap.size w w' := by
  subst hn
  subst hm
  have hlo := Below.refl w.heap.size w
  by_cases he : xs.length = ys.length
  · have b0 : ((xs.length : Int) != (ys.length : Int)) = false := by simp [he]
    have HE := Lib.hid he
    clear he
    go_enter Tryz.func46, Tryz.ntmps46
    go_wp2_with fail
    clear b0
    go_loopw [5, 13] (fun v5 i wr => ∃ k : Nat, k ≤ xs.length ∧ i = .int .i64 k ∧ Below w.heap.size w wr ∧ Hid (xs.take k = ys.take k)) (fun _ i _ => xs.length - (intOf i).toNat)
    case atStart => exact ⟨0, by omega, rfl, hlo, Lib.hid rfl⟩
    case round =>
      clear hlo
      obtain ⟨k, hk, rfl, hlo, HT⟩ := hrel
      by_cases hlt : k < xs.length
      · have hlt' : k < ys.length := by have := HE.out; omega
        obtain ⟨ad, rfl, _, _⟩ := hr.2 (by omega)
        obtain ⟨ad', rfl, _, _⟩ := hr'.2 (by omega)
        have hk0 : (0 : Int) ≤ (k : Int) := by omega
        have hk1 : (k : Int) < (xs.length : Int) := by omega
        have hk2 : (k : Int) < (ys.length : Int) := by omega
        have r1 : ∀ W, Below w.heap.size w W → AtAdr W (ad.add (k * 20)) xs[k].cells := fun W hW => (hr.below hW hB).elem Vrp.cells_length hlt rfl
        have r2 : ∀ W, Below w.heap.size w W → AtAdr W (ad'.add (k * 20)) ys[k].cells := fun W hW => (hr'.below hW hB).elem Vrp.cells_length hlt' rfl
        have HX := Lib.hid (show xs.take (k + 1) = xs.take k ++ [xs[k]] from List.take_succ_eq_append_getElem hlt)
        have HY := Lib.hid (show ys.take (k + 1) = ys.take k ++ [ys[k]] from List.take_succ_eq_append_getElem hlt')
        have HG := Lib.hid (show xs = ys → xs[k] = ys[k] from fun e => by subst e; rfl)
        generalize xs[k] = x at r1 HX HG
        generalize ys[k] = y at r2 HY HG
        by_cases hxy : x = y
        · have hne : ∀ W, (Go.binOp .neq 67 (.agg x.cells.toArray) (.agg y.cells.toArray)).run Tryz.prog W = .ok (.bool false) W := fun W => by rw [neq_vrp, decide_eq_true hxy]; rfl
          have HN := Lib.hid (show xs.take (k + 1) = ys.take (k + 1) by rw [HX.out, HY.out, HT.out, hxy])
          clear HX HY HG HT hxy
          go_upto_region 6 with fail
          refine reg_sch2 9 [(true, 0), (true, 1), (true, 2), (true, 3), (true, 4), (true, 5), (true, 6), (true, 7), (true, 8)] (by kernel_rfl) (by kernel_rfl) (fun W => Below w.heap.size w W) (fun W => Below w.heap.size w W) ?_ ?_ ?_
          · exact hlo.drew
          · exact fun _ h => h
          intro W hSW
          simp only [List.map_cons, List.map_nil, List.getD_cons_zero, List.getD_cons_succ, List.drop_succ_cons, List.drop_zero]
          refine hd_pure (v := ?_) (by rfl) (fun W' hS' => ?_) ?_ -- 0
          rotate_left
          · clear hS'; (go_simp; first | with_reducible rfl | rfl)
          try simp only [Act.put, List.setIfInBounds_toArray, List.set_cons_zero, List.set_cons_succ]
          refine hd_pure (v := ?_) (by rfl) (fun W' hS' => ?_) ?_ -- 1
          rotate_left
          · clear hS'; (go_simp; first | with_reducible rfl | rfl)
          try simp only [Act.put, List.setIfInBounds_toArray, List.set_cons_zero, List.set_cons_succ]
          refine hd_pure (v := ?_) (by rfl) (fun W' hS' => ?_) ?_ -- 2
          rotate_left
          · clear hS'; (go_simp; first | with_reducible rfl | rfl)
          try simp only [Act.put, List.setIfInBounds_toArray, List.set_cons_zero, List.set_cons_succ]
          refine hd_pure (v := .agg x.cells.toArray) (by rfl) (fun W' hS' => exec_load_adr 67 _ (by rfl) (ad.add (k * 20)) 20 (by rfl) _ _ (r1 _ hS') (Vrp.cells_length _) Tryz.underlying67 rfl info_vrp1) ?_ -- 3
          try simp only [Act.put, List.setIfInBounds_toArray, List.set_cons_zero, List.set_cons_succ]
          refine hd_pure (v := ?_) (by rfl) (fun W' hS' => ?_) ?_ -- 4
          rotate_left
          · clear hS'; (go_simp; first | with_reducible rfl | rfl)
          try simp only [Act.put, List.setIfInBounds_toArray, List.set_cons_zero, List.set_cons_succ]
          refine hd_pure (v := ?_) (by rfl) (fun W' hS' => ?_) ?_ -- 5
          rotate_left
          · clear hS'; (go_simp; first | with_reducible rfl | rfl)
          try simp only [Act.put, List.setIfInBounds_toArray, List.set_cons_zero, List.set_cons_succ]
          refine hd_pure (v := ?_) (by rfl) (fun W' hS' => ?_) ?_ -- 6
          rotate_left
          · clear hS'; (go_simp; first | with_reducible rfl | rfl)
          try simp only [Act.put, List.setIfInBounds_toArray, List.set_cons_zero, List.set_cons_succ]
          refine hd_pure (v := .agg y.cells.toArray) (by rfl) (fun W' hS' => exec_load_adr 67 _ (by rfl) (ad'.add (k * 20)) 20 (by rfl) _ _ (r2 _ hS') (Vrp.cells_length _) Tryz.underlying67 rfl info_vrp1) ?_ -- 7
          try simp only [Act.put, List.setIfInBounds_toArray, List.set_cons_zero, List.set_cons_succ]
          refine hd_pure (v := ?_) (by rfl) (fun W' hS' => ?_) ?_ -- 8
          rotate_left
          · clear hS'; (go_simp; first | with_reducible rfl | rfl)
          try simp only [Act.put, List.setIfInBounds_toArray, List.set_cons_zero, List.set_cons_succ]
          refine hd_nil ?_
          replace hlo := hSW; clear hSW
          refine wpList_nil (NoPanic.normal ?_)
          clear hne r1 r2
          go_wp2_with fail
          go_roundw
          case rel => exact ⟨k + 1, by omega, by go_num, hlo, HN⟩
          case measure => simp [intOf]; omega
        · have hne : ∀ W, (Go.binOp .neq 67 (.agg x.cells.toArray) (.agg y.cells.toArray)).run Tryz.prog W = .ok (.bool true) W := fun W => by rw [neq_vrp, decide_eq_false hxy]; rfl
          have HF := Lib.hid (show decide (xs = ys) = false from decide_eq_false fun e => hxy (HG.out e))
          clear HX HY HG HT hxy
          go_upto_region 6 with fail
          refine reg_sch2 9 [(true, 0), (true, 1), (true, 2), (true, 3), (true, 4), (true, 5), (true, 6), (true, 7), (true, 8)] (by kernel_rfl) (by kernel_rfl) (fun W => Below w.heap.size w W) (fun W => Below w.heap.size w W) ?_ ?_ ?_
          · exact hlo.drew
          · exact fun _ h => h
          intro W hSW
          simp only [List.map_cons, List.map_nil, List.getD_cons_zero, List.getD_cons_succ, List.drop_succ_cons, List.drop_zero]
          refine hd_pure (v := ?_) (by rfl) (fun W' hS' => ?_) ?_ -- 0
          rotate_left
          · clear hS'; (go_simp; first | with_reducible rfl | rfl)
          try simp only [Act.put, List.setIfInBounds_toArray, List.set_cons_zero, List.set_cons_succ]
          refine hd_pure (v := ?_) (by rfl) (fun W' hS' => ?_) ?_ -- 1
          rotate_left
          · clear hS'; (go_simp; first | with_reducible rfl | rfl)
          try simp only [Act.put, List.setIfInBounds_toArray, List.set_cons_zero, List.set_cons_succ]
          refine hd_pure (v := ?_) (by rfl) (fun W' hS' => ?_) ?_ -- 2
          rotate_left
          · clear hS'; (go_simp; first | with_reducible rfl | rfl)
          try simp only [Act.put, List.setIfInBounds_toArray, List.set_cons_zero, List.set_cons_succ]
          refine hd_pure (v := .agg x.cells.toArray) (by rfl) (fun W' hS' => exec_load_adr 67 _ (by rfl) (ad.add (k * 20)) 20 (by rfl) _ _ (r1 _ hS') (Vrp.cells_length _) Tryz.underlying67 rfl info_vrp1) ?_ -- 3
          try simp only [Act.put, List.setIfInBounds_toArray, List.set_cons_zero, List.set_cons_succ]
          refine hd_pure (v := ?_) (by rfl) (fun W' hS' => ?_) ?_ -- 4
          rotate_left
          · clear hS'; (go_simp; first | with_reducible rfl | rfl)
          try simp only [Act.put, List.setIfInBounds_toArray, List.set_cons_zero, List.set_cons_succ]
          refine hd_pure (v := ?_) (by rfl) (fun W' hS' => ?_) ?_ -- 5
          rotate_left
          · clear hS'; (go_simp; first | with_reducible rfl | rfl)
          try simp only [Act.put, List.setIfInBounds_toArray, List.set_cons_zero, List.set_cons_succ]
          refine hd_pure (v := ?_) (by rfl) (fun W' hS' => ?_) ?_ -- 6
          rotate_left
          · clear hS'; (go_simp; first | with_reducible rfl | rfl)
          try simp only [Act.put, List.setIfInBounds_toArray, List.set_cons_zero, List.set_cons_succ]
          refine hd_pure (v := .agg y.cells.toArray) (by rfl) (fun W' hS' => exec_load_adr 67 _ (by rfl) (ad'.add (k * 20)) 20 (by rfl) _ _ (r2 _ hS') (Vrp.cells_length _) Tryz.underlying67 rfl info_vrp1) ?_ -- 7
          try simp only [Act.put, List.setIfInBounds_toArray, List.set_cons_zero, List.set_cons_succ]
          refine hd_pure (v := ?_) (by rfl) (fun W' hS' => ?_) ?_ -- 8
          rotate_left
          · clear hS'; (go_simp; first | with_reducible rfl | rfl)
          try simp only [Act.put, List.setIfInBounds_toArray, List.set_cons_zero, List.set_cons_succ]
          refine hd_nil ?_
          replace hlo := hSW; clear hSW
          refine wpList_nil (NoPanic.normal ?_)
          clear hne r1 r2
          go_wp2_with fail
          go_ret
          exact ⟨by rw [HF.out]; rfl, hlo⟩
      · have hkk : k = xs.length := by omega
        subst hkk
        have HF := Lib.hid (show decide (xs = ys) = true from decide_eq_true (by have := HT.out; rw [List.take_length, HE.out, List.take_length] at this; exact this))
        clear hlt hk
        go_wp2_with fail
        go_ret
        exact ⟨by rw [HF.out]; rfl, hlo⟩
  · have b0 : ((xs.length : Int) != (ys.length : Int)) = true := by simp; omega
    have HF := Lib.hid (show decide (xs = ys) = false from decide_eq_false fun e => he (by rw [e]))
    clear he
    go_enter Tryz.func46, Tryz.ntmps46
    go_wp2_with fail
    go_ret
    exact ⟨by rw [HF.out]; rfl, hlo⟩
def NowPost (w : World) (ss : List SetV) (e : Ending) (w' : World) : Prop :=
  (ss = [] ∧ e = .returned (.tuple #[.slice none 0 0, .int .u32 0, .bool false])) ∨
  ∃ s A c, ss.getLast? = some s ∧ e = .returned (.tuple #[.slice A s.l.length c, .int .u32 s.sn.toNat, .bool true]) ∧ w'.ownsRow w.heap.size 67 20 (.slice A s.l.length c) s.l.length (s.l.flatMap Vrp.cells)
set_option maxRecDepth 100000 in
set_option maxHeartbeats 2000000 in
theorem now_any (w : World) (lo g b : Nat) (sess : Int) (serial : UInt32) (v : Value) (ss : List SetV) (f : Int → Option Lf) (many : Int) (h : CA w lo g b sess serial v ss f many) (hl : ss.length ≤ 1000000) (hs6 : ∀ s ∈ ss, s.l.length ≤ 1000000) :
    Calls Tryz.prog 27 #[.pointer (some ⟨g, 0, none⟩)] w fun e w' => NowPost w ss e w' ∧ Below w.heap.size w w' := by
  go_enter Tryz.func27, Tryz.ntmps27
  go_wp2_with fail
  refine (last_any w lo g b sess serial v ss f many h hl).mono ?_
  rintro e w1 ⟨hlp, hb1⟩
  rcases hlp with ⟨he, rfl⟩ | ⟨s, gs, cs, hs, rfl, rfl⟩
  · have HE := Lib.hid he
    clear he
    go_wp2_with fail
    exact bodyPost_ret (v := .tuple #[.slice none 0 0, .int .u32 0, .bool false]) (by simp [results, Tryz.results27, go_sem]) rfl ⟨.inl ⟨HE.out, rfl⟩, hb1⟩
  · have h1 := h.next hb1
    have HS := Lib.hid hs
    have hsm : s ∈ ss := List.mem_of_getLast? hs
    have hw1 := hb1.size
    go_upto_region 4 with fail
    refine reg_sch2 12 [(true, 0), (true, 1), (true, 2), (true, 3), (true, 5), (true, 6), (true, 7), (true, 8), (false, 4), (true, 9), (true, 10), (true, 11)] (by kernel_rfl) (by kernel_rfl) (fun W => CA W lo g b sess serial (.slice (some ⟨gs, 0, none⟩) ss.length cs) ss f many ∧ Below w.heap.size w W) (fun W => CA W lo g b sess serial (.slice (some ⟨gs, 0, none⟩) ss.length cs) ss f many ∧ Below w.heap.size w W) ?_ ?_ ?_
    · exact ⟨h1.drew, hb1.drew⟩
    · exact fun _ h => h
    intro W hSW
    simp only [List.map_cons, List.map_nil, List.getD_cons_zero, List.getD_cons_succ, List.drop_succ_cons, List.drop_zero]
    refine hd_pure (v := ?_) (by rfl) (fun W' hS' => ?_) ?_ -- 0
    rotate_left
    · obtain ⟨k0, k1, _⟩ := hS'.1.lastAt HS.out rfl; clear hS'; (go_simp; first | with_reducible rfl | rfl)
    try simp only [Act.put, List.setIfInBounds_toArray, List.set_cons_zero, List.set_cons_succ]
    refine hd_pure (v := ?_) (by rfl) (fun W' hS' => ?_) ?_ -- 1
    rotate_left
    · obtain ⟨k0, k1, _⟩ := hS'.1.lastAt HS.out rfl; clear hS'; (go_simp; first | with_reducible rfl | rfl)
    try simp only [Act.put, List.setIfInBounds_toArray, List.set_cons_zero, List.set_cons_succ]
    refine hd_pure (v := ?_) (by rfl) (fun W' hS' => ?_) ?_ -- 2
    rotate_left
    · obtain ⟨k0, k1, _⟩ := hS'.1.lastAt HS.out rfl; clear hS'; (go_simp; first | with_reducible rfl | rfl)
    try simp only [Act.put, List.setIfInBounds_toArray, List.set_cons_zero, List.set_cons_succ]
    refine hd_pure (v := ?_) (by rfl) (fun W' hS' => ?_) ?_ -- 3
    rotate_left
    · obtain ⟨k0, k1, _⟩ := hS'.1.lastAt HS.out rfl; clear hS'; (go_simp; first | with_reducible rfl | rfl)
    try simp only [Act.put, List.setIfInBounds_toArray, List.set_cons_zero, List.set_cons_succ]
    refine hd_pure (v := ?_) (by rfl) (fun W' hS' => ?_) ?_ -- 5
    rotate_left
    · obtain ⟨k0, k1, _⟩ := hS'.1.lastAt HS.out rfl; clear hS'; (go_simp; first | with_reducible rfl | rfl)
    try simp only [Act.put, List.setIfInBounds_toArray, List.set_cons_zero, List.set_cons_succ]
    refine hd_pure (v := ?_) (by rfl) (fun W' hS' => ?_) ?_ -- 6
    rotate_left
    · obtain ⟨k0, k1, _⟩ := hS'.1.lastAt HS.out rfl; clear hS'; (go_simp; first | with_reducible rfl | rfl)
    try simp only [Act.put, List.setIfInBounds_toArray, List.set_cons_zero, List.set_cons_succ]
    refine hd_pure (v := ?_) (by rfl) (fun W' hS' => ?_) ?_ -- 7
    rotate_left
    · obtain ⟨k0, k1, _⟩ := hS'.1.lastAt HS.out rfl; clear hS'; (go_simp; first | with_reducible rfl | rfl)
    try simp only [Act.put, List.setIfInBounds_toArray, List.set_cons_zero, List.set_cons_succ]
    refine hd_pure (v := ?_) (by rfl) (fun W' hS' => ?_) ?_ -- 8
    rotate_left
    · obtain ⟨k0, k1, _⟩ := hS'.1.lastAt HS.out rfl; clear hS'; (go_simp; first | with_reducible rfl | rfl)
    try simp only [Act.put, List.setIfInBounds_toArray, List.set_cons_zero, List.set_cons_succ]
    refine hd_sole (by rfl) (fun K hK => ?_) -- 4
    have hso := hSW.1.sets s hsm
    go_simp
    refine (cloneV_any s.l _ rfl s.A s.c _ (hs6 s hsm) _ (Nat.le_refl _) (Reads.of_own hso)).mono ?_; rintro e w' ⟨A2, c2, rfl, ho2, hb2⟩
    replace ho2 := own_base_mono ho2 hSW.2.size
    refine hK _ _ (⟨hSW.1.next hb2, below_then hSW.2 (Nat.le_refl _) hb2⟩) ?_
    clear hK K
    intro hSW4
    try simp only [Act.put, List.setIfInBounds_toArray, List.set_cons_zero, List.set_cons_succ]
    refine hd_pure (v := ?_) (by rfl) (fun W' hS' => ?_) ?_ -- 9
    rotate_left
    · obtain ⟨k0, k1, _⟩ := hS'.1.lastAt HS.out rfl; clear hS'; (go_simp; first | with_reducible rfl | rfl)
    try simp only [Act.put, List.setIfInBounds_toArray, List.set_cons_zero, List.set_cons_succ]
    refine hd_pure (v := ?_) (by rfl) (fun W' hS' => ?_) ?_ -- 10
    rotate_left
    · obtain ⟨k0, k1, _⟩ := hS'.1.lastAt HS.out rfl; clear hS'; (go_simp; first | with_reducible rfl | rfl)
    try simp only [Act.put, List.setIfInBounds_toArray, List.set_cons_zero, List.set_cons_succ]
    refine hd_pure (v := ?_) (by rfl) (fun W' hS' => ?_) ?_ -- 11
    rotate_left
    · obtain ⟨k0, k1, _⟩ := hS'.1.lastAt HS.out rfl; clear hS'; (go_simp; first | with_reducible rfl | rfl)
    try simp only [Act.put, List.setIfInBounds_toArray, List.set_cons_zero, List.set_cons_succ]
    refine hd_nil ?_
    have hbf := hSW4.2; clear hSW hSW4
    refine wpList_nil (NoPanic.normal ?_)
    go_wp2_with fail
    exact bodyPost_ret (v := .tuple #[.slice A2 s.l.length c2, .int .u32 s.sn.toNat, .bool true]) (by simp [results, Tryz.results27, go_sem]) rfl ⟨.inr ⟨s, A2, c2, HS.out, rfl, ho2⟩, hbf⟩
end Go.Proofs.YtmoldmnhijcckaaGreat
