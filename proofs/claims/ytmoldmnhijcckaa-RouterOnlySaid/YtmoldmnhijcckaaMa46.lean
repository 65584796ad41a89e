/- slices.Equal at rows of api.Vrp; session.Now. -/
import Derived.Test.YtmoldmnhijcckaaMa45
set_option linter.unusedVariables false
set_option linter.unusedSectionVars false
set_option linter.unusedSimpArgs false
namespace Go.Proofs.Ytmoldmnhijcckaa
open Go.RowKit
set_option maxRecDepth 100000 in
set_option maxHeartbeats 2000000 in
theorem equalV_any (xs ys : List Vrp) (n m : Nat) (hn : xs.length = n) (hm : ys.length = m) (A A' : Option Addr) (c c' B : Nat) (hl : n ≤ 1000000) (w : World) (hB : B ≤ w.heap.size) (hr : Reads w B 20 A n (xs.flatMap Vrp.cells)) (hr' : Reads w B 20 A' m (ys.flatMap Vrp.cells)) :
    Calls Try.prog 62 #[.slice A n c, .slice A' m c'] w fun e w' => e = .returned (.bool (decide (xs = ys))) ∧ Below w.heap.size w w' := by
  subst hn
  subst hm
  have hlo := Below.refl w.heap.size w
  by_cases he : xs.length = ys.length
  · have b0 : ((xs.length : Int) != (ys.length : Int)) = false := by simp [he]
    have HE := Lib.hid he
    clear he
    go_enter Try.func62, Try.ntmps62
    go_wp2_with fail
    clear b0
    go_loopw [5, 13] (fun v5 i wr => ∃ k : Nat, k ≤ xs.length ∧ i = .int .i64 k ∧ Below w.heap.size w wr ∧ Hid (xs.take k = ys.take k)) (fun _ i _ => xs.length - (intOf i).toNat)
    case atStart => exact ⟨0, by omega, rfl, hlo, Lib.hid rfl⟩
    case round =>
      clear hlo
      obtain ⟨k, hk, rfl, hlo, HT⟩ := hrel
      by_cases hlt : k < xs.length
      · have hlt' : k < ys.length := by have := HE.out; omega
        obtain ⟨ad, rfl, _, _⟩ := hr.2 (by omega)
        obtain ⟨ad', rfl, _, _⟩ := hr'.2 (by omega)
        have hk0 : (0 : Int) ≤ (k : Int) := by omega
        have hk1 : (k : Int) < (xs.length : Int) := by omega
        have hk2 : (k : Int) < (ys.length : Int) := by omega
        have r1 : ∀ W, Below w.heap.size w W → AtAdr W (ad.add (k * 20)) xs[k].cells := fun W hW => (hr.below hW hB).elem Vrp.cells_length hlt rfl
        have r2 : ∀ W, Below w.heap.size w W → AtAdr W (ad'.add (k * 20)) ys[k].cells := fun W hW => (hr'.below hW hB).elem Vrp.cells_length hlt' rfl
        have HX := Lib.hid (show xs.take (k + 1) = xs.take k ++ [xs[k]] from List.take_succ_eq_append_getElem hlt)
        have HY := Lib.hid (show ys.take (k + 1) = ys.take k ++ [ys[k]] from List.take_succ_eq_append_getElem hlt')
        have HG := Lib.hid (show xs = ys → xs[k] = ys[k] from fun e => by subst e; rfl)
        generalize xs[k] = x at r1 HX HG
        generalize ys[k] = y at r2 HY HG
        by_cases hxy : x = y
        · have hne : ∀ W, (Go.binOp .neq 27 (.agg x.cells.toArray) (.agg y.cells.toArray)).run Try.prog W = .ok (.bool false) W := fun W => by rw [neq_vrp, decide_eq_true hxy]; rfl
          have HN := Lib.hid (show xs.take (k + 1) = ys.take (k + 1) by rw [HX.out, HY.out, HT.out, hxy])
          clear HX HY HG HT hxy
          go_upto_region 6 with fail
          refine reg_sch2 9 [(true, 0), (true, 1), (true, 2), (true, 3), (true, 4), (true, 5), (true, 6), (true, 7), (true, 8)] (by kernel_rfl) (by kernel_rfl) (fun W => Below w.heap.size w W) (fun W => Below w.heap.size w W) ?_ ?_ ?_
          · exact hlo.drew
          · exact fun _ h => h
          intro W hSW
          simp only [List.map_cons, List.map_nil, List.getD_cons_zero, List.getD_cons_succ, List.drop_succ_cons, List.drop_zero]
          refine hd_pure (v := ?_) (by rfl) (fun W' hS' => ?_) ?_ -- 0
          rotate_left
          · clear hS'; (go_simp; first | with_reducible rfl | rfl)
          try simp only [Act.put, List.setIfInBounds_toArray, List.set_cons_zero, List.set_cons_succ]
          refine hd_pure (v := ?_) (by rfl) (fun W' hS' => ?_) ?_ -- 1
          rotate_left
          · clear hS'; (go_simp; first | with_reducible rfl | rfl)
          try simp only [Act.put, List.setIfInBounds_toArray, List.set_cons_zero, List.set_cons_succ]
          refine hd_pure (v := ?_) (by rfl) (fun W' hS' => ?_) ?_ -- 2
          rotate_left
          · clear hS'; (go_simp; first | with_reducible rfl | rfl)
          try simp only [Act.put, List.setIfInBounds_toArray, List.set_cons_zero, List.set_cons_succ]
          refine hd_pure (v := .agg x.cells.toArray) (by rfl) (fun W' hS' => exec_load_adr 27 _ (by rfl) (ad.add (k * 20)) 20 (by rfl) _ _ (r1 _ hS') (Vrp.cells_length _) Try.underlying27 rfl info_vrp1) ?_ -- 3
          try simp only [Act.put, List.setIfInBounds_toArray, List.set_cons_zero, List.set_cons_succ]
          refine hd_pure (v := ?_) (by rfl) (fun W' hS' => ?_) ?_ -- 4
          rotate_left
          · clear hS'; (go_simp; first | with_reducible rfl | rfl)
          try simp only [Act.put, List.setIfInBounds_toArray, List.set_cons_zero, List.set_cons_succ]
          refine hd_pure (v := ?_) (by rfl) (fun W' hS' => ?_) ?_ -- 5
          rotate_left
          · clear hS'; (go_simp; first | with_reducible rfl | rfl)
          try simp only [Act.put, List.setIfInBounds_toArray, List.set_cons_zero, List.set_cons_succ]
          refine hd_pure (v := ?_) (by rfl) (fun W' hS' => ?_) ?_ -- 6
          rotate_left
          · clear hS'; (go_simp; first | with_reducible rfl | rfl)
          try simp only [Act.put, List.setIfInBounds_toArray, List.set_cons_zero, List.set_cons_succ]
          refine hd_pure (v := .agg y.cells.toArray) (by rfl) (fun W' hS' => exec_load_adr 27 _ (by rfl) (ad'.add (k * 20)) 20 (by rfl) _ _ (r2 _ hS') (Vrp.cells_length _) Try.underlying27 rfl info_vrp1) ?_ -- 7
          try simp only [Act.put, List.setIfInBounds_toArray, List.set_cons_zero, List.set_cons_succ]
          refine hd_pure (v := ?_) (by rfl) (fun W' hS' => ?_) ?_ -- 8
          rotate_left
          · clear hS'; (go_simp; first | with_reducible rfl | rfl)
          try simp only [Act.put, List.setIfInBounds_toArray, List.set_cons_zero, List.set_cons_succ]
          refine hd_nil ?_
          replace hlo := hSW; clear hSW
          refine wpList_nil (NoPanic.normal ?_)
          clear hne r1 r2
          go_wp2_with fail
          go_roundw
          case rel => exact ⟨k + 1, by omega, by go_num, hlo, HN⟩
          case measure => simp [intOf]; omega
        · have hne : ∀ W, (Go.binOp .neq 27 (.agg x.cells.toArray) (.agg y.cells.toArray)).run Try.prog W = .ok (.bool true) W := fun W => by rw [neq_vrp, decide_eq_false hxy]; rfl
          have HF := Lib.hid (show decide (xs = ys) = false from decide_eq_false fun e => hxy (HG.out e))
          clear HX HY HG HT hxy
          go_upto_region 6 with fail
          refine reg_sch2 9 [(true, 0), (true, 1), (true, 2), (true, 3), (true, 4), (true, 5), (true, 6), (true, 7), (true, 8)] (by kernel_rfl) (by kernel_rfl) (fun W => Below w.heap.size w W) (fun W => Below w.heap.size w W) ?_ ?_ ?_
          · exact hlo.drew
          · exact fun _ h => h
          intro W hSW
          simp only [List.map_cons, List.map_nil, List.getD_cons_zero, List.getD_cons_succ, List.drop_succ_cons, List.drop_zero]
          refine hd_pure (v := ?_) (by rfl) (fun W' hS' => ?_) ?_ -- 0
          rotate_left
          · clear hS'; (go_simp; first | with_reducible rfl | rfl)
          try simp only [Act.put, List.setIfInBounds_toArray, List.set_cons_zero, List.set_cons_succ]
          refine hd_pure (v := ?_) (by rfl) (fun W' hS' => ?_) ?_ -- 1
          rotate_left
          · clear hS'; (go_simp; first | with_reducible rfl | rfl)
          try simp only [Act.put, List.setIfInBounds_toArray, List.set_cons_zero, List.set_cons_succ]
          refine hd_pure (v := ?_) (by rfl) (fun W' hS' => ?_) ?_ -- 2
          rotate_left
          · clear hS'; (go_simp; first | with_reducible rfl | rfl)
          try simp only [Act.put, List.setIfInBounds_toArray, List.set_cons_zero, List.set_cons_succ]
          refine hd_pure (v := .agg x.cells.toArray) (by rfl) (fun W' hS' => exec_load_adr 27 _ (by rfl) (ad.add (k * 20)) 20 (by rfl) _ _ (r1 _ hS') (Vrp.cells_length _) Try.underlying27 rfl info_vrp1) ?_ -- 3
          try simp only [Act.put, List.setIfInBounds_toArray, List.set_cons_zero, List.set_cons_succ]
          refine hd_pure (v := ?_) (by rfl) (fun W' hS' => ?_) ?_ -- 4
          rotate_left
          · clear hS'; (go_simp; first | with_reducible rfl | rfl)
          try simp only [Act.put, List.setIfInBounds_toArray, List.set_cons_zero, List.set_cons_succ]
          refine hd_pure (v := ?_) (by rfl) (fun W' hS' => ?_) ?_ -- 5
          rotate_left
          · clear hS'; (go_simp; first | with_reducible rfl | rfl)
          try simp only [Act.put, List.setIfInBounds_toArray, List.set_cons_zero, List.set_cons_succ]
          refine hd_pure (v := ?_) (by rfl) (fun W' hS' => ?_) ?_ -- 6
          rotate_left
          · clear hS'; (go_simp; first | with_reducible rfl | rfl)
          try simp only [Act.put, List.setIfInBounds_toArray, List.set_cons_zero, List.set_cons_succ]
          refine hd_pure (v := .agg y.cells.toArray) (by rfl) (fun W' hS' => exec_load_adr 27 _ (by rfl) (ad'.add (k * 20)) 20 (by rfl) _ _ (r2 _ hS') (Vrp.cells_length _) Try.underlying27 rfl info_vrp1) ?_ -- 7
          try simp only [Act.put, List.setIfInBounds_toArray, List.set_cons_zero, List.set_cons_succ]
          refine hd_pure (v := ?_) (by rfl) (fun W' hS' => ?_) ?_ -- 8
          rotate_left
          · clear hS'; (go_simp; first | with_reducible rfl | rfl)
          try simp only [Act.put, List.setIfInBounds_toArray, List.set_cons_zero, List.set_cons_succ]
          refine hd_nil ?_
          replace hlo := hSW; clear hSW
          refine wpList_nil (NoPanic.normal ?_)
          clear hne r1 r2
          go_wp2_with fail
          go_ret
          exact ⟨by rw [HF.out]; rfl, hlo⟩
      · have hkk : k = xs.length := by omega
        subst hkk
        have HF := Lib.hid (show decide (xs = ys) = true from decide_eq_true (by have := HT.out; rw [List.take_length, HE.out, List.take_length] at this; exact this))
        clear hlt hk
        go_wp2_with fail
        go_ret
        exact ⟨by rw [HF.out]; rfl, hlo⟩
  · have b0 : ((xs.length : Int) != (ys.length : Int)) = true := by simp; omega
    have HF := Lib.hid (show decide (xs = ys) = false from decide_eq_false fun e => he (by rw [e]))
    clear he
    go_enter Try.func62, Try.ntmps62
    go_wp2_with fail
    go_ret
    exact ⟨by rw [HF.out]; rfl, hlo⟩
def NowPost (w : World) (ss : List SetV) (e : Ending) (w' : World) : Prop :=
  (ss = [] ∧ e = .returned (.tuple #[.slice none 0 0, .int .u32 0, .bool false])) ∨
  ∃ s A c, ss.getLast? = some s ∧ e = .returned (.tuple #[.slice A s.l.length c, .int .u32 s.sn.toNat, .bool true]) ∧ w'.ownsRow w.heap.size 27 20 (.slice A s.l.length c) s.l.length (s.l.flatMap Vrp.cells)
set_option maxRecDepth 100000 in
set_option maxHeartbeats 2000000 in
theorem now_any (w : World) (lo g b : Nat) (sess : Int) (serial : UInt32) (v : Value) (ss : List SetV) (f : Int → Option Lf) (many : Int) (h : CA w lo g b sess serial v ss f many) (hl : ss.length ≤ 1000000) (hs6 : ∀ s ∈ ss, s.l.length ≤ 1000000) :
    Calls Try.prog 32 #[.pointer (some ⟨g, 0, none⟩)] w fun e w' => NowPost w ss e w' ∧ Below w.heap.size w w' := by
  go_enter Try.func32, Try.ntmps32
  go_wp2_with fail
  refine (last_any w lo g b sess serial v ss f many h hl).mono ?_
  rintro e w1 ⟨hlp, hb1⟩
  rcases hlp with ⟨he, rfl⟩ | ⟨s, gs, cs, hs, rfl, rfl⟩
  · have HE := Lib.hid he
    clear he
    go_wp2_with fail
    exact bodyPost_ret (v := .tuple #[.slice none 0 0, .int .u32 0, .bool false]) (by simp [results, Try.results32, go_sem]) rfl ⟨.inl ⟨HE.out, rfl⟩, hb1⟩
  · have h1 := h.next hb1
    have HS := Lib.hid hs
    have hsm : s ∈ ss := List.mem_of_getLast? hs
    have hw1 := hb1.size
    go_upto_region 4 with fail
    refine reg_sch2 12 [(true, 0), (true, 1), (true, 2), (true, 3), (true, 5), (true, 6), (true, 7), (true, 8), (false, 4), (true, 9), (true, 10), (true, 11)] (by kernel_rfl) (by kernel_rfl) (fun W => CA W lo g b sess serial (.slice (some ⟨gs, 0, none⟩) ss.length cs) ss f many ∧ Below w.heap.size w W) (fun W => CA W lo g b sess serial (.slice (some ⟨gs, 0, none⟩) ss.length cs) ss f many ∧ Below w.heap.size w W) ?_ ?_ ?_
    · exact ⟨h1.drew, hb1.drew⟩
    · exact fun _ h => h
    intro W hSW
    simp only [List.map_cons, List.map_nil, List.getD_cons_zero, List.getD_cons_succ, List.drop_succ_cons, List.drop_zero]
    refine hd_pure (v := ?_) (by rfl) (fun W' hS' => ?_) ?_ -- 0
    rotate_left
    · obtain ⟨k0, k1, _⟩ := hS'.1.lastAt HS.out rfl; clear hS'; (go_simp; first | with_reducible rfl | rfl)
    try simp only [Act.put, List.setIfInBounds_toArray, List.set_cons_zero, List.set_cons_succ]
    refine hd_pure (v := ?_) (by rfl) (fun W' hS' => ?_) ?_ -- 1
    rotate_left
    · obtain ⟨k0, k1, _⟩ := hS'.1.lastAt HS.out rfl; clear hS'; (go_simp; first | with_reducible rfl | rfl)
    try simp only [Act.put, List.setIfInBounds_toArray, List.set_cons_zero, List.set_cons_succ]
    refine hd_pure (v := ?_) (by rfl) (fun W' hS' => ?_) ?_ -- 2
    rotate_left
    · obtain ⟨k0, k1, _⟩ := hS'.1.lastAt HS.out rfl; clear hS'; (go_simp; first | with_reducible rfl | rfl)
    try simp only [Act.put, List.setIfInBounds_toArray, List.set_cons_zero, List.set_cons_succ]
    refine hd_pure (v := ?_) (by rfl) (fun W' hS' => ?_) ?_ -- 3
    rotate_left
    · obtain ⟨k0, k1, _⟩ := hS'.1.lastAt HS.out rfl; clear hS'; (go_simp; first | with_reducible rfl | rfl)
    try simp only [Act.put, List.setIfInBounds_toArray, List.set_cons_zero, List.set_cons_succ]
    refine hd_pure (v := ?_) (by rfl) (fun W' hS' => ?_) ?_ -- 5
    rotate_left
    · obtain ⟨k0, k1, _⟩ := hS'.1.lastAt HS.out rfl; clear hS'; (go_simp; first | with_reducible rfl | rfl)
    try simp only [Act.put, List.setIfInBounds_toArray, List.set_cons_zero, List.set_cons_succ]
    refine hd_pure (v := ?_) (by rfl) (fun W' hS' => ?_) ?_ -- 6
    rotate_left
    · obtain ⟨k0, k1, _⟩ := hS'.1.lastAt HS.out rfl; clear hS'; (go_simp; first | with_reducible rfl | rfl)
    try simp only [Act.put, List.setIfInBounds_toArray, List.set_cons_zero, List.set_cons_succ]
    refine hd_pure (v := ?_) (by rfl) (fun W' hS' => ?_) ?_ -- 7
    rotate_left
    · obtain ⟨k0, k1, _⟩ := hS'.1.lastAt HS.out rfl; clear hS'; (go_simp; first | with_reducible rfl | rfl)
    try simp only [Act.put, List.setIfInBounds_toArray, List.set_cons_zero, List.set_cons_succ]
    refine hd_pure (v := ?_) (by rfl) (fun W' hS' => ?_) ?_ -- 8
    rotate_left
    · obtain ⟨k0, k1, _⟩ := hS'.1.lastAt HS.out rfl; clear hS'; (go_simp; first | with_reducible rfl | rfl)
    try simp only [Act.put, List.setIfInBounds_toArray, List.set_cons_zero, List.set_cons_succ]
    refine hd_sole (by rfl) (fun K hK => ?_) -- 4
    have hso := hSW.1.sets s hsm
    go_simp
    refine (cloneV_any s.l _ rfl s.A s.c _ (hs6 s hsm) _ (Nat.le_refl _) (Reads.of_own hso)).mono ?_; rintro e w' ⟨A2, c2, rfl, ho2, hb2⟩
    replace ho2 := own_base_mono ho2 hSW.2.size
    refine hK _ _ (⟨hSW.1.next hb2, below_then hSW.2 (Nat.le_refl _) hb2⟩) ?_
    clear hK K
    intro hSW4
    try simp only [Act.put, List.setIfInBounds_toArray, List.set_cons_zero, List.set_cons_succ]
    refine hd_pure (v := ?_) (by rfl) (fun W' hS' => ?_) ?_ -- 9
    rotate_left
    · obtain ⟨k0, k1, _⟩ := hS'.1.lastAt HS.out rfl; clear hS'; (go_simp; first | with_reducible rfl | rfl)
    try simp only [Act.put, List.setIfInBounds_toArray, List.set_cons_zero, List.set_cons_succ]
    refine hd_pure (v := ?_) (by rfl) (fun W' hS' => ?_) ?_ -- 10
    rotate_left
    · obtain ⟨k0, k1, _⟩ := hS'.1.lastAt HS.out rfl; clear hS'; (go_simp; first | with_reducible rfl | rfl)
    try simp only [Act.put, List.setIfInBounds_toArray, List.set_cons_zero, List.set_cons_succ]
    refine hd_pure (v := ?_) (by rfl) (fun W' hS' => ?_) ?_ -- 11
    rotate_left
    · obtain ⟨k0, k1, _⟩ := hS'.1.lastAt HS.out rfl; clear hS'; (go_simp; first | with_reducible rfl | rfl)
    try simp only [Act.put, List.setIfInBounds_toArray, List.set_cons_zero, List.set_cons_succ]
    refine hd_nil ?_
    have hbf := hSW4.2; clear hSW hSW4
    refine wpList_nil (NoPanic.normal ?_)
    go_wp2_with fail
    exact bodyPost_ret (v := .tuple #[.slice A2 s.l.length c2, .int .u32 s.sn.toNat, .bool true]) (by simp [results, Try.results32, go_sem]) rfl ⟨.inr ⟨s, A2, c2, HS.out, rfl, ho2⟩, hbf⟩
end Go.Proofs.Ytmoldmnhijcckaa
