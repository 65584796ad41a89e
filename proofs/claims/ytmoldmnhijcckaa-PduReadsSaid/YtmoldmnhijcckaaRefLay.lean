/- The contracts of lanyardref25.w, lanyardref25.lay (of a message that may be), lanyardref25.Write. -/
import Derived.Test.YtmoldmnhijcckaaRefBh
import Derived.Test.YtmoldmnhijcckaaRefV
import Derived.Test.YtmoldmnhijcckaaReg3
set_option linter.unusedVariables false
set_option linter.unusedSectionVars false
set_option linter.unusedSimpArgs false
namespace Go.Proofs.Ytmoldmnhijcckaa
open Go.RowKit
def wOf (p : Pdu) : Int := if p.kind = 0 ∨ p.kind = 1 ∨ p.kind = 3 ∨ p.kind = 7 then p.session else if p.kind = 10 then p.code else 0
set_option maxRecDepth 100000 in
set_option maxHeartbeats 1000000 in
theorem rw_any (p : Pdu) (hki : isKind p.kind = true) (w : World) : Calls Try.prog 73 #[p.val] w fun e w' => e = .returned (.int .i64 (wOf p)) ∧ Below w.heap.size w w' := by
  have h : p.kind = 0 ∨ p.kind = 1 ∨ p.kind = 2 ∨ p.kind = 3 ∨ p.kind = 4 ∨ p.kind = 6 ∨ p.kind = 7 ∨ p.kind = 8 ∨ p.kind = 10 := by simpa [isKind] using hki
  clear hki
  simp only [Pdu.val]
  have hX := Bx.new w p
  have c0 := (hX.1.cell 0).trans p.c0
  have c1 := (hX.1.cell 1).trans p.c1
  have c24 := (hX.1.cell 24).trans p.c24
  rcases h with hk | hk | hk | hk | hk | hk | hk | hk | hk
  all_goals
    rw [hk] at c0
    have HK := Lib.hid hk
    clear hk
    go_enter Try.func73, Try.ntmps73
    go_wp2
    go_ret
    exact ⟨by simp only [wOf, HK.out]; rfl, hX.2⟩
theorem wOf_ok {p : Pdu} (h : pduOk p = true) : wOf p = imax p.session p.code ∧ 0 ≤ imax p.session p.code ∧ imax p.session p.code < 65536 := by
  obtain ⟨hk, hn, h3, h4, _, _⟩ := ok_parts h
  rw [imin_eq] at h3
  rw [imax_eq] at h4
  rw [imax_eq]
  refine ⟨?_, by omega, by omega⟩
  unfold namedOf at hn
  unfold wOf
  rcases kind_cases hk with hk' | hk' | hk' | hk' | hk' | hk' | hk' | hk' | hk'
  all_goals
    simp only [hk'] at hn ⊢
    simp at hn ⊢
    have hc := congrArg Pdu.code hn
    have hs := congrArg Pdu.session hn
    simp [bareP] at hc hs
    omega
structure LY (w : World) (p : Pdu) (Bb : Nat) (A : Option Addr) (n : Nat) (body : List UInt8) (W : World) : Prop where
  bx : Bx w p W
  rd : Reads W Bb 1 A n (body.map bv)
  le : Bb ≤ W.heap.size
  lt : w.heap.size < Bb
section
variable {w : World} {p : Pdu} {Bb : Nat} {A : Option Addr} {n : Nat} {body : List UInt8} {W W' : World}
theorem LY.next (h : LY w p Bb A n body W) (hb : Below W.heap.size W W') : LY w p Bb A n body W' := ⟨h.bx.next hb, h.rd.below hb h.le, Nat.le_trans h.le hb.size, h.lt⟩
theorem LY.drew (h : LY w p Bb A n body W) : LY w p Bb A n body W.drew := ⟨h.bx.drew, h.rd.drew, h.le, h.lt⟩
theorem LY.grown (h : LY w p Bb A n body W) {v : Value} {m : Nat} {xs : List Value} (ho : W.ownsRow Bb 5 1 v m xs) (hg : W.grownBy W' v.ownBlock) : LY w p Bb A n body W' :=
  ⟨⟨h.bx.1.grown hg (fun e => own_blk_ne ho h.bx.1 (by decide) e.symm), h.bx.2.grown hg h.bx.2.size (fun k hk => by have := (own_base_le ho k hk).1; have := h.lt; omega)⟩,
    h.rd.grown hg h.le (fun g e => (own_base_le ho g e).1), Nat.le_trans h.le hg.size, h.lt⟩
theorem ly_lit (h : LY w p Bb A n body W) (a b : UInt8) (va vb : Value) (ha : va = bv a) (hb : vb = bv b) : (W.alloc (.cells #[va, vb] 5)).ownsRow Bb 5 1 (.slice (some ⟨W.heap.size, 0, none⟩) 2 2) 2 ([a, b].map bv) := by
  subst ha; subst hb
  have h1 := World.ownsRow_lit (base := Bb) (e := 5) (size := 1) W #[bv a, bv b] 2 h.le (by decide) (by simp)
  exact h1
end
set_option maxRecDepth 100000 in
set_option maxHeartbeats 4000000 in
theorem lay_any (p : Pdu) (h : pduOk p = true) (w : World) (hbh : ∀ w, Calls Try.prog 71 #[p.val] w (BytesOut (wrBody p) w)) : Calls Try.prog 45 #[p.val] w (BytesOut (wrB p) w) := by
  have hki := (ok_parts h).1
  obtain ⟨hk0, hk1⟩ := kind_bd hki
  obtain ⟨hw1, hw2, hw3⟩ := wOf_ok h
  have hbl := body_length h
  have hwb := wr_bd h
  have hwl := wr_length h
  have HBH := Lib.hid hbh
  have HKI := Lib.hid hki
  have HWE := Lib.hid (show wrB p = [1, UInt8.ofNat p.kind.toNat] ++ beB (imax p.session p.code).toNat 2 ++ beB (((wrBody p).length : Int) + 8).toNat 4 ++ wrBody p by rw [hbl]; rfl)
  have hbl2 : (wrBody p).length ≤ 224 := by omega
  have HW := Lib.hid (fun w => rw_any p hki w)
  rw [hw1] at HW
  generalize imax p.session p.code = m at hw1 hw2 hw3 HW HWE
  generalize wrBody p = body at HBH HWE hbl2
  have hkw : IntKind.u8.wrap p.kind = p.kind := by rw [IntKind.wrap_u8]; omega
  have HKB := Lib.hid (show Value.int .u8 p.kind = bv (UInt8.ofNat p.kind.toNat) by unfold bv; rw [UInt8.toNat_ofNat']; congr 1; omega)
  have hmw : IntKind.u64.wrap m = m := by rw [IntKind.wrap_u64]; omega
  clear hbh hki hw1 hbl hwb hwl h
  simp only [Pdu.val] at HBH HW ⊢
  have hX := Bx.new w p
  obtain ⟨i0, hi0, hz0, hz1, hz2⟩ := info_parts info5b
  go_enter Try.func45, Try.ntmps45
  go_upto_region 2 with (first | (refine wpList_load_at rfl 29 _ rfl w.heap.size 0 26 rfl _ _ hX.1.range (Pdu.cells_length _) Try.underlying29 rfl info_pdu ?_) | (go_at_call 71; go_must (refine (HBH.out _).mono ?_; rintro e w1 ⟨A, n, c, rfl, hn, hnc, hrd, hb⟩; subst hn; replace hX := hX.next hb; clear hb)))
  refine wp_gen (LY w p w1.heap.size A body.length body) ⟨hX, hrd, Nat.le_refl _, hX.1.lt⟩ ?_
  clear hX hrd
  generalize w1.heap.size = Bb
  intro W0 hW
  refine reg_sch3 10 (.op true 0 (.op true 1 (.op true 2 (.op true 4 (.fork 3 (.op false 5 (.op true 6 (.op false 7 (.op false 8 (.op true 9 .nil))))) 5 (.op true 6 (.fork 3 (.op false 7 (.op false 8 (.op true 9 .nil))) 7 (.op false 3 (.op false 8 (.op true 9 .nil)))))))))) (by kernel_rfl) (by kernel_rfl) (LY w p Bb A body.length body) (LY w p Bb A body.length body) ?_ ?_ ?_
  · exact hW.drew
  · exact fun _ h => h
  intro W hSW
  simp only [Sch.map, List.getD_cons_zero, List.getD_cons_succ, List.drop_succ_cons, List.drop_zero]
  refine ht_pure (v := ?_) (by rfl) (fun W' hS' => ?_) ?_ -- 0
  rotate_left
  · have c0 := (hS'.bx.1.cell 0).trans p.c0; clear hS'; (go_simp; first | with_reducible rfl | rfl)
  try simp only [Act.put, List.setIfInBounds_toArray, List.set_cons_zero, List.set_cons_succ]
  refine ht_pure (v := ?_) (by rfl) (fun W' hS' => ?_) ?_ -- 1
  rotate_left
  · have c0 := (hS'.bx.1.cell 0).trans p.c0; clear hS'; (go_simp; first | with_reducible rfl | rfl)
  try simp only [Act.put, List.setIfInBounds_toArray, List.set_cons_zero, List.set_cons_succ]
  refine ht_pure (v := ?_) (by rfl) (fun W' hS' => ?_) ?_ -- 2
  rotate_left
  · have c0 := (hS'.bx.1.cell 0).trans p.c0; clear hS'; (go_simp; first | with_reducible rfl | rfl)
  try simp only [Act.put, List.setIfInBounds_toArray, List.set_cons_zero, List.set_cons_succ]
  refine ht_pure (v := .agg p.cells.toArray) (by rfl) (fun W' hS' => exec_load_at 29 _ (by rfl) w.heap.size 0 26 (by rfl) _ _ hS'.bx.1.range (Pdu.cells_length _) Try.underlying29 rfl info_pdu) ?_ -- 4
  try simp only [Act.put, List.setIfInBounds_toArray, List.set_cons_zero, List.set_cons_succ]
  refine ht_fork ?_ ?_
  ·
    refine ht_sole (by rfl) (fun K hK => ?_) -- 3
    have ho := ly_lit hSW 1 (UInt8.ofNat p.kind.toNat) (.int .u8 1) (.int .u8 p.kind) rfl HKB.out
    try (replace hs := (hs.below ((Below.refl _ _).alloc (Nat.le_refl _) (.cells #[.int .u8 1, .int .u8 p.kind] 5)) (Nat.le_refl _)))
    go_simp
    refine hK _ _ (hSW.next ((Below.refl _ _).alloc (Nat.le_refl _) _)) ?_
    clear hK K hSW
    intro hSW
    try simp only [Act.put, List.setIfInBounds_toArray, List.set_cons_zero, List.set_cons_succ]
    refine ht_sole (by rfl) (fun K hK => ?_) -- 5
    go_simp
    refine (HW.out _).mono ?_; rintro e w' ⟨rfl, hb⟩
    try (replace ho := own_below ho hb)
    refine hK _ _ (hSW.next hb) ?_
    clear hK K hSW
    intro hSW
    clear hb
    try simp only [Act.put, List.setIfInBounds_toArray, List.set_cons_zero, List.set_cons_succ]
    refine ht_pure (v := ?_) (by rfl) (fun W' hS' => ?_) ?_ -- 6
    rotate_left
    · have c0 := (hS'.bx.1.cell 0).trans p.c0; clear hS'; (go_simp; first | with_reducible rfl | rfl)
    try simp only [Act.put, List.setIfInBounds_toArray, List.set_cons_zero, List.set_cons_succ]
    refine ht_sole (by rfl) (fun K hK => ?_) -- 7
    go_simp
    refine (rn_i2 m hw2 hw3 _).mono ?_; rintro e w' ⟨g, rfl, hs, hb⟩
    try (replace ho := own_below ho hb)
    refine hK _ _ (hSW.next hb) ?_
    clear hK K hSW
    intro hSW
    clear hb
    try simp only [Act.put, List.setIfInBounds_toArray, List.set_cons_zero, List.set_cons_succ]
    refine ht_sole (by rfl) (fun K hK => ?_) -- 8
    refine wp_append_any _ _ _ 30 rfl Bb 5 i0 _ 1 1 Try.underlying30 hi0 hz0 hz1 hz2 rfl (by omega) _ 2 _ rfl ho _ _ 2 _ _ rfl hs (bv_one _) (by simp only [maxLen]; omega) (by omega) hSW.le ?_
    intro v2 w2 ho2 hg2 _
    rw [← List.map_append] at ho2
    refine hK _ _ (hSW.grown ho hg2) ?_
    clear hK K hSW
    intro hSW
    clear hs hg2; replace ho := ho2; clear ho2
    try simp only [Act.put, List.setIfInBounds_toArray, List.set_cons_zero, List.set_cons_succ]
    refine ht_pure (v := ?_) (by rfl) (fun W' hS' => ?_) ?_ -- 9
    rotate_left
    · have c0 := (hS'.bx.1.cell 0).trans p.c0; clear hS'; (go_simp; first | with_reducible rfl | rfl)
    try simp only [Act.put, List.setIfInBounds_toArray, List.set_cons_zero, List.set_cons_succ]
    refine ht_nil ?_
    replace hW := hSW; clear hSW
    refine wpList_nil (NoPanic.normal ?_)
    have hle := hW.le
    go_wp2_with (first | (go_at_call 72; go_must (refine (rn_i4 ((body.length : Int) + 8) (by omega) (by omega) _).mono ?_; rintro e w3 ⟨g3, rfl, hs, hb⟩; replace ho := own_below ho hb; replace hW := hW.next hb; clear hle; have hle := hW.le; clear hb)) | (at_builtin; have _t := hs; go_must (refine wpList_append_any _ rfl _ _ 30 rfl Bb 5 i0 _ 1 1 Try.underlying30 hi0 hz0 hz1 hz2 rfl (by omega) _ _ _ rfl ho _ _ 4 _ _ rfl hs (bv_one _) (by simp only [maxLen]; omega) (by omega) hle ?_; intro v4 w4 ho4 hg4 _; rw [← List.map_append] at ho4; replace hW := hW.grown ho hg4; clear hle; have hle := hW.le; replace ho := ho4; clear hs hg4)) | (at_builtin; go_must (refine wpList_append_any _ rfl _ _ 30 rfl Bb 5 i0 _ 1 1 Try.underlying30 hi0 hz0 hz1 hz2 rfl (by omega) _ _ _ rfl ho Bb A body.length _ _ rfl hW.rd (bv_one _) (by simp only [maxLen]; omega) (by omega) hle ?_; intro v5 w5 ho5 hg5 _; rw [← List.map_append] at ho5; replace hW := hW.grown ho hg5; replace ho := ho5; clear hg5)))
    go_ret
    exact out_own hW.bx ho (by rw [HWE.out])
  ·
    refine ht_sole (by rfl) (fun K hK => ?_) -- 5
    go_simp
    refine (HW.out _).mono ?_; rintro e w' ⟨rfl, hb⟩
    try (replace ho := own_below ho hb)
    refine hK _ _ (hSW.next hb) ?_
    clear hK K hSW
    intro hSW
    clear hb
    try simp only [Act.put, List.setIfInBounds_toArray, List.set_cons_zero, List.set_cons_succ]
    refine ht_pure (v := ?_) (by rfl) (fun W' hS' => ?_) ?_ -- 6
    rotate_left
    · have c0 := (hS'.bx.1.cell 0).trans p.c0; clear hS'; (go_simp; first | with_reducible rfl | rfl)
    try simp only [Act.put, List.setIfInBounds_toArray, List.set_cons_zero, List.set_cons_succ]
    refine ht_fork ?_ ?_
    ·
      refine ht_sole (by rfl) (fun K hK => ?_) -- 3
      have ho := ly_lit hSW 1 (UInt8.ofNat p.kind.toNat) (.int .u8 1) (.int .u8 p.kind) rfl HKB.out
      try (replace hs := (hs.below ((Below.refl _ _).alloc (Nat.le_refl _) (.cells #[.int .u8 1, .int .u8 p.kind] 5)) (Nat.le_refl _)))
      go_simp
      refine hK _ _ (hSW.next ((Below.refl _ _).alloc (Nat.le_refl _) _)) ?_
      clear hK K hSW
      intro hSW
      try simp only [Act.put, List.setIfInBounds_toArray, List.set_cons_zero, List.set_cons_succ]
      refine ht_sole (by rfl) (fun K hK => ?_) -- 7
      go_simp
      refine (rn_i2 m hw2 hw3 _).mono ?_; rintro e w' ⟨g, rfl, hs, hb⟩
      try (replace ho := own_below ho hb)
      refine hK _ _ (hSW.next hb) ?_
      clear hK K hSW
      intro hSW
      clear hb
      try simp only [Act.put, List.setIfInBounds_toArray, List.set_cons_zero, List.set_cons_succ]
      refine ht_sole (by rfl) (fun K hK => ?_) -- 8
      refine wp_append_any _ _ _ 30 rfl Bb 5 i0 _ 1 1 Try.underlying30 hi0 hz0 hz1 hz2 rfl (by omega) _ 2 _ rfl ho _ _ 2 _ _ rfl hs (bv_one _) (by simp only [maxLen]; omega) (by omega) hSW.le ?_
      intro v2 w2 ho2 hg2 _
      rw [← List.map_append] at ho2
      refine hK _ _ (hSW.grown ho hg2) ?_
      clear hK K hSW
      intro hSW
      clear hs hg2; replace ho := ho2; clear ho2
      try simp only [Act.put, List.setIfInBounds_toArray, List.set_cons_zero, List.set_cons_succ]
      refine ht_pure (v := ?_) (by rfl) (fun W' hS' => ?_) ?_ -- 9
      rotate_left
      · have c0 := (hS'.bx.1.cell 0).trans p.c0; clear hS'; (go_simp; first | with_reducible rfl | rfl)
      try simp only [Act.put, List.setIfInBounds_toArray, List.set_cons_zero, List.set_cons_succ]
      refine ht_nil ?_
      replace hW := hSW; clear hSW
      refine wpList_nil (NoPanic.normal ?_)
      have hle := hW.le
      go_wp2_with (first | (go_at_call 72; go_must (refine (rn_i4 ((body.length : Int) + 8) (by omega) (by omega) _).mono ?_; rintro e w3 ⟨g3, rfl, hs, hb⟩; replace ho := own_below ho hb; replace hW := hW.next hb; clear hle; have hle := hW.le; clear hb)) | (at_builtin; have _t := hs; go_must (refine wpList_append_any _ rfl _ _ 30 rfl Bb 5 i0 _ 1 1 Try.underlying30 hi0 hz0 hz1 hz2 rfl (by omega) _ _ _ rfl ho _ _ 4 _ _ rfl hs (bv_one _) (by simp only [maxLen]; omega) (by omega) hle ?_; intro v4 w4 ho4 hg4 _; rw [← List.map_append] at ho4; replace hW := hW.grown ho hg4; clear hle; have hle := hW.le; replace ho := ho4; clear hs hg4)) | (at_builtin; go_must (refine wpList_append_any _ rfl _ _ 30 rfl Bb 5 i0 _ 1 1 Try.underlying30 hi0 hz0 hz1 hz2 rfl (by omega) _ _ _ rfl ho Bb A body.length _ _ rfl hW.rd (bv_one _) (by simp only [maxLen]; omega) (by omega) hle ?_; intro v5 w5 ho5 hg5 _; rw [← List.map_append] at ho5; replace hW := hW.grown ho hg5; replace ho := ho5; clear hg5)))
      go_ret
      exact out_own hW.bx ho (by rw [HWE.out])
    ·
      refine ht_sole (by rfl) (fun K hK => ?_) -- 7
      go_simp
      refine (rn_i2 m hw2 hw3 _).mono ?_; rintro e w' ⟨g, rfl, hs, hb⟩
      try (replace ho := own_below ho hb)
      refine hK _ _ (hSW.next hb) ?_
      clear hK K hSW
      intro hSW
      clear hb
      try simp only [Act.put, List.setIfInBounds_toArray, List.set_cons_zero, List.set_cons_succ]
      refine ht_sole (by rfl) (fun K hK => ?_) -- 3
      have ho := ly_lit hSW 1 (UInt8.ofNat p.kind.toNat) (.int .u8 1) (.int .u8 p.kind) rfl HKB.out
      try (replace hs := (hs.below ((Below.refl _ _).alloc (Nat.le_refl _) (.cells #[.int .u8 1, .int .u8 p.kind] 5)) (Nat.le_refl _)))
      go_simp
      refine hK _ _ (hSW.next ((Below.refl _ _).alloc (Nat.le_refl _) _)) ?_
      clear hK K hSW
      intro hSW
      try simp only [Act.put, List.setIfInBounds_toArray, List.set_cons_zero, List.set_cons_succ]
      refine ht_sole (by rfl) (fun K hK => ?_) -- 8
      refine wp_append_any _ _ _ 30 rfl Bb 5 i0 _ 1 1 Try.underlying30 hi0 hz0 hz1 hz2 rfl (by omega) _ 2 _ rfl ho _ _ 2 _ _ rfl hs (bv_one _) (by simp only [maxLen]; omega) (by omega) hSW.le ?_
      intro v2 w2 ho2 hg2 _
      rw [← List.map_append] at ho2
      refine hK _ _ (hSW.grown ho hg2) ?_
      clear hK K hSW
      intro hSW
      clear hs hg2; replace ho := ho2; clear ho2
      try simp only [Act.put, List.setIfInBounds_toArray, List.set_cons_zero, List.set_cons_succ]
      refine ht_pure (v := ?_) (by rfl) (fun W' hS' => ?_) ?_ -- 9
      rotate_left
      · have c0 := (hS'.bx.1.cell 0).trans p.c0; clear hS'; (go_simp; first | with_reducible rfl | rfl)
      try simp only [Act.put, List.setIfInBounds_toArray, List.set_cons_zero, List.set_cons_succ]
      refine ht_nil ?_
      replace hW := hSW; clear hSW
      refine wpList_nil (NoPanic.normal ?_)
      have hle := hW.le
      go_wp2_with (first | (go_at_call 72; go_must (refine (rn_i4 ((body.length : Int) + 8) (by omega) (by omega) _).mono ?_; rintro e w3 ⟨g3, rfl, hs, hb⟩; replace ho := own_below ho hb; replace hW := hW.next hb; clear hle; have hle := hW.le; clear hb)) | (at_builtin; have _t := hs; go_must (refine wpList_append_any _ rfl _ _ 30 rfl Bb 5 i0 _ 1 1 Try.underlying30 hi0 hz0 hz1 hz2 rfl (by omega) _ _ _ rfl ho _ _ 4 _ _ rfl hs (bv_one _) (by simp only [maxLen]; omega) (by omega) hle ?_; intro v4 w4 ho4 hg4 _; rw [← List.map_append] at ho4; replace hW := hW.grown ho hg4; clear hle; have hle := hW.le; replace ho := ho4; clear hs hg4)) | (at_builtin; go_must (refine wpList_append_any _ rfl _ _ 30 rfl Bb 5 i0 _ 1 1 Try.underlying30 hi0 hz0 hz1 hz2 rfl (by omega) _ _ _ rfl ho Bb A body.length _ _ rfl hW.rd (bv_one _) (by simp only [maxLen]; omega) (by omega) hle ?_; intro v5 w5 ho5 hg5 _; rw [← List.map_append] at ho5; replace hW := hW.grown ho hg5; replace ho := ho5; clear hg5)))
      go_ret
      exact out_own hW.bx ho (by rw [HWE.out])
end Go.Proofs.Ytmoldmnhijcckaa
