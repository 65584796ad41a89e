/- The law PduReads, walked. -/
import Derived.Test.YtmoldmnhijcckaaRefAl
import Derived.Test.YtmoldmnhijcckaaSame
import Derived.Test.YtmoldmnhijcckaaBack
import Derived.Test.YtmoldmnhijcckaaParts
set_option linter.unusedVariables false
set_option linter.unusedSectionVars false
set_option linter.unusedSimpArgs false
namespace Go.Proofs.Ytmoldmnhijcckaa
open Go.RowKit
theorem all_few : ∀ (n : Nat) (bs : List UInt8), bs.length ≤ n → (allOf bs).1.length ≤ bs.length := by
  intro n
  induction n with
  | zero =>
    intro bs h
    obtain rfl := List.eq_nil_of_length_eq_zero (by omega : bs.length = 0)
    rw [all_nil]; simp
  | succ n ih =>
    intro bs h
    rw [allOf]
    split
    · rename_i h0
      obtain ⟨l, h1, h2, h3⟩ := readOf_zero h0
      have := ih (bs.drop (readOf bs).2.1.toNat) (by rw [h1, List.length_drop]; omega)
      rw [h1, List.length_drop] at this
      simp only [List.length_cons, h1]
      omega
    · split <;> simp
theorem write_u (p : Pdu) (xs : List UInt8) (ek : Int) (hx : xs = if pduOk p then wrB p else []) (he : ek = if pduOk p then 0 else 1) (w : World) : Calls Try.prog 13 #[.agg p.cells.toArray] w fun e w' => ∃ A c, e = .returned (.tuple #[.slice A xs.length c, .int .i64 ek]) ∧ Reads w' w'.heap.size 1 A xs.length (xs.map bv) ∧ Below w.heap.size w w' := by
  subst hx; subst he
  refine (write_any p w).mono ?_
  rintro e w1 ⟨h1, h2, hb⟩
  cases h : pduOk p
  · exact ⟨none, 0, h2 h, Reads.none_, hb⟩
  · obtain ⟨v, rfl, hov⟩ := h1 h
    obtain ⟨A, c, rfl⟩ := own_slice' hov
    exact ⟨A, c, rfl, Reads.of_own hov, hb⟩
theorem rwrite_u (p : Pdu) (xs : List UInt8) (ek : Int) (hx : xs = if pduOk p then wrB p else []) (he : ek = if pduOk p then 0 else 1) (w : World) : Calls Try.prog 16 #[.agg p.cells.toArray] w fun e w' => ∃ A c, e = .returned (.tuple #[.slice A xs.length c, .int .i64 ek]) ∧ Reads w' w'.heap.size 1 A xs.length (xs.map bv) ∧ Below w.heap.size w w' := by
  subst hx; subst he
  refine (rwrite_any p w).mono ?_
  rintro e w1 ⟨A, n, c, rfl, hn, hr, hb⟩
  subst hn
  exact ⟨A, c, rfl, hr, hb⟩
theorem rall_n (bs : List UInt8) (hu : bs.length ≤ 1000000) (ms : List Pdu) (rest : List UInt8) (k x : Int) (R : allOf bs = (ms, rest, k, x)) (A : Option Addr) (c B : Nat) (hc : bs.length ≤ c) (w : World) (hB : B ≤ w.heap.size) (hr : Reads w B 1 A bs.length (bs.map bv)) :
    Calls Try.prog 19 #[.slice A bs.length c] w fun e w' => ∃ A1 c1 A' c', e = .returned (.tuple #[.slice A1 ms.length c1, .slice A' rest.length c', .int .i64 k, .int .i64 x]) ∧ rest.length ≤ c' ∧ Reads w' w'.heap.size 1 A' rest.length (rest.map bv) ∧
      w'.ownsRow w.heap.size 29 26 (.slice A1 ms.length c1) ms.length (ms.flatMap Pdu.cells) ∧ Below w.heap.size w w' := by
  refine (rall_any bs A c B hc hu w hB hr).mono ?_
  rintro e w1 ⟨v, A', n', c', rfl, hn', hc', hr', hov, hb⟩
  rw [R] at hn' hr' hov ⊢
  subst hn'
  obtain ⟨A1, c1, rfl⟩ := own_slice' hov
  exact ⟨A1, c1, A', c', rfl, hc', hr', hov, hb⟩
theorem Reads.next {W W' : World} {size n : Nat} {A : Option Addr} {xs : List Value} (h : Reads W W.heap.size size A n xs) (hb : Below W.heap.size W W') : Reads W' W'.heap.size size A n xs := (h.below hb (Nat.le_refl _)).more hb.size
structure RL (w : World) (p q : Pdu) (xs rest : List UInt8) (A6 A8 A19 A23 : Option Addr) (g10 g14 : Nat) (W : World) : Prop where
  bx : Bx w p W
  r6 : Reads W W.heap.size 1 A6 xs.length (xs.map bv)
  r8 : Reads W W.heap.size 1 A8 xs.length (xs.map bv)
  r19 : Reads W W.heap.size 1 A19 rest.length (rest.map bv)
  r23 : Reads W W.heap.size 1 A23 rest.length (rest.map bv)
  q10 : Blk W g10 29 q.cells
  q14 : Blk W g14 29 q.cells
theorem RL.next {w : World} {p q : Pdu} {xs rest : List UInt8} {A6 A8 A19 A23 : Option Addr} {g10 g14 : Nat} {W W' : World} (h : RL w p q xs rest A6 A8 A19 A23 g10 g14 W) (hb : Below W.heap.size W W') : RL w p q xs rest A6 A8 A19 A23 g10 g14 W' :=
  ⟨h.bx.next hb, h.r6.next hb, h.r8.next hb, h.r19.next hb, h.r23.next hb, h.q10.below hb h.q10.lt, h.q14.below hb h.q14.lt⟩
theorem RL.drew {w : World} {p q : Pdu} {xs rest : List UInt8} {A6 A8 A19 A23 : Option Addr} {g10 g14 : Nat} {W : World} (h : RL w p q xs rest A6 A8 A19 A23 g10 g14 W) : RL w p q xs rest A6 A8 A19 A23 g10 g14 W.drew :=
  ⟨h.bx.drew, h.r6.drew, h.r8.drew, h.r19.drew, h.r23.drew, h.q10.drew, h.q14.drew⟩
set_option maxRecDepth 100000 in
theorem reads_upa (w : World) (p : Pdu) (bs : List UInt8) (A : Option Addr) (c B : Nat) (hr : Reads w B 1 A bs.length (bs.map bv)) (hB : B ≤ w.heap.size)
    (h1 : 1000 < p.text.size) : Calls Try.prog 5 #[p.val, .slice A bs.length c] w fun e w' => e = .returned (.bool true) ∧ Below w.heap.size w w' := by
  have d1 : decide ((1000 : Int) < (p.text.size : Int)) = true := decide_eq_true (by omega)
  have d1' := decide_eq_true h1
  clear h1
  simp only [Pdu.val]
  have hX := BK.start hB hr p
  clear hr
  go_enter Try.func5, Try.ntmps5
  go_upto_region 2 with (go_at_call 12; refine (awake_any _).mono ?_; rintro e w1 ⟨rfl, hb1⟩; replace hX := hX.next hB hb1; clear hb1)
  refine wp_gen (BK w B A bs p) hX ?_
  clear hX
  intro W hW
  have c25 := (hW.bx.1.cell 25).trans p.c25
  go_wp2
  go_ret
  exact ⟨rfl, hW.bx.2⟩
set_option maxRecDepth 100000 in
theorem reads_upb (w : World) (p : Pdu) (bs : List UInt8) (A : Option Addr) (c B : Nat) (hr : Reads w B 1 A bs.length (bs.map bv)) (hB : B ≤ w.heap.size)
    (h1 : ¬ 1000 < p.text.size) (h2 : 5000 < bs.length) : Calls Try.prog 5 #[p.val, .slice A bs.length c] w fun e w' => e = .returned (.bool true) ∧ Below w.heap.size w w' := by
  have d1 : decide ((1000 : Int) < (p.text.size : Int)) = false := decide_eq_false (by omega)
  have d1' := decide_eq_false h1
  have d2 : decide ((5000 : Int) < (bs.length : Int)) = true := decide_eq_true (by omega)
  have d2' := decide_eq_true h2
  clear h1 h2
  simp only [Pdu.val]
  have hX := BK.start hB hr p
  clear hr
  go_enter Try.func5, Try.ntmps5
  go_upto_region 2 with (go_at_call 12; refine (awake_any _).mono ?_; rintro e w1 ⟨rfl, hb1⟩; replace hX := hX.next hB hb1; clear hb1)
  refine wp_gen (BK w B A bs p) hX ?_
  clear hX
  intro W hW
  have c25 := (hW.bx.1.cell 25).trans p.c25
  go_wp2
  go_ret
  exact ⟨rfl, hW.bx.2⟩
set_option maxRecDepth 100000 in
set_option maxHeartbeats 8000000 in
theorem reads_go (w : World) (p : Pdu) (bs : List UInt8) (A : Option Addr) (c B : Nat) (hc : bs.length ≤ c) (hr : Reads w B 1 A bs.length (bs.map bv)) (hB : B ≤ w.heap.size)
    (h1 : ¬ 1000 < p.text.size) (h2 : ¬ 5000 < bs.length) : Calls Try.prog 5 #[p.val, .slice A bs.length c] w fun e w' => e = .returned (.bool true) ∧ Below w.heap.size w w' := by
  have d1 : decide ((1000 : Int) < (p.text.size : Int)) = false := decide_eq_false (by omega)
  have d1' := decide_eq_false h1
  have d2 : decide ((5000 : Int) < (bs.length : Int)) = false := decide_eq_false (by omega)
  have d2' := decide_eq_false h2
  have hb5 : bs.length ≤ 5000 := by omega
  clear h1 h2
  obtain ⟨xs, hxs⟩ : ∃ xs, xs = if pduOk p then wrB p else [] := ⟨_, rfl⟩
  obtain ⟨ek, hek⟩ : ∃ ek : Int, ek = if pduOk p then 0 else 1 := ⟨_, rfl⟩
  have HX := Lib.hid hxs
  have HE := Lib.hid hek
  clear hxs hek
  obtain ⟨q, m, k, x, R1⟩ : ∃ q m k x, readOf bs = (q, m, k, x) := ⟨_, _, _, _, rfl⟩
  obtain ⟨ms, rest, k2, x2, R2⟩ : ∃ ms rest k2 x2, allOf bs = (ms, rest, k2, x2) := ⟨_, _, _, _, rfl⟩
  have HR1 := Lib.hid R1
  have HR2 := Lib.hid R2
  have hml : ms.length ≤ 5000 := by have := all_few _ bs (Nat.le_refl _); rw [R2] at this; simp only at this; omega
  clear R1 R2
  simp only [Pdu.val]
  have hX := BK.start hB hr p
  clear hr
  go_enter Try.func5, Try.ntmps5
  go_upto_region 2 with (go_at_call 12; refine (awake_any _).mono ?_; rintro e w1 ⟨rfl, hb1⟩; replace hX := hX.next hB hb1; clear hb1)
  refine wp_gen (BK w B A bs p) hX ?_
  clear hX
  intro W hW
  have c25 := (hW.bx.1.cell 25).trans p.c25
  go_wp2_with (refine wpList_load_at rfl 29 _ rfl w.heap.size 0 26 rfl _ _ hW.bx.1.range (Pdu.cells_length _) Try.underlying29 rfl info_pdu ?_)
  refine (write_u p xs ek HX.out HE.out _).mono ?_
  rintro e w1 ⟨A6, c6, rfl, r6, hb⟩
  replace hW := hW.next hB hb
  clear hb c25 d1 d1' d2 d2'
  go_wp2_with (refine wpList_load_at rfl 29 _ rfl w.heap.size 0 26 rfl _ _ hW.bx.1.range (Pdu.cells_length _) Try.underlying29 rfl info_pdu ?_)
  refine (rwrite_u p xs ek HX.out HE.out _).mono ?_
  rintro e w2 ⟨A8, c8, rfl, r8, hb⟩
  replace hW := hW.next hB hb
  replace r6 := r6.next hb
  clear hb
  have hsz := hW.bx.2.size
  go_wp2_with fail
  refine (read_n bs _ rfl q m k x HR1.out A c B hc _ (by omega) hW.rd).mono ?_
  rintro e w3 ⟨rfl, hb⟩
  replace hW := hW.next hB hb
  replace r6 := r6.next hb
  replace r8 := r8.next hb
  clear hb hsz
  go_upto_region 7 with (refine wpList_store_at rfl 29 _ _ rfl _ 0 26 29 q.cells (bareL 0) rfl rfl (blk_new' _ _ _ _ rfl) (Pdu.cells_length _) (by decide) info_pdu (Pdu.one _) ?_)
  refine wp_gen (fun W => BK w B A bs p W ∧ Reads W W.heap.size 1 A6 xs.length (xs.map bv) ∧ Reads W W.heap.size 1 A8 xs.length (xs.map bv) ∧ Blk W w3.heap.size 29 q.cells) ⟨hW.next hB (put_new w3 q).2, r6.next (put_new w3 q).2, r8.next (put_new w3 q).2, (put_new w3 q).1⟩ ?_
  clear hW r6 r8
  generalize w3.heap.size = g10
  rintro W4 ⟨hW, r6, r8, q10⟩
  have hsz := hW.bx.2.size
  go_wp2_with fail
  refine (rread_n bs _ rfl (by omega) q m k x HR1.out A c B hc _ (by omega) hW.rd).mono ?_
  rintro e w5 ⟨rfl, hb⟩
  replace hW := hW.next hB hb
  replace r6 := r6.next hb
  replace r8 := r8.next hb
  replace q10 := q10.below hb q10.lt
  clear hb hsz
  go_upto_region 8 with (refine wpList_store_at rfl 29 _ _ rfl _ 0 26 29 q.cells (bareL 0) rfl rfl (blk_new' _ _ _ _ rfl) (Pdu.cells_length _) (by decide) info_pdu (Pdu.one _) ?_)
  refine wp_gen (fun W => BK w B A bs p W ∧ Reads W W.heap.size 1 A6 xs.length (xs.map bv) ∧ Reads W W.heap.size 1 A8 xs.length (xs.map bv) ∧ Blk W g10 29 q.cells ∧ Blk W w5.heap.size 29 q.cells) ⟨hW.next hB (put_new w5 q).2, r6.next (put_new w5 q).2, r8.next (put_new w5 q).2, q10.below (put_new w5 q).2 q10.lt, (put_new w5 q).1⟩ ?_
  clear hW r6 r8 q10
  generalize w5.heap.size = g14
  rintro W6 ⟨hW, r6, r8, q10, q14⟩
  have hsz := hW.bx.2.size
  go_wp2_with fail
  refine (all_n bs _ rfl ms rest k2 x2 HR2.out A c B hc (by omega) _ (by omega) hW.rd).mono ?_
  rintro e w7 ⟨A18, c18, A19, c19, rfl, hc19, r19, o18, hb⟩
  replace hW := hW.next hB hb
  replace r6 := r6.next hb
  replace r8 := r8.next hb
  replace q10 := q10.below hb q10.lt
  replace q14 := q14.below hb q14.lt
  have s18 := Reads.of_own o18
  clear hb hsz o18
  have hsz := hW.bx.2.size
  go_wp2_with fail
  refine (rall_n bs (by omega) ms rest k2 x2 HR2.out A c B hc _ (by omega) hW.rd).mono ?_
  rintro e w8 ⟨A22, c22, A23, c23, rfl, hc23, r23, o22, hb⟩
  have hL : RL w p q xs rest A6 A8 A19 A23 g10 g14 w8 := ⟨hW.bx.next hb, r6.next hb, r8.next hb, r19.next hb, r23, q10.below hb q10.lt, q14.below hb q14.lt⟩
  have s22 := Reads.of_own o22
  replace s18 := s18.next hb
  clear hb hsz o22 hW r6 r8 r19 r23 q10 q14
  go_wp2_with fail
  refine (same_eqlen ms ms _ rfl rfl (by omega) A18 A22 c18 c22 _ _ _ (Nat.le_refl _) (Nat.le_refl _) s18 s22).mono ?_
  rintro e w9 ⟨rfl, hb⟩
  rw [show decide (ms = ms) = true from decide_eq_true rfl]
  replace hL := hL.next hb
  clear hb s18 s22
  go_upto_region 11 with fail
  obtain ⟨pb, hpb⟩ : ∃ pb, pb = pduOk p := ⟨_, rfl⟩
  have HPB := Lib.hid hpb
  clear hpb
  have hqq : ∀ W : World, (Go.binOp .eql 29 (.agg q.cells.toArray) (.agg q.cells.toArray)).run Try.prog W = .ok (.bool true) W := fun W => by rw [eq_pdu]; simp
  refine reg_sch2 61 [(true, 0), (true, 1), (true, 2), (true, 3), (true, 4), (true, 5), (true, 6), (true, 7), (true, 8), (true, 9), (true, 10), (true, 11), (true, 12), (true, 13), (true, 14), (true, 15), (true, 16), (true, 17), (true, 18), (true, 19), (true, 20), (true, 21), (true, 22), (true, 23), (true, 24), (true, 25), (true, 26), (true, 27), (true, 28), (true, 29), (true, 30), (true, 31), (true, 32), (true, 33), (true, 34), (true, 35), (true, 36), (true, 37), (true, 38), (true, 39), (true, 40), (true, 41), (true, 42), (true, 43), (true, 44), (true, 45), (true, 46), (true, 47), (true, 48), (true, 49), (true, 50), (true, 51), (true, 52), (true, 53), (true, 54), (true, 56), (false, 55), (false, 57), (true, 58), (true, 59), (true, 60)] (by kernel_rfl) (by kernel_rfl) (RL w p q xs rest A6 A8 A19 A23 g10 g14) (RL w p q xs rest A6 A8 A19 A23 g10 g14) ?_ ?_ ?_
  · exact hL.drew
  · exact fun _ h => h
  intro W hSW
  simp only [List.map_cons, List.map_nil, List.getD_cons_zero, List.getD_cons_succ, List.drop_succ_cons, List.drop_zero]
  refine hd_pure (v := ?_) (by rfl) (fun W' hS' => ?_) ?_ -- 0
  rotate_left
  · have s6 := hS'.r6.str c6; have s8 := hS'.r8.str c8; have s19 := hS'.r19.str c19; have s23 := hS'.r23.str c23; clear hS'; (go_simp; first | with_reducible rfl | rfl)
  try simp only [Act.put, List.setIfInBounds_toArray, List.set_cons_zero, List.set_cons_succ]
  refine hd_pure (v := ?_) (by rfl) (fun W' hS' => ?_) ?_ -- 1
  rotate_left
  · have s6 := hS'.r6.str c6; have s8 := hS'.r8.str c8; have s19 := hS'.r19.str c19; have s23 := hS'.r23.str c23; clear hS'; (go_simp; first | with_reducible rfl | rfl)
  try simp only [Act.put, List.setIfInBounds_toArray, List.set_cons_zero, List.set_cons_succ]
  refine hd_pure (v := ?_) (by rfl) (fun W' hS' => ?_) ?_ -- 2
  rotate_left
  · have s6 := hS'.r6.str c6; have s8 := hS'.r8.str c8; have s19 := hS'.r19.str c19; have s23 := hS'.r23.str c23; clear hS'; (go_simp; first | with_reducible rfl | rfl)
  try simp only [Act.put, List.setIfInBounds_toArray, List.set_cons_zero, List.set_cons_succ]
  refine hd_pure (v := ?_) (by rfl) (fun W' hS' => ?_) ?_ -- 3
  rotate_left
  · have s6 := hS'.r6.str c6; have s8 := hS'.r8.str c8; have s19 := hS'.r19.str c19; have s23 := hS'.r23.str c23; clear hS'; (go_simp; first | with_reducible rfl | rfl)
  try simp only [Act.put, List.setIfInBounds_toArray, List.set_cons_zero, List.set_cons_succ]
  refine hd_pure (v := ?_) (by rfl) (fun W' hS' => ?_) ?_ -- 4
  rotate_left
  · have s6 := hS'.r6.str c6; have s8 := hS'.r8.str c8; have s19 := hS'.r19.str c19; have s23 := hS'.r23.str c23; clear hS'; (go_simp; first | with_reducible rfl | rfl)
  try simp only [Act.put, List.setIfInBounds_toArray, List.set_cons_zero, List.set_cons_succ]
  refine hd_pure (v := ?_) (by rfl) (fun W' hS' => ?_) ?_ -- 5
  rotate_left
  · have s6 := hS'.r6.str c6; have s8 := hS'.r8.str c8; have s19 := hS'.r19.str c19; have s23 := hS'.r23.str c23; clear hS'; (go_simp; first | with_reducible rfl | rfl)
  try simp only [Act.put, List.setIfInBounds_toArray, List.set_cons_zero, List.set_cons_succ]
  refine hd_pure (v := ?_) (by rfl) (fun W' hS' => ?_) ?_ -- 6
  rotate_left
  · have s6 := hS'.r6.str c6; have s8 := hS'.r8.str c8; have s19 := hS'.r19.str c19; have s23 := hS'.r23.str c23; clear hS'; (go_simp; first | with_reducible rfl | rfl)
  try simp only [Act.put, List.setIfInBounds_toArray, List.set_cons_zero, List.set_cons_succ]
  refine hd_pure (v := ?_) (by rfl) (fun W' hS' => ?_) ?_ -- 7
  rotate_left
  · have s6 := hS'.r6.str c6; have s8 := hS'.r8.str c8; have s19 := hS'.r19.str c19; have s23 := hS'.r23.str c23; clear hS'; (go_simp; first | with_reducible rfl | rfl)
  try simp only [Act.put, List.setIfInBounds_toArray, List.set_cons_zero, List.set_cons_succ]
  refine hd_pure (v := ?_) (by rfl) (fun W' hS' => ?_) ?_ -- 8
  rotate_left
  · have s6 := hS'.r6.str c6; have s8 := hS'.r8.str c8; have s19 := hS'.r19.str c19; have s23 := hS'.r23.str c23; clear hS'; (go_simp; first | with_reducible rfl | rfl)
  try simp only [Act.put, List.setIfInBounds_toArray, List.set_cons_zero, List.set_cons_succ]
  refine hd_pure (v := ?_) (by rfl) (fun W' hS' => ?_) ?_ -- 9
  rotate_left
  · have s6 := hS'.r6.str c6; have s8 := hS'.r8.str c8; have s19 := hS'.r19.str c19; have s23 := hS'.r23.str c23; clear hS'; (go_simp; first | with_reducible rfl | rfl)
  try simp only [Act.put, List.setIfInBounds_toArray, List.set_cons_zero, List.set_cons_succ]
  refine hd_pure (v := ?_) (by rfl) (fun W' hS' => ?_) ?_ -- 10
  rotate_left
  · have s6 := hS'.r6.str c6; have s8 := hS'.r8.str c8; have s19 := hS'.r19.str c19; have s23 := hS'.r23.str c23; clear hS'; (go_simp; first | with_reducible rfl | rfl)
  try simp only [Act.put, List.setIfInBounds_toArray, List.set_cons_zero, List.set_cons_succ]
  refine hd_pure (v := ?_) (by rfl) (fun W' hS' => ?_) ?_ -- 11
  rotate_left
  · have s6 := hS'.r6.str c6; have s8 := hS'.r8.str c8; have s19 := hS'.r19.str c19; have s23 := hS'.r23.str c23; clear hS'; (go_simp; first | with_reducible rfl | rfl)
  try simp only [Act.put, List.setIfInBounds_toArray, List.set_cons_zero, List.set_cons_succ]
  refine hd_pure (v := ?_) (by rfl) (fun W' hS' => ?_) ?_ -- 12
  rotate_left
  · have s6 := hS'.r6.str c6; have s8 := hS'.r8.str c8; have s19 := hS'.r19.str c19; have s23 := hS'.r23.str c23; clear hS'; (go_simp; first | with_reducible rfl | rfl)
  try simp only [Act.put, List.setIfInBounds_toArray, List.set_cons_zero, List.set_cons_succ]
  refine hd_pure (v := ?_) (by rfl) (fun W' hS' => ?_) ?_ -- 13
  rotate_left
  · have s6 := hS'.r6.str c6; have s8 := hS'.r8.str c8; have s19 := hS'.r19.str c19; have s23 := hS'.r23.str c23; clear hS'; (go_simp; first | with_reducible rfl | rfl)
  try simp only [Act.put, List.setIfInBounds_toArray, List.set_cons_zero, List.set_cons_succ]
  refine hd_pure (v := .agg q.cells.toArray) (by rfl) (fun W' hS' => exec_load_at 29 _ (by rfl) g10 0 26 (by rfl) _ _ hS'.q10.range (Pdu.cells_length _) Try.underlying29 rfl info_pdu) ?_ -- 14
  try simp only [Act.put, List.setIfInBounds_toArray, List.set_cons_zero, List.set_cons_succ]
  refine hd_pure (v := .agg q.cells.toArray) (by rfl) (fun W' hS' => exec_load_at 29 _ (by rfl) g14 0 26 (by rfl) _ _ hS'.q14.range (Pdu.cells_length _) Try.underlying29 rfl info_pdu) ?_ -- 15
  try simp only [Act.put, List.setIfInBounds_toArray, List.set_cons_zero, List.set_cons_succ]
  refine hd_pure (v := ?_) (by rfl) (fun W' hS' => ?_) ?_ -- 16
  rotate_left
  · have s6 := hS'.r6.str c6; have s8 := hS'.r8.str c8; have s19 := hS'.r19.str c19; have s23 := hS'.r23.str c23; clear hS'; (go_simp; first | with_reducible rfl | rfl)
  try simp only [Act.put, List.setIfInBounds_toArray, List.set_cons_zero, List.set_cons_succ]
  refine hd_pure (v := ?_) (by rfl) (fun W' hS' => ?_) ?_ -- 17
  rotate_left
  · have s6 := hS'.r6.str c6; have s8 := hS'.r8.str c8; have s19 := hS'.r19.str c19; have s23 := hS'.r23.str c23; clear hS'; (go_simp; first | with_reducible rfl | rfl)
  try simp only [Act.put, List.setIfInBounds_toArray, List.set_cons_zero, List.set_cons_succ]
  refine hd_pure (v := ?_) (by rfl) (fun W' hS' => ?_) ?_ -- 18
  rotate_left
  · have s6 := hS'.r6.str c6; have s8 := hS'.r8.str c8; have s19 := hS'.r19.str c19; have s23 := hS'.r23.str c23; clear hS'; (go_simp; first | with_reducible rfl | rfl)
  try simp only [Act.put, List.setIfInBounds_toArray, List.set_cons_zero, List.set_cons_succ]
  refine hd_pure (v := ?_) (by rfl) (fun W' hS' => ?_) ?_ -- 19
  rotate_left
  · have s6 := hS'.r6.str c6; have s8 := hS'.r8.str c8; have s19 := hS'.r19.str c19; have s23 := hS'.r23.str c23; clear hS'; (go_simp; first | with_reducible rfl | rfl)
  try simp only [Act.put, List.setIfInBounds_toArray, List.set_cons_zero, List.set_cons_succ]
  refine hd_pure (v := ?_) (by rfl) (fun W' hS' => ?_) ?_ -- 20
  rotate_left
  · have s6 := hS'.r6.str c6; have s8 := hS'.r8.str c8; have s19 := hS'.r19.str c19; have s23 := hS'.r23.str c23; clear hS'; (go_simp; first | with_reducible rfl | rfl)
  try simp only [Act.put, List.setIfInBounds_toArray, List.set_cons_zero, List.set_cons_succ]
  refine hd_pure (v := ?_) (by rfl) (fun W' hS' => ?_) ?_ -- 21
  rotate_left
  · have s6 := hS'.r6.str c6; have s8 := hS'.r8.str c8; have s19 := hS'.r19.str c19; have s23 := hS'.r23.str c23; clear hS'; (go_simp; first | with_reducible rfl | rfl)
  try simp only [Act.put, List.setIfInBounds_toArray, List.set_cons_zero, List.set_cons_succ]
  refine hd_pure (v := ?_) (by rfl) (fun W' hS' => ?_) ?_ -- 22
  rotate_left
  · have s6 := hS'.r6.str c6; have s8 := hS'.r8.str c8; have s19 := hS'.r19.str c19; have s23 := hS'.r23.str c23; clear hS'; (go_simp; first | with_reducible rfl | rfl)
  try simp only [Act.put, List.setIfInBounds_toArray, List.set_cons_zero, List.set_cons_succ]
  refine hd_pure (v := ?_) (by rfl) (fun W' hS' => ?_) ?_ -- 23
  rotate_left
  · have s6 := hS'.r6.str c6; have s8 := hS'.r8.str c8; have s19 := hS'.r19.str c19; have s23 := hS'.r23.str c23; clear hS'; (go_simp; first | with_reducible rfl | rfl)
  try simp only [Act.put, List.setIfInBounds_toArray, List.set_cons_zero, List.set_cons_succ]
  refine hd_pure (v := ?_) (by rfl) (fun W' hS' => ?_) ?_ -- 24
  rotate_left
  · have s6 := hS'.r6.str c6; have s8 := hS'.r8.str c8; have s19 := hS'.r19.str c19; have s23 := hS'.r23.str c23; clear hS'; (go_simp; first | with_reducible rfl | rfl)
  try simp only [Act.put, List.setIfInBounds_toArray, List.set_cons_zero, List.set_cons_succ]
  refine hd_pure (v := ?_) (by rfl) (fun W' hS' => ?_) ?_ -- 25
  rotate_left
  · have s6 := hS'.r6.str c6; have s8 := hS'.r8.str c8; have s19 := hS'.r19.str c19; have s23 := hS'.r23.str c23; clear hS'; (go_simp; first | with_reducible rfl | rfl)
  try simp only [Act.put, List.setIfInBounds_toArray, List.set_cons_zero, List.set_cons_succ]
  refine hd_pure (v := ?_) (by rfl) (fun W' hS' => ?_) ?_ -- 26
  rotate_left
  · have s6 := hS'.r6.str c6; have s8 := hS'.r8.str c8; have s19 := hS'.r19.str c19; have s23 := hS'.r23.str c23; clear hS'; (go_simp; first | with_reducible rfl | rfl)
  try simp only [Act.put, List.setIfInBounds_toArray, List.set_cons_zero, List.set_cons_succ]
  refine hd_pure (v := ?_) (by rfl) (fun W' hS' => ?_) ?_ -- 27
  rotate_left
  · have s6 := hS'.r6.str c6; have s8 := hS'.r8.str c8; have s19 := hS'.r19.str c19; have s23 := hS'.r23.str c23; clear hS'; (go_simp; first | with_reducible rfl | rfl)
  try simp only [Act.put, List.setIfInBounds_toArray, List.set_cons_zero, List.set_cons_succ]
  refine hd_pure (v := ?_) (by rfl) (fun W' hS' => ?_) ?_ -- 28
  rotate_left
  · have s6 := hS'.r6.str c6; have s8 := hS'.r8.str c8; have s19 := hS'.r19.str c19; have s23 := hS'.r23.str c23; clear hS'; (go_simp; first | with_reducible rfl | rfl)
  try simp only [Act.put, List.setIfInBounds_toArray, List.set_cons_zero, List.set_cons_succ]
  refine hd_pure (v := ?_) (by rfl) (fun W' hS' => ?_) ?_ -- 29
  rotate_left
  · have s6 := hS'.r6.str c6; have s8 := hS'.r8.str c8; have s19 := hS'.r19.str c19; have s23 := hS'.r23.str c23; clear hS'; (go_simp; first | with_reducible rfl | rfl)
  try simp only [Act.put, List.setIfInBounds_toArray, List.set_cons_zero, List.set_cons_succ]
  refine hd_pure (v := ?_) (by rfl) (fun W' hS' => ?_) ?_ -- 30
  rotate_left
  · have s6 := hS'.r6.str c6; have s8 := hS'.r8.str c8; have s19 := hS'.r19.str c19; have s23 := hS'.r23.str c23; clear hS'; (go_simp; first | with_reducible rfl | rfl)
  try simp only [Act.put, List.setIfInBounds_toArray, List.set_cons_zero, List.set_cons_succ]
  refine hd_pure (v := ?_) (by rfl) (fun W' hS' => ?_) ?_ -- 31
  rotate_left
  · have s6 := hS'.r6.str c6; have s8 := hS'.r8.str c8; have s19 := hS'.r19.str c19; have s23 := hS'.r23.str c23; clear hS'; (go_simp; first | with_reducible rfl | rfl)
  try simp only [Act.put, List.setIfInBounds_toArray, List.set_cons_zero, List.set_cons_succ]
  refine hd_pure (v := ?_) (by rfl) (fun W' hS' => ?_) ?_ -- 32
  rotate_left
  · have s6 := hS'.r6.str c6; have s8 := hS'.r8.str c8; have s19 := hS'.r19.str c19; have s23 := hS'.r23.str c23; clear hS'; (go_simp; first | with_reducible rfl | rfl)
  try simp only [Act.put, List.setIfInBounds_toArray, List.set_cons_zero, List.set_cons_succ]
  refine hd_pure (v := ?_) (by rfl) (fun W' hS' => ?_) ?_ -- 33
  rotate_left
  · have s6 := hS'.r6.str c6; have s8 := hS'.r8.str c8; have s19 := hS'.r19.str c19; have s23 := hS'.r23.str c23; clear hS'; (go_simp; first | with_reducible rfl | rfl)
  try simp only [Act.put, List.setIfInBounds_toArray, List.set_cons_zero, List.set_cons_succ]
  refine hd_pure (v := ?_) (by rfl) (fun W' hS' => ?_) ?_ -- 34
  rotate_left
  · have s6 := hS'.r6.str c6; have s8 := hS'.r8.str c8; have s19 := hS'.r19.str c19; have s23 := hS'.r23.str c23; clear hS'; (go_simp; first | with_reducible rfl | rfl)
  try simp only [Act.put, List.setIfInBounds_toArray, List.set_cons_zero, List.set_cons_succ]
  refine hd_pure (v := ?_) (by rfl) (fun W' hS' => ?_) ?_ -- 35
  rotate_left
  · have s6 := hS'.r6.str c6; have s8 := hS'.r8.str c8; have s19 := hS'.r19.str c19; have s23 := hS'.r23.str c23; clear hS'; (go_simp; first | with_reducible rfl | rfl)
  try simp only [Act.put, List.setIfInBounds_toArray, List.set_cons_zero, List.set_cons_succ]
  refine hd_pure (v := ?_) (by rfl) (fun W' hS' => ?_) ?_ -- 36
  rotate_left
  · have s6 := hS'.r6.str c6; have s8 := hS'.r8.str c8; have s19 := hS'.r19.str c19; have s23 := hS'.r23.str c23; clear hS'; (go_simp; first | with_reducible rfl | rfl)
  try simp only [Act.put, List.setIfInBounds_toArray, List.set_cons_zero, List.set_cons_succ]
  refine hd_pure (v := ?_) (by rfl) (fun W' hS' => ?_) ?_ -- 37
  rotate_left
  · have s6 := hS'.r6.str c6; have s8 := hS'.r8.str c8; have s19 := hS'.r19.str c19; have s23 := hS'.r23.str c23; clear hS'; (go_simp; first | with_reducible rfl | rfl)
  try simp only [Act.put, List.setIfInBounds_toArray, List.set_cons_zero, List.set_cons_succ]
  refine hd_pure (v := ?_) (by rfl) (fun W' hS' => ?_) ?_ -- 38
  rotate_left
  · have s6 := hS'.r6.str c6; have s8 := hS'.r8.str c8; have s19 := hS'.r19.str c19; have s23 := hS'.r23.str c23; clear hS'; (go_simp; first | with_reducible rfl | rfl)
  try simp only [Act.put, List.setIfInBounds_toArray, List.set_cons_zero, List.set_cons_succ]
  refine hd_pure (v := ?_) (by rfl) (fun W' hS' => ?_) ?_ -- 39
  rotate_left
  · have s6 := hS'.r6.str c6; have s8 := hS'.r8.str c8; have s19 := hS'.r19.str c19; have s23 := hS'.r23.str c23; clear hS'; (go_simp; first | with_reducible rfl | rfl)
  try simp only [Act.put, List.setIfInBounds_toArray, List.set_cons_zero, List.set_cons_succ]
  refine hd_pure (v := ?_) (by rfl) (fun W' hS' => ?_) ?_ -- 40
  rotate_left
  · have s6 := hS'.r6.str c6; have s8 := hS'.r8.str c8; have s19 := hS'.r19.str c19; have s23 := hS'.r23.str c23; clear hS'; (go_simp; first | with_reducible rfl | rfl)
  try simp only [Act.put, List.setIfInBounds_toArray, List.set_cons_zero, List.set_cons_succ]
  refine hd_pure (v := ?_) (by rfl) (fun W' hS' => ?_) ?_ -- 41
  rotate_left
  · have s6 := hS'.r6.str c6; have s8 := hS'.r8.str c8; have s19 := hS'.r19.str c19; have s23 := hS'.r23.str c23; clear hS'; (go_simp; first | with_reducible rfl | rfl)
  try simp only [Act.put, List.setIfInBounds_toArray, List.set_cons_zero, List.set_cons_succ]
  refine hd_pure (v := ?_) (by rfl) (fun W' hS' => ?_) ?_ -- 42
  rotate_left
  · have s6 := hS'.r6.str c6; have s8 := hS'.r8.str c8; have s19 := hS'.r19.str c19; have s23 := hS'.r23.str c23; clear hS'; (go_simp; first | with_reducible rfl | rfl)
  try simp only [Act.put, List.setIfInBounds_toArray, List.set_cons_zero, List.set_cons_succ]
  refine hd_pure (v := ?_) (by rfl) (fun W' hS' => ?_) ?_ -- 43
  rotate_left
  · have s6 := hS'.r6.str c6; have s8 := hS'.r8.str c8; have s19 := hS'.r19.str c19; have s23 := hS'.r23.str c23; clear hS'; (go_simp; first | with_reducible rfl | rfl)
  try simp only [Act.put, List.setIfInBounds_toArray, List.set_cons_zero, List.set_cons_succ]
  refine hd_pure (v := ?_) (by rfl) (fun W' hS' => ?_) ?_ -- 44
  rotate_left
  · have s6 := hS'.r6.str c6; have s8 := hS'.r8.str c8; have s19 := hS'.r19.str c19; have s23 := hS'.r23.str c23; clear hS'; (go_simp; first | with_reducible rfl | rfl)
  try simp only [Act.put, List.setIfInBounds_toArray, List.set_cons_zero, List.set_cons_succ]
  refine hd_pure (v := ?_) (by rfl) (fun W' hS' => ?_) ?_ -- 45
  rotate_left
  · have s6 := hS'.r6.str c6; have s8 := hS'.r8.str c8; have s19 := hS'.r19.str c19; have s23 := hS'.r23.str c23; clear hS'; (go_simp; first | with_reducible rfl | rfl)
  try simp only [Act.put, List.setIfInBounds_toArray, List.set_cons_zero, List.set_cons_succ]
  refine hd_pure (v := ?_) (by rfl) (fun W' hS' => ?_) ?_ -- 46
  rotate_left
  · have s6 := hS'.r6.str c6; have s8 := hS'.r8.str c8; have s19 := hS'.r19.str c19; have s23 := hS'.r23.str c23; clear hS'; (go_simp; first | with_reducible rfl | rfl)
  try simp only [Act.put, List.setIfInBounds_toArray, List.set_cons_zero, List.set_cons_succ]
  refine hd_pure (v := ?_) (by rfl) (fun W' hS' => ?_) ?_ -- 47
  rotate_left
  · have s6 := hS'.r6.str c6; have s8 := hS'.r8.str c8; have s19 := hS'.r19.str c19; have s23 := hS'.r23.str c23; clear hS'; (go_simp; first | with_reducible rfl | rfl)
  try simp only [Act.put, List.setIfInBounds_toArray, List.set_cons_zero, List.set_cons_succ]
  refine hd_pure (v := ?_) (by rfl) (fun W' hS' => ?_) ?_ -- 48
  rotate_left
  · have s6 := hS'.r6.str c6; have s8 := hS'.r8.str c8; have s19 := hS'.r19.str c19; have s23 := hS'.r23.str c23; clear hS'; (go_simp; first | with_reducible rfl | rfl)
  try simp only [Act.put, List.setIfInBounds_toArray, List.set_cons_zero, List.set_cons_succ]
  refine hd_pure (v := ?_) (by rfl) (fun W' hS' => ?_) ?_ -- 49
  rotate_left
  · have s6 := hS'.r6.str c6; have s8 := hS'.r8.str c8; have s19 := hS'.r19.str c19; have s23 := hS'.r23.str c23; clear hS'; (go_simp; first | with_reducible rfl | rfl)
  try simp only [Act.put, List.setIfInBounds_toArray, List.set_cons_zero, List.set_cons_succ]
  refine hd_pure (v := ?_) (by rfl) (fun W' hS' => ?_) ?_ -- 50
  rotate_left
  · have s6 := hS'.r6.str c6; have s8 := hS'.r8.str c8; have s19 := hS'.r19.str c19; have s23 := hS'.r23.str c23; clear hS'; (go_simp; first | with_reducible rfl | rfl)
  try simp only [Act.put, List.setIfInBounds_toArray, List.set_cons_zero, List.set_cons_succ]
  refine hd_pure (v := ?_) (by rfl) (fun W' hS' => ?_) ?_ -- 51
  rotate_left
  · have s6 := hS'.r6.str c6; have s8 := hS'.r8.str c8; have s19 := hS'.r19.str c19; have s23 := hS'.r23.str c23; clear hS'; (go_simp; first | with_reducible rfl | rfl)
  try simp only [Act.put, List.setIfInBounds_toArray, List.set_cons_zero, List.set_cons_succ]
  refine hd_pure (v := ?_) (by rfl) (fun W' hS' => ?_) ?_ -- 52
  rotate_left
  · have s6 := hS'.r6.str c6; have s8 := hS'.r8.str c8; have s19 := hS'.r19.str c19; have s23 := hS'.r23.str c23; clear hS'; (go_simp; first | with_reducible rfl | rfl)
  try simp only [Act.put, List.setIfInBounds_toArray, List.set_cons_zero, List.set_cons_succ]
  refine hd_pure (v := ?_) (by rfl) (fun W' hS' => ?_) ?_ -- 53
  rotate_left
  · have s6 := hS'.r6.str c6; have s8 := hS'.r8.str c8; have s19 := hS'.r19.str c19; have s23 := hS'.r23.str c23; clear hS'; (go_simp; first | with_reducible rfl | rfl)
  try simp only [Act.put, List.setIfInBounds_toArray, List.set_cons_zero, List.set_cons_succ]
  refine hd_pure (v := .agg p.cells.toArray) (by rfl) (fun W' hS' => exec_load_at 29 _ (by rfl) w.heap.size 0 26 (by rfl) _ _ hS'.bx.1.range (Pdu.cells_length _) Try.underlying29 rfl info_pdu) ?_ -- 54
  try simp only [Act.put, List.setIfInBounds_toArray, List.set_cons_zero, List.set_cons_succ]
  refine hd_pure (v := .agg p.cells.toArray) (by rfl) (fun W' hS' => exec_load_at 29 _ (by rfl) w.heap.size 0 26 (by rfl) _ _ hS'.bx.1.range (Pdu.cells_length _) Try.underlying29 rfl info_pdu) ?_ -- 56
  try simp only [Act.put, List.setIfInBounds_toArray, List.set_cons_zero, List.set_cons_succ]
  refine hd_sole (by rfl) (fun K hK => ?_) -- 55
  go_simp
  refine (right_any p _).mono ?_; rintro e w' ⟨rfl, hb⟩
  rw [← HPB.out]
  refine hK _ _ (hSW.next hb) ?_
  clear hK K hSW
  intro hSW
  clear hb
  try simp only [Act.put, List.setIfInBounds_toArray, List.set_cons_zero, List.set_cons_succ]
  refine hd_sole (by rfl) (fun K hK => ?_) -- 57
  go_simp
  refine (rright25_any p _).mono ?_; rintro e w' ⟨rfl, hb⟩
  rw [← HPB.out]
  refine hK _ _ (hSW.next hb) ?_
  clear hK K hSW
  intro hSW
  clear hb
  try simp only [Act.put, List.setIfInBounds_toArray, List.set_cons_zero, List.set_cons_succ]
  refine hd_pure (v := ?_) (by rfl) (fun W' hS' => ?_) ?_ -- 58
  rotate_left
  · have s6 := hS'.r6.str c6; have s8 := hS'.r8.str c8; have s19 := hS'.r19.str c19; have s23 := hS'.r23.str c23; clear hS'; (go_simp; first | with_reducible rfl | rfl)
  try simp only [Act.put, List.setIfInBounds_toArray, List.set_cons_zero, List.set_cons_succ]
  refine hd_pure (v := ?_) (by rfl) (fun W' hS' => ?_) ?_ -- 59
  rotate_left
  · have s6 := hS'.r6.str c6; have s8 := hS'.r8.str c8; have s19 := hS'.r19.str c19; have s23 := hS'.r23.str c23; clear hS'; (go_simp; first | with_reducible rfl | rfl)
  try simp only [Act.put, List.setIfInBounds_toArray, List.set_cons_zero, List.set_cons_succ]
  refine hd_pure (v := ?_) (by rfl) (fun W' hS' => ?_) ?_ -- 60
  rotate_left
  · have s6 := hS'.r6.str c6; have s8 := hS'.r8.str c8; have s19 := hS'.r19.str c19; have s23 := hS'.r23.str c23; clear hS'; (go_simp; first | with_reducible rfl | rfl)
  try simp only [Act.put, List.setIfInBounds_toArray, List.set_cons_zero, List.set_cons_succ]
  refine hd_nil ?_
  replace hL := hSW; clear hSW
  refine wpList_nil (NoPanic.normal ?_)
  go_wp2
  go_ret
  exact ⟨rfl, hL.bx.2⟩
theorem reads_any (w : World) (p : Pdu) (bs : List UInt8) (A : Option Addr) (c B : Nat) (hc : bs.length ≤ c) (hr : Reads w B 1 A bs.length (bs.map bv)) (hB : B ≤ w.heap.size) :
    Calls Try.prog 5 #[p.val, .slice A bs.length c] w fun e w' => e = .returned (.bool true) ∧ Below w.heap.size w w' := by
  by_cases h1 : 1000 < p.text.size
  · exact reads_upa w p bs A c B hr hB h1
  by_cases h2 : 5000 < bs.length
  · exact reads_upb w p bs A c B hr hB h1 h2
  · exact reads_go w p bs A c B hc hr hB h1 h2
end Go.Proofs.Ytmoldmnhijcckaa
