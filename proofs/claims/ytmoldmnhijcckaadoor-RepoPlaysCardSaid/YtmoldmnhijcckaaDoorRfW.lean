/- The walk of lanyardlaw21.RepoFirst: it returns true. -/
import Derived.Test.YtmoldmnhijcckaaDoorRoW
set_option linter.unusedVariables false
set_option linter.unusedSectionVars false
set_option linter.unusedSimpArgs false
namespace Go.Proofs.YtmoldmnhijcckaaDoor
open Go.RowKit
theorem wp_build1 {P : Program} {o : Oper} {a : Act} {w : World} {K : Act → World → Prop} {Q : Exit → Act → World → Prop} (t e : TypeId) (x : Operand) (ho : o.op = .buildSlice t 1 #[(0, x)]) (cs : List Value) (n : Nat) (hx : a.eval x = .agg cs.toArray) (hl : cs.length = n)
    (hu : P.underlying t = some (.slice e)) (hie : (P.info? e).map (·.size) = some n) (hz : ((P.info? e).bind (·.zero)).isSome = true) (hp : 0 < n) (hsm : n ≤ 1000)
    (h : K (a.put o.dst (.slice (some ⟨w.heap.size, 0, none⟩) 1 1)) (w.alloc (.cells cs.toArray e))) : o.wp P a w K Q := by
  cases hq : P.info? e with
  | none => simp [hq] at hie
  | some ie =>
    simp only [hq, Option.map_some, Option.some.injEq, Option.bind_some] at hie hz
    obtain ⟨z, hz⟩ := Option.isSome_iff_exists.1 hz
    unfold Oper.wp execOp
    have hr := run_build1 (P := P) w t e ie z cs hu hq hz (by rw [hl]; exact hie) (by omega) (by omega)
    simp only [ho, List.map_toArray, List.map_cons, List.map_nil, hx, Sem.run_bind, hr, Result.andThen_ok]
    exact h
structure FO (w : World) (xs : List Blb) (k : Nat) (v : Value) (ys : List Blb) (W : World) : Prop where
  o : W.ownsRow w.heap.size 27 2 v ys.length (ys.flatMap Blb.cells)
  b : ∀ y ∈ ys, OwnB W w.heap.size y
  lo : Below w.heap.size w W
  e : ys.map (fun y => (y.u, y.bs)) = (xs.take k).map (fun y => (y.u, y.bs))
  l : ys.length = k
theorem FO.next {w : World} {xs : List Blb} {k : Nat} {v : Value} {ys : List Blb} {W W' : World} (h : FO w xs k v ys W) (hb : Below W.heap.size W W') : FO w xs k v ys W' := ⟨own_below h.o hb, fun y hy => ⟨own_below (h.b y hy).1 hb, (h.b y hy).2⟩, below_then h.lo (Nat.le_refl _) hb, h.e, h.l⟩
theorem FO.drew {w : World} {xs : List Blb} {k : Nat} {v : Value} {ys : List Blb} {W : World} (h : FO w xs k v ys W) : FO w xs k v ys W.drew := ⟨h.o, h.b, h.lo.drew, h.e, h.l⟩
structure QS (w : World) (L g b1 b2 : Nat) (es xs ys : List Blb) (v : Value) (W : World) : Prop where
  f : FO w xs xs.length v ys W
  r : RepoAt W L g b1 b2 es []
theorem QS.drew {w : World} {L g b1 b2 : Nat} {es xs ys : List Blb} {v : Value} {W : World} (h : QS w L g b1 b2 es xs ys v W) : QS w L g b1 b2 es xs ys v W.drew := ⟨h.f.drew, h.r.drew⟩
def uOf (xs : List Blb) (t : Nat) : ByteArray := (xs.getD t default).u
theorem uOf_cell {w W : World} {ad : Addr} {xs : List Blb} (hr : Reads w w.heap.size 2 (some ad) xs.length (xs.flatMap Blb.cells)) (hb : Below w.heap.size w W) {t : Nat} (ht : t < xs.length) : W.cell? (ad.add (t * 2)) = some (.string (uOf xs t)) := by
  have h := (hr.below hb (Nat.le_refl _)).elem Blb.len ht rfl 0 _ rfl
  rw [add_nil'] at h
  rw [h]
  simp [uOf, List.getD_eq_getElem?_getD, List.getElem?_eq_getElem ht]
theorem RepoAt.stored {W : World} {lo g b1 b2 : Nat} {es : List Blb} {ks : List ByteArray} (h : RepoAt W lo g b1 b2 es ks) {base n : Nat} {v : Value} {xs : List Value} (ho : W.ownsRow base 5 1 v n xs) {q : Nat} (hq : v.ownBlock = some q)
    (he : ∀ e ∈ es, (Value.slice e.A e.bs.length e.c).ownBlock ≠ some q) (j : Nat) (u : Value) : RepoAt (W.setCell ⟨q, j, none⟩ u) lo g b1 b2 es ks := by
  obtain ⟨v', hB, ho'⟩ := h.blk
  have n1 : g ≠ q := fun e => own_blk_ne ho hB (by decide) (by rw [e]; exact hq)
  have n2 : b1 ≠ q := fun e => own_ne_map ho h.m1 (by rw [e]; exact hq)
  have n3 : b2 ≠ q := fun e => own_ne_map ho h.m2 (by rw [e]; exact hq)
  exact ⟨⟨v', hB.far n1 u, own_kept ho' fun k hk => Below.heap_setCell W _ u k fun e => own_own_ne ho ho' (by decide) q hq (by rw [← show k = q from e]; exact hk)⟩, h.m1.far n2 u, h.m2.far n3 u,
    fun e hm => ⟨own_kept (h.rd e hm).1 fun k hk => Below.heap_setCell W _ u k fun e2 => he e hm (by rw [← show k = q from e2]; exact hk), (h.rd e hm).2⟩, h.l1, h.l2, h.l3⟩
/-- The third loop: the bytes of one own blob are whatever. -/
structure QT (w : World) (L g b1 b2 : Nat) (es ys : List Blb) (v : Value) (y : Blb) (W : World) : Prop where
  o : W.ownsRow w.heap.size 27 2 v ys.length (ys.flatMap Blb.cells)
  y : ∃ zs : List Int, W.ownsRow w.heap.size 5 1 (.slice y.A y.bs.length y.c) y.bs.length (zs.map (Value.int .u8))
  lo : Below w.heap.size w W
  r : RepoAt W L g b1 b2 es []
theorem QT.put {w : World} {L g b1 b2 : Nat} {es ys : List Blb} {v : Value} {y : Blb} {W : World} (h : QT w L g b1 b2 es ys v y W) {gy : Nat} (hA : y.A = some ⟨gy, 0, none⟩) (h0 : w.heap.size ≤ gy) (h1 : gy < L) (j : Nat) (n : Int) : QT w L g b1 b2 es ys v y (W.setCell ⟨gy, j, none⟩ (.int .u8 n)) := by
  obtain ⟨zs, hz⟩ := h.y
  have hq : (Value.slice y.A y.bs.length y.c).ownBlock = some gy := by rw [hA]; rfl
  have l1 := h.r.l1
  have l2 := h.r.l2
  have l3 := h.r.l3
  refine ⟨own_kept h.o fun k hk => Below.heap_setCell W _ _ k fun e => own_own_ne hz h.o (by decide) gy hq (by rw [← show k = gy from e]; exact hk), ⟨zs.set j n, ?_⟩, h.lo.setCell h0 _, h.r.stored hz hq (fun e he hk => by have := (own_base_le (h.r.rd e he).1 gy hk).1; omega) j _⟩
  rw [hA] at hz ⊢
  have := (hz.stored j (.int .u8 n)).1
  rwa [← List.map_set] at this
theorem reads_strD {w : World} {B n : Nat} {A : Option Addr} {bs : List UInt8} (h : Reads w B 1 A n (bs.map bv)) (c : Nat) : (convert 25 9 (.slice A n c)).run Tryd.prog w = .ok (.string ⟨bs.toArray⟩) w := by
  have hl : bs.length = n := by have := h.1; simpa using this
  by_cases hn : n = 0
  · subst hn
    obtain rfl := List.eq_nil_of_length_eq_zero hl
    cases A with
    | none => exact run_convert_bytes_nil w 25 5 Tryd.underlying25 Tryd.underlying5 0 c 9 Tryd.underlying9
    | some a => exact run_convert_bytes_back w 25 9 5 a c [] Tryd.underlying25 Tryd.underlying5 Tryd.underlying9 (fun j hj => absurd hj (by simp))
  · obtain ⟨ad, rfl, _, hc⟩ := h.2 (by omega)
    subst hl
    exact run_convert_bytes_back w 25 9 5 ad c bs Tryd.underlying25 Tryd.underlying5 Tryd.underlying9 (fun j hj => hc j _ (by simp [bv, hj]))
/-- The end: two rows of the same bytes. -/
structure QB (w : World) (B : Nat) (A : Option Addr) (c : Nat) (adx : Addr) (x : Blb) (W : World) : Prop where
  o : W.ownsRow B 5 1 (.slice A x.bs.length c) x.bs.length (x.bs.map bv)
  r : Reads W w.heap.size 1 x.A x.bs.length (x.bs.map bv)
  a : AtAdr W adx x.cells
  lo : Below w.heap.size w W
theorem QB.drew {w : World} {B : Nat} {A : Option Addr} {c : Nat} {adx : Addr} {x : Blb} {W : World} (h : QB w B A c adx x W) : QB w B A c adx x W.drew := ⟨own_below h.o (Below.refl _ _).drew, h.r.drew, h.a, h.lo.drew⟩
theorem getF_at (xs : List Blb) {ff : Nat} (hf : ff < xs.length) {u : ByteArray} (h1 : uOf xs ff = u) (h2 : ∀ t, t < ff → uOf xs t ≠ u) : getF (xs.map fun y => (y.u, y.bs)) u = some (xs[ff]).bs := by
  unfold getF
  have hu : ∀ t (ht : t < xs.length), uOf xs t = xs[t].u := fun t ht => by simp [uOf, List.getD_eq_getElem?_getD, List.getElem?_eq_getElem ht]
  have : ((xs.map fun y => (y.u, y.bs)).find? fun q => u == q.1) = some (xs[ff].u, xs[ff].bs) := by
    rw [List.find?_eq_some_iff_getElem]
    refine ⟨by rw [← hu ff hf, h1]; simp, ff, by simpa using hf, by simp, fun j hj => ?_⟩
    have := h2 j hj
    rw [hu j (by omega)] at this
    simpa using fun e => this e.symm
  rw [this]
  rfl
set_option maxRecDepth 100000 in
set_option maxHeartbeats 8000000 in
theorem rpFirst_any (xs : List Blb) (A : Option Addr) (c : Nat) (at_ : Int) (m : Int) (w : World) (hp : LawPre w m A c xs) (ha0 : -9223372036854775808 ≤ at_) (ha1 : at_ ≤ 9223372036854775807) :
    Calls Tryd.prog 3 #[.slice A xs.length c, .int .i64 at_] w fun e w' => e = .returned (.bool true) ∧ Below w.heap.size w w' := by
  obtain ⟨ib, hib, hbz0, hbz1, hbz2⟩ := info_parts info_blbO
  obtain ⟨iu, hiu, huz0, huz1, huz2⟩ := info_parts info5b
  go_enter Tryd.func3, Tryd.ntmps3
  go_wp2_with fail
  refine (awake21_any m _ hp.h0 hp.hm).mono ?_
  rintro e w1 ⟨rfl, hlo⟩
  go_wp2_with fail
  refine (light_any xs A c hp.hc hp.hn (fun x hx => (hp.hf x hx).2) w1 ((hp.hr.below hlo (Nat.le_refl _)).more hlo.size)).mono ?_
  rintro e w2 ⟨rfl, hb⟩
  replace hlo := below_then hlo (Nat.le_refl _) hb
  clear hb
  cases hl : lightB xs
  · go_wp2_with fail
    go_ret
    exact ⟨rfl, hlo⟩
  by_cases hn0 : xs.length = 0
  · have b0 : ((xs.length : Int) == 0) = true := by simp [hn0]
    go_wp2_with fail
    go_ret
    exact ⟨rfl, hlo⟩
  by_cases hat0 : at_ < 0
  · have b0 : ((xs.length : Int) == 0) = false := beq_eq_false_iff_ne.2 (by omega)
    have b1 : decide (at_ < 0) = true := decide_eq_true hat0
    go_wp2_with fail
    go_ret
    exact ⟨rfl, hlo⟩
  have b0 : ((xs.length : Int) == 0) = false := beq_eq_false_iff_ne.2 (by omega)
  have b1 : decide (at_ < 0) = false := decide_eq_false hat0
  have hx60 := (light_fine hl).1
  have HL := Lib.hid hl
  clear hl
  go_wp2_with fail
  clear b0 b1
  have hF : FO w xs 0 (.slice none 0 0) [] w2 := ⟨World.ownsRow_nil _ _ _ _, fun y hy => by simp at hy, hlo, rfl, rfl⟩
  clear hlo
  go_loopw [7, 8] (fun v7 i wr => ∃ (k : Nat) (ys : List Blb), k ≤ xs.length ∧ i = .int .i64 k ∧ FO w xs k v7 ys wr) (fun _ i _ => xs.length - (intOf i).toNat)
  case atStart => exact ⟨0, [], by omega, rfl, hF⟩
  case round =>
    clear hF
    obtain ⟨k, ys, hk, rfl, hF⟩ := hrel
    by_cases hlt : k < xs.length
    · have hk0 : (0 : Int) ≤ (k : Int) := by omega
      have hk1 : (k : Int) < (xs.length : Int) := by omega
      obtain ⟨ad, rfl, _, _⟩ := hp.hr.2 (by omega)
      have hat : ∀ W, Below w.heap.size w W → AtAdr W (ad.add (k * 2)) xs[k].cells := fun W hW => (hp.hr.below hW (Nat.le_refl _)).elem Blb.len hlt rfl
      have hxr : ∀ W, Below w.heap.size w W → Reads W w.heap.size 1 xs[k].A xs[k].bs.length (xs[k].bs.map bv) := fun W hW => (hp.hf xs[k] (List.getElem_mem hlt)).1.below hW (Nat.le_refl _)
      have hxl := (light_fine HL.out).2 xs[k] (List.getElem_mem hlt)
      have HT := Lib.hid (show xs.take (k + 1) = xs.take k ++ [xs[k]] from List.take_succ_eq_append_getElem hlt)
      generalize xs[k] = x at hat hxr hxl HT
      go_wp2_with fail
      refine reg_sch2 15 [(true, 0), (true, 1), (true, 2), (true, 3), (true, 4), (true, 5), (true, 7), (true, 8), (true, 9), (true, 10), (true, 11), (false, 6), (false, 12), (true, 13), (false, 14)] (by kernel_rfl) (by kernel_rfl) (FO w xs k u7 ys) (FO w xs k u7 ys) ?_ ?_ ?_
      · exact hF.drew
      · exact fun _ h => h
      intro W hSW
      simp only [List.map_cons, List.map_nil, List.getD_cons_zero, List.getD_cons_succ, List.drop_succ_cons, List.drop_zero]
      refine hd_pure (v := ?_) (by rfl) (fun W' hS' => ?_) ?_ -- 0
      rotate_left
      · have c0 := hat _ hS'.lo 0 _ rfl; have c1 := hat _ hS'.lo 1 _ rfl; rw [add_nil'] at c0; rw [add_pos _ (by decide)] at c1; clear hS'; (go_simp; first | with_reducible rfl | rfl)
      try simp only [Act.put, List.setIfInBounds_toArray, List.set_cons_zero, List.set_cons_succ]
      refine hd_pure (v := ?_) (by rfl) (fun W' hS' => ?_) ?_ -- 1
      rotate_left
      · have c0 := hat _ hS'.lo 0 _ rfl; have c1 := hat _ hS'.lo 1 _ rfl; rw [add_nil'] at c0; rw [add_pos _ (by decide)] at c1; clear hS'; (go_simp; first | with_reducible rfl | rfl)
      try simp only [Act.put, List.setIfInBounds_toArray, List.set_cons_zero, List.set_cons_succ]
      refine hd_pure (v := ?_) (by rfl) (fun W' hS' => ?_) ?_ -- 2
      rotate_left
      · have c0 := hat _ hS'.lo 0 _ rfl; have c1 := hat _ hS'.lo 1 _ rfl; rw [add_nil'] at c0; rw [add_pos _ (by decide)] at c1; clear hS'; (go_simp; first | with_reducible rfl | rfl)
      try simp only [Act.put, List.setIfInBounds_toArray, List.set_cons_zero, List.set_cons_succ]
      refine hd_pure (v := ?_) (by rfl) (fun W' hS' => ?_) ?_ -- 3
      rotate_left
      · have c0 := hat _ hS'.lo 0 _ rfl; have c1 := hat _ hS'.lo 1 _ rfl; rw [add_nil'] at c0; rw [add_pos _ (by decide)] at c1; clear hS'; (go_simp; first | with_reducible rfl | rfl)
      try simp only [Act.put, List.setIfInBounds_toArray, List.set_cons_zero, List.set_cons_succ]
      refine hd_pure (v := ?_) (by rfl) (fun W' hS' => ?_) ?_ -- 4
      rotate_left
      · have c0 := hat _ hS'.lo 0 _ rfl; have c1 := hat _ hS'.lo 1 _ rfl; rw [add_nil'] at c0; rw [add_pos _ (by decide)] at c1; clear hS'; (go_simp; first | with_reducible rfl | rfl)
      try simp only [Act.put, List.setIfInBounds_toArray, List.set_cons_zero, List.set_cons_succ]
      refine hd_pure (v := ?_) (by rfl) (fun W' hS' => ?_) ?_ -- 5
      rotate_left
      · have c0 := hat _ hS'.lo 0 _ rfl; have c1 := hat _ hS'.lo 1 _ rfl; rw [add_nil'] at c0; rw [add_pos _ (by decide)] at c1; clear hS'; (go_simp; first | with_reducible rfl | rfl)
      try simp only [Act.put, List.setIfInBounds_toArray, List.set_cons_zero, List.set_cons_succ]
      refine hd_pure (v := ?_) (by rfl) (fun W' hS' => ?_) ?_ -- 7
      rotate_left
      · have c0 := hat _ hS'.lo 0 _ rfl; have c1 := hat _ hS'.lo 1 _ rfl; rw [add_nil'] at c0; rw [add_pos _ (by decide)] at c1; clear hS'; (go_simp; first | with_reducible rfl | rfl)
      try simp only [Act.put, List.setIfInBounds_toArray, List.set_cons_zero, List.set_cons_succ]
      refine hd_pure (v := ?_) (by rfl) (fun W' hS' => ?_) ?_ -- 8
      rotate_left
      · have c0 := hat _ hS'.lo 0 _ rfl; have c1 := hat _ hS'.lo 1 _ rfl; rw [add_nil'] at c0; rw [add_pos _ (by decide)] at c1; clear hS'; (go_simp; first | with_reducible rfl | rfl)
      try simp only [Act.put, List.setIfInBounds_toArray, List.set_cons_zero, List.set_cons_succ]
      refine hd_pure (v := ?_) (by rfl) (fun W' hS' => ?_) ?_ -- 9
      rotate_left
      · have c0 := hat _ hS'.lo 0 _ rfl; have c1 := hat _ hS'.lo 1 _ rfl; rw [add_nil'] at c0; rw [add_pos _ (by decide)] at c1; clear hS'; (go_simp; first | with_reducible rfl | rfl)
      try simp only [Act.put, List.setIfInBounds_toArray, List.set_cons_zero, List.set_cons_succ]
      refine hd_pure (v := ?_) (by rfl) (fun W' hS' => ?_) ?_ -- 10
      rotate_left
      · have c0 := hat _ hS'.lo 0 _ rfl; have c1 := hat _ hS'.lo 1 _ rfl; rw [add_nil'] at c0; rw [add_pos _ (by decide)] at c1; clear hS'; (go_simp; first | with_reducible rfl | rfl)
      try simp only [Act.put, List.setIfInBounds_toArray, List.set_cons_zero, List.set_cons_succ]
      refine hd_pure (v := ?_) (by rfl) (fun W' hS' => ?_) ?_ -- 11
      rotate_left
      · have c0 := hat _ hS'.lo 0 _ rfl; have c1 := hat _ hS'.lo 1 _ rfl; rw [add_nil'] at c0; rw [add_pos _ (by decide)] at c1; clear hS'; (go_simp; first | with_reducible rfl | rfl)
      try simp only [Act.put, List.setIfInBounds_toArray, List.set_cons_zero, List.set_cons_succ]
      refine hd_sole (by rfl) (fun K hK => ?_) -- 6
      go_simp
      refine hK _ _ (hSW.next ((Below.refl _ _).alloc (Nat.le_refl _) _)) ?_
      clear hK K
      intro hSW6
      try simp only [Act.put, List.setIfInBounds_toArray, List.set_cons_zero, List.set_cons_succ]
      refine hd_sole (by rfl) (fun K hK => ?_) -- 12
      refine wp_append_any _ _ _ 25 rfl W.heap.size 5 iu _ 1 1 Tryd.underlying25 hiu huz0 huz1 huz2 rfl (by omega) _ 0 _ rfl (own_lit0 W W.heap.size 5 1 (Nat.le_refl _)) w.heap.size x.A x.bs.length x.c _ rfl (hxr _ hSW6.lo) (bv_one _) (by simp only [maxLen]; omega) (by omega) (by rw [World.size_alloc]; omega) ?_
      intro v4 w4 ho4 hg4 _
      rw [Nat.zero_add, List.nil_append] at ho4
      obtain ⟨A4, c4, rfl⟩ := own_slice' ho4
      have hb12 : Below W.heap.size W w4 := Below.grown ((Below.refl _ _).alloc (Nat.le_refl _) _) hg4 (by rw [World.size_alloc]; omega) (fun k hk => (own_base_le (own_lit0 W W.heap.size 5 1 (Nat.le_refl _)) k hk).1)
      refine hK _ _ (hSW.next hb12) ?_
      clear hK K
      intro hSW12
      try simp only [Act.put, List.setIfInBounds_toArray, List.set_cons_zero, List.set_cons_succ]
      refine hd_pure (v := ?_) (by rfl) (fun W' hS' => ?_) ?_ -- 13
      rotate_left
      · have c0 := hat _ hS'.lo 0 _ rfl; have c1 := hat _ hS'.lo 1 _ rfl; rw [add_nil'] at c0; rw [add_pos _ (by decide)] at c1; clear hS'; (go_simp; first | with_reducible rfl | rfl)
      try simp only [Act.put, List.setIfInBounds_toArray, List.set_cons_zero, List.set_cons_succ]
      refine hd_sole (by rfl) (fun K hK => ?_) -- 14
      refine wp_build1 22 27 _ rfl (Blb.cells ⟨x.u, A4, c4, x.bs⟩) 2 rfl rfl Tryd.underlying22 (by kernel_rfl) (by kernel_rfl) (by omega) (by omega) ?_
      refine hK _ _ (hSW12.next ((Below.refl _ _).alloc (Nat.le_refl _) _)) ?_
      clear hK K
      intro hSW14
      try simp only [Act.put, List.setIfInBounds_toArray, List.set_cons_zero, List.set_cons_succ]
      refine hd_nil ?_
      have hWs := hSW.lo.size; have hw4 := hSW12.lo.size; have hyl := hF.l
      go_wp2_with (at_builtin; refine wpList_append_any _ rfl _ _ 22 rfl w.heap.size 27 ib _ 2 40 Tryd.underlying22 hib hbz0 hbz1 hbz2 rfl (by omega) _ ys.length _ rfl hSW14.o (w4.heap.size + 1) (some ⟨w4.heap.size, 0, none⟩) 1 1 _ rfl (reads_blkO (Blk.new w4 _ (Blb.cells ⟨x.u, A4, c4, x.bs⟩)) rfl) (Blb.one ⟨x.u, A4, c4, x.bs⟩) (by simp only [maxLen]; omega) (by omega) (by rw [World.size_alloc]; omega) ?_; intro v7 w7 ho7 hg7 _)
      refine NoPanic.normal ?_
      have hF7 : FO w xs (k + 1) v7 (ys ++ [⟨x.u, A4, c4, x.bs⟩]) w7 := by
        refine ⟨by rw [List.length_append, List.flatMap_append]; simpa using ho7, fun y hy => ?_, Below.grown hSW14.lo hg7 (by rw [World.size_alloc]; omega) (fun k hk => (own_base_le hSW14.o k hk).1), by rw [HT.out, List.map_append, List.map_append, hF.e]; rfl, by simp; exact hF.l⟩
        rcases List.mem_append.1 hy with hy | hy
        · exact ⟨own_grown (hSW14.b y hy).1 hg7 (fun k hk => own_own_ne (hSW14.b y hy).1 hSW14.o (by decide) k hk), (hSW14.b y hy).2⟩
        · obtain rfl := List.mem_singleton.1 hy
          have h1 := own_below (own_base_mono ho4 hWs) ((Below.refl w4.heap.size w4).alloc (Nat.le_refl _) (.cells (Blb.cells ⟨x.u, A4, c4, x.bs⟩).toArray 27))
          exact ⟨own_grown h1 hg7 (fun k hk => own_own_ne h1 hSW14.o (by decide) k hk), by show x.bs.length ≤ _; omega⟩
      clear hSW hSW6 hSW12 hSW14 ho4 hg4 hb12 ho7 hg7 hF hat hxr
      go_wp2_with fail
      go_roundw
      case rel => exact ⟨k + 1, _, by omega, by go_num, hF7⟩
      case measure => simp [intOf]; omega
    · have hkk : k = xs.length := by omega
      subst hkk
      have hyl := hF.l
      have hye := hF.e
      rw [List.take_length] at hye
      obtain ⟨A7, c7, rfl⟩ := own_slice' hF.o
      have hlo := hF.lo
      have hpre : NewPre wr m A7 ys := by
        refine ⟨(hp.var hlo).1, (hp.var hlo).2, Reads.of_own hF.o, fun y hy => ⟨Reads.of_own (hF.b y hy).1, ?_, (hF.b y hy).2⟩, by omega⟩
        obtain ⟨x, hx, h1⟩ : ∃ x ∈ xs, (x.u, x.bs) = (y.u, y.bs) := by
          have : (y.u, y.bs) ∈ xs.map fun y => (y.u, y.bs) := by rw [← hye]; exact List.mem_map.2 ⟨y, hy, rfl⟩
          exact List.mem_map.1 this
        have h2 := (light_fine HL.out).2 x hx
        have h3 : x.u = y.u := congrArg Prod.fst h1
        rw [← h3]
        omega
      have HYL := Lib.hid hyl
      have HYE := Lib.hid hye
      have hyl2 : ys.length ≤ 60 := by omega
      clear hlt hk hyl hye
      go_wp2_with fail
      refine (new_any ys A7 c7 (own_cap hF.o) m wr hpre).mono ?_
      rintro e w5 ⟨hnp, hb⟩
      have hlo5 := below_then hlo (Nat.le_refl _) hb
      have hF5 := hF.next hb
      unfold NewPost at hnp
      cases hok : (ys.all goodB && !largeB ys)
      · rw [hok] at hnp
        simp only [Bool.false_eq_true, if_false] at hnp
        obtain rfl := hnp
        cases ys.all goodB
        · go_wp2_with fail
          go_ret
          exact ⟨rfl, hlo5⟩
        · go_wp2_with fail
          go_ret
          exact ⟨rfl, hlo5⟩
      rw [hok] at hnp
      simp only [if_true] at hnp
      obtain ⟨g, b1, b2, es, rfl, hR, hes⟩ := hnp
      have HGF := Lib.hid (show ∀ u, getK es u = getF (xs.map fun y => (y.u, y.bs)) u from fun u => by rw [getK_F, hes, getF_firsts, HYE.out])
      obtain ⟨kk, hkk⟩ : ∃ kk : Nat, at_.tmod (xs.length : Int) = (kk : Int) := ⟨(at_.tmod (xs.length : Int)).toNat, by rw [Int.toNat_of_nonneg]; exact Int.tmod_nonneg _ (by omega)⟩
      have hkl : kk < xs.length := by
        have h1 := Int.tmod_lt_of_pos at_ (show (0 : Int) < (xs.length : Int) by omega)
        omega
      have HKK := Lib.hid hkk
      have hnz : ¬ (xs.length : Int) = 0 := by omega
      have hyk : ∀ y ∈ ys, ∀ k, (Value.slice y.A y.bs.length y.c).ownBlock = some k → w.heap.size ≤ k ∧ k < wr.heap.size := fun y hy k hk => own_base_le (hF.b y hy).1 k hk
      have hwL := hlo.size
      clear hpre hok hes hb hF hlo
      generalize wr.heap.size = L at hR hyk hwL
      go_wp2_with fail
      have hQ : QS w L g b1 b2 es xs ys (.slice A7 ys.length c7) w5 := ⟨hF5, hR⟩
      have hLw := hQ.f.lo
      obtain ⟨ad, rfl, _, _⟩ := hp.hr.2 (by omega)
      clear hF5 hR hlo5 hkk hLw
      go_loopw [12, 13] (fun f i W => ∃ (ff jj : Nat), f = .int .i64 ff ∧ i = .int .i64 ((jj : Int) - 1) ∧ jj ≤ kk + 1 ∧ ff ≤ kk ∧ QS w L g b1 b2 es xs ys (.slice A7 ys.length c7) W ∧ Hid (uOf xs ff = uOf xs kk ∧ ∀ t, jj ≤ t → t < ff → uOf xs t ≠ uOf xs kk)) (fun _ i _ => (intOf i + 1).toNat)
      case atStart => exact ⟨kk, kk + 1, rfl, by go_num, by omega, by omega, hQ, Lib.hid ⟨rfl, fun t h1 h2 => by omega⟩⟩
      case round =>
        clear hQ
        obtain ⟨ff, jj, rfl, rfl, hj, hf, hQ, HM⟩ := hrel
        cases jj with
        | zero =>
          have hff : ff < xs.length := by omega
          have hfy : ff < ys.length := by rw [HYL.out]; exact hff
          have HB := Lib.hid (show getK es (uOf xs kk) = some (xs[ff]).bs from by rw [HGF.out]; exact getF_at xs hff HM.out.1 fun t ht => HM.out.2 t (Nat.zero_le _) ht)
          obtain ⟨adO, rfl, _, _⟩ := (Reads.of_own hQ.f.o).2 (by rw [HYL.out]; omega)
          have hyk' := hyk ys[ff] (List.getElem_mem hfy)
          have hT : QT w L g b1 b2 es ys (.slice (some adO) ys.length c7) ys[ff] wr :=
            ⟨hQ.f.o, ⟨_, by have := (hQ.f.b ys[ff] (List.getElem_mem hfy)).1; rwa [show (ys[ff].bs.map bv) = (ys[ff].bs.map fun b => (b.toNat : Int)).map (Value.int .u8) by rw [List.map_map]; rfl] at this⟩, hQ.f.lo, hQ.r⟩
          have hat : ∀ W, QT w L g b1 b2 es ys (.slice (some adO) ys.length c7) ys[ff] W → AtAdr W (adO.add (ff * 2)) (ys[ff]).cells := fun W hW => (Reads.of_own hW.o).elem Blb.len hfy rfl
          have hyb := (hQ.f.b ys[ff] (List.getElem_mem hfy)).2
          generalize ys[ff] = y at hyk' hT hat hyb
          have hf0 : (0 : Int) ≤ (ff : Int) := by omega
          have hf1 : (ff : Int) < (ys.length : Int) := by omega
          clear hQ HM
          go_wp2_with fail
          go_loopw [14] (fun i W => ∃ k : Nat, k ≤ y.bs.length ∧ i = .int .i64 k ∧ QT w L g b1 b2 es ys (.slice (some adO) ys.length c7) y W) (fun i _ => y.bs.length - (intOf i).toNat)
          case atStart => exact ⟨0, by omega, rfl, hT⟩
          case round =>
            clear hT
            obtain ⟨k, hk, rfl, hT⟩ := hrel
            have y1 := hat _ hT 1 _ rfl
            rw [add_pos _ (by decide)] at y1
            by_cases hlt : k < y.bs.length
            · have hk0 : (0 : Int) ≤ (k : Int) := by omega
              have hk1 : (k : Int) < (y.bs.length : Int) := by omega
              obtain ⟨zs, hz⟩ := hT.y
              obtain ⟨gy, hA, hg0, hgc⟩ := own_at hz (by omega)
              rw [hA] at y1 hz
              have hzl : k < zs.length := by have := hz.1; rw [List.length_map] at this; omega
              have hgk := hgc k _ (by rw [List.getElem?_map, List.getElem?_eq_getElem hzl]; rfl)
              have hfz := hz.frozenAt k
              have hgL := (hyk' gy (by rw [hA]; rfl)).2
              generalize zs[k] = zk at hgk
              clear hgc hz
              go_wp2_with fail
              go_roundw
              case rel => exact ⟨k + 1, by omega, by go_num, hT.put hA hg0 hgL _ _⟩
              case measure => simp [intOf]; omega
            · have hkk : k = y.bs.length := by omega
              subst hkk
              have hk2 : (0 : Int) ≤ (kk : Int) := by omega
              have hk3 : (kk : Int) < (xs.length : Int) := by omega
              have hxr : ∀ W, Below w.heap.size w W → W.cell? (ad.add (kk * 2)) = some (.string (uOf xs kk)) := fun W hW => uOf_cell hp.hr hW hkl
              have hxf : ∀ W, Below w.heap.size w W → AtAdr W (ad.add (ff * 2)) (xs[ff]).cells := fun W hW => (hp.hr.below hW (Nat.le_refl _)).elem Blb.len hff rfl
              have hxb : ∀ W, Below w.heap.size w W → Reads W w.heap.size 1 xs[ff].A xs[ff].bs.length (xs[ff].bs.map bv) := fun W hW => (hp.hf xs[ff] (List.getElem_mem hff)).1.below hW (Nat.le_refl _)
              generalize xs[ff] = x at hxf hxb HB
              generalize uOf xs kk = u at hxr HB
              have hR := hT.r
              have hlo := hT.lo
              have c1 := hxr _ hlo
              clear hlt hk hT hat hyk' hyb
              go_wp2_with fail
              refine (get_any u wr _ g b1 b2 es [] hR (by simp)).mono ?_
              rintro e w6 ⟨A6, c6, bs6, is6, rfl, hk6, _, ho6, hR6, hfr6, _⟩
              clear y1
              have hlo6 := hlo.trans (hfr6.lo.mono hwL)
              obtain ⟨rfl, rfl⟩ : is6 = true ∧ bs6 = x.bs := by
                rw [HB.out] at hk6
                cases is6 <;> simp at hk6
                exact ⟨rfl, hk6.symm⟩
              have hes6 : ∀ q, wr.heap.size ≤ q → ∀ e ∈ es, (Value.slice e.A e.bs.length e.c).ownBlock ≠ some q := fun q hq e he h => by have := (own_base_le (hR.rd e he).1 q h).2; omega
              have hs6 := hlo.size
              clear hk6 hfr6 hR hlo c1
              generalize wr.heap.size = S6 at ho6 hes6 hs6
              by_cases hb0 : x.bs.length = 0
              · have d0 : decide (0 < x.bs.length) = false := decide_eq_false (by omega)
                have c1 := hxr _ hlo6
                clear hb0
                go_wp2_with fail
                obtain ⟨w7, hw7⟩ : ∃ w7, w7 = w6 := ⟨_, rfl⟩
                rw [← hw7] at hR6 hlo6 c1 ⊢
                have hR7 := hR6
                have hlo7 := hlo6
                clear hw7 hR6 hlo6 ho6
                refine (get_any u w7 _ g b1 b2 es _ hR7 (by have := askF_len [] u; simp only [List.length_nil] at this; omega)).mono ?_
                rintro e w8 ⟨A8, c8, bs8, is8, rfl, hk8, _, ho8, hR8, hfr8, _⟩
                have hlo8 := hlo7.trans (hfr8.lo.mono hwL)
                obtain ⟨rfl, rfl⟩ : is8 = true ∧ bs8 = x.bs := by
                  rw [HB.out] at hk8
                  cases is8 <;> simp at hk8
                  exact ⟨rfl, hk8.symm⟩
                have hQB : QB w w7.heap.size A8 c8 (ad.add (ff * 2)) x w8 := ⟨ho8, hxb _ hlo8, hxf _ hlo8, hlo8⟩
                have hf2 : (ff : Int) < (xs.length : Int) := by omega
                generalize w7.heap.size = S8 at hQB
                clear hk8 hfr8 hR8 hR7 hlo7 hlo8 ho8 hxr hxf hxb c1
                go_wp2_with fail
                refine reg_sch2 16 [(true, 0), (true, 1), (true, 2), (true, 3), (true, 4), (true, 5), (true, 6), (true, 7), (true, 8), (true, 9), (true, 10), (true, 11), (true, 12), (true, 13), (true, 14), (true, 15)] (by kernel_rfl) (by kernel_rfl) (QB w S8 A8 c8 (ad.add (ff * 2)) x) (QB w S8 A8 c8 (ad.add (ff * 2)) x) ?_ ?_ ?_
                · exact hQB.drew
                · exact fun _ h => h
                intro W hSW
                simp only [List.map_cons, List.map_nil, List.getD_cons_zero, List.getD_cons_succ, List.drop_succ_cons, List.drop_zero]
                refine hd_pure (v := ?_) (by rfl) (fun W' hS' => ?_) ?_ -- 0
                rotate_left
                · have k1 := conv_own hS'.o; have k2 := reads_strD hS'.r x.c; have k3 := hS'.a 1 _ rfl; rw [add_pos _ (by decide)] at k3; clear hS'; (go_simp; first | with_reducible rfl | rfl)
                try simp only [Act.put, List.setIfInBounds_toArray, List.set_cons_zero, List.set_cons_succ]
                refine hd_pure (v := ?_) (by rfl) (fun W' hS' => ?_) ?_ -- 1
                rotate_left
                · have k1 := conv_own hS'.o; have k2 := reads_strD hS'.r x.c; have k3 := hS'.a 1 _ rfl; rw [add_pos _ (by decide)] at k3; clear hS'; (go_simp; first | with_reducible rfl | rfl)
                try simp only [Act.put, List.setIfInBounds_toArray, List.set_cons_zero, List.set_cons_succ]
                refine hd_pure (v := ?_) (by rfl) (fun W' hS' => ?_) ?_ -- 2
                rotate_left
                · have k1 := conv_own hS'.o; have k2 := reads_strD hS'.r x.c; have k3 := hS'.a 1 _ rfl; rw [add_pos _ (by decide)] at k3; clear hS'; (go_simp; first | with_reducible rfl | rfl)
                try simp only [Act.put, List.setIfInBounds_toArray, List.set_cons_zero, List.set_cons_succ]
                refine hd_pure (v := ?_) (by rfl) (fun W' hS' => ?_) ?_ -- 3
                rotate_left
                · have k1 := conv_own hS'.o; have k2 := reads_strD hS'.r x.c; have k3 := hS'.a 1 _ rfl; rw [add_pos _ (by decide)] at k3; clear hS'; (go_simp; first | with_reducible rfl | rfl)
                try simp only [Act.put, List.setIfInBounds_toArray, List.set_cons_zero, List.set_cons_succ]
                refine hd_pure (v := ?_) (by rfl) (fun W' hS' => ?_) ?_ -- 4
                rotate_left
                · have k1 := conv_own hS'.o; have k2 := reads_strD hS'.r x.c; have k3 := hS'.a 1 _ rfl; rw [add_pos _ (by decide)] at k3; clear hS'; (go_simp; first | with_reducible rfl | rfl)
                try simp only [Act.put, List.setIfInBounds_toArray, List.set_cons_zero, List.set_cons_succ]
                refine hd_pure (v := ?_) (by rfl) (fun W' hS' => ?_) ?_ -- 5
                rotate_left
                · have k1 := conv_own hS'.o; have k2 := reads_strD hS'.r x.c; have k3 := hS'.a 1 _ rfl; rw [add_pos _ (by decide)] at k3; clear hS'; (go_simp; first | with_reducible rfl | rfl)
                try simp only [Act.put, List.setIfInBounds_toArray, List.set_cons_zero, List.set_cons_succ]
                refine hd_pure (v := ?_) (by rfl) (fun W' hS' => ?_) ?_ -- 6
                rotate_left
                · have k1 := conv_own hS'.o; have k2 := reads_strD hS'.r x.c; have k3 := hS'.a 1 _ rfl; rw [add_pos _ (by decide)] at k3; clear hS'; (go_simp; first | with_reducible rfl | rfl)
                try simp only [Act.put, List.setIfInBounds_toArray, List.set_cons_zero, List.set_cons_succ]
                refine hd_pure (v := ?_) (by rfl) (fun W' hS' => ?_) ?_ -- 7
                rotate_left
                · have k1 := conv_own hS'.o; have k2 := reads_strD hS'.r x.c; have k3 := hS'.a 1 _ rfl; rw [add_pos _ (by decide)] at k3; clear hS'; (go_simp; first | with_reducible rfl | rfl)
                try simp only [Act.put, List.setIfInBounds_toArray, List.set_cons_zero, List.set_cons_succ]
                refine hd_pure (v := ?_) (by rfl) (fun W' hS' => ?_) ?_ -- 8
                rotate_left
                · have k1 := conv_own hS'.o; have k2 := reads_strD hS'.r x.c; have k3 := hS'.a 1 _ rfl; rw [add_pos _ (by decide)] at k3; clear hS'; (go_simp; first | with_reducible rfl | rfl)
                try simp only [Act.put, List.setIfInBounds_toArray, List.set_cons_zero, List.set_cons_succ]
                refine hd_pure (v := ?_) (by rfl) (fun W' hS' => ?_) ?_ -- 9
                rotate_left
                · have k1 := conv_own hS'.o; have k2 := reads_strD hS'.r x.c; have k3 := hS'.a 1 _ rfl; rw [add_pos _ (by decide)] at k3; clear hS'; (go_simp; first | with_reducible rfl | rfl)
                try simp only [Act.put, List.setIfInBounds_toArray, List.set_cons_zero, List.set_cons_succ]
                refine hd_pure (v := ?_) (by rfl) (fun W' hS' => ?_) ?_ -- 10
                rotate_left
                · have k1 := conv_own hS'.o; have k2 := reads_strD hS'.r x.c; have k3 := hS'.a 1 _ rfl; rw [add_pos _ (by decide)] at k3; clear hS'; (go_simp; first | with_reducible rfl | rfl)
                try simp only [Act.put, List.setIfInBounds_toArray, List.set_cons_zero, List.set_cons_succ]
                refine hd_pure (v := ?_) (by rfl) (fun W' hS' => ?_) ?_ -- 11
                rotate_left
                · have k1 := conv_own hS'.o; have k2 := reads_strD hS'.r x.c; have k3 := hS'.a 1 _ rfl; rw [add_pos _ (by decide)] at k3; clear hS'; (go_simp; first | with_reducible rfl | rfl)
                try simp only [Act.put, List.setIfInBounds_toArray, List.set_cons_zero, List.set_cons_succ]
                refine hd_pure (v := ?_) (by rfl) (fun W' hS' => ?_) ?_ -- 12
                rotate_left
                · have k1 := conv_own hS'.o; have k2 := reads_strD hS'.r x.c; have k3 := hS'.a 1 _ rfl; rw [add_pos _ (by decide)] at k3; clear hS'; (go_simp; first | with_reducible rfl | rfl)
                try simp only [Act.put, List.setIfInBounds_toArray, List.set_cons_zero, List.set_cons_succ]
                refine hd_pure (v := ?_) (by rfl) (fun W' hS' => ?_) ?_ -- 13
                rotate_left
                · have k1 := conv_own hS'.o; have k2 := reads_strD hS'.r x.c; have k3 := hS'.a 1 _ rfl; rw [add_pos _ (by decide)] at k3; clear hS'; (go_simp; first | with_reducible rfl | rfl)
                try simp only [Act.put, List.setIfInBounds_toArray, List.set_cons_zero, List.set_cons_succ]
                refine hd_pure (v := ?_) (by rfl) (fun W' hS' => ?_) ?_ -- 14
                rotate_left
                · have k1 := conv_own hS'.o; have k2 := reads_strD hS'.r x.c; have k3 := hS'.a 1 _ rfl; rw [add_pos _ (by decide)] at k3; clear hS'; (go_simp; first | with_reducible rfl | rfl)
                try simp only [Act.put, List.setIfInBounds_toArray, List.set_cons_zero, List.set_cons_succ]
                refine hd_pure (v := ?_) (by rfl) (fun W' hS' => ?_) ?_ -- 15
                rotate_left
                · have k1 := conv_own hS'.o; have k2 := reads_strD hS'.r x.c; have k3 := hS'.a 1 _ rfl; rw [add_pos _ (by decide)] at k3; clear hS'; (go_simp; first | with_reducible rfl | rfl)
                try simp only [Act.put, List.setIfInBounds_toArray, List.set_cons_zero, List.set_cons_succ]
                refine hd_nil ?_
                have hfl := hSW.lo; clear hSW
                refine wpList_nil (NoPanic.normal ?_)
                go_wp2_with fail
                go_ret
                exact ⟨rfl, hfl⟩
              · have d0 : decide (0 < x.bs.length) = true := decide_eq_true (by omega)
                obtain ⟨ga, rfl, hga, hgc⟩ := own_at ho6 (by omega)
                obtain ⟨z0, hz0⟩ : ∃ z0 : Int, (x.bs.map bv)[0]? = some (Value.int .u8 z0) := by
                  cases hb : x.bs with
                  | nil => rw [hb] at hb0; simp at hb0
                  | cons z0 zs => exact ⟨_, rfl⟩
                have hgk := hgc 0 _ hz0
                have hfz := ho6.frozenAt 0
                have hk5 : (0 : Int) < (x.bs.length : Int) := by omega
                clear hb0 hz0
                have hR7 : ∀ z : Int, RepoAt (w6.setCell ⟨ga, 0, none⟩ (.int .u8 z)) L g b1 b2 es (askF [] u) := fun z => hR6.stored ho6 rfl (hes6 ga hga) 0 _
                have hlo7 : ∀ z : Int, Below w.heap.size w (w6.setCell ⟨ga, 0, none⟩ (.int .u8 z)) := fun z => hlo6.setCell (by show _ ≤ ga; omega) _
                have c1 : ∀ z : Int, (w6.setCell ⟨ga, 0, none⟩ (.int .u8 z)).cell? (ad.add (kk * 2)) = some (.string u) := fun z => hxr _ (hlo7 z)
                go_wp2_with fail
                generalize bits BinOp.xor IntKind.u8 z0 1 = z1
                replace hR7 := hR7 z1
                replace hlo7 := hlo7 z1
                generalize w6.setCell ⟨ga, 0, none⟩ (.int .u8 z1) = w7 at hR7 hlo7 ⊢
                clear hR6 hlo6 ho6 c1 hgk hfz hgc
                have c1 := hxr _ hlo7
                refine (get_any u w7 _ g b1 b2 es _ hR7 (by have := askF_len [] u; simp only [List.length_nil] at this; omega)).mono ?_
                rintro e w8 ⟨A8, c8, bs8, is8, rfl, hk8, _, ho8, hR8, hfr8, _⟩
                have hlo8 := hlo7.trans (hfr8.lo.mono hwL)
                obtain ⟨rfl, rfl⟩ : is8 = true ∧ bs8 = x.bs := by
                  rw [HB.out] at hk8
                  cases is8 <;> simp at hk8
                  exact ⟨rfl, hk8.symm⟩
                have hQB : QB w w7.heap.size A8 c8 (ad.add (ff * 2)) x w8 := ⟨ho8, hxb _ hlo8, hxf _ hlo8, hlo8⟩
                have hf2 : (ff : Int) < (xs.length : Int) := by omega
                generalize w7.heap.size = S8 at hQB
                clear hk8 hfr8 hR8 hR7 hlo7 hlo8 ho8 hxr hxf hxb c1
                go_wp2_with fail
                refine reg_sch2 16 [(true, 0), (true, 1), (true, 2), (true, 3), (true, 4), (true, 5), (true, 6), (true, 7), (true, 8), (true, 9), (true, 10), (true, 11), (true, 12), (true, 13), (true, 14), (true, 15)] (by kernel_rfl) (by kernel_rfl) (QB w S8 A8 c8 (ad.add (ff * 2)) x) (QB w S8 A8 c8 (ad.add (ff * 2)) x) ?_ ?_ ?_
                · exact hQB.drew
                · exact fun _ h => h
                intro W hSW
                simp only [List.map_cons, List.map_nil, List.getD_cons_zero, List.getD_cons_succ, List.drop_succ_cons, List.drop_zero]
                refine hd_pure (v := ?_) (by rfl) (fun W' hS' => ?_) ?_ -- 0
                rotate_left
                · have k1 := conv_own hS'.o; have k2 := reads_strD hS'.r x.c; have k3 := hS'.a 1 _ rfl; rw [add_pos _ (by decide)] at k3; clear hS'; (go_simp; first | with_reducible rfl | rfl)
                try simp only [Act.put, List.setIfInBounds_toArray, List.set_cons_zero, List.set_cons_succ]
                refine hd_pure (v := ?_) (by rfl) (fun W' hS' => ?_) ?_ -- 1
                rotate_left
                · have k1 := conv_own hS'.o; have k2 := reads_strD hS'.r x.c; have k3 := hS'.a 1 _ rfl; rw [add_pos _ (by decide)] at k3; clear hS'; (go_simp; first | with_reducible rfl | rfl)
                try simp only [Act.put, List.setIfInBounds_toArray, List.set_cons_zero, List.set_cons_succ]
                refine hd_pure (v := ?_) (by rfl) (fun W' hS' => ?_) ?_ -- 2
                rotate_left
                · have k1 := conv_own hS'.o; have k2 := reads_strD hS'.r x.c; have k3 := hS'.a 1 _ rfl; rw [add_pos _ (by decide)] at k3; clear hS'; (go_simp; first | with_reducible rfl | rfl)
                try simp only [Act.put, List.setIfInBounds_toArray, List.set_cons_zero, List.set_cons_succ]
                refine hd_pure (v := ?_) (by rfl) (fun W' hS' => ?_) ?_ -- 3
                rotate_left
                · have k1 := conv_own hS'.o; have k2 := reads_strD hS'.r x.c; have k3 := hS'.a 1 _ rfl; rw [add_pos _ (by decide)] at k3; clear hS'; (go_simp; first | with_reducible rfl | rfl)
                try simp only [Act.put, List.setIfInBounds_toArray, List.set_cons_zero, List.set_cons_succ]
                refine hd_pure (v := ?_) (by rfl) (fun W' hS' => ?_) ?_ -- 4
                rotate_left
                · have k1 := conv_own hS'.o; have k2 := reads_strD hS'.r x.c; have k3 := hS'.a 1 _ rfl; rw [add_pos _ (by decide)] at k3; clear hS'; (go_simp; first | with_reducible rfl | rfl)
                try simp only [Act.put, List.setIfInBounds_toArray, List.set_cons_zero, List.set_cons_succ]
                refine hd_pure (v := ?_) (by rfl) (fun W' hS' => ?_) ?_ -- 5
                rotate_left
                · have k1 := conv_own hS'.o; have k2 := reads_strD hS'.r x.c; have k3 := hS'.a 1 _ rfl; rw [add_pos _ (by decide)] at k3; clear hS'; (go_simp; first | with_reducible rfl | rfl)
                try simp only [Act.put, List.setIfInBounds_toArray, List.set_cons_zero, List.set_cons_succ]
                refine hd_pure (v := ?_) (by rfl) (fun W' hS' => ?_) ?_ -- 6
                rotate_left
                · have k1 := conv_own hS'.o; have k2 := reads_strD hS'.r x.c; have k3 := hS'.a 1 _ rfl; rw [add_pos _ (by decide)] at k3; clear hS'; (go_simp; first | with_reducible rfl | rfl)
                try simp only [Act.put, List.setIfInBounds_toArray, List.set_cons_zero, List.set_cons_succ]
                refine hd_pure (v := ?_) (by rfl) (fun W' hS' => ?_) ?_ -- 7
                rotate_left
                · have k1 := conv_own hS'.o; have k2 := reads_strD hS'.r x.c; have k3 := hS'.a 1 _ rfl; rw [add_pos _ (by decide)] at k3; clear hS'; (go_simp; first | with_reducible rfl | rfl)
                try simp only [Act.put, List.setIfInBounds_toArray, List.set_cons_zero, List.set_cons_succ]
                refine hd_pure (v := ?_) (by rfl) (fun W' hS' => ?_) ?_ -- 8
                rotate_left
                · have k1 := conv_own hS'.o; have k2 := reads_strD hS'.r x.c; have k3 := hS'.a 1 _ rfl; rw [add_pos _ (by decide)] at k3; clear hS'; (go_simp; first | with_reducible rfl | rfl)
                try simp only [Act.put, List.setIfInBounds_toArray, List.set_cons_zero, List.set_cons_succ]
                refine hd_pure (v := ?_) (by rfl) (fun W' hS' => ?_) ?_ -- 9
                rotate_left
                · have k1 := conv_own hS'.o; have k2 := reads_strD hS'.r x.c; have k3 := hS'.a 1 _ rfl; rw [add_pos _ (by decide)] at k3; clear hS'; (go_simp; first | with_reducible rfl | rfl)
                try simp only [Act.put, List.setIfInBounds_toArray, List.set_cons_zero, List.set_cons_succ]
                refine hd_pure (v := ?_) (by rfl) (fun W' hS' => ?_) ?_ -- 10
                rotate_left
                · have k1 := conv_own hS'.o; have k2 := reads_strD hS'.r x.c; have k3 := hS'.a 1 _ rfl; rw [add_pos _ (by decide)] at k3; clear hS'; (go_simp; first | with_reducible rfl | rfl)
                try simp only [Act.put, List.setIfInBounds_toArray, List.set_cons_zero, List.set_cons_succ]
                refine hd_pure (v := ?_) (by rfl) (fun W' hS' => ?_) ?_ -- 11
                rotate_left
                · have k1 := conv_own hS'.o; have k2 := reads_strD hS'.r x.c; have k3 := hS'.a 1 _ rfl; rw [add_pos _ (by decide)] at k3; clear hS'; (go_simp; first | with_reducible rfl | rfl)
                try simp only [Act.put, List.setIfInBounds_toArray, List.set_cons_zero, List.set_cons_succ]
                refine hd_pure (v := ?_) (by rfl) (fun W' hS' => ?_) ?_ -- 12
                rotate_left
                · have k1 := conv_own hS'.o; have k2 := reads_strD hS'.r x.c; have k3 := hS'.a 1 _ rfl; rw [add_pos _ (by decide)] at k3; clear hS'; (go_simp; first | with_reducible rfl | rfl)
                try simp only [Act.put, List.setIfInBounds_toArray, List.set_cons_zero, List.set_cons_succ]
                refine hd_pure (v := ?_) (by rfl) (fun W' hS' => ?_) ?_ -- 13
                rotate_left
                · have k1 := conv_own hS'.o; have k2 := reads_strD hS'.r x.c; have k3 := hS'.a 1 _ rfl; rw [add_pos _ (by decide)] at k3; clear hS'; (go_simp; first | with_reducible rfl | rfl)
                try simp only [Act.put, List.setIfInBounds_toArray, List.set_cons_zero, List.set_cons_succ]
                refine hd_pure (v := ?_) (by rfl) (fun W' hS' => ?_) ?_ -- 14
                rotate_left
                · have k1 := conv_own hS'.o; have k2 := reads_strD hS'.r x.c; have k3 := hS'.a 1 _ rfl; rw [add_pos _ (by decide)] at k3; clear hS'; (go_simp; first | with_reducible rfl | rfl)
                try simp only [Act.put, List.setIfInBounds_toArray, List.set_cons_zero, List.set_cons_succ]
                refine hd_pure (v := ?_) (by rfl) (fun W' hS' => ?_) ?_ -- 15
                rotate_left
                · have k1 := conv_own hS'.o; have k2 := reads_strD hS'.r x.c; have k3 := hS'.a 1 _ rfl; rw [add_pos _ (by decide)] at k3; clear hS'; (go_simp; first | with_reducible rfl | rfl)
                try simp only [Act.put, List.setIfInBounds_toArray, List.set_cons_zero, List.set_cons_succ]
                refine hd_nil ?_
                have hfl := hSW.lo; clear hSW
                refine wpList_nil (NoPanic.normal ?_)
                go_wp2_with fail
                go_ret
                exact ⟨rfl, hfl⟩
        | succ t0 =>
          rw [show (((t0 + 1 : Nat) : Int) - 1) = (t0 : Int) by omega]
          have hk0 : (0 : Int) ≤ (t0 : Int) := by omega
          have hk1 : (t0 : Int) < (xs.length : Int) := by omega
          have hk2 : (0 : Int) ≤ (kk : Int) := by omega
          have hk3 : (kk : Int) < (xs.length : Int) := by omega
          have hc : ∀ W, QS w L g b1 b2 es xs ys (.slice A7 ys.length c7) W → W.cell? (ad.add (t0 * 2)) = some (.string (uOf xs t0)) ∧ W.cell? (ad.add (kk * 2)) = some (.string (uOf xs kk)) := fun W hW => ⟨uOf_cell hp.hr hW.f.lo (by omega), uOf_cell hp.hr hW.f.lo hkl⟩
          by_cases hxy : uOf xs t0 = uOf xs kk
          · have HM2 := Lib.hid (show uOf xs t0 = uOf xs kk ∧ ∀ t, t0 ≤ t → t < t0 → uOf xs t ≠ uOf xs kk from ⟨hxy, fun t h1 h2 => by omega⟩)
            have be1 : ((uOf xs t0).toList == (uOf xs kk).toList) = true := by rw [eqS]; exact decide_eq_true hxy
            clear hxy HM
            go_wp2_with fail
            refine reg_sch2 11 [(true, 0), (true, 1), (true, 2), (true, 3), (true, 4), (true, 5), (true, 6), (true, 7), (true, 8), (true, 9), (true, 10)] (by kernel_rfl) (by kernel_rfl) (QS w L g b1 b2 es xs ys (.slice A7 ys.length c7)) (QS w L g b1 b2 es xs ys (.slice A7 ys.length c7)) ?_ ?_ ?_
            · exact hQ.drew
            · exact fun _ h => h
            intro W hSW
            simp only [List.map_cons, List.map_nil, List.getD_cons_zero, List.getD_cons_succ, List.drop_succ_cons, List.drop_zero]
            refine hd_pure (v := ?_) (by rfl) (fun W' hS' => ?_) ?_ -- 0
            rotate_left
            · have c1 := (hc _ hS').1; have c2 := (hc _ hS').2; clear hS'; (go_simp; first | with_reducible rfl | rfl)
            try simp only [Act.put, List.setIfInBounds_toArray, List.set_cons_zero, List.set_cons_succ]
            refine hd_pure (v := ?_) (by rfl) (fun W' hS' => ?_) ?_ -- 1
            rotate_left
            · have c1 := (hc _ hS').1; have c2 := (hc _ hS').2; clear hS'; (go_simp; first | with_reducible rfl | rfl)
            try simp only [Act.put, List.setIfInBounds_toArray, List.set_cons_zero, List.set_cons_succ]
            refine hd_pure (v := ?_) (by rfl) (fun W' hS' => ?_) ?_ -- 2
            rotate_left
            · have c1 := (hc _ hS').1; have c2 := (hc _ hS').2; clear hS'; (go_simp; first | with_reducible rfl | rfl)
            try simp only [Act.put, List.setIfInBounds_toArray, List.set_cons_zero, List.set_cons_succ]
            refine hd_pure (v := ?_) (by rfl) (fun W' hS' => ?_) ?_ -- 3
            rotate_left
            · have c1 := (hc _ hS').1; have c2 := (hc _ hS').2; clear hS'; (go_simp; first | with_reducible rfl | rfl)
            try simp only [Act.put, List.setIfInBounds_toArray, List.set_cons_zero, List.set_cons_succ]
            refine hd_pure (v := ?_) (by rfl) (fun W' hS' => ?_) ?_ -- 4
            rotate_left
            · have c1 := (hc _ hS').1; have c2 := (hc _ hS').2; clear hS'; (go_simp; first | with_reducible rfl | rfl)
            try simp only [Act.put, List.setIfInBounds_toArray, List.set_cons_zero, List.set_cons_succ]
            refine hd_pure (v := ?_) (by rfl) (fun W' hS' => ?_) ?_ -- 5
            rotate_left
            · have c1 := (hc _ hS').1; have c2 := (hc _ hS').2; clear hS'; (go_simp; first | with_reducible rfl | rfl)
            try simp only [Act.put, List.setIfInBounds_toArray, List.set_cons_zero, List.set_cons_succ]
            refine hd_pure (v := ?_) (by rfl) (fun W' hS' => ?_) ?_ -- 6
            rotate_left
            · have c1 := (hc _ hS').1; have c2 := (hc _ hS').2; clear hS'; (go_simp; first | with_reducible rfl | rfl)
            try simp only [Act.put, List.setIfInBounds_toArray, List.set_cons_zero, List.set_cons_succ]
            refine hd_pure (v := ?_) (by rfl) (fun W' hS' => ?_) ?_ -- 7
            rotate_left
            · have c1 := (hc _ hS').1; have c2 := (hc _ hS').2; clear hS'; (go_simp; first | with_reducible rfl | rfl)
            try simp only [Act.put, List.setIfInBounds_toArray, List.set_cons_zero, List.set_cons_succ]
            refine hd_pure (v := ?_) (by rfl) (fun W' hS' => ?_) ?_ -- 8
            rotate_left
            · have c1 := (hc _ hS').1; have c2 := (hc _ hS').2; clear hS'; (go_simp; first | with_reducible rfl | rfl)
            try simp only [Act.put, List.setIfInBounds_toArray, List.set_cons_zero, List.set_cons_succ]
            refine hd_pure (v := ?_) (by rfl) (fun W' hS' => ?_) ?_ -- 9
            rotate_left
            · have c1 := (hc _ hS').1; have c2 := (hc _ hS').2; clear hS'; (go_simp; first | with_reducible rfl | rfl)
            try simp only [Act.put, List.setIfInBounds_toArray, List.set_cons_zero, List.set_cons_succ]
            refine hd_pure (v := ?_) (by rfl) (fun W' hS' => ?_) ?_ -- 10
            rotate_left
            · have c1 := (hc _ hS').1; have c2 := (hc _ hS').2; clear hS'; (go_simp; first | with_reducible rfl | rfl)
            try simp only [Act.put, List.setIfInBounds_toArray, List.set_cons_zero, List.set_cons_succ]
            refine hd_nil ?_
            replace hQ := hSW; clear hSW
            refine wpList_nil (NoPanic.normal ?_)
            go_wp2_with fail
            go_roundw
            case rel => exact ⟨t0, t0, by go_num, by go_num, by omega, by omega, hQ, HM2⟩
            case measure => simp [intOf]
          · have HM2 := Lib.hid (show uOf xs ff = uOf xs kk ∧ ∀ t, t0 ≤ t → t < ff → uOf xs t ≠ uOf xs kk from ⟨HM.out.1, fun t h1 h2 => by
              by_cases h3 : t = t0
              · subst h3; exact hxy
              · exact HM.out.2 t (by omega) h2⟩)
            have be1 : ((uOf xs t0).toList == (uOf xs kk).toList) = false := by rw [eqS]; exact decide_eq_false hxy
            clear hxy HM
            go_wp2_with fail
            refine reg_sch2 11 [(true, 0), (true, 1), (true, 2), (true, 3), (true, 4), (true, 5), (true, 6), (true, 7), (true, 8), (true, 9), (true, 10)] (by kernel_rfl) (by kernel_rfl) (QS w L g b1 b2 es xs ys (.slice A7 ys.length c7)) (QS w L g b1 b2 es xs ys (.slice A7 ys.length c7)) ?_ ?_ ?_
            · exact hQ.drew
            · exact fun _ h => h
            intro W hSW
            simp only [List.map_cons, List.map_nil, List.getD_cons_zero, List.getD_cons_succ, List.drop_succ_cons, List.drop_zero]
            refine hd_pure (v := ?_) (by rfl) (fun W' hS' => ?_) ?_ -- 0
            rotate_left
            · have c1 := (hc _ hS').1; have c2 := (hc _ hS').2; clear hS'; (go_simp; first | with_reducible rfl | rfl)
            try simp only [Act.put, List.setIfInBounds_toArray, List.set_cons_zero, List.set_cons_succ]
            refine hd_pure (v := ?_) (by rfl) (fun W' hS' => ?_) ?_ -- 1
            rotate_left
            · have c1 := (hc _ hS').1; have c2 := (hc _ hS').2; clear hS'; (go_simp; first | with_reducible rfl | rfl)
            try simp only [Act.put, List.setIfInBounds_toArray, List.set_cons_zero, List.set_cons_succ]
            refine hd_pure (v := ?_) (by rfl) (fun W' hS' => ?_) ?_ -- 2
            rotate_left
            · have c1 := (hc _ hS').1; have c2 := (hc _ hS').2; clear hS'; (go_simp; first | with_reducible rfl | rfl)
            try simp only [Act.put, List.setIfInBounds_toArray, List.set_cons_zero, List.set_cons_succ]
            refine hd_pure (v := ?_) (by rfl) (fun W' hS' => ?_) ?_ -- 3
            rotate_left
            · have c1 := (hc _ hS').1; have c2 := (hc _ hS').2; clear hS'; (go_simp; first | with_reducible rfl | rfl)
            try simp only [Act.put, List.setIfInBounds_toArray, List.set_cons_zero, List.set_cons_succ]
            refine hd_pure (v := ?_) (by rfl) (fun W' hS' => ?_) ?_ -- 4
            rotate_left
            · have c1 := (hc _ hS').1; have c2 := (hc _ hS').2; clear hS'; (go_simp; first | with_reducible rfl | rfl)
            try simp only [Act.put, List.setIfInBounds_toArray, List.set_cons_zero, List.set_cons_succ]
            refine hd_pure (v := ?_) (by rfl) (fun W' hS' => ?_) ?_ -- 5
            rotate_left
            · have c1 := (hc _ hS').1; have c2 := (hc _ hS').2; clear hS'; (go_simp; first | with_reducible rfl | rfl)
            try simp only [Act.put, List.setIfInBounds_toArray, List.set_cons_zero, List.set_cons_succ]
            refine hd_pure (v := ?_) (by rfl) (fun W' hS' => ?_) ?_ -- 6
            rotate_left
            · have c1 := (hc _ hS').1; have c2 := (hc _ hS').2; clear hS'; (go_simp; first | with_reducible rfl | rfl)
            try simp only [Act.put, List.setIfInBounds_toArray, List.set_cons_zero, List.set_cons_succ]
            refine hd_pure (v := ?_) (by rfl) (fun W' hS' => ?_) ?_ -- 7
            rotate_left
            · have c1 := (hc _ hS').1; have c2 := (hc _ hS').2; clear hS'; (go_simp; first | with_reducible rfl | rfl)
            try simp only [Act.put, List.setIfInBounds_toArray, List.set_cons_zero, List.set_cons_succ]
            refine hd_pure (v := ?_) (by rfl) (fun W' hS' => ?_) ?_ -- 8
            rotate_left
            · have c1 := (hc _ hS').1; have c2 := (hc _ hS').2; clear hS'; (go_simp; first | with_reducible rfl | rfl)
            try simp only [Act.put, List.setIfInBounds_toArray, List.set_cons_zero, List.set_cons_succ]
            refine hd_pure (v := ?_) (by rfl) (fun W' hS' => ?_) ?_ -- 9
            rotate_left
            · have c1 := (hc _ hS').1; have c2 := (hc _ hS').2; clear hS'; (go_simp; first | with_reducible rfl | rfl)
            try simp only [Act.put, List.setIfInBounds_toArray, List.set_cons_zero, List.set_cons_succ]
            refine hd_pure (v := ?_) (by rfl) (fun W' hS' => ?_) ?_ -- 10
            rotate_left
            · have c1 := (hc _ hS').1; have c2 := (hc _ hS').2; clear hS'; (go_simp; first | with_reducible rfl | rfl)
            try simp only [Act.put, List.setIfInBounds_toArray, List.set_cons_zero, List.set_cons_succ]
            refine hd_nil ?_
            replace hQ := hSW; clear hSW
            refine wpList_nil (NoPanic.normal ?_)
            go_wp2_with fail
            go_roundw
            case rel => exact ⟨ff, t0, rfl, by go_num, by omega, by omega, hQ, HM2⟩
            case measure => simp [intOf]
end Go.Proofs.YtmoldmnhijcckaaDoor
