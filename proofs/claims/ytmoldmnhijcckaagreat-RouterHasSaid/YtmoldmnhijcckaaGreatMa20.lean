/- The contract of pdu.Write, whole. -/
import Derived.Test.YtmoldmnhijcckaaGreatMa17
import Derived.Test.YtmoldmnhijcckaaGreatMa18
import Derived.Test.YtmoldmnhijcckaaGreatMa19
import Derived.Test.YtmoldmnhijcckaaGreatMa12
set_option linter.unusedVariables false
set_option linter.unusedSectionVars false
set_option linter.unusedSimpArgs false
namespace Go.Proofs.YtmoldmnhijcckaaGreat
open Go.RowKit
theorem kind_cases {k : Int} (h : isKind k = true) : k = 0 ∨ k = 1 ∨ k = 2 ∨ k = 3 ∨ k = 4 ∨ k = 6 ∨ k = 7 ∨ k = 8 ∨ k = 10 := by simpa [isKind] using h
theorem write_any (p : Pdu) (w : World) : Calls Tryz.prog 34 #[p.val] w (WrPost p w) := by
  cases h : pduOk p
  · exact write_no p w h
  · rcases kind_cases (ok_parts h).1 with hk | hk | hk | hk | hk | hk | hk | hk | hk
    · exact write_k0 p w h hk
    · exact write_k1 p w h hk
    · exact write_k2 p w h hk
    · exact write_k3 p w h hk
    · cases ha : p.add
      · exact write_k4f p w h hk ha
      · exact write_k4t p w h hk ha
    · cases ha : p.add
      · exact write_k6f p w h hk ha
      · exact write_k6t p w h hk ha
    · exact write_k7 p w h hk
    · exact write_k8 p w h hk
    · exact write_k10 p w h hk
end Go.Proofs.YtmoldmnhijcckaaGreat
/- session's answer: tell. -/
set_option linter.unusedVariables false
set_option linter.unusedSectionVars false
set_option linter.unusedSimpArgs false
namespace Go.Proofs.YtmoldmnhijcckaaGreat
open Go.RowKit
theorem own_own_ne' {w : World} {b1 b2 n1 n2 s1 s2 : Nat} {e1 e2 : TypeId} {v1 v2 : Value} {x1 x2 : List Value} (h : w.ownsRow b1 e1 s1 v1 n1 x1) (h' : w.ownsRow b2 e2 s2 v2 n2 x2) (hne : e1 ≠ e2) (k : Nat) (hk : v1.ownBlock = some k) : v2.ownBlock ≠ some k := by
  intro hk2
  rcases h.2 with ⟨rfl, _⟩ | ⟨g, cap, cur, rfl, hb, hh, _⟩
  · simp [Value.ownBlock] at hk
  · rcases h'.2 with ⟨rfl, _⟩ | ⟨g', cap', cur', rfl, hb', hh', _⟩
    · simp [Value.ownBlock] at hk2
    · have e : g = k := by simpa [Value.ownBlock] using hk
      have e' : g' = k := by simpa [Value.ownBlock] using hk2
      subst e
      subst e'
      rw [hh] at hh'
      injection hh' with hh'
      injection hh' with _ hh' _
      exact hne hh'
def wrD (p : Pdu) : List UInt8 := if pduOk p then wrB p else []
theorem write_d (p : Pdu) (w : World) : Calls Tryz.prog 34 #[p.val] w fun e w' => ∃ A c x, e = .returned (.tuple #[.slice A (wrD p).length c, .int .i64 x]) ∧ Reads w' w'.heap.size 1 A (wrD p).length ((wrD p).map bv) ∧ Below w.heap.size w w' := by
  refine (write_any p w).mono ?_
  rintro e w' ⟨h1, h2, hb⟩
  unfold wrD
  cases hp : pduOk p
  · exact ⟨none, 0, 1, h2 hp, Reads.none_, hb⟩
  · obtain ⟨v, rfl, ho⟩ := h1 hp
    obtain ⟨A, c, rfl⟩ := own_slice' ho
    exact ⟨A, c, 0, rfl, Reads.of_own ho, hb⟩
/-- An answer: what has been told. -/
def AnsAt (W : World) (ab : Nat) (bs : List UInt8) : Prop := ∃ v, Blk W ab 110 [v] ∧ W.ownsRow (ab + 1) 5 1 v bs.length (bs.map bv)
def AnsOff (W : World) (ab k : Nat) : Prop := ∀ v, W.cell? ⟨ab, 0, none⟩ = some v → v.ownBlock ≠ some k
structure AnsFr (w w' : World) (ab : Nat) : Prop where
  lo : Below ab w w'
  keep : ∀ k, k < w.heap.size → k ≠ ab → AnsOff w ab k → w'.heap[k]? = w.heap[k]?
  off : ∀ k, k < w.heap.size → AnsOff w ab k → AnsOff w' ab k
theorem AnsFr.refl (w : World) (ab : Nat) : AnsFr w w ab := ⟨Below.refl _ _, fun _ _ _ _ => rfl, fun _ _ h => h⟩
theorem AnsFr.trans {a b c : World} {ab : Nat} (h : AnsFr a b ab) (k : AnsFr b c ab) : AnsFr a c ab :=
  ⟨h.lo.trans k.lo, fun i hi h1 h2 => (k.keep i (Nat.lt_of_lt_of_le hi h.lo.size) h1 (h.off i hi h2)).trans (h.keep i hi h1 h2), fun i hi h2 => k.off i (Nat.lt_of_lt_of_le hi h.lo.size) (h.off i hi h2)⟩
theorem AnsFr.then {a b c : World} {ab : Nat} (h : AnsFr a b ab) (hab : ab < a.heap.size) (k : Below b.heap.size b c) : AnsFr a c ab :=
  h.trans ⟨k.mono (by have := h.lo.size; omega), fun i hi _ _ => k.block i hi, fun i hi ho v hv => ho v (by rw [← hv]; exact (k.cell (p := ⟨ab, 0, none⟩) (by have := h.lo.size; show ab < b.heap.size; omega)).symm)⟩
theorem AnsAt.off {W : World} {ab : Nat} {bs : List UInt8} (h : AnsAt W ab bs) {k : Nat} (hk : ∀ v, W.ownsRow (ab + 1) 5 1 v bs.length (bs.map bv) → v.ownBlock ≠ some k) : AnsOff W ab k := by
  obtain ⟨v, hB, ho⟩ := h
  intro v' hv'
  have := hB.cell 0
  rw [hv'] at this
  obtain rfl : v' = v := by simpa using this
  exact hk v' ho
theorem AnsAt.offRow {W : World} {ab base n size : Nat} {bs : List UInt8} {t : TypeId} {u : Value} {xs : List Value} (h : AnsAt W ab bs) (hu : W.ownsRow base t size u n xs) (ht : t ≠ 5) {k : Nat} (hk : u.ownBlock = some k) : AnsOff W ab k := h.off fun v hv e => own_own_ne' hv hu (fun e => ht e.symm) k e hk
theorem AnsAt.offBlk {W : World} {ab g : Nat} {bs : List UInt8} {t : TypeId} {cs : List Value} (h : AnsAt W ab bs) (hu : Blk W g t cs) (ht : t ≠ 5) : AnsOff W ab g := h.off fun v hv => own_blk_ne hv hu (fun e => ht e.symm)
theorem AnsAt.next {W W' : World} {ab : Nat} {bs : List UInt8} (h : AnsAt W ab bs) (hb : Below W.heap.size W W') : AnsAt W' ab bs := by
  obtain ⟨v, hB, ho⟩ := h
  exact ⟨v, hB.below hb hB.lt, own_below ho hb⟩
theorem AnsAt.lt {W : World} {ab : Nat} {bs : List UInt8} (h : AnsAt W ab bs) : ab < W.heap.size := by
  obtain ⟨v, hB, _⟩ := h
  exact hB.lt
theorem AnsFr.row {w w' : World} {ab base n size : Nat} {bs : List UInt8} {t : TypeId} {u : Value} {xs : List Value} (h : AnsFr w w' ab) (ha : AnsAt w ab bs) (hu : w.ownsRow base t size u n xs) (ht : t ≠ 5) (ht2 : t ≠ 110) : w'.ownsRow base t size u n xs :=
  own_kept hu fun k hk => h.keep k (own_base_le hu k hk).2 (fun e => by subst e; obtain ⟨v, hB, _⟩ := ha; exact own_blk_ne hu hB ht2 hk) (ha.offRow hu ht hk)
theorem AnsFr.blk {w w' : World} {ab g : Nat} {bs : List UInt8} {t : TypeId} {cs : List Value} (h : AnsFr w w' ab) (ha : AnsAt w ab bs) (hu : Blk w g t cs) (ht : t ≠ 5) (ht2 : t ≠ 110) : Blk w' g t cs :=
  (h.keep g hu.lt (fun e => by subst e; obtain ⟨v, hB, _⟩ := ha; exact Blk.ne_ hu hB ht2 rfl) (ha.offBlk hu ht)).trans hu
theorem AnsAt.told {w w4 : World} {ab : Nat} {bs ds : List UInt8} {v v4 : Value} (hB : Blk w ab 110 [v]) (ho : w.ownsRow (ab + 1) 5 1 v bs.length (bs.map bv)) (hg : w.grownBy w4 v.ownBlock)
    (ho4 : w4.ownsRow (ab + 1) 5 1 v4 (bs.length + ds.length) (bs.map bv ++ ds.map bv)) (how : v4.ownBlock = v.ownBlock ∨ v4.ownBlock = some w.heap.size) : AnsAt (w4.setCell ⟨ab, 0, none⟩ v4) ab (bs ++ ds) ∧ AnsFr w (w4.setCell ⟨ab, 0, none⟩ v4) ab := by
  have hne : v.ownBlock ≠ some ab := own_blk_ne ho hB (by decide)
  have hne1 : ∀ k, v.ownBlock = some k → ab + 1 ≤ k := fun k hk => (own_base_le ho k hk).1
  have hB4 : Blk (w4.setCell ⟨ab, 0, none⟩ v4) ab 110 [v4] := (hB.grown hg (fun e => hne e.symm)).set_ 0 v4
  have hoff : ∀ k, AnsOff w ab k → v.ownBlock ≠ some k := fun k h => h v (hB.cell 0)
  have hset : ∀ k, k ≠ ab → (w4.setCell ⟨ab, 0, none⟩ v4).heap[k]? = w4.heap[k]? := fun k hk => Below.heap_setCell w4 ⟨ab, 0, none⟩ v4 k hk
  refine ⟨⟨v4, hB4, by rw [List.length_append, List.map_append]; exact own_kept ho4 fun k hk => hset k (by have := (own_base_le ho4 k hk).1; omega)⟩, ⟨hg.os, hg.tape, hg.output, by rw [World.size_setCell]; exact hg.size, fun k hk => ?_⟩, fun k hk h1 h2 => (hset k h1).trans (hg.block k hk (fun e => hoff k h2 e.symm)), fun k hk h2 v' hv' => ?_⟩
  · have hlt := hB.lt
    exact (hset k (by omega)).trans (hg.block k (by omega) (fun e => by have := hne1 k e.symm; omega))
  · rw [hB4.cell 0] at hv'
    obtain rfl : v4 = v' := by simpa using hv'
    rcases how with h | h
    · rw [h]; exact hoff k h2
    · rw [h]; intro e; have := Option.some.inj e; omega
set_option maxRecDepth 100000 in
set_option maxHeartbeats 2000000 in
theorem tell_any (p : Pdu) (ab : Nat) (bs : List UInt8) (w : World) (h : AnsAt w ab bs) (hl : bs.length + (wrD p).length ≤ 100000000) :
    Calls Tryz.prog 51 #[.pointer (some ⟨ab, 0, none⟩), p.val] w fun e w' => e = .returned (.tuple #[]) ∧ AnsAt w' ab (bs ++ wrD p) ∧ AnsFr w w' ab := by
  simp only [Pdu.val]
  have hab := h.lt
  have hX : Blk (w.alloc (.cells p.cells.toArray 69)) w.heap.size 69 p.cells ∧ AnsAt (w.alloc (.cells p.cells.toArray 69)) ab bs ∧ AnsFr w (w.alloc (.cells p.cells.toArray 69)) ab :=
    ⟨Blk.new _ _ _, h.next ((Below.refl _ _).alloc (Nat.le_refl _) _), (AnsFr.refl w ab).then hab ((Below.refl _ _).alloc (Nat.le_refl _) _)⟩
  obtain ⟨i0, hi0, hz0, hz1, hz2⟩ := info_parts info5b
  go_enter Tryz.func51, Tryz.ntmps51
  go_upto_region 1 with fail
  refine wp_gen (fun W => Blk W w.heap.size 69 p.cells ∧ AnsAt W ab bs ∧ AnsFr w W ab) hX ?_
  clear hX h
  rintro W ⟨hX, hA, hF⟩
  go_wp2_with (refine wpList_load_at rfl 69 _ rfl w.heap.size 0 26 rfl _ _ hX.range (Pdu.cells_length _) Tryz.underlying69 rfl info_pdu ?_)
  refine (write_d p W).mono ?_
  rintro e w1 ⟨A1, c1, x1, rfl, hrd, hb⟩
  replace hA := hA.next hb
  replace hF := hF.then hab hb
  clear hX hb
  obtain ⟨v, hB, ho⟩ := hA
  obtain ⟨Av, cv, rfl⟩ := own_slice' ho
  have c0 := hB.cell 0
  simp only [List.getElem?_cons_zero] at c0
  have hw1 := hB.lt
  go_wp2_with (at_builtin; go_must (refine wpList_append_any _ rfl _ _ 29 rfl (ab + 1) 5 i0 _ 1 1 Tryz.underlying29 hi0 hz0 hz1 hz2 rfl (by omega) _ bs.length _ rfl ho w1.heap.size A1 (wrD p).length c1 _ rfl hrd (bv_one _) (by simp only [maxLen]; omega) (by omega) hw1 ?_; intro v4 w4 ho4 hg4 how4; obtain ⟨A4, c4, rfl⟩ := own_slice' ho4; have hB4 := hB.grown hg4 (fun e => (own_blk_ne ho hB (by decide)) e.symm); have f4 := hB4.frozen 0; have c4' := hB4.cell 0; simp only [List.getElem?_cons_zero] at c4'))
  have hfin := AnsAt.told hB ho hg4 ho4 how4
  clear hB hB4 ho hg4 ho4 how4 hrd c0
  go_end0
  exact ⟨rfl, hfin.1, hF.trans hfin.2⟩
end Go.Proofs.YtmoldmnhijcckaaGreat
/- session's answer: prefixes. -/
set_option linter.unusedVariables false
set_option linter.unusedSectionVars false
set_option linter.unusedSimpArgs false
namespace Go.Proofs.YtmoldmnhijcckaaGreat
open Go.RowKit
def pdOf (v : Vrp) (add : Bool) : Pdu := ⟨if v.p.v6 then 6 else 4, 0, 0, add, v, 0, ⟨#[]⟩⟩
def tellAll (vs : List Vrp) (add : Bool) : List UInt8 := vs.flatMap fun v => wrD (pdOf v add)
theorem tellAll_snoc (vs : List Vrp) (add : Bool) (k : Nat) (h : k < vs.length) : tellAll (vs.take (k + 1)) add = tellAll (vs.take k) add ++ wrD (pdOf vs[k] add) := by
  unfold tellAll
  rw [List.take_succ_eq_append_getElem h, List.flatMap_append]
  simp
theorem fold_setP : ∀ (l : List Value) (j : Nat) (pre mid post : List Value), mid.length = l.length → pre.length = 4 + j → (l.zipIdx j).foldl (fun cs x => cs.setIfInBounds (4 + x.snd) x.fst) (pre ++ (mid ++ post)).toArray = (pre ++ (l ++ post)).toArray
  | [], j, pre, mid, post, hm, hp => by rw [List.eq_nil_of_length_eq_zero hm]; rfl
  | v :: l, j, pre, m :: mid, post, hm, hp => by
    rw [List.zipIdx_cons, List.foldl_cons]
    have e : (pre ++ (m :: mid ++ post)).toArray.setIfInBounds (4 + j) v = ((pre ++ [v]) ++ (mid ++ post)).toArray := by
      rw [List.setIfInBounds_toArray, ← hp, List.set_append_right _ _ (Nat.le_refl _), Nat.sub_self]
      simp
    rw [e, fold_setP l (j + 1) (pre ++ [v]) mid post (by simpa using hm) (by simp; omega)]
    simp
theorem pd_build (x : Vrp) (add : Bool) (kk : Int) (hk : kk = if x.p.v6 then 6 else 4) :
    List.foldl (fun cs x => cs.setIfInBounds (4 + x.snd) x.fst) #[Value.int .i64 kk, .int .i64 0, .int .u32 0, .bool add, .int .u32 0, .bool false, .int .u8 0, .int .u8 0, .int .u8 0, .int .u8 0, .int .u8 0, .int .u8 0, .int .u8 0, .int .u8 0, .int .u8 0, .int .u8 0, .int .u8 0, .int .u8 0, .int .u8 0, .int .u8 0, .int .u8 0, .int .u8 0, .int .i64 0, .int .i64 0, .int .i64 0, .string ⟨#[]⟩] x.cells.zipIdx = (pdOf x add).cells.toArray := by
  have h := fold_setP x.cells 0 [.int .i64 kk, .int .i64 0, .int .u32 0, .bool add] zV [.int .i64 0, .string ⟨#[]⟩] (by rw [Vrp.cells_length]; rfl) rfl
  have e : (pdOf x add).cells = [.int .i64 kk, .int .i64 0, .int .u32 0, .bool add] ++ (x.cells ++ [.int .i64 0, .string ⟨#[]⟩]) := by
    subst hk
    rfl
  rw [e]
  exact h
set_option maxRecDepth 100000 in
set_option maxHeartbeats 4000000 in
theorem prefixes_any (vs : List Vrp) (n : Nat) (hn : vs.length = n) (A : Option Addr) (c base : Nat) (add : Bool) (ab : Nat) (bs : List UInt8) (hlen : n ≤ 1000000) (w : World) (h : AnsAt w ab bs) (hu : w.ownsRow base 67 20 (.slice A n c) n (vs.flatMap Vrp.cells)) (hl : ∀ k, k ≤ n → (bs ++ tellAll (vs.take k) add).length ≤ 100000000) :
    Calls Tryz.prog 110 #[.pointer (some ⟨ab, 0, none⟩), .slice A n c, .bool add] w fun e w' => e = .returned (.tuple #[]) ∧ AnsAt w' ab (bs ++ tellAll vs add) ∧ AnsFr w w' ab := by
  subst hn
  have hS : AnsAt w ab (bs ++ tellAll (vs.take 0) add) ∧ AnsFr w w ab ∧ w.ownsRow base 67 20 (.slice A vs.length c) vs.length (vs.flatMap Vrp.cells) := ⟨by simpa [tellAll] using h, AnsFr.refl _ _, hu⟩
  have hab := h.lt
  clear h hu
  go_enter Tryz.func110, Tryz.ntmps110
  go_wp2_with fail
  go_loopw [7, 8, 11] (fun v7 v8 i W => ∃ k : Nat, k ≤ vs.length ∧ i = .int .i64 k ∧ AnsAt W ab (bs ++ tellAll (vs.take k) add) ∧ AnsFr w W ab ∧ W.ownsRow base 67 20 (.slice A vs.length c) vs.length (vs.flatMap Vrp.cells)) (fun _ _ i _ => vs.length - (intOf i).toNat)
  case atStart => exact ⟨0, by omega, rfl, hS⟩
  case round =>
    clear hS
    obtain ⟨k, hk, rfl, hA, hF, hu⟩ := hrel
    by_cases hlt : k < vs.length
    · have hk0 : (0 : Int) ≤ (k : Int) := by omega
      have hk1 : (k : Int) < (vs.length : Int) := by omega
      obtain ⟨ad, rfl, _, _⟩ := (Reads.of_own hu).2 (by omega)
      have hat : AtAdr wr (ad.add (k * 20)) vs[k].cells := (Reads.of_own hu).elem Vrp.cells_length hlt rfl
      have HT := Lib.hid (tellAll_snoc vs add k hlt)
      have hl1 := hl (k + 1) (by omega)
      rw [HT.out, ← List.append_assoc, List.length_append] at hl1
      generalize vs[k] = x at hat HT hl1
      have hSb : (AnsAt ((wr.alloc (.cells zV.toArray 67)).setCells wr.heap.size 0 x.cells) ab (bs ++ tellAll (vs.take k) add) ∧ AnsFr w ((wr.alloc (.cells zV.toArray 67)).setCells wr.heap.size 0 x.cells) ab ∧ ((wr.alloc (.cells zV.toArray 67)).setCells wr.heap.size 0 x.cells).ownsRow base 67 20 (.slice (some ad) vs.length c) vs.length (vs.flatMap Vrp.cells)) ∧ Blk ((wr.alloc (.cells zV.toArray 67)).setCells wr.heap.size 0 x.cells) wr.heap.size 67 x.cells := by
        have hb : Below wr.heap.size wr ((wr.alloc (.cells zV.toArray 67)).setCells wr.heap.size 0 x.cells) := Below.setCells (Nat.le_refl _) _ _ ((Below.refl _ _).alloc (Nat.le_refl _) _)
        exact ⟨⟨hA.next hb, hF.then hab hb, own_below hu hb⟩, (Blk.new _ _ _).setCells_all (Vrp.cells_length _)⟩
      simp only [show zV = [.int .u32 0, .bool false, .int .u8 0, .int .u8 0, .int .u8 0, .int .u8 0, .int .u8 0, .int .u8 0, .int .u8 0, .int .u8 0, .int .u8 0, .int .u8 0, .int .u8 0, .int .u8 0, .int .u8 0, .int .u8 0, .int .u8 0, .int .u8 0, .int .i64 0, .int .i64 0] from rfl] at hSb
      go_upto_region 3 with (first | (refine wpList_load_adr (by rfl) 67 _ rfl (ad.add (k * 20)) 20 (by rfl) _ _ hat (Vrp.cells_length _) Tryz.underlying67 rfl info_vrp1 ?_) | (refine wpList_store_at rfl 67 _ _ rfl wr.heap.size 0 20 67 _ zV rfl rfl (Blk.new _ _ _) (Vrp.cells_length _) (by decide) info_vrp1 (Vrp.one _) ?_))
      refine wp_gen (fun W => (AnsAt W ab (bs ++ tellAll (vs.take k) add) ∧ AnsFr w W ab ∧ W.ownsRow base 67 20 (.slice (some ad) vs.length c) vs.length (vs.flatMap Vrp.cells)) ∧ Blk W wr.heap.size 67 x.cells) hSb ?_
      clear hSb hA hF hu hat
      generalize wr.heap.size = bx
      rintro W ⟨⟨hA, hF, hu⟩, hX⟩
      have hxr := hX.range
      have c1 := (hX.cell 1).trans (Vrp.c1 _)
      obtain ⟨v6, hv6⟩ : ∃ b, x.p.v6 = b := ⟨_, rfl⟩
      rw [hv6] at c1
      have HV := Lib.hid hv6
      clear hv6
      have hxl := Vrp.cells_length x
      cases v6
      · go_wp2_with (refine wpList_load_at rfl 67 _ rfl bx 0 20 rfl _ _ hxr (Vrp.cells_length _) Tryz.underlying67 rfl info_vrp1 ?_)
        rw [pd_build x add 4 (by rw [HV.out]; rfl)]
        refine (tell_any (pdOf x add) ab _ W hA hl1).mono ?_
        rintro e w2 ⟨rfl, hA2, hF2⟩
        have hu2 := hF2.row hA hu (by decide) (by decide)
        have hF3 := hF.trans hF2
        rw [List.append_assoc, ← HT.out] at hA2
        clear hA hF hF2 hu hX hxr c1
        go_wp2_with fail
        go_roundw
        case rel => exact ⟨k + 1, by omega, by go_num, hA2, hF3, hu2⟩
        case measure => simp [intOf]; omega
      · go_wp2_with (refine wpList_load_at rfl 67 _ rfl bx 0 20 rfl _ _ hxr (Vrp.cells_length _) Tryz.underlying67 rfl info_vrp1 ?_)
        rw [pd_build x add 6 (by rw [HV.out]; rfl)]
        refine (tell_any (pdOf x add) ab _ W hA hl1).mono ?_
        rintro e w2 ⟨rfl, hA2, hF2⟩
        have hu2 := hF2.row hA hu (by decide) (by decide)
        have hF3 := hF.trans hF2
        rw [List.append_assoc, ← HT.out] at hA2
        clear hA hF hF2 hu hX hxr c1
        go_wp2_with fail
        go_roundw
        case rel => exact ⟨k + 1, by omega, by go_num, hA2, hF3, hu2⟩
        case measure => simp [intOf]; omega
    · have hkk : k = vs.length := by omega
      subst hkk
      rw [List.take_length] at hA
      go_wp2_with fail
      go_end0
      exact ⟨rfl, hA, hF⟩
end Go.Proofs.YtmoldmnhijcckaaGreat
