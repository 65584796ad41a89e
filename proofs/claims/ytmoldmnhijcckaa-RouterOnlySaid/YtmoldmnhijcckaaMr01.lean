/- lanyardlaw27.ten, bytes; a slice literal of three structs. -/
import Derived.Test.YtmoldmnhijcckaaMr00
import Derived.Test.YtmoldmnhijcckaaMa12
import Derived.Test.YtmoldmnhijcckaaMa20
import Derived.Deep.DeepMust
import Derived.Deep.DeepCutAuto
import Derived.Test.YtmoldmnhijcckaaMa51
set_option linter.unusedVariables false
set_option linter.unusedSectionVars false
set_option linter.unusedSimpArgs false
namespace Go.Proofs.Ytmoldmnhijcckaa
open Go.RowKit
theorem fold_setO (o : Nat) : ∀ (l : List Value) (j : Nat) (pre mid post : List Value), mid.length = l.length → pre.length = o + j → (l.zipIdx j).foldl (fun cs x => cs.setIfInBounds (o + x.snd) x.fst) (pre ++ (mid ++ post)).toArray = (pre ++ (l ++ post)).toArray
  | [], j, pre, mid, post, hm, hp => by rw [List.eq_nil_of_length_eq_zero hm]; rfl
  | v :: l, j, pre, m :: mid, post, hm, hp => by
    rw [List.zipIdx_cons, List.foldl_cons]
    have e : (pre ++ (m :: mid ++ post)).toArray.setIfInBounds (o + j) v = ((pre ++ [v]) ++ (mid ++ post)).toArray := by
      rw [List.setIfInBounds_toArray, ← hp, List.set_append_right _ _ (Nat.le_refl _), Nat.sub_self]
      simp
    rw [e, fold_setO o l (j + 1) (pre ++ [v]) mid post (by simpa using hm) (by simp; omega)]
    simp
theorem fold_setA (o : Nat) (l pre mid post : List Value) (hm : mid.length = l.length) (hp : pre.length = o) : Array.foldl (fun (cs : Array Value) (x : Value × Nat) => cs.setIfInBounds (o + x.snd) x.fst) (pre ++ (mid ++ post)).toArray l.toArray.zipIdx = (pre ++ (l ++ post)).toArray := by
  have h := fold_setO o l 0 pre mid post hm hp
  rw [← Array.foldl_toList]
  have e : l.toArray.zipIdx.toList = l.zipIdx := by simp
  rw [e]
  exact h
theorem fill3 (s : Nat) (Z : Array Value) (hZ : Z.size = 3 * s) (a b c : List Value) (ha : a.length = s) (hb : b.length = s) (hc : c.length = s) :
    Instr.fill (fun i => some (i * s, s)) Z [(0, .agg a.toArray), (1, .agg b.toArray), (2, .agg c.toArray)] = some (a ++ (b ++ c)).toArray := by
  obtain ⟨z1, z2, z3, rfl, h1, h2, h3⟩ : ∃ z1 z2 z3 : List Value, Z = (z1 ++ (z2 ++ z3)).toArray ∧ z1.length = s ∧ z2.length = s ∧ z3.length = s := by
    refine ⟨Z.toList.take s, (Z.toList.drop s).take s, (Z.toList.drop s).drop s, ?_, ?_, ?_, ?_⟩
    · rw [List.take_append_drop, List.take_append_drop]
    · simp; omega
    · simp; omega
    · simp; omega
  have e1 := fold_setA 0 a [] z1 (z2 ++ z3) (by omega) rfl
  have e2 := fold_setA s b a z2 z3 (by omega) (by omega)
  have e3 := fold_setA (2 * s) c (a ++ b) z3 [] (by omega) (by simp; omega)
  simp only [Nat.zero_add, List.nil_append, List.append_nil] at e1 e2 e3
  rw [List.append_assoc, List.append_assoc] at e3
  simp only [Instr.fill, Value.cells, List.size_toArray, List.length_append, Nat.zero_mul, Nat.one_mul, ha, hb, hc, h1, h2, h3, Nat.zero_add]
  rw [e1]
  simp only [List.size_toArray, List.length_append, ha, hb, hc, h1, h2, h3]
  rw [e2]
  simp only [List.size_toArray, List.length_append, ha, hb, hc, h1, h2, h3]
  rw [e3]
  simp
  omega
theorem wpList_build3 {P : Program} {ops : Array Oper} {rest : List Oper} {o : Oper} {a : Act} {w : World} {Q : Exit → Act → World → Prop} (hg : o.guard = none) (t e : TypeId) (x y z : Operand) (ho : o.op = .buildSlice t 3 #[(0, x), (1, y), (2, z)]) (cx cy cz : List Value) (n : Nat) (hx : a.eval x = .agg cx.toArray) (hy : a.eval y = .agg cy.toArray) (hz : a.eval z = .agg cz.toArray)
    (lx : cx.length = n) (ly : cy.length = n) (lz : cz.length = n) (hu : P.underlying t = some (.slice e)) (hie : (P.info? e).map (·.size) = some n) (hzz : ((P.info? e).bind (·.zero)).isSome = true) (hp : 0 < n) (hsm : n ≤ 1000)
    (h : wpList P ops Q rest (a.put o.dst (.slice (some ⟨w.heap.size, 0, none⟩) 3 3)) (w.alloc (.cells (cx ++ (cy ++ cz)).toArray e))) : wpList P ops Q (o :: rest) a w := by
  cases hq : P.info? e with
  | none => simp [hq] at hie
  | some ie =>
    simp only [hq, Option.map_some, Option.some.injEq, Option.bind_some] at hie hzz
    obtain ⟨zz, hzz⟩ := Option.isSome_iff_exists.1 hzz
    refine wpList_buildSlice hg t e 3 _ ho _ ie zz hu hq hzz (by rw [hie]; omega) (by rw [hie]; omega) ?_ h
    simp only [List.map_toArray, List.map_cons, List.map_nil, hx, hy, hz, hie]
    exact fill3 n _ (by simp) cx cy cz lx ly lz
set_option maxRecDepth 100000 in
set_option maxHeartbeats 1000000 in
theorem ten27_any (w : World) : Calls Try.prog 54 #[.int .u32 1] w fun e w' => e = .returned (.agg tenV.cells.toArray) ∧ Below w.heap.size w w' := by
  have hz0 : Blk (w.alloc (.cells zV.toArray 27)) w.heap.size 27 zV := Blk.new _ _ _
  have hb0 : Below w.heap.size w ((w.alloc (.cells zV.toArray 27)).setCells w.heap.size 0 tenV.cells) := Below.setCells (Nat.le_refl _) _ _ ((Below.refl _ _).alloc (Nat.le_refl _) _)
  have hz1 := hz0.setCells_all (vs := tenV.cells) (Vrp.cells_length _)
  go_enter Try.func54, Try.ntmps54
  go_wp2_with (refine wpList_store_at rfl 27 _ _ rfl w.heap.size 0 20 27 tenV.cells zV rfl rfl hz0 (Vrp.cells_length _) (by decide) info_vrp1 (Vrp.one _) ?_)
  exact bodyPost_ret (results_cell1 rfl _ w.heap.size 0 20 tenV.cells _ rfl hz1.range (Vrp.cells_length _) Try.underlying27 rfl info_vrp1) rfl ⟨rfl, hb0⟩
def wrAll (ps : List Pdu) : List UInt8 := ps.flatMap wrD
theorem wrAll_succ (ps : List Pdu) (k : Nat) (hk : k < ps.length) : wrAll (ps.take (k + 1)) = wrAll (ps.take k) ++ wrD ps[k] := by
  unfold wrAll
  rw [List.take_succ_eq_append_getElem hk, List.flatMap_append]
  simp
theorem wrAll_len (ps : List Pdu) : (wrAll ps).length ≤ 232 * ps.length := by
  unfold wrAll
  induction ps with
  | nil => simp
  | cons p ps ih =>
    have := wrD_len p
    rw [List.flatMap_cons, List.length_append, List.length_cons]
    omega
set_option maxRecDepth 100000 in
set_option maxHeartbeats 4000000 in
theorem bytes27_any (ps : List Pdu) (n : Nat) (hn : ps.length = n) (hn6 : n ≤ 1000) (A : Option Addr) (c B : Nat) (w : World) (hB : B ≤ w.heap.size) (hr : Reads w B 26 A n (ps.flatMap Pdu.cells)) :
    Calls Try.prog 53 #[.slice A n c] w fun e w' => ∃ A' c', e = .returned (.slice A' (wrAll ps).length c') ∧ w'.ownsRow w.heap.size 5 1 (.slice A' (wrAll ps).length c') (wrAll ps).length ((wrAll ps).map bv) ∧ Below w.heap.size w w' := by
  subst hn
  obtain ⟨i0, hi0, hz0, hz1, hz2⟩ := info_parts info5b
  go_enter Try.func53, Try.ntmps53
  go_wp2_with fail
  go_loopw [3, 4] (fun v i W => ∃ k : Nat, k ≤ ps.length ∧ i = .int .i64 k ∧ W.ownsRow w.heap.size 5 1 v (wrAll (ps.take k)).length ((wrAll (ps.take k)).map bv) ∧ Below w.heap.size w W) (fun _ i _ => ps.length - (intOf i).toNat)
  case atStart => exact ⟨0, Nat.zero_le _, rfl, World.ownsRow_nil _ _ _ _, Below.refl _ _⟩
  case round =>
    obtain ⟨k, hk, rfl, ho, hlo⟩ := hrel
    by_cases hlt : k < ps.length
    · have hk0 : (0 : Int) ≤ (k : Int) := by omega
      have hk1 : (k : Int) < (ps.length : Int) := by omega
      obtain ⟨ad, rfl, _, _⟩ := hr.2 (by omega)
      have hat : AtAdr wr (ad.add (k * 26)) ps[k].cells := (hr.below hlo hB).elem Pdu.cells_length hlt rfl
      have HT := Lib.hid (wrAll_succ ps k hlt)
      have hl1 := wrAll_len (ps.take k)
      have hl2 : (ps.take k).length ≤ 1000 := by rw [List.length_take]; omega
      have hl3 := wrD_len ps[k]
      obtain ⟨Av, cv, rfl⟩ := own_slice' ho
      generalize ps[k] = p at hat HT hl3
      go_wp2_with (refine wpList_load_adr (by rfl) 29 _ rfl (ad.add (k * 26)) 26 (by rfl) _ _ hat (Pdu.cells_length _) Try.underlying29 rfl info_pdu ?_)
      refine (write_d p wr).mono ?_
      rintro e w2 ⟨A2, c2, x2, rfl, hrd, hb2⟩
      replace ho := own_below ho hb2
      replace hlo := below_then hlo (Nat.le_refl _) hb2
      clear hat hb2
      go_wp2_with (at_builtin; go_must (refine wpList_append_any _ rfl _ _ 30 rfl w.heap.size 5 i0 _ 1 1 Try.underlying30 hi0 hz0 hz1 hz2 rfl (by omega) _ _ _ rfl ho _ A2 (wrD p).length c2 _ rfl hrd (bv_one _) (by simp only [maxLen]; omega) (by omega) hlo.size ?_; intro v4 w4 ho4 hg4 _; rw [← List.map_append, ← List.length_append, ← HT.out] at ho4; have hb4 := hlo.grown hg4 hlo.size (fun k hk => (own_base_le ho k hk).1); clear hg4))
      go_roundw
      case rel => exact ⟨k + 1, by omega, by go_num, ho4, hb4⟩
      case measure => simp [intOf]; omega
    · have hkk : k = ps.length := by omega
      subst hkk
      rw [List.take_length] at ho
      obtain ⟨Av, cv, rfl⟩ := own_slice' ho
      go_wp2_with fail
      go_ret
      exact ⟨Av, cv, rfl, ho, hlo⟩
end Go.Proofs.Ytmoldmnhijcckaa
/- Routers beside what was there, one and two of them; lanyardlaw27.awake. -/
set_option linter.unusedVariables false
set_option linter.unusedSectionVars false
set_option linter.unusedSimpArgs false
namespace Go.Proofs.Ytmoldmnhijcckaa
open Go.RowKit
def RoT.tab (r : RoT) (t : TbV) : Prop := r.h = some t ∨ r.nx = some t
structure QS (w : World) (g : Nat) (r : RoT) (W : World) : Prop where
  a : RtA W g r
  f : Below w.heap.size w W
  hg : w.heap.size ≤ g
  ht : ∀ t, r.tab t → w.heap.size ≤ t.m
theorem QS.step {w W W' : World} {g : Nat} {r r' : RoT} (h : QS w g r W) (hA : RtA W' g r') (hF : RFr W W' g r r') : QS w g r' W' :=
  ⟨hA, RFr.lo h.f hF h.hg (fun t ht => h.ht t (.inr ht)) h.f.size, h.hg, fun t ht => by
    rcases hF.tabs t ht with ⟨t0, h0, e⟩ | hle
    · rw [← e]; exact h.ht t0 h0
    · exact Nat.le_trans h.f.size hle⟩
theorem QS.next {w W W' : World} {g : Nat} {r : RoT} (h : QS w g r W) (hb : Below W.heap.size W W') : QS w g r W' := h.step (h.a.next hb) (.below hb)
theorem Reads.off2 {W W' : World} {B n : Nat} {A : Option Addr} {bs : List UInt8} (h : Reads W B 1 A n (bs.map bv)) {g : Nat} {t : TypeId} {cs : List Value} (hB : Blk W g t cs) (hcs : ∀ v ∈ cs, ∀ x : UInt8, v ≠ bv x) {m : Nat} {ks : List Vrp} (hM : MapV W m ks)
    (hk : ∀ k, k < B → k ≠ g → k ≠ m → W'.heap[k]? = W.heap[k]?) : Reads W' B 1 A n (bs.map bv) := by
  refine ⟨h.1, fun hn => ?_⟩
  obtain ⟨ad, e, hb, hc⟩ := h.2 hn
  have hl : 0 < bs.length := by have := h.1; rw [List.length_map] at this; omega
  have h0 := hc 0 (bv bs[0]) (by simp [hl])
  have hne : ad.block ≠ g := fun e2 => by
    have h2 : ∀ u, W.cell? (ad.add 0) = some u → u ∈ cs := fun u hu => by
      unfold World.cell? at hu
      have e3 : (ad.add 0).block = g := e2
      rw [e3] at hu
      unfold Blk at hB
      rw [hB] at hu
      simp at hu
      first | exact List.mem_of_getElem? hu | exact List.mem_of_getElem? hu.2
    exact hcs _ (h2 _ h0) _ rfl
  have hnm : ad.block ≠ m := fun e2 => by
    obtain ⟨l, nn, hh, _⟩ := hM
    have h2 : W.cell? (ad.add 0) = none := by
      unfold World.cell?
      have e3 : (ad.add 0).block = m := e2
      rw [e3, hh]
    rw [h0] at h2
    cases h2
  exact ⟨ad, e, hb, fun j u hu => (World.cell?_of_block (a := ad.add j) (hk (ad.add j).block (by rw [blkAdd]; exact hb) (by rw [blkAdd]; exact hne) (by rw [blkAdd]; exact hnm))).trans (hc j u hu)⟩
/-- A router is kept while another one goes on. -/
theorem RtA.other {W W' : World} {gx gy : Nat} {rx rx' ry : RoT} (h : RtA W gy ry) (hx : RtA W gx rx) (hF : RFr W W' gx rx rx') (hne : gy ≠ gx) (hm : ∀ t t', rx.tab t → ry.tab t' → t.m ≠ t'.m) : RtA W' gy ry := by
  have hk : ∀ k, k < W.heap.size → k ≠ gx → (∀ t, rx.nx = some t → k ≠ t.m) → W'.heap[k]? = W.heap[k]? := hF.keep
  have hT : ∀ t', ry.tab t' → TbAt W t' → TbAt W' t' := fun t' hy ht =>
    ht.kept (hk _ ht.b.lt (blk_typ_ne ht.b hx.blk (by decide)) (fun t h1 e => blk_map_ne ht.b (hx.nxt t h1).m e.symm)) (hk _ ht.m.lt (blk_map_ne hx.blk ht.m) (fun t h1 e => hm t t' (.inr h1) hy e.symm))
  refine ⟨⟨(hk gy h.blk.lt hne (fun t h1 e => blk_map_ne h.blk (hx.nxt t h1).m e.symm)).trans h.blk, fun t ht => hT t (.inl ht) (h.has t ht), fun t ht => hT t (.inr ht) (h.nxt t ht), ?_, h.left.2⟩, h.ne⟩
  cases hn : rx.nx with
  | none => exact (h.left.1.offBlk hx.blk rx.cells_bv fun k h1 h2 => hk k h1 h2 (fun t h3 => by rw [hn] at h3; cases h3)).more hF.size
  | some t => exact (h.left.1.off2 hx.blk rx.cells_bv (hx.nxt t hn).m fun k h1 h2 h3 => hk k h1 h2 (fun t' h4 => by rw [hn] at h4; cases h4; exact h3)).more hF.size
theorem reads_blk {W : World} {g size n : Nat} {t : TypeId} {cs : List Value} (hB : Blk W g t cs) (hl : cs.length = n * size) : Reads W (g + 1) size (some ⟨g, 0, none⟩) n cs := by
  refine ⟨hl, fun _ => ⟨_, rfl, by simp, fun j u hu => ?_⟩⟩
  rw [add_plain', Nat.zero_add, hB.cell]
  exact hu
def awPs (x : Vrp) : List Pdu := [pdS 3 7 0 0, pdOf x true, pdS 7 7 5 0]
theorem awPs_ok : ∀ p ∈ awPs tenV, pduOk p = true := by
  intro p hp
  simp only [awPs, List.mem_cons, List.not_mem_nil, or_false] at hp
  rcases hp with rfl | rfl | rfl
  · exact okBegin
  · exact ok_pdOf ten_ok true
  · exact okEnd 5
theorem wrAll_ok {ps : List Pdu} (h : ∀ p ∈ ps, pduOk p = true) : wrAll ps = ps.flatMap wrB := by
  unfold wrAll
  induction ps with
  | nil => rfl
  | cons p ps ih => rw [List.flatMap_cons, List.flatMap_cons, ih (fun x hx => h x (by simp [hx])), wrD_ok (h p (by simp))]
theorem awR_ask : askQ RoT.zero.q = (⟨⟨none, 0, none, true, 2⟩, [], false⟩, wrB (pdS 2 0 0 0)) := by
  unfold askQ
  rw [if_neg (by decide)]
  show (_, wrD (pdS 2 0 0 0)) = _
  rw [wrD_ok (show pduOk (pdS 2 0 0 0) = true from by kernel_rfl)]
  rfl
theorem awR_take : takeQ ⟨⟨none, 0, none, true, 2⟩, [], false⟩ (wrAll (awPs tenV)) = (⟨⟨some (7, [tenV]), 5, none, false, 2⟩, [], false⟩, 0) := by
  have e := wrAll_ok awPs_ok
  have hg : goR ⟨none, 0, none, true, 2⟩ (awPs tenV) = (⟨some (7, [tenV]), 5, none, false, 2⟩, 0) := by kernel_rfl
  rw [e]
  unfold takeQ thruR
  rw [if_neg (by decide), List.nil_append, all_flat _ awPs_ok]
  simp [hg]
theorem awR_ask2 : askQ ⟨⟨some (7, [tenV]), 5, none, false, 2⟩, [], false⟩ = (⟨⟨some (7, [tenV]), 5, none, true, 1⟩, [], false⟩, wrB (pdS 1 7 5 0)) := by
  unfold askQ
  rw [if_neg (by decide)]
  show (_, wrD (pdS 1 7 5 0)) = _
  rw [wrD_ok (okAsk 5)]
theorem awR_len : (wrB (pdS 2 0 0 0)).length = 8 ∧ (wrB (pdS 1 7 5 0)).length = 12 := by constructor <;> kernel_rfl
structure AwRS (w : World) (g A8 c8 : Nat) (x : Vrp) (q : RoQ) (W : World) : Prop where
  f : Below w.heap.size w W
  ro : W.ownsRow w.heap.size 27 20 (.slice (some ⟨A8, 0, none⟩) 1 c8) 1 x.cells
  r : ∃ r, QS w g r W ∧ r.q = q
theorem AwRS.next {w W W' : World} {g A8 c8 : Nat} {x : Vrp} {q : RoQ} (h : AwRS w g A8 c8 x q W) (hb : Below W.heap.size W W') : AwRS w g A8 c8 x q W' := by
  obtain ⟨r, hQ, hq⟩ := h.r
  exact ⟨below_then h.f (Nat.le_refl _) hb, own_below h.ro hb, r, hQ.next hb, hq⟩
theorem AwRS.rg {w W : World} {g A8 c8 : Nat} {x : Vrp} {q : RoQ} (h : AwRS w g A8 c8 x q W) : W.rangeAt A8 0 x.cells := fun j v hv => by
  obtain ⟨ad, e, _, hc⟩ := (Reads.of_own h.ro).2 (by omega)
  cases e
  have := hc j v hv
  rw [add_plain'] at this
  exact this
set_option maxRecDepth 100000 in
set_option maxHeartbeats 4000000 in
theorem awake27_any (w : World) : Calls Try.prog 22 #[] w fun e w' => e = .returned (.bool true) ∧ Below w.heap.size w w' := by
  obtain ⟨x, hx⟩ : ∃ x, x = tenV := ⟨_, rfl⟩
  have hten : ∀ W, Calls Try.prog 54 #[.int .u32 1] W fun e w' => e = .returned (.agg x.cells.toArray) ∧ Below W.heap.size W w' := fun W => by rw [hx]; exact ten27_any W
  have hpd := pd_build x true 4 (by rw [hx]; rfl)
  have ht1 := awR_take
  have hk2 := awR_ask2
  rw [← hx] at ht1 hk2
  have hxl := Vrp.cells_length x
  have HT1 := Lib.hid ht1
  have HK2 := Lib.hid hk2
  have HX := Lib.hid hx
  clear hx ht1 hk2
  go_enter Try.func22, Try.ntmps22
  go_wp2_with fail
  refine (rnew_any w).mono ?_
  rintro e w1 ⟨rfl, hA, hb1⟩
  have hQ : QS w w.heap.size RoT.zero w1 := ⟨hA, hb1, Nat.le_refl _, fun t ht => by rcases ht with h | h <;> cases h⟩
  clear hA hb1
  obtain ⟨g, hg⟩ : ∃ g, g = w.heap.size := ⟨_, rfl⟩
  rw [← hg] at hQ ⊢
  clear hg
  go_wp2_with fail
  refine (rask_any w1 g RoT.zero hQ.a).mono ?_
  rintro e w2 ⟨A2, c2, r2, rfl, _, hA, hq, hF⟩
  rw [awR_ask] at hq ⊢
  simp only [awR_len.1] at hq ⊢
  replace hQ := hQ.step hA hF
  have HQ2 := Lib.hid hq
  clear hA hF hq
  go_wp2_with fail
  refine (hten _).mono ?_
  rintro e w3 ⟨rfl, hb3⟩
  replace hQ := hQ.next hb3
  clear hb3
  go_wp2_with (refine wpList_build3 rfl 40 29 _ _ _ rfl (pdS 3 7 0 0).cells (pdOf x true).cells (pdS 7 7 5 0).cells 26 rfl (by first | rfl | exact congrArg Value.agg hpd) rfl (Pdu.cells_length _) (Pdu.cells_length _) (Pdu.cells_length _) Try.underlying40 (by kernel_rfl) (by kernel_rfl) (by omega) (by omega) ?_)
  have hBps : Blk (w3.alloc (.cells ((pdS 3 7 0 0).cells ++ ((pdOf x true).cells ++ (pdS 7 7 5 0).cells)).toArray 29)) w3.heap.size 29 ((pdS 3 7 0 0).cells ++ ((pdOf x true).cells ++ (pdS 7 7 5 0).cells)) := Blk.new w3 _ _
  have hfl : (awPs x).flatMap Pdu.cells = (pdS 3 7 0 0).cells ++ ((pdOf x true).cells ++ (pdS 7 7 5 0).cells) := by simp [awPs]
  have hrd : Reads (w3.alloc (.cells ((pdS 3 7 0 0).cells ++ ((pdOf x true).cells ++ (pdS 7 7 5 0).cells)).toArray 29)) (w3.heap.size + 1) 26 (some ⟨w3.heap.size, 0, none⟩) 3 ((awPs x).flatMap Pdu.cells) := by
    rw [hfl]
    exact reads_blk hBps (by simp only [List.length_append, Pdu.cells_length])
  replace hQ := hQ.next ((Below.refl w3.heap.size w3).alloc (Nat.le_refl _) (.cells ((pdS 3 7 0 0).cells ++ ((pdOf x true).cells ++ (pdS 7 7 5 0).cells)).toArray 29))
  refine (bytes27_any (awPs x) 3 rfl (by omega) _ 3 _ _ (by simp) hrd).mono ?_
  rintro e w4 ⟨A4, c4, rfl, ho4, hb4⟩
  replace hQ := hQ.next hb4
  have hwl : (wrAll (awPs x)).length ≤ 696 := wrAll_len (awPs x)
  have hok2 : r2.abs.ok := by have h := congrArg RoQ.s HQ2.out; change r2.abs = _ at h; rw [h]; exact fun _ h2 => by cases h2
  have hlf2 : r2.lf.bs.length ≤ 1000000 := by have h := congrArg RoQ.l HQ2.out; change r2.lf.bs = [] at h; rw [h]; simp
  clear hBps hfl hrd hb4
  go_wp2_with fail
  refine (rTake_any (wrAll (awPs x)) _ rfl A4 c4 _ (by omega) w4 g r2 hQ.a hok2 hlf2 (Nat.le_refl _) (Reads.of_own ho4)).mono ?_
  rintro e w5 ⟨r5, rfl, hA, hq, hF⟩
  rw [HQ2.out, HT1.out] at hq ⊢
  simp only at hq ⊢
  replace hQ := hQ.step hA hF
  have HQ5 := Lib.hid hq
  clear hA hF hq ho4 hok2 hlf2 hwl
  have hh5 : r5.abs.h = some (7, [x]) ∧ r5.abs.sn = 5 := by have h := congrArg RoQ.s HQ5.out; change r5.abs = _ at h; rw [h]; exact ⟨rfl, rfl⟩
  have hk5 : ∀ t, r5.h = some t → t.ks.length ≤ 1000000 := fun t ht => by
    have h := hh5.1
    unfold RoT.abs at h
    rw [ht] at h
    have h2 : TbV.abs t = (7, [x]) := Option.some.inj h
    have h3 : t.ks = [x] := congrArg Prod.snd h2
    rw [h3]
    simp
  have hro := row_one (x := x) (by rw [HX.out]; exact ten_ok)
  have HH5 := Lib.hid hh5
  have HRO := Lib.hid hro
  clear hh5 hro
  go_wp2_with fail
  refine (rhas_any w5 g r5 hQ.a hk5).mono ?_
  rintro e w6 hP
  rw [HH5.out.1, HH5.out.2] at hP
  obtain ⟨A6, c6, rfl, ho6, hb6⟩ := hP
  simp only [HRO.out, List.length_singleton, List.flatMap_cons, List.flatMap_nil, List.append_nil] at ho6 ⊢
  have hlo := hQ.f.size
  replace hQ := hQ.next hb6
  obtain ⟨g8, rfl⟩ : ∃ g8, A6 = some ⟨g8, 0, none⟩ := by
    rcases ho6.2 with ⟨_, hz⟩ | ⟨g', cap, _, e, _⟩
    · omega
    · injection e with e _ _
      exact ⟨g', e⟩
  have hS0 : AwRS w g g8 c6 x ⟨⟨some (7, [x]), 5, none, false, 2⟩, [], false⟩ w6 := ⟨hQ.f, own_base_mono ho6 hlo, r5, hQ, HQ5.out⟩
  clear hQ ho6 hb6 hlo hk5
  have hqq : ∀ W : World, (Go.binOp .eql 27 (.agg x.cells.toArray) (.agg x.cells.toArray)).run Try.prog W = .ok (.bool true) W := fun W => by rw [eq_vrp]; simp
  go_upto_region 7 with fail
  refine reg_sch2 33 [(true, 0), (true, 1), (true, 2), (true, 3), (true, 4), (true, 5), (true, 6), (true, 7), (true, 8), (true, 9), (true, 10), (true, 11), (true, 12), (true, 13), (true, 14), (true, 15), (false, 16), (true, 17), (true, 18), (true, 19), (true, 20), (true, 21), (true, 22), (true, 23), (true, 24), (true, 25), (true, 26), (true, 27), (false, 28), (true, 29), (true, 30), (true, 31), (true, 32)] (by kernel_rfl) (by kernel_rfl) (fun W => ∃ q, AwRS w g g8 c6 x q W) (AwRS w g g8 c6 x ⟨⟨some (7, [x]), 5, none, false, 2⟩, [], false⟩) ?_ ?_ ?_
  · exact hS0.next (Below.refl _ _).drew
  · exact fun W h => ⟨_, h⟩
  intro W hSW
  simp only [List.map_cons, List.map_nil, List.getD_cons_zero, List.getD_cons_succ, List.drop_succ_cons, List.drop_zero]
  refine hd_pure (v := ?_) (by rfl) (fun W' hS' => ?_) ?_ -- 0
  rotate_left
  · clear hS'; (go_simp; first | with_reducible rfl | rfl)
  try simp only [Act.put, List.setIfInBounds_toArray, List.set_cons_zero, List.set_cons_succ]
  refine hd_pure (v := ?_) (by rfl) (fun W' hS' => ?_) ?_ -- 1
  rotate_left
  · clear hS'; (go_simp; first | with_reducible rfl | rfl)
  try simp only [Act.put, List.setIfInBounds_toArray, List.set_cons_zero, List.set_cons_succ]
  refine hd_pure (v := ?_) (by rfl) (fun W' hS' => ?_) ?_ -- 2
  rotate_left
  · clear hS'; (go_simp; first | with_reducible rfl | rfl)
  try simp only [Act.put, List.setIfInBounds_toArray, List.set_cons_zero, List.set_cons_succ]
  refine hd_pure (v := ?_) (by rfl) (fun W' hS' => ?_) ?_ -- 3
  rotate_left
  · clear hS'; (go_simp; first | with_reducible rfl | rfl)
  try simp only [Act.put, List.setIfInBounds_toArray, List.set_cons_zero, List.set_cons_succ]
  refine hd_pure (v := ?_) (by rfl) (fun W' hS' => ?_) ?_ -- 4
  rotate_left
  · clear hS'; (go_simp; first | with_reducible rfl | rfl)
  try simp only [Act.put, List.setIfInBounds_toArray, List.set_cons_zero, List.set_cons_succ]
  refine hd_pure (v := ?_) (by rfl) (fun W' hS' => ?_) ?_ -- 5
  rotate_left
  · clear hS'; (go_simp; first | with_reducible rfl | rfl)
  try simp only [Act.put, List.setIfInBounds_toArray, List.set_cons_zero, List.set_cons_succ]
  refine hd_pure (v := ?_) (by rfl) (fun W' hS' => ?_) ?_ -- 6
  rotate_left
  · clear hS'; (go_simp; first | with_reducible rfl | rfl)
  try simp only [Act.put, List.setIfInBounds_toArray, List.set_cons_zero, List.set_cons_succ]
  refine hd_pure (v := ?_) (by rfl) (fun W' hS' => ?_) ?_ -- 7
  rotate_left
  · clear hS'; (go_simp; first | with_reducible rfl | rfl)
  try simp only [Act.put, List.setIfInBounds_toArray, List.set_cons_zero, List.set_cons_succ]
  refine hd_pure (v := ?_) (by rfl) (fun W' hS' => ?_) ?_ -- 8
  rotate_left
  · clear hS'; (go_simp; first | with_reducible rfl | rfl)
  try simp only [Act.put, List.setIfInBounds_toArray, List.set_cons_zero, List.set_cons_succ]
  refine hd_pure (v := ?_) (by rfl) (fun W' hS' => ?_) ?_ -- 9
  rotate_left
  · clear hS'; (go_simp; first | with_reducible rfl | rfl)
  try simp only [Act.put, List.setIfInBounds_toArray, List.set_cons_zero, List.set_cons_succ]
  refine hd_pure (v := ?_) (by rfl) (fun W' hS' => ?_) ?_ -- 10
  rotate_left
  · clear hS'; (go_simp; first | with_reducible rfl | rfl)
  try simp only [Act.put, List.setIfInBounds_toArray, List.set_cons_zero, List.set_cons_succ]
  refine hd_pure (v := ?_) (by rfl) (fun W' hS' => ?_) ?_ -- 11
  rotate_left
  · clear hS'; (go_simp; first | with_reducible rfl | rfl)
  try simp only [Act.put, List.setIfInBounds_toArray, List.set_cons_zero, List.set_cons_succ]
  refine hd_pure (v := ?_) (by rfl) (fun W' hS' => ?_) ?_ -- 12
  rotate_left
  · clear hS'; (go_simp; first | with_reducible rfl | rfl)
  try simp only [Act.put, List.setIfInBounds_toArray, List.set_cons_zero, List.set_cons_succ]
  refine hd_pure (v := ?_) (by rfl) (fun W' hS' => ?_) ?_ -- 13
  rotate_left
  · clear hS'; (go_simp; first | with_reducible rfl | rfl)
  try simp only [Act.put, List.setIfInBounds_toArray, List.set_cons_zero, List.set_cons_succ]
  refine hd_pure (v := ?_) (by rfl) (fun W' hS' => ?_) ?_ -- 14
  rotate_left
  · clear hS'; (go_simp; first | with_reducible rfl | rfl)
  try simp only [Act.put, List.setIfInBounds_toArray, List.set_cons_zero, List.set_cons_succ]
  refine hd_pure (v := .agg x.cells.toArray) (by rfl) (fun W' hS' => exec_load_at 27 _ (by rfl) g8 0 20 (by rfl) _ _ (by obtain ⟨q, h⟩ := hS'; exact h.rg) (Vrp.cells_length _) Try.underlying27 rfl info_vrp1) ?_ -- 15
  try simp only [Act.put, List.setIfInBounds_toArray, List.set_cons_zero, List.set_cons_succ]
  refine hd_sole (by rfl) (fun K hK => ?_) -- 16
  go_simp
  refine (hten _).mono ?_; rintro e w7 ⟨rfl, hb⟩
  have hS16 := hSW.next hb
  refine hK _ _ (⟨_, hS16⟩) ?_
  clear hK K hSW
  intro hSW
  try simp only [Act.put, List.setIfInBounds_toArray, List.set_cons_zero, List.set_cons_succ]
  refine hd_pure (v := ?_) (by rfl) (fun W' hS' => ?_) ?_ -- 17
  rotate_left
  · clear hS'; (go_simp; first | with_reducible rfl | rfl)
  try simp only [Act.put, List.setIfInBounds_toArray, List.set_cons_zero, List.set_cons_succ]
  refine hd_pure (v := ?_) (by rfl) (fun W' hS' => ?_) ?_ -- 18
  rotate_left
  · clear hS'; (go_simp; first | with_reducible rfl | rfl)
  try simp only [Act.put, List.setIfInBounds_toArray, List.set_cons_zero, List.set_cons_succ]
  refine hd_pure (v := ?_) (by rfl) (fun W' hS' => ?_) ?_ -- 19
  rotate_left
  · clear hS'; (go_simp; first | with_reducible rfl | rfl)
  try simp only [Act.put, List.setIfInBounds_toArray, List.set_cons_zero, List.set_cons_succ]
  refine hd_pure (v := ?_) (by rfl) (fun W' hS' => ?_) ?_ -- 20
  rotate_left
  · clear hS'; (go_simp; first | with_reducible rfl | rfl)
  try simp only [Act.put, List.setIfInBounds_toArray, List.set_cons_zero, List.set_cons_succ]
  refine hd_pure (v := ?_) (by rfl) (fun W' hS' => ?_) ?_ -- 21
  rotate_left
  · clear hS'; (go_simp; first | with_reducible rfl | rfl)
  try simp only [Act.put, List.setIfInBounds_toArray, List.set_cons_zero, List.set_cons_succ]
  refine hd_pure (v := ?_) (by rfl) (fun W' hS' => ?_) ?_ -- 22
  rotate_left
  · clear hS'; (go_simp; first | with_reducible rfl | rfl)
  try simp only [Act.put, List.setIfInBounds_toArray, List.set_cons_zero, List.set_cons_succ]
  refine hd_pure (v := ?_) (by rfl) (fun W' hS' => ?_) ?_ -- 23
  rotate_left
  · clear hS'; (go_simp; first | with_reducible rfl | rfl)
  try simp only [Act.put, List.setIfInBounds_toArray, List.set_cons_zero, List.set_cons_succ]
  refine hd_pure (v := ?_) (by rfl) (fun W' hS' => ?_) ?_ -- 24
  rotate_left
  · clear hS'; (go_simp; first | with_reducible rfl | rfl)
  try simp only [Act.put, List.setIfInBounds_toArray, List.set_cons_zero, List.set_cons_succ]
  refine hd_pure (v := ?_) (by rfl) (fun W' hS' => ?_) ?_ -- 25
  rotate_left
  · clear hS'; (go_simp; first | with_reducible rfl | rfl)
  try simp only [Act.put, List.setIfInBounds_toArray, List.set_cons_zero, List.set_cons_succ]
  refine hd_pure (v := ?_) (by rfl) (fun W' hS' => ?_) ?_ -- 26
  rotate_left
  · clear hS'; (go_simp; first | with_reducible rfl | rfl)
  try simp only [Act.put, List.setIfInBounds_toArray, List.set_cons_zero, List.set_cons_succ]
  refine hd_pure (v := ?_) (by rfl) (fun W' hS' => ?_) ?_ -- 27
  rotate_left
  · clear hS'; (go_simp; first | with_reducible rfl | rfl)
  try simp only [Act.put, List.setIfInBounds_toArray, List.set_cons_zero, List.set_cons_succ]
  refine hd_sole (by rfl) (fun K hK => ?_) -- 28
  go_simp
  obtain ⟨r6, hQ6, hq6⟩ := hS16.r
  refine (rask_any w7 g r6 hQ6.a).mono ?_
  rintro e w9 ⟨A9, c99, r9, rfl, _, hA9, hq9, hF9⟩
  rw [hq6, HK2.out]
  simp only [awR_len.2]
  have hQ9 := hQ6.step hA9 hF9
  have hro9 := hF9.row hQ6.a hS16.ro (by decide)
  refine hK _ _ (⟨_, hQ9.f, hro9, r9, hQ9, rfl⟩) ?_
  clear hK K hSW
  intro hSW
  try simp only [Act.put, List.setIfInBounds_toArray, List.set_cons_zero, List.set_cons_succ]
  refine hd_pure (v := ?_) (by rfl) (fun W' hS' => ?_) ?_ -- 29
  rotate_left
  · clear hS'; (go_simp; first | with_reducible rfl | rfl)
  try simp only [Act.put, List.setIfInBounds_toArray, List.set_cons_zero, List.set_cons_succ]
  refine hd_pure (v := ?_) (by rfl) (fun W' hS' => ?_) ?_ -- 30
  rotate_left
  · clear hS'; (go_simp; first | with_reducible rfl | rfl)
  try simp only [Act.put, List.setIfInBounds_toArray, List.set_cons_zero, List.set_cons_succ]
  refine hd_pure (v := ?_) (by rfl) (fun W' hS' => ?_) ?_ -- 31
  rotate_left
  · clear hS'; (go_simp; first | with_reducible rfl | rfl)
  try simp only [Act.put, List.setIfInBounds_toArray, List.set_cons_zero, List.set_cons_succ]
  refine hd_pure (v := ?_) (by rfl) (fun W' hS' => ?_) ?_ -- 32
  rotate_left
  · clear hS'; (go_simp; first | with_reducible rfl | rfl)
  try simp only [Act.put, List.setIfInBounds_toArray, List.set_cons_zero, List.set_cons_succ]
  refine hd_nil ?_
  clear hSW
  refine wpList_nil (NoPanic.normal ?_)
  have hfin := hQ9.f
  go_wp2_with fail
  go_ret
  exact ⟨rfl, hfin⟩
end Go.Proofs.Ytmoldmnhijcckaa
/- The contract of lanyardref25.Same: whether two lists of messages are the same. Condition: lengths that memory allows. -/
set_option linter.unusedVariables false
set_option linter.unusedSectionVars false
set_option linter.unusedSimpArgs false
namespace Go.Proofs.Ytmoldmnhijcckaa
open Go.RowKit
theorem take_eq_succ {α : Type} {ps qs : List α} {k : Nat} (h1 : k < ps.length) (h2 : k < qs.length) (h : ps.take k = qs.take k) (he : ps[k] = qs[k]) : ps.take (k + 1) = qs.take (k + 1) := by
  rw [List.take_succ_eq_append_getElem h1, List.take_succ_eq_append_getElem h2, h, he]
structure SmAt (w : World) (ps qs : List Pdu) (A A' : Option Addr) (B B' : Nat) (W : World) : Prop where
  ra : Reads W B 26 A ps.length (ps.flatMap Pdu.cells)
  rb : Reads W B' 26 A' qs.length (qs.flatMap Pdu.cells)
  b : Below w.heap.size w W
theorem SmAt.drew {w : World} {ps qs : List Pdu} {A A' : Option Addr} {B B' : Nat} {W : World} (h : SmAt w ps qs A A' B B' W) : SmAt w ps qs A A' B B' W.drew := ⟨h.ra.drew, h.rb.drew, h.b.drew⟩
theorem same_lens (ps qs : List Pdu) (A A' : Option Addr) (c c' : Nat) (w : World) (h : ps.length ≠ qs.length) :
    Calls Try.prog 20 #[.slice A ps.length c, .slice A' qs.length c'] w fun e w' => e = .returned (.bool (decide (ps = qs))) ∧ Below w.heap.size w w' := by
  have H := Lib.hid (show decide (ps = qs) = false from decide_eq_false (fun e => h (by rw [e])))
  have h1 : ((ps.length : Int) != (qs.length : Int)) = true := by simp; omega
  have h2 : ((ps.length : Int) == (qs.length : Int)) = false := by simp; omega
  clear h
  go_enter Try.func20, Try.ntmps20
  go_wp2
  go_ret
  exact ⟨by rw [H.out]; rfl, Below.refl _ _⟩
set_option maxRecDepth 100000 in
set_option maxHeartbeats 2000000 in
theorem same_eqlen (ps qs : List Pdu) (n : Nat) (hn : ps.length = n) (hn' : qs.length = n) (hb : n ≤ 1000000000) (A A' : Option Addr) (c c' B B' : Nat) (w : World) (hB : B ≤ w.heap.size) (hB' : B' ≤ w.heap.size) (ra : Reads w B 26 A n (ps.flatMap Pdu.cells)) (rb : Reads w B' 26 A' n (qs.flatMap Pdu.cells)) :
    Calls Try.prog 20 #[.slice A n c, .slice A' n c'] w fun e w' => e = .returned (.bool (decide (ps = qs))) ∧ Below w.heap.size w w' := by
  have HN := Lib.hid hn
  have HN' := Lib.hid hn'
  have hst : SmAt w ps qs A A' B B' w := ⟨by rw [hn]; exact ra, by rw [hn']; exact rb, Below.refl _ _⟩
  have h1 : ((n : Int) != (n : Int)) = false := by simp
  clear ra rb hn hn'
  go_enter Try.func20, Try.ntmps20
  go_wp2_with fail
  go_loopw [5] (fun i wr => ∃ k : Nat, k ≤ n ∧ i = .int .i64 k ∧ SmAt w ps qs A A' B B' wr ∧ Hid (ps.take k = qs.take k)) (fun i _ => n - (intOf i).toNat)
  case atStart => exact ⟨0, Nat.zero_le _, rfl, hst, Lib.hid rfl⟩
  case round =>
    clear hst
    obtain ⟨k, hk, rfl, hW, HT⟩ := hrel
    by_cases hlt : k < n
    · have hk1 : k < ps.length := by rw [HN.out]; exact hlt
      have hk2 : k < qs.length := by rw [HN'.out]; exact hlt
      obtain ⟨ad, rfl, _, _⟩ := hW.ra.2 (by omega)
      obtain ⟨ad', rfl, _, _⟩ := hW.rb.2 (by omega)
      have hpk : (k : Int) < (n : Int) := by omega
      have hp0 : (0 : Int) ≤ (k : Int) := by omega
      have hq : ∀ W : World, (Go.binOp .neq 29 (.agg (ps[k]).cells.toArray) (.agg (qs[k]).cells.toArray)).run Try.prog W = .ok (.bool (!decide (ps[k] = qs[k]))) W := fun W => neq_pdu _ _ W
      cases he : decide (ps[k] = qs[k])
      ·
        have HE := Lib.hid he
        rw [he] at hq
        clear he
        go_wp2_with fail
        refine reg_sch2 9 [(true, 0), (true, 1), (true, 2), (true, 3), (true, 4), (true, 5), (true, 6), (true, 7), (true, 8)] (by kernel_rfl) (by kernel_rfl) (SmAt w ps qs (some ad) (some ad') B B') (SmAt w ps qs (some ad) (some ad') B B') ?_ ?_ ?_
        · exact hW.drew
        · exact fun _ h => h
        intro W hSW
        simp only [List.map_cons, List.map_nil, List.getD_cons_zero, List.getD_cons_succ, List.drop_succ_cons, List.drop_zero]
        refine hd_pure (v := ?_) (by rfl) (fun W' hS' => ?_) ?_ -- 0
        rotate_left
        · (go_simp; first | with_reducible rfl | rfl)
        try simp only [Act.put, List.setIfInBounds_toArray, List.set_cons_zero, List.set_cons_succ]
        refine hd_pure (v := ?_) (by rfl) (fun W' hS' => ?_) ?_ -- 1
        rotate_left
        · (go_simp; first | with_reducible rfl | rfl)
        try simp only [Act.put, List.setIfInBounds_toArray, List.set_cons_zero, List.set_cons_succ]
        refine hd_pure (v := ?_) (by rfl) (fun W' hS' => ?_) ?_ -- 2
        rotate_left
        · (go_simp; first | with_reducible rfl | rfl)
        try simp only [Act.put, List.setIfInBounds_toArray, List.set_cons_zero, List.set_cons_succ]
        refine hd_pure (v := .agg (ps[k]).cells.toArray) (by rfl) (fun W' hS' => exec_load_adr 29 _ (by rfl) (ad.add (k * 26)) 26 (by first | rfl | (simp [Act.eval]; done)) _ _ (hS'.ra.elem Pdu.cells_length hk1 rfl) (Pdu.cells_length _) Try.underlying29 rfl info_pdu) ?_ -- 3
        try simp only [Act.put, List.setIfInBounds_toArray, List.set_cons_zero, List.set_cons_succ]
        refine hd_pure (v := ?_) (by rfl) (fun W' hS' => ?_) ?_ -- 4
        rotate_left
        · (go_simp; first | with_reducible rfl | rfl)
        try simp only [Act.put, List.setIfInBounds_toArray, List.set_cons_zero, List.set_cons_succ]
        refine hd_pure (v := ?_) (by rfl) (fun W' hS' => ?_) ?_ -- 5
        rotate_left
        · (go_simp; first | with_reducible rfl | rfl)
        try simp only [Act.put, List.setIfInBounds_toArray, List.set_cons_zero, List.set_cons_succ]
        refine hd_pure (v := ?_) (by rfl) (fun W' hS' => ?_) ?_ -- 6
        rotate_left
        · (go_simp; first | with_reducible rfl | rfl)
        try simp only [Act.put, List.setIfInBounds_toArray, List.set_cons_zero, List.set_cons_succ]
        refine hd_pure (v := .agg (qs[k]).cells.toArray) (by rfl) (fun W' hS' => exec_load_adr 29 _ (by rfl) (ad'.add (k * 26)) 26 (by first | rfl | (simp [Act.eval]; done)) _ _ (hS'.rb.elem Pdu.cells_length hk2 rfl) (Pdu.cells_length _) Try.underlying29 rfl info_pdu) ?_ -- 7
        try simp only [Act.put, List.setIfInBounds_toArray, List.set_cons_zero, List.set_cons_succ]
        refine hd_pure (v := ?_) (by rfl) (fun W' hS' => ?_) ?_ -- 8
        rotate_left
        · (go_simp; first | with_reducible rfl | rfl)
        try simp only [Act.put, List.setIfInBounds_toArray, List.set_cons_zero, List.set_cons_succ]
        refine hd_nil ?_
        replace hW := hSW; clear hSW
        refine wpList_nil (NoPanic.normal ?_)
        clear hq
        go_wp2
        go_ret
        exact ⟨by rw [show decide (ps = qs) = false from decide_eq_false (fun e => by subst e; have := HE.out; simp at this)]; rfl, hW.b⟩
      ·
        have HE := Lib.hid he
        rw [he] at hq
        clear he
        go_wp2_with fail
        refine reg_sch2 9 [(true, 0), (true, 1), (true, 2), (true, 3), (true, 4), (true, 5), (true, 6), (true, 7), (true, 8)] (by kernel_rfl) (by kernel_rfl) (SmAt w ps qs (some ad) (some ad') B B') (SmAt w ps qs (some ad) (some ad') B B') ?_ ?_ ?_
        · exact hW.drew
        · exact fun _ h => h
        intro W hSW
        simp only [List.map_cons, List.map_nil, List.getD_cons_zero, List.getD_cons_succ, List.drop_succ_cons, List.drop_zero]
        refine hd_pure (v := ?_) (by rfl) (fun W' hS' => ?_) ?_ -- 0
        rotate_left
        · (go_simp; first | with_reducible rfl | rfl)
        try simp only [Act.put, List.setIfInBounds_toArray, List.set_cons_zero, List.set_cons_succ]
        refine hd_pure (v := ?_) (by rfl) (fun W' hS' => ?_) ?_ -- 1
        rotate_left
        · (go_simp; first | with_reducible rfl | rfl)
        try simp only [Act.put, List.setIfInBounds_toArray, List.set_cons_zero, List.set_cons_succ]
        refine hd_pure (v := ?_) (by rfl) (fun W' hS' => ?_) ?_ -- 2
        rotate_left
        · (go_simp; first | with_reducible rfl | rfl)
        try simp only [Act.put, List.setIfInBounds_toArray, List.set_cons_zero, List.set_cons_succ]
        refine hd_pure (v := .agg (ps[k]).cells.toArray) (by rfl) (fun W' hS' => exec_load_adr 29 _ (by rfl) (ad.add (k * 26)) 26 (by first | rfl | (simp [Act.eval]; done)) _ _ (hS'.ra.elem Pdu.cells_length hk1 rfl) (Pdu.cells_length _) Try.underlying29 rfl info_pdu) ?_ -- 3
        try simp only [Act.put, List.setIfInBounds_toArray, List.set_cons_zero, List.set_cons_succ]
        refine hd_pure (v := ?_) (by rfl) (fun W' hS' => ?_) ?_ -- 4
        rotate_left
        · (go_simp; first | with_reducible rfl | rfl)
        try simp only [Act.put, List.setIfInBounds_toArray, List.set_cons_zero, List.set_cons_succ]
        refine hd_pure (v := ?_) (by rfl) (fun W' hS' => ?_) ?_ -- 5
        rotate_left
        · (go_simp; first | with_reducible rfl | rfl)
        try simp only [Act.put, List.setIfInBounds_toArray, List.set_cons_zero, List.set_cons_succ]
        refine hd_pure (v := ?_) (by rfl) (fun W' hS' => ?_) ?_ -- 6
        rotate_left
        · (go_simp; first | with_reducible rfl | rfl)
        try simp only [Act.put, List.setIfInBounds_toArray, List.set_cons_zero, List.set_cons_succ]
        refine hd_pure (v := .agg (qs[k]).cells.toArray) (by rfl) (fun W' hS' => exec_load_adr 29 _ (by rfl) (ad'.add (k * 26)) 26 (by first | rfl | (simp [Act.eval]; done)) _ _ (hS'.rb.elem Pdu.cells_length hk2 rfl) (Pdu.cells_length _) Try.underlying29 rfl info_pdu) ?_ -- 7
        try simp only [Act.put, List.setIfInBounds_toArray, List.set_cons_zero, List.set_cons_succ]
        refine hd_pure (v := ?_) (by rfl) (fun W' hS' => ?_) ?_ -- 8
        rotate_left
        · (go_simp; first | with_reducible rfl | rfl)
        try simp only [Act.put, List.setIfInBounds_toArray, List.set_cons_zero, List.set_cons_succ]
        refine hd_nil ?_
        replace hW := hSW; clear hSW
        refine wpList_nil (NoPanic.normal ?_)
        clear hq
        go_wp2_with fail
        go_roundw
        case rel => exact ⟨k + 1, by omega, by go_num, hW, Lib.hid (take_eq_succ hk1 hk2 HT.out (of_decide_eq_true HE.out))⟩
        case measure => simp [intOf]; omega
    · have hkn : k = n := by omega
      have HE := Lib.hid (show decide (ps = qs) = true from decide_eq_true (by
        have h := HT.out
        rw [List.take_of_length_le (by rw [HN.out]; omega), List.take_of_length_le (by rw [HN'.out]; omega)] at h
        exact h))
      subst hkn
      clear hlt
      go_wp2
      go_ret
      exact ⟨by rw [HE.out]; rfl, hW.b⟩
end Go.Proofs.Ytmoldmnhijcckaa
/- The contract of lanyardref18.Same: whether two rows are the same. Condition: lengths that memory allows. -/
set_option linter.unusedVariables false
set_option linter.unusedSectionVars false
set_option linter.unusedSimpArgs false
namespace Go.Proofs.Ytmoldmnhijcckaa
open Go.RowKit
structure SmV (w : World) (ps qs : List Vrp) (A A' : Option Addr) (B B' : Nat) (W : World) : Prop where
  ra : Reads W B 20 A ps.length (ps.flatMap Vrp.cells)
  rb : Reads W B' 20 A' qs.length (qs.flatMap Vrp.cells)
  b : Below w.heap.size w W
theorem SmV.drew {w : World} {ps qs : List Vrp} {A A' : Option Addr} {B B' : Nat} {W : World} (h : SmV w ps qs A A' B B' W) : SmV w ps qs A A' B B' W.drew := ⟨h.ra.drew, h.rb.drew, h.b.drew⟩
theorem samev_lens (ps qs : List Vrp) (A A' : Option Addr) (c c' : Nat) (w : World) (h : ps.length ≠ qs.length) :
    Calls Try.prog 27 #[.slice A ps.length c, .slice A' qs.length c'] w fun e w' => e = .returned (.bool (decide (ps = qs))) ∧ Below w.heap.size w w' := by
  have H := Lib.hid (show decide (ps = qs) = false from decide_eq_false (fun e => h (by rw [e])))
  have h1 : ((ps.length : Int) != (qs.length : Int)) = true := by simp; omega
  have h2 : ((ps.length : Int) == (qs.length : Int)) = false := by simp; omega
  clear h
  go_enter Try.func27, Try.ntmps27
  go_wp2
  go_ret
  exact ⟨by rw [H.out]; rfl, Below.refl _ _⟩
set_option maxRecDepth 100000 in
set_option maxHeartbeats 2000000 in
theorem samev_eqlen (ps qs : List Vrp) (n : Nat) (hn : ps.length = n) (hn' : qs.length = n) (hb : n ≤ 1000000000) (A A' : Option Addr) (c c' B B' : Nat) (w : World) (hB : B ≤ w.heap.size) (hB' : B' ≤ w.heap.size) (ra : Reads w B 20 A n (ps.flatMap Vrp.cells)) (rb : Reads w B' 20 A' n (qs.flatMap Vrp.cells)) :
    Calls Try.prog 27 #[.slice A n c, .slice A' n c'] w fun e w' => e = .returned (.bool (decide (ps = qs))) ∧ Below w.heap.size w w' := by
  have HN := Lib.hid hn
  have HN' := Lib.hid hn'
  have hst : SmV w ps qs A A' B B' w := ⟨by rw [hn]; exact ra, by rw [hn']; exact rb, Below.refl _ _⟩
  have h1 : ((n : Int) != (n : Int)) = false := by simp
  clear ra rb hn hn'
  go_enter Try.func27, Try.ntmps27
  go_wp2_with fail
  go_loopw [5] (fun i wr => ∃ k : Nat, k ≤ n ∧ i = .int .i64 k ∧ SmV w ps qs A A' B B' wr ∧ Hid (ps.take k = qs.take k)) (fun i _ => n - (intOf i).toNat)
  case atStart => exact ⟨0, Nat.zero_le _, rfl, hst, Lib.hid rfl⟩
  case round =>
    clear hst
    obtain ⟨k, hk, rfl, hW, HT⟩ := hrel
    by_cases hlt : k < n
    · have hk1 : k < ps.length := by rw [HN.out]; exact hlt
      have hk2 : k < qs.length := by rw [HN'.out]; exact hlt
      obtain ⟨ad, rfl, _, _⟩ := hW.ra.2 (by omega)
      obtain ⟨ad', rfl, _, _⟩ := hW.rb.2 (by omega)
      have hpk : (k : Int) < (n : Int) := by omega
      have hp0 : (0 : Int) ≤ (k : Int) := by omega
      have hq : ∀ W : World, (Go.binOp .neq 27 (.agg (ps[k]).cells.toArray) (.agg (qs[k]).cells.toArray)).run Try.prog W = .ok (.bool (!decide (ps[k] = qs[k]))) W := fun W => neq_vrp _ _ W
      cases he : decide (ps[k] = qs[k])
      ·
        have HE := Lib.hid he
        rw [he] at hq
        clear he
        go_wp2_with fail
        refine reg_sch2 9 [(true, 0), (true, 1), (true, 2), (true, 3), (true, 4), (true, 5), (true, 6), (true, 7), (true, 8)] (by kernel_rfl) (by kernel_rfl) (SmV w ps qs (some ad) (some ad') B B') (SmV w ps qs (some ad) (some ad') B B') ?_ ?_ ?_
        · exact hW.drew
        · exact fun _ h => h
        intro W hSW
        simp only [List.map_cons, List.map_nil, List.getD_cons_zero, List.getD_cons_succ, List.drop_succ_cons, List.drop_zero]
        refine hd_pure (v := ?_) (by rfl) (fun W' hS' => ?_) ?_ -- 0
        rotate_left
        · (go_simp; first | with_reducible rfl | rfl)
        try simp only [Act.put, List.setIfInBounds_toArray, List.set_cons_zero, List.set_cons_succ]
        refine hd_pure (v := ?_) (by rfl) (fun W' hS' => ?_) ?_ -- 1
        rotate_left
        · (go_simp; first | with_reducible rfl | rfl)
        try simp only [Act.put, List.setIfInBounds_toArray, List.set_cons_zero, List.set_cons_succ]
        refine hd_pure (v := ?_) (by rfl) (fun W' hS' => ?_) ?_ -- 2
        rotate_left
        · (go_simp; first | with_reducible rfl | rfl)
        try simp only [Act.put, List.setIfInBounds_toArray, List.set_cons_zero, List.set_cons_succ]
        refine hd_pure (v := .agg (ps[k]).cells.toArray) (by rfl) (fun W' hS' => exec_load_adr 27 _ (by rfl) (ad.add (k * 20)) 20 (by first | rfl | (simp [Act.eval]; done)) _ _ (hS'.ra.elem Vrp.cells_length hk1 rfl) (Vrp.cells_length _) Try.underlying27 rfl info_vrp) ?_ -- 3
        try simp only [Act.put, List.setIfInBounds_toArray, List.set_cons_zero, List.set_cons_succ]
        refine hd_pure (v := ?_) (by rfl) (fun W' hS' => ?_) ?_ -- 4
        rotate_left
        · (go_simp; first | with_reducible rfl | rfl)
        try simp only [Act.put, List.setIfInBounds_toArray, List.set_cons_zero, List.set_cons_succ]
        refine hd_pure (v := ?_) (by rfl) (fun W' hS' => ?_) ?_ -- 5
        rotate_left
        · (go_simp; first | with_reducible rfl | rfl)
        try simp only [Act.put, List.setIfInBounds_toArray, List.set_cons_zero, List.set_cons_succ]
        refine hd_pure (v := ?_) (by rfl) (fun W' hS' => ?_) ?_ -- 6
        rotate_left
        · (go_simp; first | with_reducible rfl | rfl)
        try simp only [Act.put, List.setIfInBounds_toArray, List.set_cons_zero, List.set_cons_succ]
        refine hd_pure (v := .agg (qs[k]).cells.toArray) (by rfl) (fun W' hS' => exec_load_adr 27 _ (by rfl) (ad'.add (k * 20)) 20 (by first | rfl | (simp [Act.eval]; done)) _ _ (hS'.rb.elem Vrp.cells_length hk2 rfl) (Vrp.cells_length _) Try.underlying27 rfl info_vrp) ?_ -- 7
        try simp only [Act.put, List.setIfInBounds_toArray, List.set_cons_zero, List.set_cons_succ]
        refine hd_pure (v := ?_) (by rfl) (fun W' hS' => ?_) ?_ -- 8
        rotate_left
        · (go_simp; first | with_reducible rfl | rfl)
        try simp only [Act.put, List.setIfInBounds_toArray, List.set_cons_zero, List.set_cons_succ]
        refine hd_nil ?_
        replace hW := hSW; clear hSW
        refine wpList_nil (NoPanic.normal ?_)
        clear hq
        go_wp2
        go_ret
        exact ⟨by rw [show decide (ps = qs) = false from decide_eq_false (fun e => by subst e; have := HE.out; simp at this)]; rfl, hW.b⟩
      ·
        have HE := Lib.hid he
        rw [he] at hq
        clear he
        go_wp2_with fail
        refine reg_sch2 9 [(true, 0), (true, 1), (true, 2), (true, 3), (true, 4), (true, 5), (true, 6), (true, 7), (true, 8)] (by kernel_rfl) (by kernel_rfl) (SmV w ps qs (some ad) (some ad') B B') (SmV w ps qs (some ad) (some ad') B B') ?_ ?_ ?_
        · exact hW.drew
        · exact fun _ h => h
        intro W hSW
        simp only [List.map_cons, List.map_nil, List.getD_cons_zero, List.getD_cons_succ, List.drop_succ_cons, List.drop_zero]
        refine hd_pure (v := ?_) (by rfl) (fun W' hS' => ?_) ?_ -- 0
        rotate_left
        · (go_simp; first | with_reducible rfl | rfl)
        try simp only [Act.put, List.setIfInBounds_toArray, List.set_cons_zero, List.set_cons_succ]
        refine hd_pure (v := ?_) (by rfl) (fun W' hS' => ?_) ?_ -- 1
        rotate_left
        · (go_simp; first | with_reducible rfl | rfl)
        try simp only [Act.put, List.setIfInBounds_toArray, List.set_cons_zero, List.set_cons_succ]
        refine hd_pure (v := ?_) (by rfl) (fun W' hS' => ?_) ?_ -- 2
        rotate_left
        · (go_simp; first | with_reducible rfl | rfl)
        try simp only [Act.put, List.setIfInBounds_toArray, List.set_cons_zero, List.set_cons_succ]
        refine hd_pure (v := .agg (ps[k]).cells.toArray) (by rfl) (fun W' hS' => exec_load_adr 27 _ (by rfl) (ad.add (k * 20)) 20 (by first | rfl | (simp [Act.eval]; done)) _ _ (hS'.ra.elem Vrp.cells_length hk1 rfl) (Vrp.cells_length _) Try.underlying27 rfl info_vrp) ?_ -- 3
        try simp only [Act.put, List.setIfInBounds_toArray, List.set_cons_zero, List.set_cons_succ]
        refine hd_pure (v := ?_) (by rfl) (fun W' hS' => ?_) ?_ -- 4
        rotate_left
        · (go_simp; first | with_reducible rfl | rfl)
        try simp only [Act.put, List.setIfInBounds_toArray, List.set_cons_zero, List.set_cons_succ]
        refine hd_pure (v := ?_) (by rfl) (fun W' hS' => ?_) ?_ -- 5
        rotate_left
        · (go_simp; first | with_reducible rfl | rfl)
        try simp only [Act.put, List.setIfInBounds_toArray, List.set_cons_zero, List.set_cons_succ]
        refine hd_pure (v := ?_) (by rfl) (fun W' hS' => ?_) ?_ -- 6
        rotate_left
        · (go_simp; first | with_reducible rfl | rfl)
        try simp only [Act.put, List.setIfInBounds_toArray, List.set_cons_zero, List.set_cons_succ]
        refine hd_pure (v := .agg (qs[k]).cells.toArray) (by rfl) (fun W' hS' => exec_load_adr 27 _ (by rfl) (ad'.add (k * 20)) 20 (by first | rfl | (simp [Act.eval]; done)) _ _ (hS'.rb.elem Vrp.cells_length hk2 rfl) (Vrp.cells_length _) Try.underlying27 rfl info_vrp) ?_ -- 7
        try simp only [Act.put, List.setIfInBounds_toArray, List.set_cons_zero, List.set_cons_succ]
        refine hd_pure (v := ?_) (by rfl) (fun W' hS' => ?_) ?_ -- 8
        rotate_left
        · (go_simp; first | with_reducible rfl | rfl)
        try simp only [Act.put, List.setIfInBounds_toArray, List.set_cons_zero, List.set_cons_succ]
        refine hd_nil ?_
        replace hW := hSW; clear hSW
        refine wpList_nil (NoPanic.normal ?_)
        clear hq
        go_wp2_with fail
        go_roundw
        case rel => exact ⟨k + 1, by omega, by go_num, hW, Lib.hid (take_eq_succ hk1 hk2 HT.out (of_decide_eq_true HE.out))⟩
        case measure => simp [intOf]; omega
    · have hkn : k = n := by omega
      have HE := Lib.hid (show decide (ps = qs) = true from decide_eq_true (by
        have h := HT.out
        rw [List.take_of_length_le (by rw [HN.out]; omega), List.take_of_length_le (by rw [HN'.out]; omega)] at h
        exact h))
      subst hkn
      clear hlt
      go_wp2
      go_ret
      exact ⟨by rw [HE.out]; rfl, hW.b⟩
theorem samev_any (ps qs : List Vrp) (hb : ps.length ≤ 1000000000) (A A' : Option Addr) (c c' B B' : Nat) (w : World) (hB : B ≤ w.heap.size) (hB' : B' ≤ w.heap.size) (ra : Reads w B 20 A ps.length (ps.flatMap Vrp.cells)) (rb : Reads w B' 20 A' qs.length (qs.flatMap Vrp.cells)) :
    Calls Try.prog 27 #[.slice A ps.length c, .slice A' qs.length c'] w fun e w' => e = .returned (.bool (decide (ps = qs))) ∧ Below w.heap.size w w' := by
  by_cases h : ps.length = qs.length
  · have := samev_eqlen ps qs ps.length rfl h.symm hb A A' c c' B B' w hB hB' ra (by rw [h]; exact rb)
    rw [← h]
    exact this
  · exact samev_lens ps qs A A' c c' w h
end Go.Proofs.Ytmoldmnhijcckaa
/- The walk of lanyardlaw26.SessionParts: it returns true. -/
set_option linter.unusedVariables false
set_option linter.unusedSectionVars false
set_option linter.unusedSimpArgs false
namespace Go.Proofs.Ytmoldmnhijcckaa
open Go.RowKit
/-- The rest of a row of bytes. -/
theorem cut_tail (A : Option Addr) (c n k : Nat) (h1 : k ≤ n) (hc : n ≤ c) : ∃ A2 : Option Addr, (∀ W, (Instr.sliceAt 30 (.slice A n c) (some (.int .i64 (k : Int))) none none).run Try.prog W = .ok (.slice A2 (n - k) (c - k)) W) ∧
    ∀ (W : World) (B : Nat) (bs : List UInt8), Reads W B 1 A n (bs.map bv) → Reads W B 1 A2 (n - k) ((bs.drop k).map bv) := by
  have ht : Try.prog.underlying 30 = some (.slice (Try.prog.elem 30)) := by kernel_rfl
  have he : Try.prog.elem 30 = 5 := by kernel_rfl
  refine ⟨(if c = k then A else A.map (·.add (k * 1))), fun W => ?_, fun W B bs h => ?_⟩
  · rw [run_sliceAt_slice _ _ _ _ _ _ ht, run_slice_l _ _ _ _ _ ht _ _ (by omega) (by omega), he, Try.sizeOf5]
    simp [Result.andThen, sliced]
  · have := cutR h h1 hc
    rw [Nat.mul_one]
    exact this
/-- One cache behind what was there. -/
structure C1 (w : World) (lc gc bc : Nat) (sn : UInt32) (vc : Value) (sc : List SetV) (fc : Int → Option Lf) (mc : Int) (W : World) : Prop where
  c : CA W lc gc bc 7 sn vc sc fc mc
  lo : Below w.heap.size w W
  l1 : w.heap.size ≤ lc
section
variable {w W W' : World} {lc gc bc : Nat} {sn : UInt32} {vc : Value} {sc : List SetV} {fc f' : Int → Option Lf} {mc m' : Int}
theorem C1.step (h : C1 w lc gc bc sn vc sc fc mc W) (hC : CA W' lc gc bc 7 sn vc sc f' m') (hF : Fr2 W W' gc bc) : C1 w lc gc bc sn vc sc f' m' W' :=
  ⟨hC, fr2_lo h.lo h.l1 h.c.l1 h.c.l2 hF, h.l1⟩
theorem C1.next (h : C1 w lc gc bc sn vc sc fc mc W) (hb : Below W.heap.size W W') : C1 w lc gc bc sn vc sc fc mc W' :=
  ⟨h.c.next hb, below_then h.lo (Nat.le_refl _) hb, h.l1⟩
end
set_option maxRecDepth 100000 in
set_option maxHeartbeats 2000000 in
theorem parts26_far (w : World) (xs : List SL) (A : Option Addr) (c B : Nat) (hc : xs.length ≤ c) (hm : c ≤ maxLen) (hr : Reads w B 1 A xs.length (xs.map SL.val)) (hrx : ∀ x ∈ xs, x.l.length ≤ x.c ∧ x.c ≤ maxLen ∧ Reads w B 20 x.A x.l.length (x.l.flatMap Vrp.cells))
    (as1 : List UInt8) (A1 : Option Addr) (c1 : Nat) (n : Int) (hB : B ≤ w.heap.size) (hbig : ¬ (as1.length ≤ 600 ∧ 0 ≤ n)) :
    Calls Try.prog 10 #[.slice A xs.length c, .slice A1 as1.length c1, .int .i64 n] w fun e w' => e = .returned (.bool true) ∧ Below w.heap.size w w' := by
  by_cases h1 : as1.length ≤ 600
  · have d1 : decide ((600 : Int) < (as1.length : Int)) = false := decide_eq_false (by omega)
    have d2 : decide (n < 0) = true := decide_eq_true (by omega)
    clear h1 hbig
    go_enter Try.func10, Try.ntmps10
    go_wp2_with fail
    refine (awake26_any w).mono ?_
    rintro e w1 ⟨rfl, hb1⟩
    go_wp2_with fail
    refine (few_any xs _ rfl A c _ (by simp only [maxLen] at hm; omega) w1 (by have := hb1.size; omega) (hr.below hb1 hB) (fun x hx => by have := hrx x hx; simp only [maxLen] at this; omega)).mono ?_
    rintro e w2 ⟨r, rfl, hfew, hb2⟩
    have hlo := below_then hb1 (Nat.le_refl _) hb2
    clear hb1 hb2
    cases r <;> (go_wp2_with fail; go_ret; exact ⟨rfl, hlo⟩)
  · have d1 : decide ((600 : Int) < (as1.length : Int)) = true := decide_eq_true (by omega)
    clear h1 hbig
    go_enter Try.func10, Try.ntmps10
    go_wp2_with fail
    refine (awake26_any w).mono ?_
    rintro e w1 ⟨rfl, hb1⟩
    go_wp2_with fail
    refine (few_any xs _ rfl A c _ (by simp only [maxLen] at hm; omega) w1 (by have := hb1.size; omega) (hr.below hb1 hB) (fun x hx => by have := hrx x hx; simp only [maxLen] at this; omega)).mono ?_
    rintro e w2 ⟨r, rfl, hfew, hb2⟩
    have hlo := below_then hb1 (Nat.le_refl _) hb2
    clear hb1 hb2
    cases r <;> (go_wp2_with fail; go_ret; exact ⟨rfl, hlo⟩)
theorem C1.closed {w W : World} {lc gc bc : Nat} {sn : UInt32} {vc : Value} {sc : List SetV} {fc : Int → Option Lf} {mc : Int} (h : C1 w lc gc bc sn vc sc fc mc W) : ∃ f, f = fc ∧ C1 w lc gc bc sn vc sc f mc W := ⟨fc, rfl, h⟩
theorem isSome_map {x : Option Lf} {r : Option (List UInt8)} (h : x.map Lf.bs = r) : x.isSome = r.isSome := by rw [← h]; cases x <;> rfl
theorem str_app (a b : List UInt8) : (ByteArray.mk a.toArray) ++ (ByteArray.mk b.toArray) = ByteArray.mk (a ++ b).toArray := by
  apply ByteArray.ext
  simp
theorem run_str_add (a b : List UInt8) (h : a.length + b.length ≤ 1000000000) (W : World) : (Go.binOp .add 9 (.string (ByteArray.mk a.toArray)) (.string (ByteArray.mk b.toArray))).run Try.prog W = .ok (.string (ByteArray.mk (a ++ b).toArray)) W := by
  have hne : ¬ (((ByteArray.mk a.toArray).size + (ByteArray.mk b.toArray).size : Nat) : Int) > IntKind.i64.max := by
    have h1 : (ByteArray.mk a.toArray).size = a.length := by simp [ByteArray.size]
    have h2 : (ByteArray.mk b.toArray).size = b.length := by simp [ByteArray.size]
    rw [h1, h2]
    have : IntKind.i64.max = 9223372036854775807 := by decide
    omega
  rw [← str_app]
  simp only [Go.binOp, Op.stringOp, if_neg hne]
  first | rfl | simp [run_underlying Try.underlying9] | (simp [run_underlying Try.underlying9, Op.stringOp, hne])
set_option maxRecDepth 100000 in
set_option maxHeartbeats 3000000 in
theorem parts26_near (w : World) (xs : List SL) (A : Option Addr) (c B : Nat) (hc : xs.length ≤ c) (hm : c ≤ maxLen) (hr : Reads w B 1 A xs.length (xs.map SL.val)) (hrx : ∀ x ∈ xs, x.l.length ≤ x.c ∧ x.c ≤ maxLen ∧ Reads w B 20 x.A x.l.length (x.l.flatMap Vrp.cells))
    (as1 : List UInt8) (N : Nat) (hN : as1.length = N) (A1 : Option Addr) (c1 : Nat) (hc1 : N ≤ c1) (hr1 : Reads w B 1 A1 N (as1.map bv)) (n : Nat) (hB : B ≤ w.heap.size) (h1 : N ≤ 600) :
    Calls Try.prog 10 #[.slice A xs.length c, .slice A1 N c1, .int .i64 n] w fun e w' => e = .returned (.bool true) ∧ Below w.heap.size w w' := by
  have d1 : decide ((600 : Int) < (N : Int)) = false := decide_eq_false (by omega)
  have d2 : decide ((n : Int) < 0) = false := decide_eq_false (by omega)
  have HN := Lib.hid hN
  clear hN
  go_enter Try.func10, Try.ntmps10
  go_wp2_with fail
  refine (awake26_any w).mono ?_
  rintro e w1 ⟨rfl, hb1⟩
  go_wp2_with fail
  refine (few_any xs _ rfl A c _ (by simp only [maxLen] at hm; omega) w1 (by have := hb1.size; omega) (hr.below hb1 hB) (fun x hx => by have := hrx x hx; simp only [maxLen] at this; omega)).mono ?_
  rintro e w2 ⟨r, rfl, hfew, hb2⟩
  have hlo := below_then hb1 (Nat.le_refl _) hb2
  clear hb1 hb2
  cases r
  · go_wp2_with fail
    go_ret
    exact ⟨rfl, hlo⟩
  obtain ⟨h12, h60⟩ := hfew rfl
  have H60 := Lib.hid h60
  clear hfew h12 h60
  go_wp2_with fail
  clear d1 d2
  refine (made_any xs _ rfl A c _ (by simp only [maxLen] at hm; omega) w2 (by have := hlo.size; omega) (hr.below hlo hB) H60.out (fun x hx => (hrx x hx).2.2.below hlo hB)).mono ?_
  rintro e w3 ⟨gc, bc, vc, sc, rfl, hC, hac, h5c, h6c, hb3⟩
  have hC1 : C1 w w2.heap.size gc bc (mkF (xs.map SL.l)).1 vc sc noLf 0 w3 := ⟨hC, below_then hlo (Nat.le_refl _) hb3, hlo.size⟩
  have H5 := Lib.hid (show sc.length ≤ 5 ∧ ∀ s ∈ sc, s.l.length ≤ 60 from ⟨h5c, h6c⟩)
  generalize (mkF (xs.map SL.l)).1 = sn at hC1
  generalize w2.heap.size = lc at hC1
  clear hC hb3 hlo hac h5c h6c H60 hr hrx hc hm
  go_wp2_with fail
  refine (open_any w3 _ _ _ _ _ _ _ _ _ hC1.c (by omega) (by omega)).mono ?_
  rintro e w5 ⟨rfl, hO, hF⟩
  replace hC1 := hC1.step hO hF
  clear hO hF
  go_wp2_with fail
  refine (open_any w5 _ _ _ _ _ _ _ _ _ hC1.c (by omega) (by omega)).mono ?_
  rintro e w6 ⟨rfl, hO, hF⟩
  replace hC1 := hC1.step hO hF
  clear hO hF
  have hmN : n % (N + 1) ≤ N := by have := Nat.mod_lt n (show 0 < N + 1 by omega); omega
  have e1 : (n : Int) % ((N : Int) + 1) = ((n % (N + 1) : Nat) : Int) := by rw [Int.natCast_emod, Int.natCast_add]; rfl
  have e2 : Int.tmod (n : Int) ((N : Int) + 1) = ((n % (N + 1) : Nat) : Int) := rfl
  have hN0 : ((N : Int) + 1 == 0) = false := beq_eq_false_iff_ne.2 (by omega)
  generalize n % (N + 1) = m at hmN e1 e2
  go_wp2_with fail
  refine (feed_any 0 as1 _ HN.out A1 c1 _ (by omega) w6 _ _ _ _ _ _ _ _ _ hC1.c (by have := H5.out.1; omega) (fun s hs => by have := H5.out.2 s hs; omega) ⟨none, 0, []⟩ rfl (by simp) (by have := hC1.lo.size; omega) (hr1.below hC1.lo hB) (feedF_len 7 sc [] as1 H5.out.2 (by rw [HN.out]; simp; omega))).mono ?_
  rintro e w7 ⟨Aa, ca, xa, rfl, hov, hxa, hO, hF⟩
  replace hC1 := hC1.step hO (Fr2.of' hF)
  clear hO hF e1 e2 hN0
  have hmi : (m : Int) ≤ (c1 : Int) := by omega
  have hmi' : m ≤ c1 := by omega
  have hmN' : (m : Int) ≤ (N : Int) := by omega
  have hm0 : (0 : Int) ≤ (m : Int) := by omega
  have HP := Lib.hid (feed_parts 7 sc [] (as1.take m) (as1.drop m))
  rw [List.take_append_drop] at HP
  have HXA := Lib.hid hxa
  clear hxa
  go_wp2_with fail
  refine (feed_any 1 (as1.take m) m (by rw [List.length_take, HN.out]; omega) A1 c1 _ (by omega) w7 _ _ _ _ _ _ _ _ _ hC1.c (by have := H5.out.1; omega) (fun s hs => by have := H5.out.2 s hs; omega) ⟨none, 0, []⟩ rfl (by simp) (by have := hC1.lo.size; omega) ((hr1.below hC1.lo hB).take1 hmN) (feedF_len 7 sc [] (as1.take m) H5.out.2 (by rw [List.length_take, HN.out]; simp; omega))).mono ?_
  rintro e w8 ⟨Ab, cb, xb, rfl, hov1, hxb, hO, hF⟩
  replace hov := own_maps (f' := fun _ => none) hC1.c.mp hF hov
  replace hC1 := hC1.step hO (Fr2.of' hF)
  clear hO hF
  have HXB := Lib.hid hxb
  clear hxb
  cases hrr : (feedF 7 sc [] (as1.take m)).2 with
  | none =>
    have hal := HP.out.2 hrr
    have hb0 := HXB.out
    rw [hrr] at hb0
    have ha0 := HXA.out
    rw [hal] at ha0
    have ho3 : (feedF 7 sc [] as1).1 = (feedF 7 sc [] (as1.take m)).1 ++ [] := by rw [hal, List.append_nil]
    generalize (feedF 7 sc [] as1).1 = o3 at hov ho3 ⊢
    have HO3 := Lib.hid ho3
    clear ho3
    have hbn : xb = none := by simpa using hb0
    have han : xa = none := by simpa using ha0
    subst hbn
    subst han
    clear hrr hal hb0 ha0 HP HXA HXB
    have hlo1 := Lib.hid (feedF_len 7 sc [] (as1.take m) H5.out.2 (by rw [List.length_take, HN.out]; simp; omega))
    generalize (feedF 7 sc [] (as1.take m)).1 = o1 at hov1 hlo1 HO3 ⊢
    obtain ⟨A5, hcut, hrc⟩ := cut_tail A1 c1 N m hmN hc1
    go_wp2_with fail
    refine (feed_none 1 (N - m) _ (c1 - m) w8 _ _ _ _ _ _ _ _ _ hC1.c rfl).mono ?_
    rintro e w9 ⟨rfl, rfl⟩
    obtain ⟨q, hq⟩ : ∃ q, q = false := ⟨_, rfl⟩
    obtain ⟨fc, hfc, hC2⟩ := hC1.closed
    clear hC1
    have hC1 := hC2
    clear hC2
    have HQ1 := Lib.hid (show (fc 1).isSome = q by rw [hfc]; exact hq.symm)
    have HQ0 := Lib.hid (show (fc 0).isSome = q by rw [hfc]; exact hq.symm)
    obtain ⟨i, hi⟩ : ∃ i, i = (if q = true then (0 : Int) else 10) := ⟨_, rfl⟩
    have HI := Lib.hid hi
    clear hi hfc hq
    go_wp2_with fail
    refine (close_any 0 _ _ _ _ _ _ _ _ _ _ hC1.c).mono ?_
    rintro e wa ⟨he, hO, hF⟩
    have he' : e = .returned (.int .i64 i) := he.trans (by rw [HI.out, HQ0.out])
    subst he'
    have hs0 := hC1.c.mp
    replace hov := own_maps (f' := fun _ => none) hs0 hF hov
    replace hov1 := own_maps (f' := fun _ => none) hs0 hF hov1
    skip
    replace hC1 := hC1.step hO (Fr2.of' hF)
    clear hO hF hs0 he
    go_wp2_with fail
    refine (close_any 1 _ _ _ _ _ _ _ _ _ _ hC1.c).mono ?_
    rintro e wb ⟨he, hO, hF⟩
    have he' : e = .returned (.int .i64 i) := he.trans (by rw [HI.out, ← HQ1.out]; rfl)
    subst he'
    have hs0 := hC1.c.mp
    replace hov := own_maps (f' := fun _ => none) hs0 hF hov
    replace hov1 := own_maps (f' := fun _ => none) hs0 hF hov1
    skip
    have hfin := (hC1.step hO (Fr2.of' hF)).lo
    clear hO hF hs0 he hC1
    have hsx := (Reads.of_own hov).str ca
    have hsy := (Reads.of_own hov1).str cb
    obtain ⟨o2, ho2⟩ : ∃ o2 : List UInt8, o2 = [] := ⟨_, rfl⟩
    have hsz2 : (convert 30 9 (.slice none 0 0)).run Try.prog wb = .ok (.string (ByteArray.mk o2.toArray)) wb := by rw [ho2]; exact Reads.str (B := 0) (A := none) (w := wb) (bs := []) Reads.nil 0
    have hno : ¬ 9223372036854775807 < o1.length + o2.length := by have := hlo1.out; rw [ho2, List.length_nil]; omega
    have hO3 : (ByteArray.mk o1.toArray ++ ByteArray.mk o2.toArray).toList = o3 := by rw [str_app, ho2, ← HO3.out]; simp
    clear ho2
    clear hov hov1 
    go_wp2_with fail
    go_ret
    exact ⟨rfl, hfin⟩
  | some r =>
    obtain ⟨hrl, hal⟩ := HP.out.1 r hrr
    have hb0 := HXB.out
    rw [hrr] at hb0
    have ha0 := HXA.out
    rw [hal] at ha0
    have ho3 : (feedF 7 sc [] as1).1 = (feedF 7 sc [] (as1.take m)).1 ++ (feedF 7 sc r (as1.drop m)).1 := by rw [hal]
    generalize (feedF 7 sc [] as1).1 = o3 at hov ho3 ⊢
    have HO3 := Lib.hid ho3
    clear ho3
    obtain ⟨x2, rfl, rfl⟩ : ∃ x2, xb = some x2 ∧ x2.bs = r := by
      cases xb with
      | none => cases hb0
      | some x2 => exact ⟨x2, rfl, Option.some.inj hb0⟩
    have hrl2 : x2.bs.length ≤ 600 := by rw [List.length_take, HN.out] at hrl; simp at hrl; omega
    have HA0 := Lib.hid ha0
    clear hrr hal hb0 ha0 HP HXA HXB hrl
    have hlo1 := Lib.hid (feedF_len 7 sc [] (as1.take m) H5.out.2 (by rw [List.length_take, HN.out]; simp; omega))
    generalize (feedF 7 sc [] (as1.take m)).1 = o1 at hov1 hlo1 HO3 ⊢
    obtain ⟨A5, hcut, hrc⟩ := cut_tail A1 c1 N m hmN hc1
    go_wp2_with fail
    refine (feed_any 1 (as1.drop m) (N - m) (by rw [List.length_drop, HN.out]) _ (c1 - m) _ (by omega) w8 _ _ _ _ _ _ _ _ _ hC1.c (by have := H5.out.1; omega) (fun s hs => by have := H5.out.2 s hs; omega) x2 rfl (by omega) (by have := hC1.lo.size; omega) (hrc _ _ _ (hr1.below hC1.lo hB)) (feedF_len 7 sc x2.bs (as1.drop m) H5.out.2 (by rw [List.length_drop, HN.out]; omega))).mono ?_
    rintro e w9 ⟨Ac, cc, xc, rfl, hov2, hxc, hO, hF⟩
    replace hov := own_maps (f' := fun _ => none) hC1.c.mp hF hov
    replace hov1 := own_maps (f' := fun _ => none) hC1.c.mp hF hov1
    replace hC1 := hC1.step hO (Fr2.of' hF)
    clear hO hF
    obtain ⟨q, hq⟩ : ∃ q, q = xc.isSome := ⟨_, rfl⟩
    have hqa : xa.isSome = q := ((isSome_map HA0.out).trans (isSome_map hxc).symm).trans hq.symm
    clear hxc HA0
    have hlo2 := Lib.hid (feedF_len 7 sc x2.bs (as1.drop m) H5.out.2 (by rw [List.length_drop, HN.out]; omega))
    generalize (feedF 7 sc x2.bs (as1.drop m)).1 = o2 at hov2 hlo2 HO3 ⊢
    obtain ⟨fc, hfc, hC2⟩ := hC1.closed
    clear hC1
    have hC1 := hC2
    clear hC2
    have HQ1 := Lib.hid (show (fc 1).isSome = q by rw [hfc]; exact hq.symm)
    have HQ0 := Lib.hid (show (fc 0).isSome = q by rw [hfc]; exact hqa)
    obtain ⟨i, hi⟩ : ∃ i, i = (if q = true then (0 : Int) else 10) := ⟨_, rfl⟩
    have HI := Lib.hid hi
    clear hi hfc hq hqa
    go_wp2_with fail
    refine (close_any 0 _ _ _ _ _ _ _ _ _ _ hC1.c).mono ?_
    rintro e wa ⟨he, hO, hF⟩
    have he' : e = .returned (.int .i64 i) := he.trans (by rw [HI.out, HQ0.out])
    subst he'
    have hs0 := hC1.c.mp
    replace hov := own_maps (f' := fun _ => none) hs0 hF hov
    replace hov1 := own_maps (f' := fun _ => none) hs0 hF hov1
    replace hov2 := own_maps (f' := fun _ => none) hs0 hF hov2
    replace hC1 := hC1.step hO (Fr2.of' hF)
    clear hO hF hs0 he
    go_wp2_with fail
    refine (close_any 1 _ _ _ _ _ _ _ _ _ _ hC1.c).mono ?_
    rintro e wb ⟨he, hO, hF⟩
    have he' : e = .returned (.int .i64 i) := he.trans (by rw [HI.out, ← HQ1.out]; rfl)
    subst he'
    have hs0 := hC1.c.mp
    replace hov := own_maps (f' := fun _ => none) hs0 hF hov
    replace hov1 := own_maps (f' := fun _ => none) hs0 hF hov1
    replace hov2 := own_maps (f' := fun _ => none) hs0 hF hov2
    have hfin := (hC1.step hO (Fr2.of' hF)).lo
    clear hO hF hs0 he hC1
    have hsx := (Reads.of_own hov).str ca
    have hsy := (Reads.of_own hov1).str cb
    have hsz2 := (Reads.of_own hov2).str cc
    have hno : ¬ 9223372036854775807 < o1.length + o2.length := by have := hlo1.out; have := hlo2.out; omega
    have hO3 : (ByteArray.mk o1.toArray ++ ByteArray.mk o2.toArray).toList = o3 := by rw [str_app, ← HO3.out]; simp
    clear hov2
    clear hov hov1 
    go_wp2_with fail
    go_ret
    exact ⟨rfl, hfin⟩
theorem parts26_any (w : World) (xs : List SL) (A : Option Addr) (c B : Nat) (hc : xs.length ≤ c) (hm : c ≤ maxLen) (hr : Reads w B 1 A xs.length (xs.map SL.val)) (hrx : ∀ x ∈ xs, x.l.length ≤ x.c ∧ x.c ≤ maxLen ∧ Reads w B 20 x.A x.l.length (x.l.flatMap Vrp.cells))
    (as1 : List UInt8) (A1 : Option Addr) (c1 B1 : Nat) (hc1 : as1.length ≤ c1) (hr1 : Reads w B1 1 A1 as1.length (as1.map bv)) (n : Int) (hl : -9223372036854775808 ≤ n) (hu : n ≤ 9223372036854775807) (hB : B ≤ w.heap.size) (hB1 : B1 ≤ w.heap.size) :
    Calls Try.prog 10 #[.slice A xs.length c, .slice A1 as1.length c1, .int .i64 n] w fun e w' => e = .returned (.bool true) ∧ Below w.heap.size w w' := by
  have hrx' : ∀ x ∈ xs, x.l.length ≤ x.c ∧ x.c ≤ maxLen ∧ Reads w w.heap.size 20 x.A x.l.length (x.l.flatMap Vrp.cells) := fun x hx => ⟨(hrx x hx).1, (hrx x hx).2.1, (hrx x hx).2.2.more hB⟩
  by_cases h : as1.length ≤ 600 ∧ 0 ≤ n
  · obtain ⟨k, rfl⟩ : ∃ k : Nat, n = k := ⟨n.toNat, by omega⟩
    exact parts26_near w xs A c w.heap.size hc hm (hr.more hB) hrx' as1 as1.length rfl A1 c1 hc1 (hr1.more hB1) k (Nat.le_refl _) h.1
  · exact parts26_far w xs A c w.heap.size hc hm (hr.more hB) hrx' as1 A1 c1 n (Nat.le_refl _) h
end Go.Proofs.Ytmoldmnhijcckaa
/- The walk of lanyardlaw27.RouterParts: it returns true. -/
set_option linter.unusedVariables false
set_option linter.unusedSectionVars false
set_option linter.unusedSimpArgs false
namespace Go.Proofs.Ytmoldmnhijcckaa
open Go.RowKit
/-- How many prefixes a router holds at most. -/
def RoS.big (s : RoS) (N : Nat) : Prop := (∀ t, s.h = some t → t.2.length ≤ N) ∧ (∀ t, s.nx = some t → t.2.length ≤ N)
theorem RoS.big.mono {s : RoS} {N M : Nat} (h : s.big N) (hNM : N ≤ M) : s.big M := ⟨fun t ht => Nat.le_trans (h.1 t ht) hNM, fun t ht => Nat.le_trans (h.2 t ht) hNM⟩
theorem big_take {s : RoS} {N : Nat} (h : s.big N) (p : Pdu) : (takeR s p).1.big (N + 1) := by
  have h1 := h.mono (Nat.le_succ N)
  have hb : (beginR s p).1.big (N + 1) := by
    unfold beginR
    split
    · exact h1
    split
    · split
      · exact h1
      · rename_i t ht
        split
        · exact h1
        · exact ⟨h1.1, fun t' ht' => by cases ht'; exact h1.1 t ht⟩
    · exact ⟨h1.1, fun t' ht' => by cases ht'; simp⟩
  have hc : (changeR s p).1.big (N + 1) := by
    unfold changeR
    split
    · exact h1
    · rename_i t ht
      split
      · split
        · exact h1
        · exact ⟨h1.1, fun t' ht' => by cases ht'; simp only [List.length_append, List.length_singleton]; have := h.2 t ht; omega⟩
      · split
        · exact ⟨h1.1, fun t' ht' => by cases ht'; exact Nat.le_trans (List.length_filter_le _ _) (h1.2 t ht)⟩
        · exact h1
  have he : (endR s p).1.big (N + 1) := by
    unfold endR
    split
    · exact h1
    · rename_i t ht
      split
      · exact h1
      · exact ⟨fun t' ht' => by cases ht'; exact h1.2 t ht, fun t' ht' => by cases ht'⟩
  unfold takeR
  split
  · exact h1
  split
  · exact hb
  split
  · exact hc
  split
  · exact he
  split
  · split
    · exact h1
    · exact ⟨fun t' ht' => (by cases ht'), h1.2⟩
  split
  · split
    · exact h1
    · exact h1
  · exact h1
theorem big_go : ∀ (ps : List Pdu) {s : RoS} {N : Nat}, s.big N → (goR s ps).1.big (N + ps.length)
  | [], _, _, h => h
  | p :: ps, s, N, h => by
    unfold goR
    rw [List.length_cons]
    split
    · exact (big_go ps (big_take h p)).mono (by omega)
    · exact (big_take h p).mono (by omega)
theorem big_takeQ {q : RoQ} {N : Nat} (h : q.s.big N) (bb : List UInt8) : (takeQ q bb).1.s.big (N + (q.l.length + bb.length)) ∧ (takeQ q bb).1.l.length ≤ q.l.length + bb.length := by
  unfold takeQ
  split
  · exact ⟨h.mono (by omega), Nat.le_add_right _ _⟩
  · have hl := allOf_len (q.l ++ bb)
    have h3 := (allOf_app (q.l ++ bb) []).2.2
    rw [List.length_append] at hl h3
    exact ⟨(big_go _ h).mono (by omega), h3⟩
theorem big_ask {q : RoQ} {N : Nat} (h : q.s.big N) : (askQ q).1.s.big N ∧ (askQ q).1.l.length ≤ q.l.length := by
  unfold askQ
  split
  · exact ⟨h, Nat.le_refl _⟩
  · split
    · rename_i hn
      exact ⟨⟨h.1, fun t' ht' => by cases ht'⟩, Nat.zero_le _⟩
    · rename_i t ht
      exact ⟨⟨h.1, fun t' ht' => by cases ht'⟩, Nat.zero_le _⟩
/-- What Has tells. -/
def hasF (h : Option (Int × List Vrp)) (sn : UInt32) : List Vrp × Int × Bool := match h with
  | none => ([], 0, false)
  | some t => (rowOf t.2, sn.toNat, true)
theorem has_g {w w' : World} {h : Option (Int × List Vrp)} {sn : UInt32} {e : Ending} (hP : HasPost w h sn e w') : ∃ A c, e = .returned (.tuple #[.slice A (hasF h sn).1.length c, .int .u32 (hasF h sn).2.1, .bool (hasF h sn).2.2]) ∧
    w'.ownsRow w.heap.size 27 20 (.slice A (hasF h sn).1.length c) (hasF h sn).1.length ((hasF h sn).1.flatMap Vrp.cells) ∧ Below w.heap.size w w' := by
  cases h with
  | none => exact ⟨none, 0, hP.1, World.ownsRow_nil _ _ _ _, hP.2⟩
  | some t => exact hP
theorem q_ok {r : RoT} {q : RoQ} (h : r.q = q) (hq : q.s.ok) : r.abs.ok := by subst h; exact hq
theorem q_lf {r : RoT} {q : RoQ} (h : r.q = q) {N : Nat} (hq : q.l.length ≤ N) : r.lf.bs.length ≤ N := by subst h; exact hq
theorem q_big {r : RoT} {s : RoS} (h : r.abs = s) {N : Nat} (hq : s.big N) : ∀ t, r.h = some t → t.ks.length ≤ N := fun t ht => by
  subst h
  have := hq.1 t.abs (by unfold RoT.abs; rw [ht]; rfl)
  exact this
theorem zero_ok : RoT.zero.q.s.ok := fun h => by cases h
theorem zero_big : RoT.zero.q.s.big 0 := ⟨fun t ht => (by cases ht), fun t ht => (by cases ht)⟩
/-- Two routers, apart. -/
structure Q2 (w : World) (gx : Nat) (rx : RoT) (gy : Nat) (ry : RoT) (W : World) : Prop where
  x : QS w gx rx W
  y : QS w gy ry W
  hne : gx ≠ gy
  hm : ∀ t t', rx.tab t → ry.tab t' → t.m ≠ t'.m
theorem tab_lt {W : World} {g : Nat} {r : RoT} (h : RtA W g r) {t : TbV} (ht : r.tab t) : t.m < W.heap.size := by
  rcases ht with ht | ht
  · exact (h.has t ht).m.lt
  · exact (h.nxt t ht).m.lt
theorem Q2.swap {w W : World} {gx gy : Nat} {rx ry : RoT} (h : Q2 w gx rx gy ry W) : Q2 w gy ry gx rx W := ⟨h.y, h.x, fun e => h.hne e.symm, fun t t' h1 h2 e => h.hm t' t h2 h1 e.symm⟩
theorem Q2.stepX {w W W' : World} {gx gy : Nat} {rx rx' ry : RoT} (h : Q2 w gx rx gy ry W) (hA : RtA W' gx rx') (hF : RFr W W' gx rx rx') : Q2 w gx rx' gy ry W' :=
  ⟨h.x.step hA hF, ⟨h.y.a.other h.x.a hF (fun e => h.hne e.symm) h.hm, (h.x.step hA hF).f, h.y.hg, h.y.ht⟩, h.hne, fun t t' h1 h2 => by
    rcases hF.tabs t h1 with ⟨t0, h0, e⟩ | hle
    · rw [← e]; exact h.hm t0 t' h0 h2
    · have := tab_lt h.y.a h2; omega⟩
theorem Q2.stepY {w W W' : World} {gx gy : Nat} {rx ry ry' : RoT} (h : Q2 w gx rx gy ry W) (hA : RtA W' gy ry') (hF : RFr W W' gy ry ry') : Q2 w gx rx gy ry' W' := (h.swap.stepX hA hF).swap
theorem Q2.next {w W W' : World} {gx gy : Nat} {rx ry : RoT} (h : Q2 w gx rx gy ry W) (hb : Below W.heap.size W W') : Q2 w gx rx gy ry W' := h.stepX (h.x.a.next hb) (.below hb)
set_option maxRecDepth 100000 in
set_option maxHeartbeats 2000000 in
theorem rparts_far (w : World) (as1 : List UInt8) (A1 : Option Addr) (c1 : Nat) (as2 : List UInt8) (A2 : Option Addr) (c2 : Nat) (n : Int) (hbig : ¬ (as1.length ≤ 1000 ∧ as2.length ≤ 1000 ∧ 0 ≤ n)) :
    Calls Try.prog 7 #[.slice A1 as1.length c1, .slice A2 as2.length c2, .int .i64 n] w fun e w' => e = .returned (.bool true) ∧ Below w.heap.size w w' := by
  by_cases h1 : as1.length ≤ 1000
  · have d1 : decide ((1000 : Int) < (as1.length : Int)) = false := decide_eq_false (by omega)
    by_cases h2 : as2.length ≤ 1000
    · have d2 : decide ((1000 : Int) < (as2.length : Int)) = false := decide_eq_false (by omega)
      have d3 : decide (n < 0) = true := decide_eq_true (by omega)
      clear h1 h2 hbig
      go_enter Try.func7, Try.ntmps7
      go_wp2_with fail
      refine (awake27_any w).mono ?_
      rintro e w1 ⟨rfl, hb1⟩
      go_wp2_with fail
      go_ret
      exact ⟨rfl, hb1⟩
    · have d2 : decide ((1000 : Int) < (as2.length : Int)) = true := decide_eq_true (by omega)
      clear h1 h2 hbig
      go_enter Try.func7, Try.ntmps7
      go_wp2_with fail
      refine (awake27_any w).mono ?_
      rintro e w1 ⟨rfl, hb1⟩
      go_wp2_with fail
      go_ret
      exact ⟨rfl, hb1⟩
  · have d1 : decide ((1000 : Int) < (as1.length : Int)) = true := decide_eq_true (by omega)
    clear h1 hbig
    go_enter Try.func7, Try.ntmps7
    go_wp2_with fail
    refine (awake27_any w).mono ?_
    rintro e w1 ⟨rfl, hb1⟩
    go_wp2_with fail
    go_ret
    exact ⟨rfl, hb1⟩
set_option maxRecDepth 100000 in
set_option maxHeartbeats 8000000 in
theorem rparts_near (w : World) (as1 : List UInt8) (A1 : Option Addr) (c1 B : Nat) (hr1 : Reads w B 1 A1 as1.length (as1.map bv)) (as2 : List UInt8) (N : Nat) (hN : as2.length = N) (A2 : Option Addr) (c2 : Nat) (hc2 : N ≤ c2) (hr2 : Reads w B 1 A2 N (as2.map bv)) (n : Nat) (hB : B ≤ w.heap.size) (h1 : as1.length ≤ 1000) (h2 : N ≤ 1000) :
    Calls Try.prog 7 #[.slice A1 as1.length c1, .slice A2 N c2, .int .i64 n] w fun e w' => e = .returned (.bool true) ∧ Below w.heap.size w w' := by
  have d1 : decide ((1000 : Int) < (as1.length : Int)) = false := decide_eq_false (by omega)
  have d2 : decide ((1000 : Int) < (N : Int)) = false := decide_eq_false (by omega)
  have d3 : decide ((n : Int) < 0) = false := decide_eq_false (by omega)
  have HN := Lib.hid hN
  clear hN
  have hq0 := zero_ok
  have hg0 := zero_big
  obtain ⟨q1, hq1⟩ : ∃ q1, q1 = (askQ RoT.zero.q).1 := ⟨_, rfl⟩
  have o1 : q1.s.ok := by rw [hq1]; exact ok_ask hq0
  have g1 : q1.s.big 0 ∧ q1.l.length ≤ 0 := by rw [hq1]; exact big_ask hg0
  obtain ⟨q2, hq2⟩ : ∃ q2, q2 = (takeQ q1 as1).1 := ⟨_, rfl⟩
  have o2 : q2.s.ok := by rw [hq2]; exact ok_takeQ o1 as1
  have g2 : q2.s.big 1000 ∧ q2.l.length ≤ 1000 := by rw [hq2]; have := big_takeQ g1.1 as1; exact ⟨this.1.mono (by omega), by omega⟩
  obtain ⟨q3, hq3⟩ : ∃ q3, q3 = (askQ q2).1 := ⟨_, rfl⟩
  have o3 : q3.s.ok := by rw [hq3]; exact ok_ask o2
  have g3 : q3.s.big 1000 ∧ q3.l.length ≤ 1000 := by rw [hq3]; have := big_ask g2.1; exact ⟨this.1, Nat.le_trans this.2 g2.2⟩
  have H1 := Lib.hid hq1
  have H2 := Lib.hid hq2
  have H3 := Lib.hid hq3
  clear hq0 hg0 hq1 hq2 hq3
  go_enter Try.func7, Try.ntmps7
  go_wp2_with fail
  refine (awake27_any w).mono ?_
  rintro e w1 ⟨rfl, hb1⟩
  go_wp2_with fail
  clear d1 d2 d3
  refine (rnew_any w1).mono ?_
  rintro e w2 ⟨rfl, hAx, hb2⟩
  go_wp2_with fail
  refine (rnew_any w2).mono ?_
  rintro e w3 ⟨rfl, hAy, hb3⟩
  have hQ : Q2 w w1.heap.size RoT.zero w2.heap.size RoT.zero w3 := by
    have hlt := hAx.blk.lt
    have f2 := below_then hb1 (Nat.le_refl _) hb2
    have f3 := below_then f2 (Nat.le_refl _) hb3
    exact ⟨⟨hAx.next hb3, f3, hb1.size, fun t ht => by rcases ht with h | h <;> cases h⟩, ⟨hAy, f3, f2.size, fun t ht => by rcases ht with h | h <;> cases h⟩, by omega, fun t t' ht => by rcases ht with h | h <;> cases h⟩
  generalize w1.heap.size = gx at hQ ⊢
  generalize w2.heap.size = gy at hQ ⊢
  clear hAx hAy hb1 hb2 hb3
  go_wp2_with fail
  refine (rask_any w3 gx RoT.zero hQ.x.a).mono ?_
  rintro e w4 ⟨A4, c4, x1, rfl, _, hA, hx1, hF⟩
  replace hQ := hQ.stepX hA hF
  rw [← H1.out] at hx1
  have HX1 := Lib.hid hx1
  clear hA hF hx1
  go_wp2_with fail
  refine (rask_any w4 gy RoT.zero hQ.y.a).mono ?_
  rintro e w5 ⟨A5, c5, y1, rfl, _, hA, hy1, hF⟩
  replace hQ := hQ.stepY hA hF
  rw [← H1.out] at hy1
  have HY1 := Lib.hid hy1
  clear hA hF hy1
  go_wp2_with fail
  refine (rTake_any as1 _ rfl A1 c1 _ (by omega) w5 gx x1 hQ.x.a (q_ok HX1.out o1) (q_lf HX1.out (by omega)) (by have := hQ.x.f.size; omega) (hr1.below hQ.x.f hB)).mono ?_
  rintro e w6 ⟨x2, rfl, hA, hx2, hF⟩
  replace hQ := hQ.stepX hA hF
  rw [HX1.out, ← H2.out] at hx2
  have HX2 := Lib.hid hx2
  clear hA hF hx2 HX1
  go_wp2_with fail
  refine (rTake_any as1 _ rfl A1 c1 _ (by omega) w6 gy y1 hQ.y.a (q_ok HY1.out o1) (q_lf HY1.out (by omega)) (by have := hQ.x.f.size; omega) (hr1.below hQ.x.f hB)).mono ?_
  rintro e w7 ⟨y2, rfl, hA, hy2, hF⟩
  replace hQ := hQ.stepY hA hF
  rw [HY1.out, ← H2.out] at hy2
  have HY2 := Lib.hid hy2
  clear hA hF hy2 HY1
  go_wp2_with fail
  refine (rask_any w7 gx x2 hQ.x.a).mono ?_
  rintro e w8 ⟨A8, c8, x3, rfl, _, hA, hx3, hF⟩
  replace hQ := hQ.stepX hA hF
  rw [HX2.out, ← H3.out] at hx3
  have HX3 := Lib.hid hx3
  clear hA hF hx3 HX2
  go_wp2_with fail
  refine (rask_any w8 gy y2 hQ.y.a).mono ?_
  rintro e w9 ⟨A9, c9, y3, rfl, _, hA, hy3, hF⟩
  replace hQ := hQ.stepY hA hF
  rw [HY2.out, ← H3.out] at hy3
  have HY3 := Lib.hid hy3
  clear hA hF hy3 HY2 hr1
  have hmN : n % (N + 1) ≤ N := by have := Nat.mod_lt n (show 0 < N + 1 by omega); omega
  have e1 : (n : Int) % ((N : Int) + 1) = ((n % (N + 1) : Nat) : Int) := by rw [Int.natCast_emod, Int.natCast_add]; rfl
  have e2 : Int.tmod (n : Int) ((N : Int) + 1) = ((n % (N + 1) : Nat) : Int) := rfl
  have hN0 : ((N : Int) + 1 == 0) = false := beq_eq_false_iff_ne.2 (by omega)
  generalize n % (N + 1) = m at hmN e1 e2
  go_wp2_with fail
  refine (rTake_any as2 N HN.out A2 c2 _ (by omega) w9 gx x3 hQ.x.a (q_ok HX3.out o3) (q_lf HX3.out (by omega)) (by have := hQ.x.f.size; omega) (hr2.below hQ.x.f hB)).mono ?_
  rintro e wA ⟨x4, rfl, hA, hx4, hF⟩
  replace hQ := hQ.stepX hA hF
  rw [HX3.out] at hx4 ⊢
  have HX4 := Lib.hid hx4
  clear hA hF hx4 HX3 e1 e2 hN0
  have hmi : (m : Int) ≤ (c2 : Int) := by omega
  have hmi' : m ≤ c2 := by omega
  have hmN' : (m : Int) ≤ (N : Int) := by omega
  have hm0 : (0 : Int) ≤ (m : Int) := by omega
  have HP := Lib.hid (takeQ_parts q3 (as2.take m) (as2.drop m))
  rw [List.take_append_drop] at HP
  have HBX := Lib.hid ((big_takeQ g3.1 as2).1.mono (show 1000 + (q3.l.length + as2.length) ≤ 1000000 by rw [HN.out]; omega))
  have O5 := Lib.hid (ok_takeQ o3 (as2.take m))
  have G5 := Lib.hid (show (takeQ q3 (as2.take m)).1.l.length ≤ 3000 by have := (big_takeQ g3.1 (as2.take m)).2; rw [List.length_take] at this; omega)
  go_wp2_with fail
  refine (rTake_any (as2.take m) m (by rw [List.length_take, HN.out]; omega) A2 c2 _ (by omega) wA gy y3 hQ.y.a (q_ok HY3.out o3) (q_lf HY3.out (by omega)) (by have := hQ.x.f.size; omega) ((hr2.below hQ.x.f hB).take1 hmN)).mono ?_
  rintro e wB ⟨y4, rfl, hA, hy4, hF⟩
  replace hQ := hQ.stepY hA hF
  rw [HY3.out] at hy4 ⊢
  have HY4 := Lib.hid hy4
  clear hA hF hy4 HY3
  by_cases h0 : (takeQ q3 (as2.take m)).2 = 0
  · have hal := HP.out.1 h0
    have b0 : ((takeQ q3 (as2.take m)).2 == 0) = true := beq_iff_eq.2 h0
    obtain ⟨A3, hcut, hrc⟩ := cut_tail A2 c2 N m hmN hc2
    have HAL := Lib.hid hal
    clear h0 hal HP
    go_wp2_with fail
    refine (rTake_any (as2.drop m) (N - m) (by rw [List.length_drop, HN.out]) A3 (c2 - m) _ (by omega) wB gy y4 hQ.y.a (q_ok HY4.out O5.out) (q_lf HY4.out (Nat.le_trans G5.out (by omega))) (by have := hQ.x.f.size; omega) (hrc _ _ _ (hr2.below hQ.x.f hB))).mono ?_
    rintro e wC ⟨y5, rfl, hA, hy5, hF⟩
    replace hQ := hQ.stepY hA hF
    rw [HY4.out, ← HAL.out] at hy5 ⊢
    obtain ⟨sF, hsF⟩ : ∃ sF, sF = (takeQ q3 as2).1.s := ⟨_, rfl⟩
    have HE := Lib.hid (show x4.abs = sF ∧ y5.abs = sF from ⟨by rw [hsF, ← HX4.out]; rfl, by rw [hsF, ← hy5]; rfl⟩)
    have HBG := Lib.hid (show sF.big 1000000 by rw [hsF]; exact HBX.out)
    generalize (takeQ q3 as2).2 = cd at *
    clear hA hF hy5 hsF HAL HX4 HY4 HBX hcut hrc b0 hr2
    go_wp2_with fail
    refine (rhas_any _ gx _ hQ.x.a (q_big HE.out.1 HBG.out)).mono ?_
    rintro e wa hP
    rw [HE.out.1] at hP
    obtain ⟨Aa, ca, rfl, hoa, hba⟩ := has_g hP
    replace hQ := hQ.next hba
    clear hP hba
    go_wp2_with fail
    refine (rhas_any _ gy _ hQ.y.a (q_big HE.out.2 HBG.out)).mono ?_
    rintro e wb hP
    rw [HE.out.2] at hP
    obtain ⟨Ab, cb, rfl, hob, hbb⟩ := has_g hP
    replace hQ := hQ.next hbb
    replace hoa := own_below hoa hbb
    clear hP hbb
    obtain ⟨⟨l, n8, b8⟩, hhf⟩ : ∃ q, hasF sF.h sF.sn = q := ⟨_, rfl⟩
    rw [hhf] at hoa hob ⊢
    simp only at hoa hob ⊢
    have hl8 : l.length ≤ 1000000000 := by
      have h1 : l = (hasF sF.h sF.sn).1 := by rw [hhf]
      rw [h1]
      have hb := HBG.out
      unfold hasF
      cases hh : sF.h with
      | none => simp
      | some t => exact Nat.le_trans (rowOf_len _) (Nat.le_trans (hb.1 t hh) (by omega))
    clear hhf
    go_wp2_with fail
    refine (samev_any l l hl8 Aa Ab ca cb _ _ wb (Nat.le_refl _) (Nat.le_refl _) (Reads.of_own hoa) (Reads.of_own hob)).mono ?_
    rintro e wc ⟨rfl, hbc⟩
    rw [show decide (l = l) = true from decide_eq_true rfl]
    have hfin := (hQ.next hbc).x.f
    clear hQ hoa hob hbc
    go_wp2_with fail
    go_ret
    exact ⟨rfl, hfin⟩
  · have hal := HP.out.2 h0
    have b0 : ((takeQ q3 (as2.take m)).2 == 0) = false := beq_eq_false_iff_ne.2 h0
    obtain ⟨sF, hsF⟩ : ∃ sF, sF = (takeQ q3 as2).1.s := ⟨_, rfl⟩
    have HE := Lib.hid (show x4.abs = sF ∧ y4.abs = sF from ⟨by rw [hsF, ← HX4.out]; rfl, by rw [hsF, hal.2, ← HY4.out]; rfl⟩)
    have HBG := Lib.hid (show sF.big 1000000 by rw [hsF]; exact HBX.out)
    rw [hal.1]
    clear h0 hal HP hsF HX4 HY4 HBX hr2
    go_wp2_with fail
    refine (rhas_any _ gx _ hQ.x.a (q_big HE.out.1 HBG.out)).mono ?_
    rintro e wa hP
    rw [HE.out.1] at hP
    obtain ⟨Aa, ca, rfl, hoa, hba⟩ := has_g hP
    replace hQ := hQ.next hba
    clear hP hba
    go_wp2_with fail
    refine (rhas_any _ gy _ hQ.y.a (q_big HE.out.2 HBG.out)).mono ?_
    rintro e wb hP
    rw [HE.out.2] at hP
    obtain ⟨Ab, cb, rfl, hob, hbb⟩ := has_g hP
    replace hQ := hQ.next hbb
    replace hoa := own_below hoa hbb
    clear hP hbb
    obtain ⟨⟨l, n8, b8⟩, hhf⟩ : ∃ q, hasF sF.h sF.sn = q := ⟨_, rfl⟩
    rw [hhf] at hoa hob ⊢
    simp only at hoa hob ⊢
    have hl8 : l.length ≤ 1000000000 := by
      have h1 : l = (hasF sF.h sF.sn).1 := by rw [hhf]
      rw [h1]
      have hb := HBG.out
      unfold hasF
      cases hh : sF.h with
      | none => simp
      | some t => exact Nat.le_trans (rowOf_len _) (Nat.le_trans (hb.1 t hh) (by omega))
    clear hhf
    go_wp2_with fail
    refine (samev_any l l hl8 Aa Ab ca cb _ _ wb (Nat.le_refl _) (Nat.le_refl _) (Reads.of_own hoa) (Reads.of_own hob)).mono ?_
    rintro e wc ⟨rfl, hbc⟩
    rw [show decide (l = l) = true from decide_eq_true rfl]
    have hfin := (hQ.next hbc).x.f
    clear hQ hoa hob hbc
    go_wp2_with fail
    go_ret
    exact ⟨rfl, hfin⟩
theorem rparts_any (w : World) (as1 : List UInt8) (A1 : Option Addr) (c1 B1 : Nat) (hc1 : as1.length ≤ c1) (hr1 : Reads w B1 1 A1 as1.length (as1.map bv)) (as2 : List UInt8) (A2 : Option Addr) (c2 B2 : Nat) (hc2 : as2.length ≤ c2) (hr2 : Reads w B2 1 A2 as2.length (as2.map bv)) (n : Int) (hl : -9223372036854775808 ≤ n) (hu : n ≤ 9223372036854775807) (hB1 : B1 ≤ w.heap.size) (hB2 : B2 ≤ w.heap.size) :
    Calls Try.prog 7 #[.slice A1 as1.length c1, .slice A2 as2.length c2, .int .i64 n] w fun e w' => e = .returned (.bool true) ∧ Below w.heap.size w w' := by
  by_cases h : as1.length ≤ 1000 ∧ as2.length ≤ 1000 ∧ 0 ≤ n
  · obtain ⟨k, rfl⟩ : ∃ k : Nat, n = k := ⟨n.toNat, by omega⟩
    exact rparts_near w as1 A1 c1 w.heap.size (hr1.more hB1) as2 as2.length rfl A2 c2 hc2 (hr2.more hB2) k (Nat.le_refl _) h.1 h.2.1
  · exact rparts_far w as1 A1 c1 as2 A2 c2 n h
end Go.Proofs.Ytmoldmnhijcckaa
/- The walk of lanyardlaw27.RouterOnly: it returns true. -/
set_option linter.unusedVariables false
set_option linter.unusedSectionVars false
set_option linter.unusedSimpArgs false
namespace Go.Proofs.Ytmoldmnhijcckaa
open Go.RowKit
theorem has_row {h : Option (Int × List Vrp)} (a b : UInt32) : (hasF h a).1 = (hasF h b).1 := by cases h <;> rfl
theorem has_sn {h : Option (Int × List Vrp)} {a : UInt32} (hb : (hasF h a).2.2 = true) : (hasF h a).2.1 = a.toNat := by
  cases h with
  | none => cases hb
  | some t => rfl
/-- What a loop's head knows. -/
structure RoH (w : World) (g : Nat) (s : RoS) (v : Value) (W : World) : Prop where
  r : ∃ r, QS w g r W ∧ r.q = ⟨s, [], false⟩
  o : W.ownsRow w.heap.size 27 20 v (hasF s.h s.sn).1.length ((hasF s.h s.sn).1.flatMap Vrp.cells)
theorem has_len {s : RoS} {N : Nat} (h : s.big N) : (hasF s.h s.sn).1.length ≤ N := by
  unfold hasF
  cases hh : s.h with
  | none => simp
  | some t => exact Nat.le_trans (rowOf_len _) (h.1 t hh)
set_option maxRecDepth 100000 in
set_option maxHeartbeats 16000000 in
theorem ronly_near (w : World) (ps : List Pdu) (A : Option Addr) (c B : Nat) (hr : Reads w B 26 A ps.length (ps.flatMap Pdu.cells)) (hB : B ≤ w.heap.size) (h40 : ps.length ≤ 40) :
    Calls Try.prog 8 #[.slice A ps.length c] w fun e w' => e = .returned (.bool true) ∧ Below w.heap.size w w' := by
  have d1 : decide ((40 : Int) < (ps.length : Int)) = false := decide_eq_false (by omega)
  go_enter Try.func8, Try.ntmps8
  go_wp2_with fail
  refine (awake27_any w).mono ?_
  rintro e w1 ⟨rfl, hb1⟩
  go_wp2_with fail
  refine (rnew_any w1).mono ?_
  rintro e w2 ⟨rfl, hA, hb2⟩
  have hQ : QS w w1.heap.size RoT.zero w2 := ⟨hA, below_then hb1 (Nat.le_refl _) hb2, hb1.size, fun t ht => by rcases ht with h | h <;> cases h⟩
  generalize w1.heap.size = g at hQ ⊢
  clear hA hb1 hb2
  go_wp2_with fail
  clear d1
  refine (rask_any w2 g RoT.zero hQ.a).mono ?_
  rintro e w3 ⟨A3, c3, r3, rfl, _, hA, hq, hF⟩
  rw [awR_ask] at hq
  replace hQ := hQ.step hA hF
  have hH : RoH w g ⟨none, 0, none, true, 2⟩ (.slice none 0 0) w3 := ⟨⟨r3, hQ, hq⟩, World.ownsRow_nil _ _ _ _⟩
  clear hA hF hQ hq
  go_wp2_with fail
  go_loopw [5, 6] (fun v i W => ∃ (k : Nat) (s : RoS), k ≤ ps.length ∧ i = .int .i64 k ∧ RoH w g s v W ∧ Hid (s.ok ∧ s.big k)) (fun _ i _ => ps.length - (intOf i).toNat)
  case atStart => exact ⟨0, _, Nat.zero_le _, rfl, hH, Lib.hid ⟨fun _ h => (by cases h), fun t ht => (by cases ht), fun t ht => (by cases ht)⟩⟩
  case round =>
    clear hH
    obtain ⟨k, s, hk, rfl, hH, HS⟩ := hrel
    by_cases hlt : k < ps.length
    · have hk0 : (0 : Int) ≤ (k : Int) := by omega
      have hk1 : (k : Int) < (ps.length : Int) := by omega
      obtain ⟨ad, rfl, _, _⟩ := hr.2 (by omega)
      have hatf : ∀ W, Below w.heap.size w W → AtAdr W (ad.add (k * 26)) ps[k].cells := fun W hW => (hr.below hW hB).elem Pdu.cells_length hlt rfl
      generalize ps[k] = p at hatf
      obtain ⟨⟨r, hQ, hq⟩, ho⟩ := hH
      obtain ⟨Av, cv, rfl⟩ := own_slice' ho
      have hat := hatf _ hQ.f
      have HQ := Lib.hid hq
      clear hq
      cases hok : pduOk p
      · have HK := Lib.hid hok
        clear hok
        go_wp2_with (refine wpList_load_adr (by rfl) 29 _ rfl (ad.add (k * 26)) 26 (by rfl) _ _ hat (Pdu.cells_length _) Try.underlying29 rfl info_pdu ?_)
        refine (write_any p wr).mono ?_
        rintro e w4 hw4
        obtain rfl := hw4.2.1 HK.out
        have hfin := (hQ.next hw4.2.2).f
        clear hw4 hat hQ ho
        go_wp2_with fail
        go_ret
        exact ⟨rfl, hfin⟩
      · have HK := Lib.hid hok
        obtain ⟨bs, hbs⟩ : ∃ bs, bs = wrB p := ⟨_, rfl⟩
        have hbl : bs.length ≤ 232 := by rw [hbs]; exact (wr_bd hok).2
        have HBS := Lib.hid hbs
        have HT := Lib.hid (takeQ_one (q := ⟨s, [], false⟩) rfl rfl hok)
        rw [← hbs] at HT
        have HS' := Lib.hid (show (takeR s p).1.ok ∧ (takeR s p).1.big (k + 1) from ⟨ok_take HS.out.1 p, big_take HS.out.2 p⟩)
        have HSame := Lib.hid (fun h7 h8 => takeR_has s p h7 h8)
        have HSer := Lib.hid (fun h7 h0 => takeR_end s p h7 h0)
        clear hok hbs
        go_wp2_with (refine wpList_load_adr (by rfl) 29 _ rfl (ad.add (k * 26)) 26 (by rfl) _ _ hat (Pdu.cells_length _) Try.underlying29 rfl info_pdu ?_)
        refine (write_ok p HK.out bs HBS.out wr).mono ?_
        rintro e w4 ⟨A4, c4, rfl, ho4, hb4⟩
        replace hQ := hQ.next hb4
        replace ho := own_below ho hb4
        clear hat hb4
        go_wp2_with fail
        refine (rTake_any bs _ rfl A4 c4 _ (by omega) w4 g r hQ.a (q_ok HQ.out HS.out.1) (q_lf HQ.out (show ([] : List UInt8).length ≤ 1000000 by simp)) (Nat.le_refl _) (Reads.of_own ho4)).mono ?_
        rintro e w5 ⟨r', rfl, hA, hq, hF⟩
        rw [HQ.out, HT.out] at hq ⊢
        simp only at hq ⊢
        replace ho := hF.row hQ.a ho (by decide)
        replace hQ := hQ.step hA hF
        obtain ⟨s', hs'⟩ : ∃ s', s' = (takeR s p).1 := ⟨_, rfl⟩
        rw [← hs'] at hq HS' HSame HSer
        obtain ⟨cf, hcf⟩ : ∃ cf, cf = (takeR s p).2 := ⟨_, rfl⟩
        rw [← hcf] at hq HSer ⊢
        have HQ' := Lib.hid hq
        have HB : Hid (cf ≠ 0 → takeQ r'.q [] = (r'.q, 2) ∧ (askQ r'.q).2 = []) := Lib.hid fun h => by
          have hb : r'.q.b = true := by rw [hq]; simp [h]
          exact ⟨by unfold takeQ; rw [if_pos hb], by unfold askQ; rw [if_pos hb]⟩
        have HOK' := Lib.hid HS'.out.1
        have hbg : ∀ t, r'.h = some t → t.ks.length ≤ 1000000 := q_big (s := s') (by have := congrArg RoQ.s hq; exact this) (HS'.out.2.mono (by omega))
        clear hA hF hq hs' hcf ho4 HQ HT
        go_wp2_with fail
        refine (rhas_any w5 g r' hQ.a hbg).mono ?_
        rintro e w6 hP
        rw [show r'.abs = s' from by have := congrArg RoQ.s HQ'.out; exact this] at hP
        obtain ⟨A6, c6, rfl, ho6, hb6⟩ := has_g hP
        have hsz5 := hQ.f.size
        replace hQ := hQ.next hb6
        replace ho := own_below ho hb6
        replace ho6 := own_base_mono ho6 hsz5
        clear hP hb6 hbg hsz5
        have hl1 := has_len HS.out.2
        have hl2 := has_len HS'.out.2
        go_wp2_with fail
        refine (samev_any (hasF s.h s.sn).1 (hasF s'.h s'.sn).1 (by omega) Av A6 cv c6 _ _ w6 (Nat.le_refl _) (Nat.le_refl _) (Reads.of_own ho) (Reads.of_own ho6)).mono ?_
        rintro e w7 ⟨rfl, hb7⟩
        replace hQ := hQ.next hb7
        replace ho6 := own_below ho6 hb7
        have hsame : p.kind ≠ 7 → p.kind ≠ 8 → decide ((hasF s.h s.sn).1 = (hasF s'.h s'.sn).1) = true := fun h7 h8 => decide_eq_true (by rw [HSame.out h7 h8]; exact has_row _ _)
        have hser : p.kind = 7 → cf = 0 → (hasF s'.h s'.sn).2.2 = true → (hasF s'.h s'.sn).2.1 = (p.serial.toNat : Int) := fun h7 h0 hb => by rw [has_sn hb, HSer.out h7 h0]
        generalize decide ((hasF s.h s.sn).1 = (hasF s'.h s'.sn).1) = sm at hsame ⊢
        obtain ⟨n8, hn8⟩ : ∃ n8, n8 = (hasF s'.h s'.sn).2.1 := ⟨_, rfl⟩
        obtain ⟨b8, hb8⟩ : ∃ b8, b8 = (hasF s'.h s'.sn).2.2 := ⟨_, rfl⟩
        rw [← hn8, ← hb8] at hser
        rw [← hn8, ← hb8]
        have HSM := Lib.hid hsame
        have HSR := Lib.hid hser
        clear hsame hser hn8 hb8 hb7 ho HSame HSer hl1 hl2
        have hat := hatf _ hQ.f
        have c0 := hat 0 _ (Pdu.c0 p)
        change w7.cell? (ad.add (k * 26)) = _ at c0
        have c2 := hat 2 _ (Pdu.c2 p)
        rw [add_pos _ (by omega)] at c2
        clear hat
        by_cases k7 : p.kind = 7
        · have b7 : (p.kind == 7) = true := beq_iff_eq.2 k7
          have b7' : (p.kind != 7) = false := by simp [k7]
          cases b8
          · clear k7
            by_cases hf : cf = 0
            · have bf : (cf == 0) = true := beq_iff_eq.2 hf
              have bf' : (cf != 0) = false := by simp [hf]
              have hH : RoH w g s' (.slice A6 (hasF s'.h s'.sn).1.length c6) w7 := ⟨⟨r', hQ, by rw [HQ'.out]; simp [hf]⟩, ho6⟩
              skip
              clear hf hQ ho6
              go_wp2_with fail
              go_roundw
              case rel => exact ⟨k + 1, s', by omega, by go_num, hH, HS'⟩
              case measure => simp [intOf]; omega
            · have bf : (cf == 0) = false := beq_eq_false_iff_ne.2 hf
              have bf' : (cf != 0) = true := bne_iff_ne.2 hf
              have HBR := Lib.hid (HB.out hf)
              clear hf ho6
              go_wp2_with fail
              refine (rTake_any [] 0 rfl none 0 0 (by omega) w7 g r' hQ.a (q_ok HQ'.out HOK'.out) (q_lf HQ'.out (show ([] : List UInt8).length ≤ 1000000 by simp)) (Nat.zero_le _) Reads.none_).mono ?_
              rintro e wx ⟨rx, rfl, hAx, hqx, hFx⟩
              have hQx := hQ.step hAx hFx
              rw [HBR.out.1] at hqx ⊢
              have HQX := Lib.hid hqx
              clear hQ hAx hqx hFx c0 c2
              go_wp2_with fail
              refine (rask_any wx g rx hQx.a).mono ?_
              rintro e wy ⟨Ay, cy, ry, rfl, _, hAy, hqy, hFy⟩
              have hfin := (hQx.step hAy hFy).f
              rw [HQX.out, HBR.out.2]
              clear hQx hAy hqy hFy
              go_wp2_with fail
              go_ret
              exact ⟨rfl, hfin⟩
          ·
            by_cases hf : cf = 0
            · have bf : (cf == 0) = true := beq_iff_eq.2 hf
              have bf' : (cf != 0) = false := by simp [hf]
              have hH : RoH w g s' (.slice A6 (hasF s'.h s'.sn).1.length c6) w7 := ⟨⟨r', hQ, by rw [HQ'.out]; simp [hf]⟩, ho6⟩
              obtain rfl := HSR.out k7 hf rfl
              clear hf hQ ho6
              go_wp2_with fail
              go_roundw
              case rel => exact ⟨k + 1, s', by omega, by go_num, hH, HS'⟩
              case measure => simp [intOf]; omega
            · have bf : (cf == 0) = false := beq_eq_false_iff_ne.2 hf
              have bf' : (cf != 0) = true := bne_iff_ne.2 hf
              have HBR := Lib.hid (HB.out hf)
              clear hf ho6
              go_wp2_with fail
              refine (rTake_any [] 0 rfl none 0 0 (by omega) w7 g r' hQ.a (q_ok HQ'.out HOK'.out) (q_lf HQ'.out (show ([] : List UInt8).length ≤ 1000000 by simp)) (Nat.zero_le _) Reads.none_).mono ?_
              rintro e wx ⟨rx, rfl, hAx, hqx, hFx⟩
              have hQx := hQ.step hAx hFx
              rw [HBR.out.1] at hqx ⊢
              have HQX := Lib.hid hqx
              clear hQ hAx hqx hFx c0 c2
              go_wp2_with fail
              refine (rask_any wx g rx hQx.a).mono ?_
              rintro e wy ⟨Ay, cy, ry, rfl, _, hAy, hqy, hFy⟩
              have hfin := (hQx.step hAy hFy).f
              rw [HQX.out, HBR.out.2]
              clear hQx hAy hqy hFy
              go_wp2_with fail
              go_ret
              exact ⟨rfl, hfin⟩
        · have b7 : (p.kind == 7) = false := beq_eq_false_iff_ne.2 k7
          have b7' : (p.kind != 7) = true := bne_iff_ne.2 k7
          by_cases k8 : p.kind = 8
          · have bk8 : (p.kind != 8) = false := by simp [k8]
            clear k7 k8
            cases b8
            ·
              by_cases hf : cf = 0
              · have bf : (cf == 0) = true := beq_iff_eq.2 hf
                have bf' : (cf != 0) = false := by simp [hf]
                have hH : RoH w g s' (.slice A6 (hasF s'.h s'.sn).1.length c6) w7 := ⟨⟨r', hQ, by rw [HQ'.out]; simp [hf]⟩, ho6⟩
                skip
                clear hf hQ ho6
                go_wp2_with fail
                go_roundw
                case rel => exact ⟨k + 1, s', by omega, by go_num, hH, HS'⟩
                case measure => simp [intOf]; omega
              · have bf : (cf == 0) = false := beq_eq_false_iff_ne.2 hf
                have bf' : (cf != 0) = true := bne_iff_ne.2 hf
                have HBR := Lib.hid (HB.out hf)
                clear hf ho6
                go_wp2_with fail
                refine (rTake_any [] 0 rfl none 0 0 (by omega) w7 g r' hQ.a (q_ok HQ'.out HOK'.out) (q_lf HQ'.out (show ([] : List UInt8).length ≤ 1000000 by simp)) (Nat.zero_le _) Reads.none_).mono ?_
                rintro e wx ⟨rx, rfl, hAx, hqx, hFx⟩
                have hQx := hQ.step hAx hFx
                rw [HBR.out.1] at hqx ⊢
                have HQX := Lib.hid hqx
                clear hQ hAx hqx hFx c0 c2
                go_wp2_with fail
                refine (rask_any wx g rx hQx.a).mono ?_
                rintro e wy ⟨Ay, cy, ry, rfl, _, hAy, hqy, hFy⟩
                have hfin := (hQx.step hAy hFy).f
                rw [HQX.out, HBR.out.2]
                clear hQx hAy hqy hFy
                go_wp2_with fail
                go_ret
                exact ⟨rfl, hfin⟩
            ·
              by_cases hf : cf = 0
              · have bf : (cf == 0) = true := beq_iff_eq.2 hf
                have bf' : (cf != 0) = false := by simp [hf]
                have hH : RoH w g s' (.slice A6 (hasF s'.h s'.sn).1.length c6) w7 := ⟨⟨r', hQ, by rw [HQ'.out]; simp [hf]⟩, ho6⟩
                skip
                clear hf hQ ho6
                go_wp2_with fail
                go_roundw
                case rel => exact ⟨k + 1, s', by omega, by go_num, hH, HS'⟩
                case measure => simp [intOf]; omega
              · have bf : (cf == 0) = false := beq_eq_false_iff_ne.2 hf
                have bf' : (cf != 0) = true := bne_iff_ne.2 hf
                have HBR := Lib.hid (HB.out hf)
                clear hf ho6
                go_wp2_with fail
                refine (rTake_any [] 0 rfl none 0 0 (by omega) w7 g r' hQ.a (q_ok HQ'.out HOK'.out) (q_lf HQ'.out (show ([] : List UInt8).length ≤ 1000000 by simp)) (Nat.zero_le _) Reads.none_).mono ?_
                rintro e wx ⟨rx, rfl, hAx, hqx, hFx⟩
                have hQx := hQ.step hAx hFx
                rw [HBR.out.1] at hqx ⊢
                have HQX := Lib.hid hqx
                clear hQ hAx hqx hFx c0 c2
                go_wp2_with fail
                refine (rask_any wx g rx hQx.a).mono ?_
                rintro e wy ⟨Ay, cy, ry, rfl, _, hAy, hqy, hFy⟩
                have hfin := (hQx.step hAy hFy).f
                rw [HQX.out, HBR.out.2]
                clear hQx hAy hqy hFy
                go_wp2_with fail
                go_ret
                exact ⟨rfl, hfin⟩
          · have bk8 : (p.kind != 8) = true := bne_iff_ne.2 k8
            obtain rfl := HSM.out k7 k8
            clear k7 k8
            cases b8
            ·
              by_cases hf : cf = 0
              · have bf : (cf == 0) = true := beq_iff_eq.2 hf
                have bf' : (cf != 0) = false := by simp [hf]
                have hH : RoH w g s' (.slice A6 (hasF s'.h s'.sn).1.length c6) w7 := ⟨⟨r', hQ, by rw [HQ'.out]; simp [hf]⟩, ho6⟩
                skip
                clear hf hQ ho6
                go_wp2_with fail
                go_roundw
                case rel => exact ⟨k + 1, s', by omega, by go_num, hH, HS'⟩
                case measure => simp [intOf]; omega
              · have bf : (cf == 0) = false := beq_eq_false_iff_ne.2 hf
                have bf' : (cf != 0) = true := bne_iff_ne.2 hf
                have HBR := Lib.hid (HB.out hf)
                clear hf ho6
                go_wp2_with fail
                refine (rTake_any [] 0 rfl none 0 0 (by omega) w7 g r' hQ.a (q_ok HQ'.out HOK'.out) (q_lf HQ'.out (show ([] : List UInt8).length ≤ 1000000 by simp)) (Nat.zero_le _) Reads.none_).mono ?_
                rintro e wx ⟨rx, rfl, hAx, hqx, hFx⟩
                have hQx := hQ.step hAx hFx
                rw [HBR.out.1] at hqx ⊢
                have HQX := Lib.hid hqx
                clear hQ hAx hqx hFx c0 c2
                go_wp2_with fail
                refine (rask_any wx g rx hQx.a).mono ?_
                rintro e wy ⟨Ay, cy, ry, rfl, _, hAy, hqy, hFy⟩
                have hfin := (hQx.step hAy hFy).f
                rw [HQX.out, HBR.out.2]
                clear hQx hAy hqy hFy
                go_wp2_with fail
                go_ret
                exact ⟨rfl, hfin⟩
            ·
              by_cases hf : cf = 0
              · have bf : (cf == 0) = true := beq_iff_eq.2 hf
                have bf' : (cf != 0) = false := by simp [hf]
                have hH : RoH w g s' (.slice A6 (hasF s'.h s'.sn).1.length c6) w7 := ⟨⟨r', hQ, by rw [HQ'.out]; simp [hf]⟩, ho6⟩
                skip
                clear hf hQ ho6
                go_wp2_with fail
                go_roundw
                case rel => exact ⟨k + 1, s', by omega, by go_num, hH, HS'⟩
                case measure => simp [intOf]; omega
              · have bf : (cf == 0) = false := beq_eq_false_iff_ne.2 hf
                have bf' : (cf != 0) = true := bne_iff_ne.2 hf
                have HBR := Lib.hid (HB.out hf)
                clear hf ho6
                go_wp2_with fail
                refine (rTake_any [] 0 rfl none 0 0 (by omega) w7 g r' hQ.a (q_ok HQ'.out HOK'.out) (q_lf HQ'.out (show ([] : List UInt8).length ≤ 1000000 by simp)) (Nat.zero_le _) Reads.none_).mono ?_
                rintro e wx ⟨rx, rfl, hAx, hqx, hFx⟩
                have hQx := hQ.step hAx hFx
                rw [HBR.out.1] at hqx ⊢
                have HQX := Lib.hid hqx
                clear hQ hAx hqx hFx c0 c2
                go_wp2_with fail
                refine (rask_any wx g rx hQx.a).mono ?_
                rintro e wy ⟨Ay, cy, ry, rfl, _, hAy, hqy, hFy⟩
                have hfin := (hQx.step hAy hFy).f
                rw [HQX.out, HBR.out.2]
                clear hQx hAy hqy hFy
                go_wp2_with fail
                go_ret
                exact ⟨rfl, hfin⟩
    · obtain ⟨⟨r, hQ, _⟩, _⟩ := hH
      have hfin := hQ.f
      clear hQ
      go_wp2_with fail
      go_ret
      exact ⟨rfl, hfin⟩
set_option maxRecDepth 100000 in
set_option maxHeartbeats 2000000 in
theorem ronly_far (w : World) (ps : List Pdu) (A : Option Addr) (c : Nat) (h40 : ¬ ps.length ≤ 40) :
    Calls Try.prog 8 #[.slice A ps.length c] w fun e w' => e = .returned (.bool true) ∧ Below w.heap.size w w' := by
  have d1 : decide ((40 : Int) < (ps.length : Int)) = true := decide_eq_true (by omega)
  clear h40
  go_enter Try.func8, Try.ntmps8
  go_wp2_with fail
  refine (awake27_any w).mono ?_
  rintro e w1 ⟨rfl, hb1⟩
  go_wp2_with fail
  refine (rnew_any w1).mono ?_
  rintro e w2 ⟨rfl, hA, hb2⟩
  have hfin := below_then hb1 (Nat.le_refl _) hb2
  clear hA hb1 hb2
  go_wp2_with fail
  go_ret
  exact ⟨rfl, hfin⟩
theorem ronly_any (w : World) (ps : List Pdu) (A : Option Addr) (c B : Nat) (hc : ps.length ≤ c) (hm : c ≤ maxLen) (hr : Reads w B 26 A ps.length (ps.flatMap Pdu.cells)) (hB : B ≤ w.heap.size) :
    Calls Try.prog 8 #[.slice A ps.length c] w fun e w' => e = .returned (.bool true) ∧ Below w.heap.size w w' := by
  by_cases h : ps.length ≤ 40
  · exact ronly_near w ps A c B hr hB h
  · exact ronly_far w ps A c h
end Go.Proofs.Ytmoldmnhijcckaa
