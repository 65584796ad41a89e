/- session.Feed at a router that is open. -/
import Derived.Test.YtmoldmnhijcckaaGreatMa29
import Derived.Test.YtmoldmnhijcckaaGreatMa09
set_option linter.unusedVariables false
set_option linter.unusedSectionVars false
set_option linter.unusedSimpArgs false
namespace Go.Proofs.YtmoldmnhijcckaaGreat
open Go.RowKit
theorem all_n (bs : List UInt8) (n : Nat) (hn : bs.length = n) (A : Option Addr) (c B : Nat) (hc : n ≤ c) (hlen : n ≤ 1000000000) (w : World) (hB : B ≤ w.heap.size) (hr : Reads w B 1 A n (bs.map bv)) :
    Calls Tryz.prog 44 #[.slice A n c] w (AllPost w bs) := by
  subst hn
  exact all_any bs A c B hc hlen w hB hr
theorem goF_step {sess : Int} {ss : List SetV} {ps : List Pdu} {k : Nat} (hk : k < ps.length) {acc : List UInt8} (h : goF sess ss ps = (acc ++ (goF sess ss (ps.drop k)).1, (goF sess ss (ps.drop k)).2)) :
    ((takeF sess ss ps[k]).2 = true → goF sess ss ps = ((acc ++ (takeF sess ss ps[k]).1) ++ (goF sess ss (ps.drop (k + 1))).1, (goF sess ss (ps.drop (k + 1))).2)) ∧
    ((takeF sess ss ps[k]).2 = false → goF sess ss ps = (acc ++ (takeF sess ss ps[k]).1, false)) ∧ (acc ++ (takeF sess ss ps[k]).1).length ≤ (goF sess ss ps).1.length := by
  rw [List.drop_eq_getElem_cons hk, goF] at h
  refine ⟨fun ht => ?_, fun ht => ?_, ?_⟩
  · rw [ht, if_pos rfl] at h
    rw [h, List.append_assoc]
  · rw [ht, if_neg (by simp)] at h
    rw [h]
  · rw [h]
    split
    · simp only [List.length_append]; omega
    · exact Nat.le_refl _
def FeedPost (w : World) (lo g b : Nat) (sess : Int) (serial : UInt32) (v : Value) (ss : List SetV) (f : Int → Option Lf) (many : Int) (id : Int) (out : List UInt8) (r : Option (List UInt8)) (e : Ending) (w' : World) : Prop :=
  ∃ A' c' x', e = .returned (.tuple #[.slice A' out.length c', .int .i64 0]) ∧ w'.ownsRow w.heap.size 5 1 (.slice A' out.length c') out.length (out.map bv) ∧ x'.map Lf.bs = r ∧ CA w' lo g b sess serial v ss (fun k => if k = id then x' else f k) many ∧ w.grownBy w' (some b)
set_option maxRecDepth 100000 in
set_option maxHeartbeats 8000000 in
theorem feed_any (id : Int) (bb : List UInt8) (nb : Nat) (hnb : bb.length = nb) (A : Option Addr) (c B : Nat) (hb6 : nb ≤ 1000000) (w : World) (lo g b : Nat) (sess : Int) (serial : UInt32) (v : Value) (ss : List SetV) (f : Int → Option Lf) (many : Int) (h : CA w lo g b sess serial v ss f many)
    (hl : ss.length ≤ 1000000) (hs6 : ∀ s ∈ ss, s.l.length ≤ 1000000) (x : Lf) (hf : f id = some x) (hx6 : x.bs.length ≤ 1000000) (hB : B ≤ w.heap.size) (hr : Reads w B 1 A nb (bb.map bv)) (hL : (feedF sess ss x.bs bb).1.length ≤ 100000000) :
    Calls Tryz.prog 25 #[.pointer (some ⟨g, 0, none⟩), .int .i64 id, .slice A nb c] w (FeedPost w lo g b sess serial v ss f many id (feedF sess ss x.bs bb).1 (feedF sess ss x.bs bb).2) := by
  have cm := h.blk.cell 3
  simp only [List.getElem?_cons_zero, List.getElem?_cons_succ] at cm
  have hlook := h.mp.look_some Tryz.underlying89 Tryz.underlying3 (P := Tryz.prog) (k := id) (v := x.val) (by simp [hf])
  unfold Lf.val at hlook
  obtain ⟨i0, hi0, hz0, hz1, hz2⟩ := info_parts info5b
  go_enter Tryz.func25, Tryz.ntmps25
  go_wp2_with fail
  refine (cloneU_any x.bs _ rfl x.A x.c _ (by omega) w (Nat.le_refl _) (h.left id x hf).1).mono ?_
  rintro e w1 ⟨A1, c1, rfl, ho1, hb1⟩
  have hw1 := hb1.size
  clear hlook cm
  go_wp2_with (at_builtin; go_must (refine wpList_append_any _ rfl _ _ 29 rfl w.heap.size 5 i0 _ 1 1 Tryz.underlying29 hi0 hz0 hz1 hz2 rfl (by omega) _ x.bs.length _ rfl ho1 B A nb c _ rfl (hr.below hb1 hB) (bv_one _) (by simp only [maxLen]; omega) (by omega) hw1 ?_; intro v2 w2 ho2 hg2 _; obtain ⟨A2, c2, rfl⟩ := own_slice' ho2; rw [← List.map_append] at ho2; have hb2 : Below w.heap.size w w2 := Below.grown hb1 hg2 hw1 (fun k hk => (own_base_le ho1 k hk).1); clear hg2))
  have hlen2 : (x.bs ++ bb).length = x.bs.length + nb := by rw [List.length_append, hnb]
  refine (all_n (x.bs ++ bb) _ hlen2 A2 c2 _ (own_capV ho2) (by omega) w2 (Nat.le_refl _) (Reads.of_own ho2)).mono ?_
  rintro e w3 ⟨vp, Ar, nr, cr, rfl, hnr, hcr, hrr, hop, hb3⟩
  obtain ⟨⟨ps, rest, kc, ke⟩, hal⟩ : ∃ q, allOf (x.bs ++ bb) = q := ⟨_, rfl⟩
  rw [hal] at hnr hrr hop ⊢
  simp only at hnr hrr hop ⊢
  have HF := Lib.hid (show feedF sess ss x.bs bb = if (goF sess ss ps).2 then (if ke = 0 then ((goF sess ss ps).1, some rest) else ((goF sess ss ps).1 ++ wrD (pdS 10 0 0 kc), none)) else ((goF sess ss ps).1, none) by unfold feedF; rw [hal])
  subst hnr
  obtain ⟨Ap, cp, rfl⟩ := own_slice' hop
  have hb03 : Below w.heap.size w w3 := below_then hb2 (Nat.le_refl _) hb3
  have hC3 := h.next hb03
  have cm := hC3.blk.cell 3
  simp only [List.getElem?_cons_zero, List.getElem?_cons_succ] at cm
  obtain ⟨w4, hrun, hM4, hG4⟩ := hC3.mp.put (P := Tryz.prog) Tryz.underlying89 Tryz.underlying3 id (.slice Ar rest.length cr)
  have hC4 := hC3.putLeft id (some ⟨Ar, cr, rest⟩) (fun y hy => by cases hy; exact ⟨hrr, hcr⟩) hM4 hG4
  have hop4 := own_maps (f' := fun _ => none) hC3.mp hG4 hop
  have hpl : ps.length ≤ 9223372036854775807 := by
    rcases hop.2 with ⟨_, hz⟩ | ⟨_, cap, _, _, _, _, q1, q2, _⟩
    · omega
    · simp only [maxLen] at q2; omega
  have hg04 : w.grownBy w4 (some b) := (grown_below hb03).trans hG4
  have hw2 := hb2.size
  have hw3 := hb03.size
  clear ho1 ho2 hb1 hb2 hb3 hrr hop hM4 hG4 hC3 hal hlen2 hr
  have hS : AnsAt (w4.alloc (.cells #[.slice none 0 0] 110)) w4.heap.size [] ∧ Below w4.heap.size w4 (w4.alloc (.cells #[.slice none 0 0] 110)) :=
    ⟨⟨.slice none 0 0, Blk.new w4 _ [.slice none 0 0], World.ownsRow_nil _ _ _ _⟩, (Below.refl _ _).alloc (Nat.le_refl _) _⟩
  go_upto_region 7 with fail
  refine wp_gen (fun W => AnsAt W w4.heap.size [] ∧ Below w4.heap.size w4 W) hS ?_
  clear hS cm hrun
  rintro W0 ⟨hA0, hlo0⟩
  have HG := Lib.hid (show goF sess ss ps = ([] ++ (goF sess ss (ps.drop 0)).1, (goF sess ss (ps.drop 0)).2) from rfl)
  go_wp2_with fail
  go_loopw [16, 46] (fun v16 i W => ∃ (k : Nat) (acc : List UInt8), k ≤ ps.length ∧ i = .int .i64 k ∧ AnsAt W w4.heap.size acc ∧ Below w4.heap.size w4 W ∧ Hid (goF sess ss ps = (acc ++ (goF sess ss (ps.drop k)).1, (goF sess ss (ps.drop k)).2))) (fun _ i _ => ps.length - (intOf i).toNat)
  case atStart => exact ⟨0, [], by omega, rfl, hA0, hlo0, HG⟩
  case round =>
    clear hA0 hlo0 HG
    obtain ⟨k, acc, hk, rfl, hA, hlo, HG⟩ := hrel
    by_cases hlt : k < ps.length
    · have hk0 : (0 : Int) ≤ (k : Int) := by omega
      have hk1 : (k : Int) < (ps.length : Int) := by omega
      obtain ⟨ad, rfl, _, _⟩ := (Reads.of_own hop4).2 (by omega)
      have hat : AtAdr wr (ad.add (k * 26)) ps[k].cells := ((Reads.of_own hop4).below hlo (Nat.le_refl _)).elem Pdu.cells_length hlt rfl
      obtain ⟨hs1, hs2, hs3⟩ := goF_step hlt HG.out
      have hL1 : acc.length + (takeF sess ss ps[k]).1.length ≤ 100000000 := by
        have h1 : (goF sess ss ps).1.length ≤ (feedF sess ss x.bs bb).1.length := by
          rw [HF.out]
          split
          · split
            · exact Nat.le_refl _
            · simp only [List.length_append]; omega
          · exact Nat.le_refl _
        rw [List.length_append] at hs3
        omega
      have HS1 := Lib.hid hs1
      have HS2 := Lib.hid hs2
      clear hs1 hs2 hs3 HG
      generalize ps[k] = p at hat hL1 HS1 HS2
      have hSb : (AnsAt ((wr.alloc (.cells (bareL 0).toArray 69)).setCells wr.heap.size 0 p.cells) w4.heap.size acc ∧ Below w4.heap.size w4 ((wr.alloc (.cells (bareL 0).toArray 69)).setCells wr.heap.size 0 p.cells)) ∧ Blk ((wr.alloc (.cells (bareL 0).toArray 69)).setCells wr.heap.size 0 p.cells) wr.heap.size 69 p.cells :=
        ⟨⟨hA.next (Below.setCells (Nat.le_refl _) _ _ ((Below.refl _ _).alloc (Nat.le_refl _) _)), below_then hlo (Nat.le_refl _) (Below.setCells (Nat.le_refl _) _ _ ((Below.refl _ _).alloc (Nat.le_refl _) _))⟩, (Blk.new _ _ _).setCells_all (Pdu.cells_length _)⟩
      go_upto_region 10 with (first | (refine wpList_load_adr (by rfl) 69 _ rfl (ad.add (k * 26)) 26 (by rfl) _ _ hat (Pdu.cells_length _) Tryz.underlying69 rfl info_pdu ?_) | (refine wpList_store_at rfl 69 _ _ rfl wr.heap.size 0 26 69 p.cells (bareL 0) rfl rfl (Blk.new _ _ _) (Pdu.cells_length _) (by decide) info_pdu (Pdu.one _) ?_))
      refine wp_gen (fun W => (AnsAt W w4.heap.size acc ∧ Below w4.heap.size w4 W) ∧ Blk W wr.heap.size 69 p.cells) hSb ?_
      clear hSb hA hlo hat
      generalize wr.heap.size = bx
      rintro W ⟨⟨hA, hlo⟩, hX⟩
      have hxr := hX.range
      go_wp2_with (refine wpList_load_at rfl 69 _ rfl bx 0 26 rfl _ _ hxr (Pdu.cells_length _) Tryz.underlying69 rfl info_pdu ?_)
      refine (take_any p w4.heap.size acc W w4 lo g b sess serial v ss _ many hC4 (Nat.le_refl _) hlo hA hl hs6 hL1).mono ?_
      rintro e w6 ⟨rfl, hA6, hF6⟩
      have hlo6 := hlo.trans hF6.lo
      clear hX hxr hA hlo hF6
      cases ht : (takeF sess ss p).2
      · have HOUT := Lib.hid (show feedF sess ss x.bs bb = (acc ++ (takeF sess ss p).1, none) by rw [HF.out, HS2.out ht]; rfl)
        clear ht HS1 HS2
        have hC6 := hC4.next hlo6
        have cm6 := hC6.blk.cell 3
        simp only [List.getElem?_cons_zero, List.getElem?_cons_succ] at cm6
        obtain ⟨w7, hrun7, hM7, hG7⟩ := hC6.mp.del (P := Tryz.prog) Tryz.underlying89 Tryz.underlying3 id (v0 := .slice Ar rest.length cr) (by simp [Lf.val])
        have hC7 := hC6.putLeft id none (fun y hy => by cases hy) hM7 hG7
        have hfe : (fun k' => if k' = id then (none : Option Lf) else (fun k' => if k' = id then some ⟨Ar, cr, rest⟩ else f k') k') = fun k => if k = id then (none : Option Lf) else f k := by
          funext k'
          by_cases hk' : k' = id <;> simp [hk']
        rw [hfe] at hC7
        obtain ⟨va, hB6, ho6⟩ := hA6
        obtain ⟨Aa, ca, rfl⟩ := own_slice' ho6
        have hB7 := blk_maps hC6.mp hG7 hB6
        have ho7 := own_maps (f' := fun _ => none) hC6.mp hG7 ho6
        have c7 := hB7.cell 0
        simp only [List.getElem?_cons_zero] at c7
        have hg7 := (hg04.trans (grown_below hlo6)).trans hG7
        have hbase : w.heap.size ≤ w4.heap.size + 1 := by have := hg04.size; omega
        replace ho7 := own_base_mono ho7 hbase
        clear hB6 ho6 hB7 hM7 hG7 hfe hbase
        go_wp2_with fail
        refine bodyPost_ret (v := .tuple #[.slice Aa (acc ++ (takeF sess ss p).1).length ca, .int .i64 0]) (by simp [results, Tryz.results25, go_sem]) rfl ?_
        rw [HOUT.out]
        exact ⟨Aa, ca, none, rfl, ho7, rfl, hC7, hg7⟩
      · have HN := Lib.hid (HS1.out ht)
        clear ht HS1 HS2
        go_wp2_with fail
        go_roundw
        case rel => exact ⟨k + 1, _, by omega, by go_num, hA6, hlo6, HN⟩
        case measure => simp [intOf]; omega
    · have hkk : k = ps.length := by omega
      subst hkk
      have HG2 := Lib.hid (show goF sess ss ps = (acc, true) by have := HG.out; rw [List.drop_length] at this; rw [this]; simp [goF])
      clear HG hlt hk
      by_cases hke : ke = 0
      · have bke : (ke != 0) = false := by simp [hke]
        have HOUT := Lib.hid (show feedF sess ss x.bs bb = (acc, some rest) by rw [HF.out, HG2.out, hke]; rfl)
        clear hke HG2 HF
        have hC6 := hC4.next hlo
        obtain ⟨va, hB6, ho6⟩ := hA
        obtain ⟨Aa, ca, rfl⟩ := own_slice' ho6
        have c7 := hB6.cell 0
        simp only [List.getElem?_cons_zero] at c7
        have hg7 := hg04.trans (grown_below hlo)
        have hbase : w.heap.size ≤ w4.heap.size + 1 := by have := hg04.size; omega
        replace ho6 := own_base_mono ho6 hbase
        clear hB6 hbase
        go_wp2_with fail
        refine bodyPost_ret (v := .tuple #[.slice Aa acc.length ca, .int .i64 0]) (by simp [results, Tryz.results25, go_sem]) rfl ?_
        rw [HOUT.out]
        exact ⟨Aa, ca, some ⟨Ar, cr, rest⟩, rfl, ho6, rfl, hC6, hg7⟩
      · have bke : (ke != 0) = true := bne_iff_ne.2 hke
        have HOUT := Lib.hid (show feedF sess ss x.bs bb = (acc ++ wrD (pdS 10 0 0 kc), none) by rw [HF.out, HG2.out]; simp only [if_true]; rw [if_neg hke])
        have hL2 : acc.length + (wrD (pdS 10 0 0 kc)).length ≤ 100000000 := by have := hL; rw [HOUT.out, List.length_append] at this; exact this
        clear hke HG2 HF
        go_wp2_with fail
        refine (tell_any (pdS 10 0 0 kc) w4.heap.size acc wr hA hL2).mono ?_
        rintro e w6 ⟨rfl, hA6, hF6⟩
        have hlo6 := hlo.trans hF6.lo
        clear hA hlo hF6
        have hC6 := hC4.next hlo6
        have cm6 := hC6.blk.cell 3
        simp only [List.getElem?_cons_zero, List.getElem?_cons_succ] at cm6
        obtain ⟨w7, hrun7, hM7, hG7⟩ := hC6.mp.del (P := Tryz.prog) Tryz.underlying89 Tryz.underlying3 id (v0 := .slice Ar rest.length cr) (by simp [Lf.val])
        have hC7 := hC6.putLeft id none (fun y hy => by cases hy) hM7 hG7
        have hfe : (fun k' => if k' = id then (none : Option Lf) else (fun k' => if k' = id then some ⟨Ar, cr, rest⟩ else f k') k') = fun k => if k = id then (none : Option Lf) else f k := by
          funext k'
          by_cases hk' : k' = id <;> simp [hk']
        rw [hfe] at hC7
        obtain ⟨va, hB6, ho6⟩ := hA6
        obtain ⟨Aa, ca, rfl⟩ := own_slice' ho6
        have hB7 := blk_maps hC6.mp hG7 hB6
        have ho7 := own_maps (f' := fun _ => none) hC6.mp hG7 ho6
        have c7 := hB7.cell 0
        simp only [List.getElem?_cons_zero] at c7
        have hg7 := (hg04.trans (grown_below hlo6)).trans hG7
        have hbase : w.heap.size ≤ w4.heap.size + 1 := by have := hg04.size; omega
        replace ho7 := own_base_mono ho7 hbase
        clear hB6 ho6 hB7 hM7 hG7 hfe hbase
        go_wp2_with fail
        refine bodyPost_ret (v := .tuple #[.slice Aa (acc ++ wrD (pdS 10 0 0 kc)).length ca, .int .i64 0]) (by simp [results, Tryz.results25, go_sem]) rfl ?_
        rw [HOUT.out]
        exact ⟨Aa, ca, none, rfl, ho7, rfl, hC7, hg7⟩
end Go.Proofs.YtmoldmnhijcckaaGreat
/- container/heap at no row or one. -/
set_option linter.unusedVariables false
set_option linter.unusedSectionVars false
set_option linter.unusedSimpArgs false
namespace Go.Proofs.YtmoldmnhijcckaaGreat
open Go.RowKit
theorem loadOne {P : Program} {w : World} {t : TypeId} {a : Addr} {v : Value} (hd : (isAgg t).run P w = .ok false w) (hc : w.cell? a = some v) : (loadVar t a).run P w = .ok v w := by
  unfold loadVar
  simp [go_sem, hd, hc]
theorem wrapOk {P : Program} {w : World} (ts : Array TypeId) (t : TypeId) (a : Addr) (s m : String) : (Builtin.ssaWrapNilChk_ ts t #[.pointer (some a), strVal s, strVal m]).run P w = .ok (.pointer (some a)) w := rfl
/-- A method of a value, called through a pointer in an interface. -/
theorem run_method_val {P : Program} {w : World} {t elem : TypeId} {f : FuncId} {name : String} {fuel : Nat} (a : Addr) (v : Value) (hm : ((P.info? t).bind fun i => (i.methods.find? (·.name == name)).map fun m => (m.path.toList, m.func)) = some ([], some (f, false)))
    (hu : P.underlying t = some (.pointer elem)) (hl : (loadVar elem a).run P w = .ok v w) : (method (fuel + 1) t (.pointer (some a)) name).run P w = .ok (f, v) w := by
  unfold method
  cases hi : P.info? t with
  | none => rw [hi] at hm; simp at hm
  | some i =>
    rw [hi] at hm
    simp only [Option.bind_some, Option.map_eq_some_iff] at hm
    obtain ⟨m, hm1, hm2⟩ := hm
    have hm3 : m.path = #[] := Array.toList_inj.1 (congrArg Prod.fst hm2)
    have hm4 : m.func = some (f, false) := congrArg Prod.snd hm2
    simp only [Sem.run_bind, run_typeInfo w hi, Result.andThen_ok, hm1, hm3, hm4, follow, receiverAt, Place.get, Sem.run_pure, run_underlying hu, Array.isEmpty_empty, if_true, wrapOk, asAddr, hl]
theorem meth_len (k : Nat) (w : World) (R : Nat) (v : Value) (hc : w.cell? ⟨R, 0, none⟩ = some v) : (method (k + 1) 126 (.pointer (some ⟨R, 0, none⟩)) "Len").run Tryz.prog w = .ok (175, v) w :=
  run_method_val _ v (by kernel_rfl) Tryz.underlying126 (loadOne (Tryz.isAgg125 w) hc)
theorem meth_swap (k : Nat) (w : World) (R : Nat) (v : Value) (hc : w.cell? ⟨R, 0, none⟩ = some v) : (method (k + 1) 126 (.pointer (some ⟨R, 0, none⟩)) "Swap").run Tryz.prog w = .ok (177, v) w :=
  run_method_val _ v (by kernel_rfl) Tryz.underlying126 (loadOne (Tryz.isAgg125 w) hc)
theorem len_any (A : Option Addr) (n c : Nat) (w : World) : Calls Tryz.prog 175 #[.slice A n c] w fun e w' => e = .returned (.int .i64 n) ∧ w = w' := by
  go_enter Tryz.func175, Tryz.ntmps175
  go_wp2_with fail
  go_ret
  exact ⟨rfl, rfl⟩
def qOf (R : Nat) : Value := .iface 126 (.pointer (some ⟨R, 0, none⟩))
set_option maxRecDepth 100000 in
set_option maxHeartbeats 1000000 in
theorem down_0 (R : Nat) (w : World) : Calls Tryz.prog 100 #[.iface 126 (.pointer (some ⟨R, 0, none⟩)), .int .i64 0, .int .i64 0] w fun e w' => e = .returned (.bool false) ∧ w = w' := by
  go_enter Tryz.func100, Tryz.ntmps100
  go_wp2_with fail
  go_loopw [7, 8, 9, 10] (fun v7 v8 v9 v10 wr => v7 = .int .i64 0 ∧ w = wr) (fun _ _ _ _ _ => 0)
  case atStart => exact ⟨rfl, rfl⟩
  case round =>
    obtain ⟨rfl, rfl⟩ := hrel
    go_wp2_with fail
    go_ret
    exact ⟨rfl, rfl⟩
set_option maxRecDepth 100000 in
set_option maxHeartbeats 1000000 in
theorem init_0 (R : Nat) (A : Option Addr) (c : Nat) (w : World) (h : w.cell? ⟨R, 0, none⟩ = some (.slice A 0 c)) : Calls Tryz.prog 66 #[.iface 126 (.pointer (some ⟨R, 0, none⟩))] w fun e w' => e = .returned (.tuple #[]) ∧ w = w' := by
  have hm := meth_len 318 w R _ h
  go_enter Tryz.func66, Tryz.ntmps66
  go_wp2_with fail
  refine (len_any A 0 c w).mono ?_
  rintro e w1 ⟨rfl, rfl⟩
  go_wp2_with fail
  go_loopw [3] (fun i wr => i = .int .i64 (-1) ∧ w = wr) (fun _ _ => 0)
  case atStart => exact ⟨rfl, rfl⟩
  case round =>
    obtain ⟨rfl, rfl⟩ := hrel
    go_wp2_with fail
    go_end0
    exact ⟨rfl, rfl⟩
set_option maxRecDepth 100000 in
set_option maxHeartbeats 1000000 in
theorem down_1 (R : Nat) (w : World) : Calls Tryz.prog 100 #[.iface 126 (.pointer (some ⟨R, 0, none⟩)), .int .i64 0, .int .i64 1] w fun e w' => e = .returned (.bool false) ∧ w = w' := by
  go_enter Tryz.func100, Tryz.ntmps100
  go_wp2_with fail
  go_loopw [7, 8, 9, 10] (fun v7 v8 v9 v10 wr => v7 = .int .i64 0 ∧ w = wr) (fun _ _ _ _ _ => 0)
  case atStart => exact ⟨rfl, rfl⟩
  case round =>
    obtain ⟨rfl, rfl⟩ := hrel
    go_wp2_with fail
    go_ret
    exact ⟨rfl, rfl⟩
set_option maxRecDepth 100000 in
set_option maxHeartbeats 1000000 in
theorem init_1 (R : Nat) (A : Option Addr) (c : Nat) (w : World) (h : w.cell? ⟨R, 0, none⟩ = some (.slice A 1 c)) : Calls Tryz.prog 66 #[.iface 126 (.pointer (some ⟨R, 0, none⟩))] w fun e w' => e = .returned (.tuple #[]) ∧ w = w' := by
  have hm := meth_len 318 w R _ h
  go_enter Tryz.func66, Tryz.ntmps66
  go_wp2_with fail
  refine (len_any A 1 c w).mono ?_
  rintro e w1 ⟨rfl, rfl⟩
  go_wp2_with fail
  go_loopw [3] (fun i wr => i = .int .i64 (-1) ∧ w = wr) (fun _ _ => 0)
  case atStart => exact ⟨rfl, rfl⟩
  case round =>
    obtain ⟨rfl, rfl⟩ := hrel
    go_wp2_with fail
    go_end0
    exact ⟨rfl, rfl⟩
set_option maxRecDepth 100000 in
set_option maxHeartbeats 1000000 in
theorem up_0 (R : Nat) (w : World) : Calls Tryz.prog 121 #[.iface 126 (.pointer (some ⟨R, 0, none⟩)), .int .i64 0] w fun e w' => e = .returned (.tuple #[]) ∧ w = w' := by
  go_enter Tryz.func121, Tryz.ntmps121
  go_wp2_with fail
  go_loopw [1, 4] (fun j i wr => j = .int .i64 0 ∧ w = wr) (fun _ _ _ => 0)
  case atStart => exact ⟨rfl, rfl⟩
  case round =>
    obtain ⟨rfl, rfl⟩ := hrel
    go_wp2_with fail
    go_end0
    exact ⟨rfl, rfl⟩
set_option maxRecDepth 100000 in
set_option maxHeartbeats 1000000 in
theorem fix_1 (R : Nat) (A : Option Addr) (c : Nat) (w : World) (h : w.cell? ⟨R, 0, none⟩ = some (.slice A 1 c)) : Calls Tryz.prog 101 #[.iface 126 (.pointer (some ⟨R, 0, none⟩)), .int .i64 0] w fun e w' => e = .returned (.tuple #[]) ∧ w = w' := by
  have hm := meth_len 318 w R _ h
  go_enter Tryz.func101, Tryz.ntmps101
  go_wp2_with fail
  refine (len_any A 1 c w).mono ?_
  rintro e w1 ⟨rfl, rfl⟩
  go_wp2_with fail
  refine (down_1 R w).mono ?_
  rintro e w1 ⟨rfl, rfl⟩
  go_wp2_with fail
  refine (up_0 R w).mono ?_
  rintro e w1 ⟨rfl, rfl⟩
  go_wp2_with fail
  go_end0
  exact ⟨rfl, rfl⟩
end Go.Proofs.YtmoldmnhijcckaaGreat
