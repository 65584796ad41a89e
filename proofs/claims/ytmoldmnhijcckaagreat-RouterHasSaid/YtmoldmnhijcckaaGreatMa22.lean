/- session.remembered, since. -/
import Derived.Test.YtmoldmnhijcckaaGreatMa21
set_option linter.unusedVariables false
set_option linter.unusedSectionVars false
set_option linter.unusedSimpArgs false
namespace Go.Proofs.YtmoldmnhijcckaaGreat
open Go.RowKit
def remF (sess' : Int) (sn' : UInt32) (sess : Int) (ss : List SetV) : Option SetV := if sess' = sess then ss.find? (fun s => s.sn == sn') else none
theorem info_set : (Tryz.prog.info? 100).map (·.size) = some 2 := by kernel_rfl
def zSet : List Value := [.slice none 0 0, .int .u32 0]
theorem remF_at {sess' sess : Int} {sn' : UInt32} {ss : List SetV} {i : Nat} (hi : i < ss.length) (h1 : sess' = sess) (h2 : ss[i].sn = sn') (hno : ∀ t (h : t < ss.length), t < i → ¬ (sess' = sess ∧ ss[t].sn = sn')) : remF sess' sn' sess ss = some ss[i] := by
  unfold remF
  rw [if_pos h1, List.find?_eq_some_iff_getElem]
  refine ⟨by simp [h2], i, hi, rfl, fun j hj => ?_⟩
  have := hno j (by omega) hj
  simpa using fun e => this ⟨h1, e⟩
theorem remF_no {sess' sess : Int} {sn' : UInt32} {ss : List SetV} (hno : ∀ t (h : t < ss.length), ¬ (sess' = sess ∧ ss[t].sn = sn')) : remF sess' sn' sess ss = none := by
  unfold remF
  split
  · rename_i h1
    rw [List.find?_eq_none]
    intro s hs
    obtain ⟨t, ht, rfl⟩ := List.getElem_of_mem hs
    simpa using fun e => hno t ht ⟨h1, e⟩
  · rfl
def RemPost (r : Option SetV) (e : Ending) : Prop := match r with
  | some s => e = .returned (.tuple #[.slice s.A s.l.length s.c, .bool true])
  | none => e = .returned (.tuple #[.slice none 0 0, .bool false])
set_option maxRecDepth 100000 in
set_option maxHeartbeats 2000000 in
theorem remembered_any (sess' : Int) (sn' : UInt32) (w : World) (lo g b : Nat) (sess : Int) (serial : UInt32) (v : Value) (ss : List SetV) (f : Int → Option Lf) (many : Int) (h : CA w lo g b sess serial v ss f many) (hl : ss.length ≤ 1000000) :
    Calls Tryz.prog 75 #[.pointer (some ⟨g, 0, none⟩), .int .i64 sess', .int .u32 sn'.toNat] w fun e w' => RemPost (remF sess' sn' sess ss) e ∧ Below w.heap.size w w' := by
  have c2 := h.blk.cell 2
  simp only [List.getElem?_cons_zero, List.getElem?_cons_succ] at c2
  obtain ⟨A, c, rfl⟩ := own_slice' h.row
  have hlo := Below.refl w.heap.size w
  go_enter Tryz.func75, Tryz.ntmps75
  go_wp2_with fail
  clear c2
  go_loopw [9, 15] (fun v9 i W => ∃ k : Nat, k ≤ ss.length ∧ i = .int .i64 k ∧ Below w.heap.size w W ∧ Hid (∀ t (h : t < ss.length), t < k → ¬ (sess' = sess ∧ ss[t].sn = sn'))) (fun _ i _ => ss.length - (intOf i).toNat)
  case atStart => exact ⟨0, by omega, rfl, hlo, Lib.hid fun t _ h => by omega⟩
  case round =>
    clear hlo
    obtain ⟨k, hk, rfl, hlo, HM⟩ := hrel
    by_cases hlt : k < ss.length
    · have hk0 : (0 : Int) ≤ (k : Int) := by omega
      have hk1 : (k : Int) < (ss.length : Int) := by omega
      obtain ⟨ad, rfl, _, _⟩ := (Reads.of_own h.row).2 (by omega)
      have hat : AtAdr wr (ad.add (k * 2)) ss[k].cells := ((Reads.of_own h.row).below hlo (Nat.le_refl _)).elem SetV.len hlt rfl
      have HA := Lib.hid (show sess' = sess → ss[k].sn = sn' → remF sess' sn' sess ss = some ss[k] from fun e1 e2 => remF_at hlt e1 e2 HM.out)
      have HN := Lib.hid (show ¬ (sess' = sess ∧ ss[k].sn = sn') → ∀ t (h : t < ss.length), t < k + 1 → ¬ (sess' = sess ∧ ss[t].sn = sn') from fun hno t h1 h2 => by
        by_cases h3 : t = k
        · subst h3; exact hno
        · exact HM.out t h1 (by omega))
      clear HM
      have hCk := h
      generalize ss[k] = s at hat HA HN
      have hSb : Below w.heap.size w ((wr.alloc (.cells zSet.toArray 100)).setCells wr.heap.size 0 s.cells) ∧ Blk ((wr.alloc (.cells zSet.toArray 100)).setCells wr.heap.size 0 s.cells) wr.heap.size 100 s.cells :=
        ⟨below_then hlo (Nat.le_refl _) (Below.setCells (Nat.le_refl _) _ _ ((Below.refl _ _).alloc (Nat.le_refl _) _)), (Blk.new _ _ _).setCells_all rfl⟩
      simp only [show zSet = [.slice none 0 0, .int .u32 0] from rfl] at hSb
      go_upto_region 4 with (first | (refine wpList_load_adr (by rfl) 100 _ rfl (ad.add (k * 2)) 2 (by rfl) _ _ hat rfl Tryz.underlying100 rfl info_set ?_) | (refine wpList_store_at rfl 100 _ _ rfl wr.heap.size 0 2 100 _ zSet rfl rfl (Blk.new _ _ _) rfl (by decide) info_set (SetV.one _) ?_))
      refine wp_gen (fun W => Below w.heap.size w W ∧ Blk W wr.heap.size 100 s.cells) hSb ?_
      clear hSb hlo hat
      generalize wr.heap.size = bx
      rintro W ⟨hlo, hX⟩
      have c0 := (hlo.cell (p := ⟨g, 0, none⟩) h.blk.lt).trans (h.blk.cell 0)
      have k0 := hX.cell 0
      have k1 := hX.cell 1
      simp only [List.getElem?_cons_zero, SetV.cells, List.getElem?_cons_succ] at c0 k0 k1
      by_cases h1 : sess' = sess
      · have be1 : (sess' == sess) = true := beq_iff_eq.2 h1
        by_cases h2 : s.sn = sn'
        · have be2 : ((s.sn.toNat : Int) == (sn'.toNat : Int)) = true := by rw [h2]; exact beq_self_eq_true _
          have HR := Lib.hid (HA.out h1 h2)
          clear h1 h2 HA HN
          go_wp2_with fail
          exact bodyPost_ret (v := .tuple #[.slice s.A s.l.length s.c, .bool true]) (by simp [results, Tryz.results75, go_sem]) rfl ⟨by rw [HR.out]; rfl, hlo⟩
        · have be2 : ((s.sn.toNat : Int) == (sn'.toNat : Int)) = false := beq_eq_false_iff_ne.2 (fun e => h2 (UInt32.toNat_inj.1 (by omega)))
          have HR := Lib.hid (HN.out (fun e => h2 e.2))
          clear h1 h2 HA HN
          go_wp2_with fail
          go_roundw
          case rel => exact ⟨k + 1, by omega, by go_num, hlo, HR⟩
          case measure => simp [intOf]; omega
      · have be1 : (sess' == sess) = false := beq_eq_false_iff_ne.2 h1
        have HR := Lib.hid (HN.out (fun e => h1 e.1))
        clear h1 HA HN
        go_wp2_with fail
        go_roundw
        case rel => exact ⟨k + 1, by omega, by go_num, hlo, HR⟩
        case measure => simp [intOf]; omega
    · have hkk : k = ss.length := by omega
      have HR := Lib.hid (remF_no (fun t ht => HM.out t ht (by omega)))
      subst hkk
      clear hlt hk HM
      go_wp2_with fail
      exact bodyPost_ret (v := .tuple #[.slice none 0 0, .bool false]) (by simp [results, Tryz.results75, go_sem]) rfl ⟨by rw [HR.out]; rfl, hlo⟩
def pdS (kind sess : Int) (serial : UInt32) (code : Int) : Pdu := ⟨kind, sess, serial, false, default, code, ⟨#[]⟩⟩
/-- What is told of a set, since another row. -/
def sinceB (sess : Int) (s : SetV) (xs : List Vrp) : List UInt8 := wrD (pdS 3 sess 0 0) ++ (tellAll (moreOf s.l xs) false ++ (tellAll (moreOf xs s.l) true ++ wrD (pdS 7 sess s.sn 0)))
end Go.Proofs.YtmoldmnhijcckaaGreat
/- session.since. -/
set_option linter.unusedVariables false
set_option linter.unusedSectionVars false
set_option linter.unusedSimpArgs false
namespace Go.Proofs.YtmoldmnhijcckaaGreat
open Go.RowKit
theorem tellAll_le (vs : List Vrp) (add : Bool) (k : Nat) : (tellAll (vs.take k) add).length ≤ (tellAll vs add).length := by
  have e : tellAll vs add = tellAll (vs.take k) add ++ tellAll (vs.drop k) add := by unfold tellAll; rw [← List.flatMap_append, List.take_append_drop]
  rw [e, List.length_append]
  omega
set_option maxRecDepth 100000 in
set_option maxHeartbeats 4000000 in
theorem since_any (xs : List Vrp) (n : Nat) (hn : xs.length = n) (A : Option Addr) (c B : Nat) (hx6 : n ≤ 1000000) (ab : Nat) (bs : List UInt8) (w w0 : World) (lo g b : Nat) (sess : Int) (serial : UInt32) (v : Value) (ss : List SetV) (f : Int → Option Lf) (many : Int) (h0 : CA w0 lo g b sess serial v ss f many) (hab : w0.heap.size ≤ ab) (hlo : Below ab w0 w) (hA : AnsAt w ab bs)
    (hl : ss.length ≤ 1000000) (s : SetV) (hs : ss.getLast? = some s) (hs6 : s.l.length ≤ 1000000) (hB : B ≤ w.heap.size) (hr : Reads w B 20 A n (xs.flatMap Vrp.cells)) (hL : bs.length + (sinceB sess s xs).length ≤ 100000000) :
    Calls Tryz.prog 74 #[.pointer (some ⟨g, 0, none⟩), .pointer (some ⟨ab, 0, none⟩), .slice A n c] w fun e w' => e = .returned (.tuple #[]) ∧ AnsAt w' ab (bs ++ sinceB sess s xs) ∧ AnsFr w w' ab := by
  have hCW : ∀ W, Below ab w W → CA W lo g b sess serial v ss f many := fun W hW => h0.next ((hlo.trans hW).mono hab)
  have hC := hCW w (Below.refl _ _)
  have habw := hA.lt
  have hLL : bs.length + ((wrD (pdS 3 sess 0 0)).length + ((tellAll (moreOf s.l xs) false).length + ((tellAll (moreOf xs s.l) true).length + (wrD (pdS 7 sess s.sn 0)).length))) ≤ 100000000 := by
    have := hL
    unfold sinceB at this
    simpa only [List.length_append] using this
  go_enter Tryz.func74, Tryz.ntmps74
  go_wp2_with fail
  refine (last_any w lo g b sess serial v ss f many hC hl).mono ?_
  rintro e w1 ⟨hlp, hb1⟩
  rcases hlp with ⟨he, _⟩ | ⟨s', gs, cs, hs', rfl, rfl⟩
  · rw [he] at hs; simp at hs
  obtain rfl : s' = s := by rw [hs] at hs'; exact (Option.some.inj hs').symm
  have hC1 := hCW w1 (hb1.mono (by omega))
  obtain ⟨k0, k1, hmem⟩ := hC1.lastAt hs rfl
  have hso := hC1.sets s' hmem
  have hA1 := hA.next hb1
  have hF1 := (AnsFr.refl w ab).then habw hb1
  go_wp2_with fail
  refine (diff_any xs s'.l n s'.l.length hn rfl A s'.A c s'.c _ hx6 hs6 w1 (Nat.le_refl _) ((hr.below hb1 hB).more (by have := hb1.size; omega)) (Reads.of_own hso)).mono ?_
  rintro e w2 ⟨Am, cm, Al, cl, rfl, hom, hol, hb2⟩
  have hA2 := hA1.next hb2
  have hF2 := hF1.then habw hb2
  clear hA1 hF1 hb2 hb1 hso k0 k1 hC1 hC hr
  have c0 := (hCW w2 hF2.lo).blk.cell 0
  simp only [List.getElem?_cons_zero] at c0
  have hml := lessF_len (rowOf s'.l) (rowOf xs)
  have hll := lessF_len (rowOf xs) (rowOf s'.l)
  have hml2 := rowOf_len s'.l
  have hll2 := rowOf_len xs
  have HM := Lib.hid (show (moreOf xs s'.l).length ≤ 1000000 ∧ (moreOf s'.l xs).length ≤ 1000000 from by unfold moreOf; omega)
  clear hml hll hml2 hll2
  go_wp2_with fail
  refine (tell_any (pdS 3 sess 0 0) ab bs w2 hA2 (by omega)).mono ?_
  rintro e w3 ⟨rfl, hA3, hF3⟩
  have hom3 := hF3.row hA2 hom (by decide) (by decide)
  have hol3 := hF3.row hA2 hol (by decide) (by decide)
  replace hF3 := hF2.trans hF3
  clear hA2 hF2 hom hol c0
  go_wp2_with fail
  refine (prefixes_any (moreOf s'.l xs) _ rfl Al cl _ false ab _ HM.out.2 w3 hA3 hol3 (fun k hk => by have := tellAll_le (moreOf s'.l xs) false k; simp only [List.length_append]; omega)).mono ?_
  rintro e w4 ⟨rfl, hA4, hF4⟩
  have hom4 := hF4.row hA3 hom3 (by decide) (by decide)
  replace hF4 := hF3.trans hF4
  clear hA3 hF3 hom3 hol3
  go_wp2_with fail
  refine (prefixes_any (moreOf xs s'.l) _ rfl Am cm _ true ab _ HM.out.1 w4 hA4 hom4 (fun k hk => by have := tellAll_le (moreOf xs s'.l) true k; simp only [List.length_append]; omega)).mono ?_
  rintro e w5 ⟨rfl, hA5, hF5⟩
  replace hF5 := hF4.trans hF5
  clear hA4 hF4 hom4
  have hA5l := Lib.hid (show (bs ++ wrD (pdS 3 sess 0 0) ++ tellAll (moreOf s'.l xs) false ++ tellAll (moreOf xs s'.l) true).length + (wrD (pdS 7 sess s'.sn 0)).length ≤ 100000000 by simp only [List.length_append]; omega)
  have HSB := Lib.hid (show bs ++ wrD (pdS 3 sess 0 0) ++ tellAll (moreOf s'.l xs) false ++ tellAll (moreOf xs s'.l) true ++ wrD (pdS 7 sess s'.sn 0) = bs ++ sinceB sess s' xs by unfold sinceB; simp only [List.append_assoc])
  generalize bs ++ wrD (pdS 3 sess 0 0) ++ tellAll (moreOf s'.l xs) false ++ tellAll (moreOf xs s'.l) true = BS5 at hA5 hA5l HSB
  clear hLL hL
  go_upto_region 5 with fail
  refine reg_sch2 11 [(true, 0), (true, 1), (true, 2), (true, 3), (true, 4), (true, 5), (true, 6), (true, 7), (true, 8), (true, 9), (false, 10)] (by kernel_rfl) (by kernel_rfl) (fun W => AnsFr w W ab) (fun W => AnsAt W ab BS5 ∧ AnsFr w W ab) ?_ ?_ ?_
  · exact ⟨hA5.next (Below.refl _ _).drew, hF5.then habw (Below.refl _ _).drew⟩
  · exact fun _ h => h.2
  intro W hSW
  simp only [List.map_cons, List.map_nil, List.getD_cons_zero, List.getD_cons_succ, List.drop_succ_cons, List.drop_zero]
  refine hd_pure (v := ?_) (by rfl) (fun W' hS' => ?_) ?_ -- 0
  rotate_left
  · have c0 := (hCW W' hS'.lo).blk.cell 0; obtain ⟨_, k1, _⟩ := (hCW W' hS'.lo).lastAt hs rfl; simp only [List.getElem?_cons_zero] at c0; clear hS'; (go_simp; first | with_reducible rfl | rfl)
  try simp only [Act.put, List.setIfInBounds_toArray, List.set_cons_zero, List.set_cons_succ]
  refine hd_pure (v := ?_) (by rfl) (fun W' hS' => ?_) ?_ -- 1
  rotate_left
  · have c0 := (hCW W' hS'.lo).blk.cell 0; obtain ⟨_, k1, _⟩ := (hCW W' hS'.lo).lastAt hs rfl; simp only [List.getElem?_cons_zero] at c0; clear hS'; (go_simp; first | with_reducible rfl | rfl)
  try simp only [Act.put, List.setIfInBounds_toArray, List.set_cons_zero, List.set_cons_succ]
  refine hd_pure (v := ?_) (by rfl) (fun W' hS' => ?_) ?_ -- 2
  rotate_left
  · have c0 := (hCW W' hS'.lo).blk.cell 0; obtain ⟨_, k1, _⟩ := (hCW W' hS'.lo).lastAt hs rfl; simp only [List.getElem?_cons_zero] at c0; clear hS'; (go_simp; first | with_reducible rfl | rfl)
  try simp only [Act.put, List.setIfInBounds_toArray, List.set_cons_zero, List.set_cons_succ]
  refine hd_pure (v := ?_) (by rfl) (fun W' hS' => ?_) ?_ -- 3
  rotate_left
  · have c0 := (hCW W' hS'.lo).blk.cell 0; obtain ⟨_, k1, _⟩ := (hCW W' hS'.lo).lastAt hs rfl; simp only [List.getElem?_cons_zero] at c0; clear hS'; (go_simp; first | with_reducible rfl | rfl)
  try simp only [Act.put, List.setIfInBounds_toArray, List.set_cons_zero, List.set_cons_succ]
  refine hd_pure (v := ?_) (by rfl) (fun W' hS' => ?_) ?_ -- 4
  rotate_left
  · have c0 := (hCW W' hS'.lo).blk.cell 0; obtain ⟨_, k1, _⟩ := (hCW W' hS'.lo).lastAt hs rfl; simp only [List.getElem?_cons_zero] at c0; clear hS'; (go_simp; first | with_reducible rfl | rfl)
  try simp only [Act.put, List.setIfInBounds_toArray, List.set_cons_zero, List.set_cons_succ]
  refine hd_pure (v := ?_) (by rfl) (fun W' hS' => ?_) ?_ -- 5
  rotate_left
  · have c0 := (hCW W' hS'.lo).blk.cell 0; obtain ⟨_, k1, _⟩ := (hCW W' hS'.lo).lastAt hs rfl; simp only [List.getElem?_cons_zero] at c0; clear hS'; (go_simp; first | with_reducible rfl | rfl)
  try simp only [Act.put, List.setIfInBounds_toArray, List.set_cons_zero, List.set_cons_succ]
  refine hd_pure (v := ?_) (by rfl) (fun W' hS' => ?_) ?_ -- 6
  rotate_left
  · have c0 := (hCW W' hS'.lo).blk.cell 0; obtain ⟨_, k1, _⟩ := (hCW W' hS'.lo).lastAt hs rfl; simp only [List.getElem?_cons_zero] at c0; clear hS'; (go_simp; first | with_reducible rfl | rfl)
  try simp only [Act.put, List.setIfInBounds_toArray, List.set_cons_zero, List.set_cons_succ]
  refine hd_pure (v := ?_) (by rfl) (fun W' hS' => ?_) ?_ -- 7
  rotate_left
  · have c0 := (hCW W' hS'.lo).blk.cell 0; obtain ⟨_, k1, _⟩ := (hCW W' hS'.lo).lastAt hs rfl; simp only [List.getElem?_cons_zero] at c0; clear hS'; (go_simp; first | with_reducible rfl | rfl)
  try simp only [Act.put, List.setIfInBounds_toArray, List.set_cons_zero, List.set_cons_succ]
  refine hd_pure (v := ?_) (by rfl) (fun W' hS' => ?_) ?_ -- 8
  rotate_left
  · have c0 := (hCW W' hS'.lo).blk.cell 0; obtain ⟨_, k1, _⟩ := (hCW W' hS'.lo).lastAt hs rfl; simp only [List.getElem?_cons_zero] at c0; clear hS'; (go_simp; first | with_reducible rfl | rfl)
  try simp only [Act.put, List.setIfInBounds_toArray, List.set_cons_zero, List.set_cons_succ]
  refine hd_pure (v := ?_) (by rfl) (fun W' hS' => ?_) ?_ -- 9
  rotate_left
  · have c0 := (hCW W' hS'.lo).blk.cell 0; obtain ⟨_, k1, _⟩ := (hCW W' hS'.lo).lastAt hs rfl; simp only [List.getElem?_cons_zero] at c0; clear hS'; (go_simp; first | with_reducible rfl | rfl)
  try simp only [Act.put, List.setIfInBounds_toArray, List.set_cons_zero, List.set_cons_succ]
  refine hd_sole (by rfl) (fun K hK => ?_) -- 10
  go_simp
  refine (tell_any (pdS 7 sess s'.sn 0) ab BS5 _ hSW.1 hA5l.out).mono ?_; rintro e w' ⟨rfl, hA6, hF6⟩
  rw [HSB.out] at hA6
  refine hK _ _ (hSW.2.trans hF6) ?_
  clear hK K
  intro hSW10
  try simp only [Act.put, List.setIfInBounds_toArray, List.set_cons_zero, List.set_cons_succ]
  refine hd_nil ?_
  skip
  refine wpList_nil (NoPanic.normal ?_)
  go_wp2_with fail
  go_end0
  exact ⟨rfl, hA6, hSW10⟩
end Go.Proofs.YtmoldmnhijcckaaGreat
