/- The contract of pdu.All: the messages of bytes. Condition: a length that memory allows. -/
import Derived.Test.YtmoldmnhijcckaaGreatMa28
import Derived.Test.YtmoldmnhijcckaaGreatMa12
import Derived.Test.YtmoldmnhijcckaaGreatMa23
set_option linter.unusedVariables false
set_option linter.unusedSectionVars false
set_option linter.unusedSimpArgs false
namespace Go.Proofs.YtmoldmnhijcckaaGreat
open Go.RowKit
theorem info29b : (Tryz.prog.info? 69).map (fun i => (i.zero, i.size, i.bytes)) = some (some (.agg (bareL 0).toArray), 26, 96) := by kernel_rfl
def lenV : Value → Nat
  | .slice _ n _ => n
  | _ => 0
theorem lenV_slice (A : Option Addr) (n c : Nat) : lenV (.slice A n c) = n := rfl
def AllPost (w : World) (bs : List UInt8) (e : Ending) (w' : World) : Prop :=
  ∃ v A n c, e = .returned (.tuple #[v, .slice A n c, .int .i64 (allOf bs).2.2.1, .int .i64 (allOf bs).2.2.2]) ∧ n = (allOf bs).2.1.length ∧ n ≤ c ∧ Reads w' w'.heap.size 1 A n ((allOf bs).2.1.map bv) ∧
    w'.ownsRow w.heap.size 69 26 v (allOf bs).1.length ((allOf bs).1.flatMap Pdu.cells) ∧ Below w.heap.size w w'
/-- What holds at a round's head. -/
structure AllAt (w : World) (bs : List UInt8) (ps : List Pdu) (rest : List UInt8) (A : Option Addr) (n c B : Nat) (v : Value) (W : World) : Prop where
  len : n = rest.length
  cap : n ≤ c
  rd : Reads W B 1 A n (rest.map bv)
  own : W.ownsRow w.heap.size 69 26 v ps.length (ps.flatMap Pdu.cells)
  b : Below w.heap.size w W
  le : B ≤ w.heap.size
  law : allOf bs = (ps ++ (allOf rest).1, (allOf rest).2)
  few : ps.length + rest.length ≤ bs.length
def AllRel (w : World) (bs : List UInt8) (B : Nat) (s0 s2 : Value) (W : World) : Prop := ∃ ps rest A n c, s0 = .slice A n c ∧ AllAt w bs ps rest A n c B s2 W
theorem AllAt.next {w : World} {bs : List UInt8} {ps : List Pdu} {rest : List UInt8} {A : Option Addr} {n c B : Nat} {v : Value} {W W' : World} (h : AllAt w bs ps rest A n c B v W) (hb : Below W.heap.size W W') : AllAt w bs ps rest A n c B v W' :=
  ⟨h.len, h.cap, h.rd.below hb (Nat.le_trans h.le h.b.size), own_below h.own hb, below_then h.b (Nat.le_refl _) hb, h.le, h.law, h.few⟩
theorem reads_new26 {w : World} {t : TypeId} (q : Pdu) (g : Nat) (hg : w.heap.size = g) : Reads (w.alloc (.cells q.cells.toArray t)) (g + 1) 26 (some ⟨g, 0, none⟩) 1 q.cells := by
  refine ⟨by rw [Pdu.cells_length], fun _ => ⟨_, rfl, by simp, fun j u hu => ?_⟩⟩
  rw [add_plain', Nat.zero_add, (blk_new' w t _ g hg).cell]
  exact hu
theorem cutR {w : World} {B n c : Nat} {A : Option Addr} {bs : List UInt8} (h : Reads w B 1 A n (bs.map bv)) {k : Nat} (hk : k ≤ n) (hc : n ≤ c) : Reads w B 1 (if c = k then A else A.map (·.add k)) (n - k) ((bs.drop k).map bv) := by
  have := h.cut (k := k) (cap := c) hk hc
  rw [Nat.mul_one, ← List.map_drop] at this
  exact this
/-- A round that found a message. -/
theorem AllAt.more {w : World} {bs : List UInt8} {ps : List Pdu} {rest : List UInt8} {A : Option Addr} {n c B : Nat} {v v' : Value} {W W' : World} (h : AllAt w bs ps rest A n c B v W) {q : Pdu} {l : Nat} (R : readOf rest = (q, (l : Int), 0, 0)) (h8 : 8 ≤ l) (hl : l ≤ n)
    (hb : Below w.heap.size w W') (hrd : Reads W' B 1 A n (rest.map bv)) (ho : W'.ownsRow w.heap.size 69 26 v' (ps.length + 1) (ps.flatMap Pdu.cells ++ q.cells)) (A2 : Option Addr) (hA : A2 = if c = l then A else A.map (·.add l)) : AllRel w bs B (.slice A2 (n - l) (c - l)) v' W' := by
  have hn := h.len
  have hcp := h.cap
  have hf := h.few
  refine ⟨ps ++ [q], rest.drop l, A2, n - l, c - l, rfl, ?_, by omega, by rw [hA]; exact cutR hrd hl h.cap, ?_, hb, h.le, ?_, ?_⟩
  · rw [List.length_drop, hn]
  · have e1 : (ps ++ [q]).length = ps.length + 1 := by simp
    have e2 : (ps ++ [q]).flatMap Pdu.cells = ps.flatMap Pdu.cells ++ q.cells := by simp
    rw [e1, e2]; exact ho
  · rw [h.law, all_ok R, Int.toNat_natCast]; simp
  · rw [List.length_drop]; simp; omega
theorem AllAt.done {w : World} {bs : List UInt8} {ps : List Pdu} {rest : List UInt8} {A : Option Addr} {n c B : Nat} {v : Value} {W W' : World} (h : AllAt w bs ps rest A n c B v W) {k x : Int} (R : allOf rest = ([], rest, k, x)) (A' : Option Addr) (c' : Nat) (hc : n ≤ c') (hr : Reads W' W'.heap.size 1 A' n (rest.map bv)) (hb : Below W.heap.size W W') :
    AllPost w bs (.returned (.tuple #[v, .slice A' n c', .int .i64 k, .int .i64 x])) W' := by
  have e := h.law
  rw [R] at e
  unfold AllPost
  rw [e]
  refine ⟨v, A', n, c', rfl, h.len, hc, hr, ?_, (h.next hb).b⟩
  have := (h.next hb).own
  simpa using this
set_option maxRecDepth 100000 in
set_option maxHeartbeats 4000000 in
theorem all_any (bs : List UInt8) (A : Option Addr) (c B : Nat) (hc : bs.length ≤ c) (hlen : bs.length ≤ 1000000000) (w : World) (hB : B ≤ w.heap.size) (hr : Reads w B 1 A bs.length (bs.map bv)) :
    Calls Tryz.prog 44 #[.slice A bs.length c] w (AllPost w bs) := by
  have hst : AllRel w bs B (.slice A bs.length c) (.slice none 0 0) w := ⟨[], bs, A, _, c, rfl, rfl, hc, hr, World.ownsRow_nil _ _ _ _, Below.refl _ _, hB, by simp, by simp⟩
  obtain ⟨i0, hi0, hz0, hz1, hz2⟩ := info_parts info29b
  clear hr
  go_enter Tryz.func44, Tryz.ntmps44
  go_wp2_with fail
  go_loopw [0, 2] (fun s0 s2 wr => AllRel w bs B s0 s2 wr) (fun s0 _ _ => lenV s0)
  case atStart => exact hst
  case round =>
    clear hst
    obtain ⟨ps, rest, A', n', c', rfl, hAt⟩ := hrel
    have hnr : rest.length ≤ n' := Nat.le_of_eq hAt.len.symm
    have hnr2 : n' ≤ rest.length := Nat.le_of_eq hAt.len
    rcases readOf_cases rest with R | R | R | R | ⟨q, l, R, hq1, hq2, hl8, hl⟩
    · obtain ⟨q, hz⟩ : ∃ q, q = bareP 0 := ⟨_, rfl⟩
      have R := Lib.hid (show readOf rest = (q, 0, 0, 3) by rw [hz]; exact R)
      have RA := Lib.hid (show allOf rest = ([], rest, 0, 0) from by first | exact all_short R.out | exact all_bad R.out (by decide) (by decide))
      clear hz
      have HN := Lib.hid hAt.len
      have hcp := hAt.cap
      have hf := hAt.few
      have hsz := hAt.b.size
      have hle := hAt.le
      go_upto_region 2 with (first | (go_at_call 72; go_must (refine (read_n rest n' HN.out.symm q _ _ _ R.out A' c' B hcp _ (by omega) hAt.rd).mono ?_; rintro e w3 ⟨rfl, hb3⟩)) | (refine wpList_store_at rfl 69 _ _ rfl _ 0 26 69 q.cells (bareL 0) rfl rfl (blk_new' _ _ _ _ rfl) (Pdu.cells_length _) (by decide) info_pdu (Pdu.one _) ?_))
      refine wp_gen (fun W => AllAt w bs ps rest A' n' c' B u2 W ∧ Blk W w3.heap.size 69 q.cells) ⟨(hAt.next hb3).next (put_new w3 q).2, (put_new w3 q).1⟩ ?_
      clear hAt hb3 hsz
      generalize w3.heap.size = g3
      rintro W ⟨hAt, hq⟩
      go_wp2_with (go_at_call 73; go_must (refine (clone_n rest n' HN.out.symm A' c' B (by omega) _ (by have := hAt.b.size; omega) hAt.rd).mono ?_; rintro e w5 ⟨A5, c5, rfl, hc5, hr5, hb5⟩))
      exact bodyPost_ret (v := .tuple #[u2, .slice A5 n' c5, .int .i64 0, .int .i64 0]) (by simp [results, Tryz.results44, go_sem]) rfl (hAt.done RA.out A5 c5 hc5 hr5 hb5)
    · obtain ⟨q, hz⟩ : ∃ q, q = bareP 0 := ⟨_, rfl⟩
      have R := Lib.hid (show readOf rest = (q, 0, 4, 2) by rw [hz]; exact R)
      have RA := Lib.hid (show allOf rest = ([], rest, 4, 2) from by first | exact all_short R.out | exact all_bad R.out (by decide) (by decide))
      clear hz
      have HN := Lib.hid hAt.len
      have hcp := hAt.cap
      have hf := hAt.few
      have hsz := hAt.b.size
      have hle := hAt.le
      go_upto_region 2 with (first | (go_at_call 72; go_must (refine (read_n rest n' HN.out.symm q _ _ _ R.out A' c' B hcp _ (by omega) hAt.rd).mono ?_; rintro e w3 ⟨rfl, hb3⟩)) | (refine wpList_store_at rfl 69 _ _ rfl _ 0 26 69 q.cells (bareL 0) rfl rfl (blk_new' _ _ _ _ rfl) (Pdu.cells_length _) (by decide) info_pdu (Pdu.one _) ?_))
      refine wp_gen (fun W => AllAt w bs ps rest A' n' c' B u2 W ∧ Blk W w3.heap.size 69 q.cells) ⟨(hAt.next hb3).next (put_new w3 q).2, (put_new w3 q).1⟩ ?_
      clear hAt hb3 hsz
      generalize w3.heap.size = g3
      rintro W ⟨hAt, hq⟩
      go_wp2_with (go_at_call 73; go_must (refine (clone_n rest n' HN.out.symm A' c' B (by omega) _ (by have := hAt.b.size; omega) hAt.rd).mono ?_; rintro e w5 ⟨A5, c5, rfl, hc5, hr5, hb5⟩))
      exact bodyPost_ret (v := .tuple #[u2, .slice A5 n' c5, .int .i64 4, .int .i64 2]) (by simp [results, Tryz.results44, go_sem]) rfl (hAt.done RA.out A5 c5 hc5 hr5 hb5)
    · obtain ⟨q, hz⟩ : ∃ q, q = bareP 0 := ⟨_, rfl⟩
      have R := Lib.hid (show readOf rest = (q, 0, 5, 2) by rw [hz]; exact R)
      have RA := Lib.hid (show allOf rest = ([], rest, 5, 2) from by first | exact all_short R.out | exact all_bad R.out (by decide) (by decide))
      clear hz
      have HN := Lib.hid hAt.len
      have hcp := hAt.cap
      have hf := hAt.few
      have hsz := hAt.b.size
      have hle := hAt.le
      go_upto_region 2 with (first | (go_at_call 72; go_must (refine (read_n rest n' HN.out.symm q _ _ _ R.out A' c' B hcp _ (by omega) hAt.rd).mono ?_; rintro e w3 ⟨rfl, hb3⟩)) | (refine wpList_store_at rfl 69 _ _ rfl _ 0 26 69 q.cells (bareL 0) rfl rfl (blk_new' _ _ _ _ rfl) (Pdu.cells_length _) (by decide) info_pdu (Pdu.one _) ?_))
      refine wp_gen (fun W => AllAt w bs ps rest A' n' c' B u2 W ∧ Blk W w3.heap.size 69 q.cells) ⟨(hAt.next hb3).next (put_new w3 q).2, (put_new w3 q).1⟩ ?_
      clear hAt hb3 hsz
      generalize w3.heap.size = g3
      rintro W ⟨hAt, hq⟩
      go_wp2_with (go_at_call 73; go_must (refine (clone_n rest n' HN.out.symm A' c' B (by omega) _ (by have := hAt.b.size; omega) hAt.rd).mono ?_; rintro e w5 ⟨A5, c5, rfl, hc5, hr5, hb5⟩))
      exact bodyPost_ret (v := .tuple #[u2, .slice A5 n' c5, .int .i64 5, .int .i64 2]) (by simp [results, Tryz.results44, go_sem]) rfl (hAt.done RA.out A5 c5 hc5 hr5 hb5)
    · obtain ⟨q, hz⟩ : ∃ q, q = bareP 0 := ⟨_, rfl⟩
      have R := Lib.hid (show readOf rest = (q, 0, 0, 2) by rw [hz]; exact R)
      have RA := Lib.hid (show allOf rest = ([], rest, 0, 2) from by first | exact all_short R.out | exact all_bad R.out (by decide) (by decide))
      clear hz
      have HN := Lib.hid hAt.len
      have hcp := hAt.cap
      have hf := hAt.few
      have hsz := hAt.b.size
      have hle := hAt.le
      go_upto_region 2 with (first | (go_at_call 72; go_must (refine (read_n rest n' HN.out.symm q _ _ _ R.out A' c' B hcp _ (by omega) hAt.rd).mono ?_; rintro e w3 ⟨rfl, hb3⟩)) | (refine wpList_store_at rfl 69 _ _ rfl _ 0 26 69 q.cells (bareL 0) rfl rfl (blk_new' _ _ _ _ rfl) (Pdu.cells_length _) (by decide) info_pdu (Pdu.one _) ?_))
      refine wp_gen (fun W => AllAt w bs ps rest A' n' c' B u2 W ∧ Blk W w3.heap.size 69 q.cells) ⟨(hAt.next hb3).next (put_new w3 q).2, (put_new w3 q).1⟩ ?_
      clear hAt hb3 hsz
      generalize w3.heap.size = g3
      rintro W ⟨hAt, hq⟩
      go_wp2_with (go_at_call 73; go_must (refine (clone_n rest n' HN.out.symm A' c' B (by omega) _ (by have := hAt.b.size; omega) hAt.rd).mono ?_; rintro e w5 ⟨A5, c5, rfl, hc5, hr5, hb5⟩))
      exact bodyPost_ret (v := .tuple #[u2, .slice A5 n' c5, .int .i64 0, .int .i64 2]) (by simp [results, Tryz.results44, go_sem]) rfl (hAt.done RA.out A5 c5 hc5 hr5 hb5)
    · have R := Lib.hid R
      clear hq1 hq2
      have HN := Lib.hid hAt.len
      have hcp := hAt.cap
      have hf := hAt.few
      have hsz := hAt.b.size
      have hle := hAt.le
      go_upto_region 2 with (first | (go_at_call 72; go_must (refine (read_n rest n' HN.out.symm q _ _ _ R.out A' c' B hcp _ (by omega) hAt.rd).mono ?_; rintro e w3 ⟨rfl, hb3⟩)) | (refine wpList_store_at rfl 69 _ _ rfl _ 0 26 69 q.cells (bareL 0) rfl rfl (blk_new' _ _ _ _ rfl) (Pdu.cells_length _) (by decide) info_pdu (Pdu.one _) ?_))
      refine wp_gen (fun W => AllAt w bs ps rest A' n' c' B u2 W ∧ Blk W w3.heap.size 69 q.cells) ⟨(hAt.next hb3).next (put_new w3 q).2, (put_new w3 q).1⟩ ?_
      clear hAt hb3 hsz
      generalize w3.heap.size = g3
      rintro W ⟨hAt, hq⟩
      obtain ⟨ad, rfl, _, _⟩ := hAt.rd.2 (by omega)
      have fl : (l : Int) ≤ (n' : Int) := by omega
      have fl' : l ≤ n' := by omega
      have flc : (l : Int) ≤ (c' : Int) := by omega
      have hql := Pdu.cells_length q
      have fl0 : (0 : Int) ≤ (l : Int) := by omega
      go_wp2_with (first | (refine wpList_load_at rfl 69 _ rfl g3 0 26 rfl _ _ hq.range (Pdu.cells_length _) Tryz.underlying69 rfl info_pdu ?_) | (refine wpList_build1 rfl 71 69 _ rfl q.cells 26 rfl hql Tryz.underlying71 (by kernel_rfl) (by kernel_rfl) (by omega) (by omega) ?_) | (at_builtin; go_must (refine wpList_append_any _ rfl _ _ 71 rfl w.heap.size 69 i0 _ 26 96 Tryz.underlying71 hi0 hz0 hz1 hz2 rfl (by omega) _ ps.length _ rfl (own_below hAt.own ((Below.refl _ _).alloc (Nat.le_refl _) _)) (W.heap.size + 1) (some ⟨W.heap.size, 0, none⟩) 1 1 _ rfl (reads_new26 q _ rfl) (Pdu.one _) (by simp only [maxLen]; omega) (by omega) (by have := hAt.b.size; simp; omega) ?_; intro v4 w4 ho4 hg4 _; have hbW := ((Below.refl w.heap.size W).alloc hAt.b.size _).grown hg4 (by have := hAt.b.size; simp; omega) (fun k hk => (own_base_le hAt.own k hk).1); clear hg4)))
      all_goals
        go_roundw
        case rel => exact hAt.more R.out hl8 fl' (hAt.b.trans hbW) (hAt.rd.below hbW hle) ho4 _ rfl
        case measure => simp only [lenV_slice]; omega
end Go.Proofs.YtmoldmnhijcckaaGreat
/- slices.Clone at bytes; what feeding does, as plain law; maps and reads apart. -/
set_option linter.unusedVariables false
set_option linter.unusedSectionVars false
set_option linter.unusedSimpArgs false
namespace Go.Proofs.YtmoldmnhijcckaaGreat
open Go.RowKit
set_option maxRecDepth 100000 in
set_option maxHeartbeats 1000000 in
theorem cloneU_any (bs : List UInt8) (n : Nat) (hn : bs.length = n) (A : Option Addr) (c B : Nat) (hlen : n ≤ 100000000) (w : World) (hB : B ≤ w.heap.size) (hr : Reads w B 1 A n (bs.map bv)) :
    Calls Tryz.prog 49 #[.slice A n c] w fun e w' => ∃ A' c', e = .returned (.slice A' n c') ∧ w'.ownsRow w.heap.size 5 1 (.slice A' n c') n (bs.map bv) ∧ Below w.heap.size w w' := by
  subst hn
  cases A with
  | none =>
    have h0 : bs.length = 0 := by
      rcases Nat.eq_zero_or_pos bs.length with h | h
      · exact h
      · obtain ⟨ad, e, _⟩ := hr.2 h
        cases e
    have H0 := Lib.hid (List.eq_nil_of_length_eq_zero h0)
    clear hr
    have hz : (Go.binOp .eql 29 (.slice none bs.length c) (.slice none 0 0)).run Tryz.prog w = .ok (.bool true) w := Lib.run_eql_slice_nil w _ _ none bs.length c 0 0 Tryz.underlying29
    rw [h0] at hz ⊢
    clear h0
    go_enter Tryz.func49, Tryz.ntmps49
    go_wp2
    go_ret
    exact ⟨none, 0, rfl, by rw [H0.out]; exact World.ownsRow_nil _ _ _ _, Below.refl _ _⟩
  | some ad =>
    obtain ⟨i0, hi0, hz0, hz1, hz2⟩ := info_parts info5b
    have hl0 := own_litV w w.heap.size 5 1 (Nat.le_refl _)
    have hbA : Below w.heap.size w (w.alloc (.cells #[] 5)) := (Below.refl _ _).alloc (Nat.le_refl _) _
    have hz : (Go.binOp .eql 29 (.slice (some ad) bs.length c) (.slice none 0 0)).run Tryz.prog w = .ok (.bool false) w := Lib.run_eql_slice_nil w _ _ (some ad) bs.length c 0 0 Tryz.underlying29
    go_enter Tryz.func49, Tryz.ntmps49
    go_wp2_with (at_builtin; go_must (refine wpList_append_any _ rfl _ _ 29 rfl w.heap.size 5 i0 _ 1 1 Tryz.underlying29 hi0 hz0 hz1 hz2 rfl (by omega) _ 0 _ rfl hl0 B (some ad) bs.length c _ rfl (hr.alloc hB _) (bv_one _) (by simp only [maxLen]; omega) (by omega) (by simp) ?_; intro v4 w4 ho4 hg4 _; rw [Nat.zero_add, List.nil_append] at ho4; obtain ⟨A4, c4, rfl⟩ := own_slice' ho4; have hb4 := hbA.grown hg4 (by simp) (fun k hk => (own_base_le hl0 k hk).1); clear hg4))
    go_ret
    exact ⟨A4, c4, rfl, ho4, hb4⟩
/-- What some messages are answered, and whether the router goes on behind them. -/
def goF (sess : Int) (ss : List SetV) : List Pdu → List UInt8 × Bool
  | [] => ([], true)
  | p :: ps => if (takeF sess ss p).2 then ((takeF sess ss p).1 ++ (goF sess ss ps).1, (goF sess ss ps).2) else ((takeF sess ss p).1, false)
/-- What bytes are answered behind those that are left, and what is left then; none: the router is over. -/
def feedF (sess : Int) (ss : List SetV) (L bb : List UInt8) : List UInt8 × Option (List UInt8) :=
  if (goF sess ss (allOf (L ++ bb)).1).2 then
    (if (allOf (L ++ bb)).2.2.2 = 0 then ((goF sess ss (allOf (L ++ bb)).1).1, some (allOf (L ++ bb)).2.1) else ((goF sess ss (allOf (L ++ bb)).1).1 ++ wrD (pdS 10 0 0 (allOf (L ++ bb)).2.2.1), none))
  else ((goF sess ss (allOf (L ++ bb)).1).1, none)
theorem cell_map {w : World} {b : Nat} {f : Int → Option Value} (h : MapI w b f) (p : Addr) (hp : p.block = b) : w.cell? p = none := by
  obtain ⟨es, n, hh, _⟩ := h
  unfold World.cell?
  rw [hp, hh]
theorem cell_maps {w w' : World} {b : Nat} {f f' : Int → Option Value} (h : MapI w b f) (h' : MapI w' b f') (hg : w.grownBy w' (some b)) (p : Addr) (hp : p.block < w.heap.size) : w'.cell? p = w.cell? p := by
  by_cases hb : p.block = b
  · rw [cell_map h p hb, cell_map h' p hb]
  · exact World.cell?_of_block (hg.block p.block hp (fun e => hb (Option.some.inj e)))
theorem own_map_ne {w : World} {b : Nat} {f : Int → Option Value} (h : MapI w b f) {base n size : Nat} {t : TypeId} {u : Value} {xs : List Value} (hu : w.ownsRow base t size u n xs) : u.ownBlock ≠ some b := by
  intro hk
  obtain ⟨es, m, hh, _⟩ := h
  rcases hu.2 with ⟨rfl, _⟩ | ⟨g', cap, cur, rfl, _, hh', _⟩
  · simp [Value.ownBlock] at hk
  · have : g' = b := by simpa [Value.ownBlock] using hk
    subst this
    rw [hh] at hh'
    cases hh'
theorem own_maps {w w' : World} {b : Nat} {f f' : Int → Option Value} (h : MapI w b f) (hg : w.grownBy w' (some b)) {base n size : Nat} {t : TypeId} {u : Value} {xs : List Value} (hu : w.ownsRow base t size u n xs) : w'.ownsRow base t size u n xs :=
  own_kept hu fun k hk => hg.block k (own_base_le hu k hk).2 (fun e => own_map_ne h hu (by rw [← e]; exact hk))
theorem blk_maps {w w' : World} {b : Nat} {f : Int → Option Value} (h : MapI w b f) (hg : w.grownBy w' (some b)) {g : Nat} {t : TypeId} {cs : List Value} (hB : Blk w g t cs) : Blk w' g t cs :=
  (hg.block g hB.lt (fun e => by
    obtain ⟨es, m, hh, _⟩ := h
    have : g = b := Option.some.inj e
    subst this
    unfold Blk at hB
    rw [hh] at hB
    cases hB)).trans hB
/-- A cache behind a change of what is left of one router. -/
theorem CA.putLeft {W W' : World} {lo g b : Nat} {sess : Int} {serial : UInt32} {v : Value} {ss : List SetV} {f : Int → Option Lf} {many : Int} (h : CA W lo g b sess serial v ss f many) (k : Int) (o : Option Lf) (ho : ∀ x, o = some x → Reads W W.heap.size 1 x.A x.bs.length (x.bs.map bv) ∧ x.bs.length ≤ x.c)
    (hm : MapI W' b (updI (fun k => (f k).map Lf.val) k (o.map Lf.val))) (hg : W.grownBy W' (some b)) : CA W' lo g b sess serial v ss (fun k' => if k' = k then o else f k') many := by
  refine ⟨blk_maps h.mp hg h.blk, own_maps (f' := fun _ => none) h.mp hg h.row, fun s hs => own_maps (f' := fun _ => none) h.mp hg (h.sets s hs), ?_, fun k' x hx => ?_, h.l1, h.l2⟩
  · have e : (fun k' => ((fun k' => if k' = k then o else f k') k').map Lf.val) = updI (fun k => (f k).map Lf.val) k (o.map Lf.val) := by
      funext k'
      unfold updI
      simp only
      split <;> rfl
    rw [e]
    exact hm
  · have hrd : ∀ {x : Lf}, Reads W W.heap.size 1 x.A x.bs.length (x.bs.map bv) → Reads W' W'.heap.size 1 x.A x.bs.length (x.bs.map bv) := fun hr => (hr.keep fun p hp => cell_maps h.mp hm hg p hp).more hg.size
    split at hx
    · exact ⟨hrd (ho x hx).1, (ho x hx).2⟩
    · exact ⟨hrd (h.left k' x hx).1, (h.left k' x hx).2⟩
end Go.Proofs.YtmoldmnhijcckaaGreat
