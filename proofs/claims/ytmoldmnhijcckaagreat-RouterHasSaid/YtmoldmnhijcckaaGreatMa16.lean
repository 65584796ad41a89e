/- The contracts of octet.Bytes (one, two, four bytes) and octet.Num (up to eight bytes). -/
import Derived.Test.YtmoldmnhijcckaaGreatMa00
import Derived.LoopN
import Derived.Laws.BitsAllLaws
import Derived.Test.YtmoldmnhijcckaaGreatMa04
import Derived.Test.YtmoldmnhijcckaaGreatMa15
import Derived.Lib.AppendStr
set_option linter.unusedVariables false
set_option linter.unusedSectionVars false
set_option linter.unusedSimpArgs false
namespace Go.Proofs.YtmoldmnhijcckaaGreat
open Go.RowKit
/-- A number's bytes, the highest first. -/
def beB (n : Nat) : Nat → List UInt8
  | 0 => []
  | k + 1 => beB (n / 256) k ++ [UInt8.ofNat n]
def beN (l : List UInt8) : Nat := l.foldl (fun a b => a * 256 + b.toNat) 0
theorem beB_length (n k : Nat) : (beB n k).length = k := by
  induction k generalizing n with
  | zero => rfl
  | succ k ih => simp [beB, ih]
def BytesPost (bs : List UInt8) (w : World) (e : Ending) (w' : World) : Prop :=
  ∃ g, e = .returned (.tuple #[.slice (some ⟨g, 0, none⟩) bs.length bs.length, .bool true]) ∧ Blk w' g 5 (bs.map bv) ∧ w.heap.size ≤ g ∧ Below w.heap.size w w'
/-- A number shifted to the right, closed to the walk. -/
def shN (n : Nat) (c : Int) : Nat := n / 2 ^ c.toNat
theorem shift_shN (n : Nat) (yk : IntKind) (c : Int) (h0 : 0 ≤ c) (h1 : c ≤ 64) : Op.shift .shr .u64 (n : Int) yk c = pure (.int .u64 (shN n c)) := by
  rw [shift_shr .u64 yk n c h0 h1]
  simp [shN]
attribute [local go_sem high] shift_shN
theorem bytesPost_mk (n k : Nat) (cs : List Value) (w : World) (h : cs = (beB n k).map bv) : BytesPost (beB n k) w (.returned (.tuple #[.slice (some ⟨w.heap.size, 0, none⟩) k k, .bool true])) (w.alloc (.cells cs.toArray 5)) := by
  subst h
  exact ⟨w.heap.size, by rw [beB_length], Blk.new _ _ _, Nat.le_refl _, (Below.refl _ _).alloc (Nat.le_refl _) _⟩
theorem shN_zero {n k : Nat} (h : n < 2 ^ k) (c : Int) (hc : c = k) : (((shN n c : Nat) : Int) != 0) = false := by
  subst hc
  simp [shN, Nat.div_eq_of_lt h]
set_option maxRecDepth 10000 in
set_option maxHeartbeats 1000000 in
theorem bytes_1 (n : Nat) (hn : n < 2 ^ 8) (w : World) : Calls Tryz.prog 57 #[.int .u64 n, .int .i64 1] w (BytesPost (beB n 1) w) := by
  have hmk : ∀ w, (Instr.makeSlice 29 (.int .i64 1) (.int .i64 1)).run Tryz.prog w = .ok (.slice (some ⟨w.heap.size, 0, none⟩) 1 1) (w.alloc (.cells #[.int .u8 0] 5)) := fun _ => by kernel_rfl
  have hz := shN_zero hn 8 (by decide)
  clear hn
  go_enter Tryz.func57, Tryz.ntmps57
  go_wp2_with fail
  refine wp_loop_rounds 2 ?_
  rw [rounds_succ]
  go_wp2
  rw [rounds_succ]
  go_wp2
  go_ret2
  refine bytesPost_mk n 1 [_] w ?_
  simp [beB, bv, shN, Nat.div_div_eq_div_mul]
set_option maxRecDepth 10000 in
set_option maxHeartbeats 1000000 in
theorem bytes_2 (n : Nat) (hn : n < 2 ^ 16) (w : World) : Calls Tryz.prog 57 #[.int .u64 n, .int .i64 2] w (BytesPost (beB n 2) w) := by
  have hmk : ∀ w, (Instr.makeSlice 29 (.int .i64 2) (.int .i64 2)).run Tryz.prog w = .ok (.slice (some ⟨w.heap.size, 0, none⟩) 2 2) (w.alloc (.cells #[.int .u8 0, .int .u8 0] 5)) := fun _ => by kernel_rfl
  have hz := shN_zero hn 16 (by decide)
  clear hn
  go_enter Tryz.func57, Tryz.ntmps57
  go_wp2_with fail
  refine wp_loop_rounds 3 ?_
  rw [rounds_succ]
  go_wp2
  rw [rounds_succ]
  go_wp2
  rw [rounds_succ]
  go_wp2
  go_ret2
  refine bytesPost_mk n 2 [_, _] w ?_
  simp [beB, bv, shN, Nat.div_div_eq_div_mul]
set_option maxRecDepth 10000 in
set_option maxHeartbeats 1000000 in
theorem bytes_4 (n : Nat) (hn : n < 2 ^ 32) (w : World) : Calls Tryz.prog 57 #[.int .u64 n, .int .i64 4] w (BytesPost (beB n 4) w) := by
  have hmk : ∀ w, (Instr.makeSlice 29 (.int .i64 4) (.int .i64 4)).run Tryz.prog w = .ok (.slice (some ⟨w.heap.size, 0, none⟩) 4 4) (w.alloc (.cells #[.int .u8 0, .int .u8 0, .int .u8 0, .int .u8 0] 5)) := fun _ => by kernel_rfl
  have hz := shN_zero hn 32 (by decide)
  clear hn
  go_enter Tryz.func57, Tryz.ntmps57
  go_wp2_with fail
  refine wp_loop_rounds 5 ?_
  rw [rounds_succ]
  go_wp2
  rw [rounds_succ]
  go_wp2
  rw [rounds_succ]
  go_wp2
  rw [rounds_succ]
  go_wp2
  rw [rounds_succ]
  go_wp2
  go_ret2
  refine bytesPost_mk n 4 [_, _, _, _] w ?_
  simp [beB, bv, shN, Nat.div_div_eq_div_mul]
theorem beN_snoc (l : List UInt8) (b : UInt8) : beN (l ++ [b]) = beN l * 256 + b.toNat := by simp [beN]
theorem beN_lt (l : List UInt8) : beN l < 256 ^ l.length := by
  generalize hl : l.length = n
  induction n generalizing l with
  | zero => obtain rfl := List.eq_nil_of_length_eq_zero hl; simp [beN]
  | succ n ih =>
    have hne : l ≠ [] := fun h => by rw [h] at hl; simp at hl
    have h2 := ih l.dropLast (by simp [hl])
    rw [← List.dropLast_concat_getLast hne, beN_snoc, Nat.pow_succ]
    have := (l.getLast hne).toNat_lt
    omega
theorem beN_take {bs : List UInt8} {k : Nat} (hk : k < bs.length) : beN (bs.take (k + 1)) = beN (bs.take k) * 256 + (bs.getD k 0).toNat := by
  rw [List.take_succ_eq_append_getElem hk, beN_snoc]; simp [List.getD_eq_getElem?_getD, hk]
theorem or_step {x : Nat} {b : UInt8} (hx : x < 2 ^ 56) : Go.bits .or .u64 ((x : Int) * 256) (b.toNat : Int) = ((x * 256 + b.toNat : Nat) : Int) := by
  have hb := b.toNat_lt
  have h := u64_or_nat (x * 256) b.toNat (by omega) (by omega)
  rw [show ((x : Int) * 256) = ((x * 256 : Nat) : Int) from by omega, h]
  have h2 := Nat.shiftLeft_add_eq_or_of_lt (i := 8) (show b.toNat < 2 ^ 8 by omega) x
  rw [Nat.shiftLeft_eq] at h2
  rw [show x * 256 = x * 2 ^ 8 from rfl, ← h2]
theorem or_wrap {x : Nat} {b : UInt8} (hx : x < 2 ^ 56) : Go.bits .or .u64 (IntKind.u64.wrap ((x : Int) * 256)) (IntKind.u64.wrap (b.toNat : Int)) = ((x * 256 + b.toNat : Nat) : Int) := by
  have hb := b.toNat_lt
  rw [IntKind.wrap_u64, IntKind.wrap_u64, ← or_step hx]
  congr 1 <;> omega
set_option maxRecDepth 10000 in
set_option maxHeartbeats 1000000 in
theorem num_any (bs : List UInt8) (hn : bs.length ≤ 8) (A : Option Addr) (c B : Nat) (w : World) (hr : Reads w B 1 A bs.length (bs.map bv)) :
    Calls Tryz.prog 142 #[.slice A bs.length c] w fun e w' => e = .returned (.tuple #[.int .u64 (beN bs), .bool true]) ∧ w = w' := by
  have h8 : decide ((8 : Int) < (bs.length : Int)) = false := by simp; omega
  have h8' : decide (8 < bs.length) = false := by simpa using hn
  go_enter Tryz.func142, Tryz.ntmps142
  go_wp2_with fail
  refine wp_loop_rounds 1 ?_
  rw [rounds_succ]
  go_wp2_with fail
  go_loop [4, 6, 18] (fun x _ i => ∃ k : Nat, k ≤ bs.length ∧ i = .int .i64 k ∧ x = .int .u64 (beN (bs.take k))) (fun _ _ i => bs.length - (intOf i).toNat)
  case atStart => exact ⟨0, Nat.zero_le _, rfl, rfl⟩
  case round =>
    obtain ⟨k, hk, rfl, rfl⟩ := hrel
    by_cases hlt : k < bs.length
    · obtain ⟨ad, u, rfl, _, hu, hc⟩ := hr.at_ hlt
      have hu' : u = .int .u8 (bs.getD k 0).toNat := by simpa [bv, hlt, List.getD_eq_getElem?_getD] using hu.symm
      subst hu'
      clear hu
      go_wp2
      go_round
      case rel =>
        refine ⟨k + 1, by omega, by go_num, ?_⟩
        have hx : beN (bs.take k) < 2 ^ 56 := Nat.lt_of_lt_of_le (beN_lt _) (by rw [show (2 : Nat) ^ 56 = 256 ^ 7 from rfl, List.length_take]; exact Nat.pow_le_pow_right (by omega) (by omega))
        rw [or_wrap hx, beN_take hlt]; simp [List.getD_eq_getElem?_getD, hlt]
      case measure => simp [intOf]; omega
    · go_wp2
      go_ret2
      exact ⟨by rw [show beN bs = beN (bs.take k) by rw [List.take_of_length_le (by omega)]]; rfl, rfl⟩
end Go.Proofs.YtmoldmnhijcckaaGreat
/- The contract of the closure of pdu.Write: bytes laid behind what there is. -/
set_option linter.unusedVariables false
set_option linter.unusedSectionVars false
set_option linter.unusedSimpArgs false
namespace Go.Proofs.YtmoldmnhijcckaaGreat
open Go.RowKit
theorem info5b : (Tryz.prog.info? 5).map (fun i => (i.zero, i.size, i.bytes)) = some (some (.int .u8 0), 1, 1) := by kernel_rfl
/-- A variable (block bo) that holds a row of bytes of the call's own. -/
def OutV (w : World) (bo base : Nat) (xs : List UInt8) : Prop := ∃ v, Blk w bo 29 [v] ∧ w.ownsRow base 5 1 v xs.length (xs.map bv)
theorem OutV.below {w w' : World} {bo base : Nat} {xs : List UInt8} (h : OutV w bo base xs) (hb : Below w.heap.size w w') : OutV w' bo base xs := by
  obtain ⟨v, h1, h2⟩ := h
  exact ⟨v, h1.below hb h1.lt, own_below h2 hb⟩
theorem OutV.drew {w : World} {bo base : Nat} {xs : List UInt8} (h : OutV w bo base xs) : OutV w.drew bo base xs := h.below (Below.refl _ _).drew
/-- What is no row of bytes, and is not the variable, stands. -/
def Stands (w w' : World) (bo : Nat) : Prop := ∀ g t cs, t ≠ 5 → g ≠ bo → Blk w g t cs → Blk w' g t cs
theorem Stands.trans {a b c : World} {bo : Nat} (h : Stands a b bo) (k : Stands b c bo) : Stands a c bo := fun g t cs h1 h2 h3 => k g t cs h1 h2 (h g t cs h1 h2 h3)
theorem Stands.of_below {w w' : World} {bo : Nat} (hb : Below w.heap.size w w') : Stands w w' bo := fun g t cs _ _ h => h.below hb h.lt
theorem Stands.of_grown {w w' : World} {bo base : Nat} {v : Value} {n : Nat} {xs : List Value} (ho : w.ownsRow base 5 1 v n xs) (hg : w.grownBy w' v.ownBlock) : Stands w w' bo := fun g t cs h1 _ h => h.grown hg (fun e => own_blk_ne ho h (fun e => h1 e.symm) e.symm)
theorem Stands.set (w : World) (bo i : Nat) (u : Value) : Stands w (w.setCell ⟨bo, i, none⟩ u) bo := fun g t cs _ h2 h => h.far h2 u
theorem OutV.store {w w2 : World} {bo base : Nat} {v v2 : Value} {xs ys : List UInt8} (hb : Blk w bo 29 [v]) (ho : w.ownsRow base 5 1 v xs.length (xs.map bv)) (hbo : base ≤ bo) (hsz : base ≤ w.heap.size)
    (hg : w.grownBy w2 v.ownBlock) (ho2 : w2.ownsRow base 5 1 v2 ys.length (ys.map bv)) : OutV (w2.setCell ⟨bo, 0, none⟩ v2) bo base ys ∧ Below base w (w2.setCell ⟨bo, 0, none⟩ v2) := by
  have hb2 : Blk w2 bo 29 [v] := hb.grown hg (fun e => own_blk_ne ho hb (by decide) e.symm)
  have hne := own_blk_ne ho2 hb2 (by decide)
  exact ⟨⟨v2, hb2.set_ 0 v2, own_kept ho2 fun k hk => Below.heap_setCell _ _ _ _ (fun e => hne (by rw [hk, e]))⟩,
    ((Below.refl base w).grown hg hsz (fun k hk => (own_base_le ho k hk).1)).setCell hbo _⟩
def LayPost (bo base : Nat) (ys : List UInt8) (w : World) (e : Ending) (w' : World) : Prop := e = .returned (.tuple #[]) ∧ OutV w' bo base ys ∧ Below base w w' ∧ Stands w w' bo
set_option maxRecDepth 100000 in
set_option maxHeartbeats 1000000 in
theorem lay_1 (n bo base : Nat) (xs : List UInt8) (w : World) (hn : n < 2 ^ (8 * 1)) (hv : OutV w bo base xs) (hbo : base ≤ bo) (hsz : base ≤ w.heap.size) (hl : xs.length ≤ 140737488355000) :
    Calls Tryz.prog 56 #[.int .i64 n, .int .i64 1, .pointer (some ⟨bo, 0, none⟩)] w (LayPost bo base (xs ++ beB n 1) w) := by
  obtain ⟨i0, hi0, hz0, hz1, hz2⟩ := info_parts info5b
  obtain ⟨v, hb, ho⟩ := hv
  have hB := bytes_1 n hn
  have hcv : IntKind.u64.wrap (n : Int) = n := by rw [IntKind.wrap_u64]; omega
  have Hl := Lib.hid hl
  have hlen : (beB n 1).length = 1 := beB_length n 1
  clear hn hl
  have HB := Lib.hid hB
  have Hlen := Lib.hid hlen
  clear hB hlen
  go_enter Tryz.func56, Tryz.ntmps56
  go_wp2_with fail
  refine (HB.out _).mono ?_
  rintro e w1 ⟨gb, rfl, hgb, hge, hb1⟩
  rw [Hlen.out]
  have hbx := hb.below hb1 hb.lt
  have cb := hbx.cell 0
  have fb := hbx.frozen 0
  rw [List.getElem?_cons_zero] at cb
  obtain ⟨A, c, rfl⟩ := own_slice' ho
  have ho1 := own_below ho hb1
  have hsz1 : base ≤ w1.heap.size := Nat.le_trans hsz hb1.size
  have hr : Reads w1 (gb + 1) 1 (some ⟨gb, 0, none⟩) 1 ((beB n 1).map bv) := ⟨by simp [Hlen.out], fun _ => ⟨_, rfl, by simp, fun j u hu => by rw [add_plain', Nat.zero_add, hgb.cell]; exact hu⟩⟩
  go_wp2_with (at_builtin; refine wpList_append_any _ rfl _ _ 29 rfl base 5 i0 _ 1 1 Tryz.underlying29 hi0 hz0 hz1 hz2 rfl (by omega) _ xs.length _ rfl ho1 (gb + 1) (some ⟨gb, 0, none⟩) 1 1 _ rfl hr (bv_one _) (by have := Hl.out; simp only [maxLen]; omega) (by have := Hl.out; omega) hsz1 ?_; intro v2 w2 ho2 hg2 _; obtain ⟨A2, c2, rfl⟩ := own_slice' ho2; have hbx2 := hbx.grown hg2 (fun e => own_blk_ne ho1 hbx (by decide) e.symm); have cb2 := hbx2.cell 0; have fb2 := hbx2.frozen 0; rw [List.getElem?_cons_zero] at cb2)
  have hy : xs.map bv ++ (beB n 1).map bv = (xs ++ beB n 1).map bv := by simp
  rw [hy] at ho2
  have hyl : xs.length + 1 = (xs ++ beB n 1).length := by simp [Hlen.out]
  have hf := OutV.store (ys := xs ++ beB n 1) hbx ho1 hbo hsz1 hg2 (by rw [← hyl]; exact ho2)
  go_end0
  exact ⟨rfl, hf.1, (hb1.mono hsz).trans hf.2, ((Stands.of_below hb1).trans (Stands.of_grown ho1 hg2)).trans (Stands.set _ _ _ _)⟩
set_option maxRecDepth 100000 in
set_option maxHeartbeats 1000000 in
theorem lay_2 (n bo base : Nat) (xs : List UInt8) (w : World) (hn : n < 2 ^ (8 * 2)) (hv : OutV w bo base xs) (hbo : base ≤ bo) (hsz : base ≤ w.heap.size) (hl : xs.length ≤ 140737488355000) :
    Calls Tryz.prog 56 #[.int .i64 n, .int .i64 2, .pointer (some ⟨bo, 0, none⟩)] w (LayPost bo base (xs ++ beB n 2) w) := by
  obtain ⟨i0, hi0, hz0, hz1, hz2⟩ := info_parts info5b
  obtain ⟨v, hb, ho⟩ := hv
  have hB := bytes_2 n hn
  have hcv : IntKind.u64.wrap (n : Int) = n := by rw [IntKind.wrap_u64]; omega
  have Hl := Lib.hid hl
  have hlen : (beB n 2).length = 2 := beB_length n 2
  clear hn hl
  have HB := Lib.hid hB
  have Hlen := Lib.hid hlen
  clear hB hlen
  go_enter Tryz.func56, Tryz.ntmps56
  go_wp2_with fail
  refine (HB.out _).mono ?_
  rintro e w1 ⟨gb, rfl, hgb, hge, hb1⟩
  rw [Hlen.out]
  have hbx := hb.below hb1 hb.lt
  have cb := hbx.cell 0
  have fb := hbx.frozen 0
  rw [List.getElem?_cons_zero] at cb
  obtain ⟨A, c, rfl⟩ := own_slice' ho
  have ho1 := own_below ho hb1
  have hsz1 : base ≤ w1.heap.size := Nat.le_trans hsz hb1.size
  have hr : Reads w1 (gb + 1) 1 (some ⟨gb, 0, none⟩) 2 ((beB n 2).map bv) := ⟨by simp [Hlen.out], fun _ => ⟨_, rfl, by simp, fun j u hu => by rw [add_plain', Nat.zero_add, hgb.cell]; exact hu⟩⟩
  go_wp2_with (at_builtin; refine wpList_append_any _ rfl _ _ 29 rfl base 5 i0 _ 1 1 Tryz.underlying29 hi0 hz0 hz1 hz2 rfl (by omega) _ xs.length _ rfl ho1 (gb + 1) (some ⟨gb, 0, none⟩) 2 2 _ rfl hr (bv_one _) (by have := Hl.out; simp only [maxLen]; omega) (by have := Hl.out; omega) hsz1 ?_; intro v2 w2 ho2 hg2 _; obtain ⟨A2, c2, rfl⟩ := own_slice' ho2; have hbx2 := hbx.grown hg2 (fun e => own_blk_ne ho1 hbx (by decide) e.symm); have cb2 := hbx2.cell 0; have fb2 := hbx2.frozen 0; rw [List.getElem?_cons_zero] at cb2)
  have hy : xs.map bv ++ (beB n 2).map bv = (xs ++ beB n 2).map bv := by simp
  rw [hy] at ho2
  have hyl : xs.length + 2 = (xs ++ beB n 2).length := by simp [Hlen.out]
  have hf := OutV.store (ys := xs ++ beB n 2) hbx ho1 hbo hsz1 hg2 (by rw [← hyl]; exact ho2)
  go_end0
  exact ⟨rfl, hf.1, (hb1.mono hsz).trans hf.2, ((Stands.of_below hb1).trans (Stands.of_grown ho1 hg2)).trans (Stands.set _ _ _ _)⟩
set_option maxRecDepth 100000 in
set_option maxHeartbeats 1000000 in
theorem lay_4 (n bo base : Nat) (xs : List UInt8) (w : World) (hn : n < 2 ^ (8 * 4)) (hv : OutV w bo base xs) (hbo : base ≤ bo) (hsz : base ≤ w.heap.size) (hl : xs.length ≤ 140737488355000) :
    Calls Tryz.prog 56 #[.int .i64 n, .int .i64 4, .pointer (some ⟨bo, 0, none⟩)] w (LayPost bo base (xs ++ beB n 4) w) := by
  obtain ⟨i0, hi0, hz0, hz1, hz2⟩ := info_parts info5b
  obtain ⟨v, hb, ho⟩ := hv
  have hB := bytes_4 n hn
  have hcv : IntKind.u64.wrap (n : Int) = n := by rw [IntKind.wrap_u64]; omega
  have Hl := Lib.hid hl
  have hlen : (beB n 4).length = 4 := beB_length n 4
  clear hn hl
  have HB := Lib.hid hB
  have Hlen := Lib.hid hlen
  clear hB hlen
  go_enter Tryz.func56, Tryz.ntmps56
  go_wp2_with fail
  refine (HB.out _).mono ?_
  rintro e w1 ⟨gb, rfl, hgb, hge, hb1⟩
  rw [Hlen.out]
  have hbx := hb.below hb1 hb.lt
  have cb := hbx.cell 0
  have fb := hbx.frozen 0
  rw [List.getElem?_cons_zero] at cb
  obtain ⟨A, c, rfl⟩ := own_slice' ho
  have ho1 := own_below ho hb1
  have hsz1 : base ≤ w1.heap.size := Nat.le_trans hsz hb1.size
  have hr : Reads w1 (gb + 1) 1 (some ⟨gb, 0, none⟩) 4 ((beB n 4).map bv) := ⟨by simp [Hlen.out], fun _ => ⟨_, rfl, by simp, fun j u hu => by rw [add_plain', Nat.zero_add, hgb.cell]; exact hu⟩⟩
  go_wp2_with (at_builtin; refine wpList_append_any _ rfl _ _ 29 rfl base 5 i0 _ 1 1 Tryz.underlying29 hi0 hz0 hz1 hz2 rfl (by omega) _ xs.length _ rfl ho1 (gb + 1) (some ⟨gb, 0, none⟩) 4 4 _ rfl hr (bv_one _) (by have := Hl.out; simp only [maxLen]; omega) (by have := Hl.out; omega) hsz1 ?_; intro v2 w2 ho2 hg2 _; obtain ⟨A2, c2, rfl⟩ := own_slice' ho2; have hbx2 := hbx.grown hg2 (fun e => own_blk_ne ho1 hbx (by decide) e.symm); have cb2 := hbx2.cell 0; have fb2 := hbx2.frozen 0; rw [List.getElem?_cons_zero] at cb2)
  have hy : xs.map bv ++ (beB n 4).map bv = (xs ++ beB n 4).map bv := by simp
  rw [hy] at ho2
  have hyl : xs.length + 4 = (xs ++ beB n 4).length := by simp [Hlen.out]
  have hf := OutV.store (ys := xs ++ beB n 4) hbx ho1 hbo hsz1 hg2 (by rw [← hyl]; exact ho2)
  go_end0
  exact ⟨rfl, hf.1, (hb1.mono hsz).trans hf.2, ((Stands.of_below hb1).trans (Stands.of_grown ho1 hg2)).trans (Stands.set _ _ _ _)⟩
theorem layI_1 (n : Int) (bo base : Nat) (xs : List UInt8) (w : World) (h0 : 0 ≤ n) (hn : n < 256) (hv : OutV w bo base xs) (hbo : base ≤ bo) (hsz : base ≤ w.heap.size) (hl : xs.length ≤ 140737488355000) :
    Calls Tryz.prog 56 #[.int .i64 n, .int .i64 1, .pointer (some ⟨bo, 0, none⟩)] w (LayPost bo base (xs ++ beB n.toNat 1) w) := by
  obtain ⟨m, rfl⟩ := Int.eq_ofNat_of_zero_le h0
  exact lay_1 m bo base xs w (by omega) hv hbo hsz hl
theorem layI_2 (n : Int) (bo base : Nat) (xs : List UInt8) (w : World) (h0 : 0 ≤ n) (hn : n < 65536) (hv : OutV w bo base xs) (hbo : base ≤ bo) (hsz : base ≤ w.heap.size) (hl : xs.length ≤ 140737488355000) :
    Calls Tryz.prog 56 #[.int .i64 n, .int .i64 2, .pointer (some ⟨bo, 0, none⟩)] w (LayPost bo base (xs ++ beB n.toNat 2) w) := by
  obtain ⟨m, rfl⟩ := Int.eq_ofNat_of_zero_le h0
  exact lay_2 m bo base xs w (by omega) hv hbo hsz hl
theorem layI_4 (n : Int) (bo base : Nat) (xs : List UInt8) (w : World) (h0 : 0 ≤ n) (hn : n < 4294967296) (hv : OutV w bo base xs) (hbo : base ≤ bo) (hsz : base ≤ w.heap.size) (hl : xs.length ≤ 140737488355000) :
    Calls Tryz.prog 56 #[.int .i64 n, .int .i64 4, .pointer (some ⟨bo, 0, none⟩)] w (LayPost bo base (xs ++ beB n.toNat 4) w) := by
  obtain ⟨m, rfl⟩ := Int.eq_ofNat_of_zero_le h0
  exact lay_4 m bo base xs w (by omega) hv hbo hsz hl
end Go.Proofs.YtmoldmnhijcckaaGreat
/- The contract of pdu.Write. -/
set_option linter.unusedVariables false
set_option linter.unusedSectionVars false
set_option linter.unusedSimpArgs false
namespace Go.Proofs.YtmoldmnhijcckaaGreat
open Go.RowKit
attribute [local go_sem high] run_imax run_imin
/-- What stands behind the head. -/
def wrBody (p : Pdu) : List UInt8 :=
  if p.kind = 0 ∨ p.kind = 1 then beB p.serial.toNat 4
  else if p.kind = 4 ∨ p.kind = 6 then beB (if p.add then 1 else 0) 1 ++ beB p.v.p.len.toNat 1 ++ beB p.v.mx.toNat 1 ++ beB 0 1 ++ p.v.p.a.l.take (widthOf p.kind).toNat ++ beB p.v.asn.toNat 4
  else if p.kind = 7 then beB p.serial.toNat 4 ++ beB 3600 4 ++ beB 600 4 ++ beB 7200 4
  else if p.kind = 10 then beB 0 4 ++ beB p.text.size 4 ++ p.text.data.toList
  else []
def wrHead (p : Pdu) : List UInt8 := [1, UInt8.ofNat p.kind.toNat] ++ beB (imax p.session p.code).toNat 2 ++ beB (lenOf p.kind + p.text.size).toNat 4
/-- A message's bytes. -/
def wrB (p : Pdu) : List UInt8 := wrHead p ++ wrBody p
def WrPost (p : Pdu) (w : World) (e : Ending) (w' : World) : Prop :=
  (pduOk p = true → ∃ v, e = .returned (.tuple #[v, .int .i64 0]) ∧ w'.ownsRow w.heap.size 5 1 v (wrB p).length ((wrB p).map bv)) ∧
  (pduOk p = false → e = .returned (.tuple #[.slice none 0 0, .int .i64 1])) ∧ Below w.heap.size w w'
set_option maxRecDepth 100000 in
set_option maxHeartbeats 1000000 in
theorem write_no (p : Pdu) (w : World) (h : pduOk p = false) : Calls Tryz.prog 34 #[p.val] w (WrPost p w) := by
  simp only [Pdu.val]
  have H := Lib.hid h
  clear h
  have hX := Bx.new w p
  go_enter Tryz.func34, Tryz.ntmps34
  go_wp2_with (first | (refine wpList_load_at rfl 69 _ rfl w.heap.size 0 26 rfl _ _ hX.1.range (Pdu.cells_length _) Tryz.underlying69 rfl info_pdu ?_) | (go_at_call 55; refine (right_any p _).mono ?_; rintro e w1 ⟨rfl, hb1⟩; replace hX := hX.next hb1; rw [H.out]))
  go_ret2
  exact ⟨fun h => (by rw [H.out] at h; cases h), fun _ => rfl, hX.2⟩
/-- The box, and what is laid so far. -/
structure WS (w : World) (p : Pdu) (bo base : Nat) (xs : List UInt8) (W : World) : Prop where
  bx : Bx w p W
  out : OutV W bo base xs
  lt : w.heap.size < base
  le : base ≤ bo
  sz : base ≤ W.heap.size
theorem WS.cast {w : World} {p : Pdu} {bo base : Nat} {xs ys : List UInt8} {W : World} (h : WS w p bo base xs W) (e : xs = ys) : WS w p bo base ys W := e ▸ h
theorem WS.drew {w : World} {p : Pdu} {bo base : Nat} {xs : List UInt8} {W : World} (h : WS w p bo base xs W) : WS w p bo base xs W.drew := ⟨h.bx.drew, h.out.drew, h.lt, h.le, h.sz⟩
theorem WS.below {w : World} {p : Pdu} {bo base : Nat} {xs : List UInt8} {W W' : World} (h : WS w p bo base xs W) (hb : Below W.heap.size W W') : WS w p bo base xs W' :=
  ⟨h.bx.next hb, h.out.below hb, h.lt, h.le, Nat.le_trans h.sz hb.size⟩
theorem WS.lay {w : World} {p : Pdu} {bo base : Nat} {xs ys : List UInt8} {W W' : World} (h : WS w p bo base xs W) (ho : OutV W' bo base ys) (hb : Below base W W') : WS w p bo base ys W' :=
  ⟨⟨h.bx.1.below hb h.lt, h.bx.2.trans (hb.mono (Nat.le_of_lt h.lt))⟩, ho, h.lt, h.le, Nat.le_trans h.sz hb.size⟩
theorem ws_start {w : World} {p : Pdu} {W : World} (h : Bx w p W) (a b : UInt8) (va vb : Value) (ha : va = bv a) (hb : vb = bv b) (v : Value) (hv : v = .slice (some ⟨W.heap.size, 0, none⟩) 2 2) :
    WS w p (W.heap.size + 1) W.heap.size [a, b] ((W.alloc (.cells #[va, vb] 5)).alloc (.cells #[v] 29)) := by
  subst ha; subst hb; subst hv
  have h1 := World.ownsRow_lit (base := W.heap.size) (e := 5) (size := 1) W #[bv a, bv b] 2 (Nat.le_refl _) (by decide) (by simp)
  refine ⟨⟨(h.1.alloc _).alloc _, (h.2.alloc h.2.size _).alloc (by simp; have := h.2.size; omega) _⟩, ⟨_, blk_new' _ _ [_] _ (by simp), own_below h1 ((Below.refl _ _).alloc (Nat.le_refl _) _)⟩, h.1.lt, by omega, by simp; omega⟩
theorem ok_parts {p : Pdu} (h : pduOk p = true) : isKind p.kind = true ∧ namedOf p = p ∧ 0 ≤ imin p.session p.code ∧ imax p.session p.code ≤ 65535 ∧ p.text.size ≤ 200 ∧ (p.kind = 4 ∨ p.kind = 6 → vrpOk p.v = true ∧ p.v.p.v6 = decide (p.kind = 6)) := by
  unfold pduOk at h
  simp only [Bool.and_eq_true, decide_eq_true_eq] at h
  obtain ⟨h1, h2, h3, h4, h5, h6⟩ := h
  refine ⟨h1, h2, h3, h4, h5, fun hk => ?_⟩
  rw [if_pos hk] at h6
  simpa using h6
theorem kind_bd {k : Int} (h : isKind k = true) : 0 ≤ k ∧ k ≤ 10 := by unfold isKind at h; simp at h; omega
theorem lenOf_bd (k : Int) : 0 ≤ lenOf k ∧ lenOf k ≤ 32 := by unfold lenOf; repeat' split
                                                              all_goals omega
end Go.Proofs.YtmoldmnhijcckaaGreat
