/- The contracts of octet.Bytes (one, two, four bytes) and octet.Num (up to eight bytes). -/
import Derived.Test.YtmoldmnhijcckaaMa00
import Derived.Test.YtmoldmnhijcckaaMa01
import Derived.LoopN
import Derived.Laws.BitsAllLaws
set_option linter.unusedVariables false
set_option linter.unusedSectionVars false
set_option linter.unusedSimpArgs false
namespace Go.Proofs.Ytmoldmnhijcckaa
open Go.RowKit
/-- A number's bytes, the highest first. -/
def beB (n : Nat) : Nat → List UInt8
  | 0 => []
  | k + 1 => beB (n / 256) k ++ [UInt8.ofNat n]
def beN (l : List UInt8) : Nat := l.foldl (fun a b => a * 256 + b.toNat) 0
theorem beB_length (n k : Nat) : (beB n k).length = k := by
  induction k generalizing n with
  | zero => rfl
  | succ k ih => simp [beB, ih]
def BytesPost (bs : List UInt8) (w : World) (e : Ending) (w' : World) : Prop :=
  ∃ g, e = .returned (.tuple #[.slice (some ⟨g, 0, none⟩) bs.length bs.length, .bool true]) ∧ Blk w' g 5 (bs.map bv) ∧ w.heap.size ≤ g ∧ Below w.heap.size w w'
/-- A number shifted to the right, closed to the walk. -/
def shN (n : Nat) (c : Int) : Nat := n / 2 ^ c.toNat
theorem shift_shN (n : Nat) (yk : IntKind) (c : Int) (h0 : 0 ≤ c) (h1 : c ≤ 64) : Op.shift .shr .u64 (n : Int) yk c = pure (.int .u64 (shN n c)) := by
  rw [shift_shr .u64 yk n c h0 h1]
  simp [shN]
attribute [local go_sem high] shift_shN
theorem bytesPost_mk (n k : Nat) (cs : List Value) (w : World) (h : cs = (beB n k).map bv) : BytesPost (beB n k) w (.returned (.tuple #[.slice (some ⟨w.heap.size, 0, none⟩) k k, .bool true])) (w.alloc (.cells cs.toArray 5)) := by
  subst h
  exact ⟨w.heap.size, by rw [beB_length], Blk.new _ _ _, Nat.le_refl _, (Below.refl _ _).alloc (Nat.le_refl _) _⟩
theorem shN_zero {n k : Nat} (h : n < 2 ^ k) (c : Int) (hc : c = k) : (((shN n c : Nat) : Int) != 0) = false := by
  subst hc
  simp [shN, Nat.div_eq_of_lt h]
set_option maxRecDepth 10000 in
set_option maxHeartbeats 1000000 in
theorem bytes_1 (n : Nat) (hn : n < 2 ^ 8) (w : World) : Calls Try.prog 37 #[.int .u64 n, .int .i64 1] w (BytesPost (beB n 1) w) := by
  have hmk : ∀ w, (Instr.makeSlice 30 (.int .i64 1) (.int .i64 1)).run Try.prog w = .ok (.slice (some ⟨w.heap.size, 0, none⟩) 1 1) (w.alloc (.cells #[.int .u8 0] 5)) := fun _ => by kernel_rfl
  have hz := shN_zero hn 8 (by decide)
  clear hn
  go_enter Try.func37, Try.ntmps37
  go_wp2_with fail
  refine wp_loop_rounds 2 ?_
  rw [rounds_succ]
  go_wp2
  rw [rounds_succ]
  go_wp2
  go_ret2
  refine bytesPost_mk n 1 [_] w ?_
  simp [beB, bv, shN, Nat.div_div_eq_div_mul]
set_option maxRecDepth 10000 in
set_option maxHeartbeats 1000000 in
theorem bytes_2 (n : Nat) (hn : n < 2 ^ 16) (w : World) : Calls Try.prog 37 #[.int .u64 n, .int .i64 2] w (BytesPost (beB n 2) w) := by
  have hmk : ∀ w, (Instr.makeSlice 30 (.int .i64 2) (.int .i64 2)).run Try.prog w = .ok (.slice (some ⟨w.heap.size, 0, none⟩) 2 2) (w.alloc (.cells #[.int .u8 0, .int .u8 0] 5)) := fun _ => by kernel_rfl
  have hz := shN_zero hn 16 (by decide)
  clear hn
  go_enter Try.func37, Try.ntmps37
  go_wp2_with fail
  refine wp_loop_rounds 3 ?_
  rw [rounds_succ]
  go_wp2
  rw [rounds_succ]
  go_wp2
  rw [rounds_succ]
  go_wp2
  go_ret2
  refine bytesPost_mk n 2 [_, _] w ?_
  simp [beB, bv, shN, Nat.div_div_eq_div_mul]
set_option maxRecDepth 10000 in
set_option maxHeartbeats 1000000 in
theorem bytes_4 (n : Nat) (hn : n < 2 ^ 32) (w : World) : Calls Try.prog 37 #[.int .u64 n, .int .i64 4] w (BytesPost (beB n 4) w) := by
  have hmk : ∀ w, (Instr.makeSlice 30 (.int .i64 4) (.int .i64 4)).run Try.prog w = .ok (.slice (some ⟨w.heap.size, 0, none⟩) 4 4) (w.alloc (.cells #[.int .u8 0, .int .u8 0, .int .u8 0, .int .u8 0] 5)) := fun _ => by kernel_rfl
  have hz := shN_zero hn 32 (by decide)
  clear hn
  go_enter Try.func37, Try.ntmps37
  go_wp2_with fail
  refine wp_loop_rounds 5 ?_
  rw [rounds_succ]
  go_wp2
  rw [rounds_succ]
  go_wp2
  rw [rounds_succ]
  go_wp2
  rw [rounds_succ]
  go_wp2
  rw [rounds_succ]
  go_wp2
  go_ret2
  refine bytesPost_mk n 4 [_, _, _, _] w ?_
  simp [beB, bv, shN, Nat.div_div_eq_div_mul]
theorem beN_snoc (l : List UInt8) (b : UInt8) : beN (l ++ [b]) = beN l * 256 + b.toNat := by simp [beN]
theorem beN_lt (l : List UInt8) : beN l < 256 ^ l.length := by
  generalize hl : l.length = n
  induction n generalizing l with
  | zero => obtain rfl := List.eq_nil_of_length_eq_zero hl; simp [beN]
  | succ n ih =>
    have hne : l ≠ [] := fun h => by rw [h] at hl; simp at hl
    have h2 := ih l.dropLast (by simp [hl])
    rw [← List.dropLast_concat_getLast hne, beN_snoc, Nat.pow_succ]
    have := (l.getLast hne).toNat_lt
    omega
theorem beN_take {bs : List UInt8} {k : Nat} (hk : k < bs.length) : beN (bs.take (k + 1)) = beN (bs.take k) * 256 + (bs.getD k 0).toNat := by
  rw [List.take_succ_eq_append_getElem hk, beN_snoc]; simp [List.getD_eq_getElem?_getD, hk]
theorem or_step {x : Nat} {b : UInt8} (hx : x < 2 ^ 56) : Go.bits .or .u64 ((x : Int) * 256) (b.toNat : Int) = ((x * 256 + b.toNat : Nat) : Int) := by
  have hb := b.toNat_lt
  have h := u64_or_nat (x * 256) b.toNat (by omega) (by omega)
  rw [show ((x : Int) * 256) = ((x * 256 : Nat) : Int) from by omega, h]
  have h2 := Nat.shiftLeft_add_eq_or_of_lt (i := 8) (show b.toNat < 2 ^ 8 by omega) x
  rw [Nat.shiftLeft_eq] at h2
  rw [show x * 256 = x * 2 ^ 8 from rfl, ← h2]
theorem or_wrap {x : Nat} {b : UInt8} (hx : x < 2 ^ 56) : Go.bits .or .u64 (IntKind.u64.wrap ((x : Int) * 256)) (IntKind.u64.wrap (b.toNat : Int)) = ((x * 256 + b.toNat : Nat) : Int) := by
  have hb := b.toNat_lt
  rw [IntKind.wrap_u64, IntKind.wrap_u64, ← or_step hx]
  congr 1 <;> omega
set_option maxRecDepth 10000 in
set_option maxHeartbeats 1000000 in
theorem num_any (bs : List UInt8) (hn : bs.length ≤ 8) (A : Option Addr) (c B : Nat) (w : World) (hr : Reads w B 1 A bs.length (bs.map bv)) :
    Calls Try.prog 86 #[.slice A bs.length c] w fun e w' => e = .returned (.tuple #[.int .u64 (beN bs), .bool true]) ∧ w = w' := by
  have h8 : decide ((8 : Int) < (bs.length : Int)) = false := by simp; omega
  have h8' : decide (8 < bs.length) = false := by simpa using hn
  go_enter Try.func86, Try.ntmps86
  go_wp2_with fail
  refine wp_loop_rounds 1 ?_
  rw [rounds_succ]
  go_wp2_with fail
  go_loop [4, 6, 18] (fun x _ i => ∃ k : Nat, k ≤ bs.length ∧ i = .int .i64 k ∧ x = .int .u64 (beN (bs.take k))) (fun _ _ i => bs.length - (intOf i).toNat)
  case atStart => exact ⟨0, Nat.zero_le _, rfl, rfl⟩
  case round =>
    obtain ⟨k, hk, rfl, rfl⟩ := hrel
    by_cases hlt : k < bs.length
    · obtain ⟨ad, u, rfl, _, hu, hc⟩ := hr.at_ hlt
      have hu' : u = .int .u8 (bs.getD k 0).toNat := by simpa [bv, hlt, List.getD_eq_getElem?_getD] using hu.symm
      subst hu'
      clear hu
      go_wp2
      go_round
      case rel =>
        refine ⟨k + 1, by omega, by go_num, ?_⟩
        have hx : beN (bs.take k) < 2 ^ 56 := Nat.lt_of_lt_of_le (beN_lt _) (by rw [show (2 : Nat) ^ 56 = 256 ^ 7 from rfl, List.length_take]; exact Nat.pow_le_pow_right (by omega) (by omega))
        rw [or_wrap hx, beN_take hlt]; simp [List.getD_eq_getElem?_getD, hlt]
      case measure => simp [intOf]; omega
    · go_wp2
      go_ret2
      exact ⟨by rw [show beN bs = beN (bs.take k) by rw [List.take_of_length_le (by omega)]]; rfl, rfl⟩
end Go.Proofs.Ytmoldmnhijcckaa
