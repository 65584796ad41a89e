/- The contracts of lanyardref01.Bytes (two, four bytes), lanyardref01.Num (four bytes), lanyardref25.num, lanyardref25.at. -/
import Derived.Test.YtmoldmnhijcckaaOct
import Derived.Test.YtmoldmnhijcckaaParse
import Derived.Deep.DeepMust
import Derived.Deep.DeepCutAuto
set_option linter.unusedVariables false
set_option linter.unusedSectionVars false
set_option linter.unusedSimpArgs false
namespace Go.Proofs.Ytmoldmnhijcckaa
open Go.RowKit
set_option maxRecDepth 10000 in
set_option maxHeartbeats 1000000 in
theorem rbytes_2 (n : Nat) (hn : n < 2 ^ 16) (w : World) : Calls Try.prog 87 #[.int .u64 n, .int .i64 2] w (BytesPost (beB n 2) w) := by
  have hmk : ∀ w, (Instr.makeSlice 30 (.int .i64 2) (.int .i64 2)).run Try.prog w = .ok (.slice (some ⟨w.heap.size, 0, none⟩) 2 2) (w.alloc (.cells #[.int .u8 0, .int .u8 0] 5)) := fun _ => by kernel_rfl
  have hn' : n < 65536 := hn
  have h0 : (0 : Int) ≤ (n : Int) := by omega
  clear hn
  go_enter Try.func87, Try.ntmps87
  go_wp2_with fail
  refine wp_loop_rounds 3 ?_
  rw [rounds_succ]
  go_wp2
  rw [rounds_succ]
  go_wp2
  rw [rounds_succ]
  go_wp2
  go_ret2
  refine bytesPost_mk n 2 [_, _] w ?_
  simp [beB, bv]
set_option maxRecDepth 10000 in
set_option maxHeartbeats 1000000 in
theorem rbytes_4 (n : Nat) (hn : n < 2 ^ 32) (w : World) : Calls Try.prog 87 #[.int .u64 n, .int .i64 4] w (BytesPost (beB n 4) w) := by
  have hmk : ∀ w, (Instr.makeSlice 30 (.int .i64 4) (.int .i64 4)).run Try.prog w = .ok (.slice (some ⟨w.heap.size, 0, none⟩) 4 4) (w.alloc (.cells #[.int .u8 0, .int .u8 0, .int .u8 0, .int .u8 0] 5)) := fun _ => by kernel_rfl
  have hn' : n < 4294967296 := hn
  have h0 : (0 : Int) ≤ (n : Int) := by omega
  clear hn
  go_enter Try.func87, Try.ntmps87
  go_wp2_with fail
  refine wp_loop_rounds 5 ?_
  rw [rounds_succ]
  go_wp2
  rw [rounds_succ]
  go_wp2
  rw [rounds_succ]
  go_wp2
  rw [rounds_succ]
  go_wp2
  rw [rounds_succ]
  go_wp2
  go_ret2
  refine bytesPost_mk n 4 [_, _, _, _] w ?_
  simp [beB, bv, Int.ediv_ediv_of_nonneg, Nat.div_div_eq_div_mul]
set_option maxRecDepth 1000000 in
set_option maxHeartbeats 1000000 in
theorem rnum_4 (bs : List UInt8) (hn : bs.length = 4) (A : Option Addr) (c B : Nat) (w : World) (hr : Reads w B 1 A 4 (bs.map bv)) :
    Calls Try.prog 74 #[.slice A 4 c] w fun e w' => e = .returned (.tuple #[.int .u64 (beN bs), .bool true]) ∧ w = w' := by
  have HN := Lib.hid hn
  clear hn
  go_enter Try.func74, Try.ntmps74
  go_wp2_with fail
  go_loop [4, 5] (fun x i => ∃ k : Nat, k ≤ 4 ∧ i = .int .i64 k ∧ x = .int .u64 (beN (bs.take k))) (fun _ i => 4 - (intOf i).toNat)
  case atStart => exact ⟨0, Nat.zero_le _, rfl, rfl⟩
  case round =>
    obtain ⟨k, hk, rfl, rfl⟩ := hrel
    by_cases hlt : k < 4
    · obtain ⟨ad, u, rfl, _, hu, hc⟩ := hr.at_ hlt
      have hkl : k < bs.length := by rw [HN.out]; exact hlt
      have hu' : u = .int .u8 (bs.getD k 0).toNat := by simpa [bv, hkl, List.getD_eq_getElem?_getD] using hu.symm
      subst hu'
      clear hu
      have hx : beN (bs.take k) < 16777216 := Nat.lt_of_lt_of_le (beN_lt _) (by rw [show (16777216 : Nat) = 256 ^ 3 from rfl, List.length_take]; exact Nat.pow_le_pow_right (by omega) (by omega))
      have hxs := Lib.hid (beN_take hkl)
      have hb := (bs.getD k 0).toNat_lt
      generalize beN (bs.take k) = x at hx hxs
      generalize (bs.getD k 0).toNat = y at hc hb hxs
      have hbig : decide ((72057594037927936 : Int) ≤ (x : Int)) = false := decide_eq_false (by omega)
      have hbig' : decide (72057594037927936 ≤ x) = false := decide_eq_false (by omega)
      go_upto_region 5 with fail
      go_upto_region 7 with fail
      go_wp2
      go_round
      case rel => exact ⟨k + 1, by omega, by go_num, by rw [hxs.out]; go_num⟩
      case measure => simp [intOf]; omega
    · have H4 := Lib.hid (show bs.take k = bs by rw [List.take_of_length_le (by rw [HN.out]; omega)])
      go_wp2
      go_ret2
      exact ⟨by rw [H4.out]; rfl, rfl⟩
def NumPost (bs : List UInt8) (n : Nat) (w : World) (e : Ending) (w' : World) : Prop :=
  ∃ g, e = .returned (.slice (some ⟨g, 0, none⟩) n n) ∧ Reads w' w'.heap.size 1 (some ⟨g, 0, none⟩) n (bs.map bv) ∧ Below w.heap.size w w'
theorem rn_2 (n : Nat) (hn : n < 65536) (w : World) : Calls Try.prog 72 #[.int .u64 n, .int .i64 2] w (NumPost (beB n 2) 2 w) := by
  have HB := Lib.hid (rbytes_2 n hn)
  have HL := Lib.hid (beB_length n 2)
  clear hn
  go_enter Try.func72, Try.ntmps72
  go_wp2_with (go_at_call 87; go_must (refine (HB.out _).mono ?_; rintro e w1 ⟨g, rfl, hg, _, hb⟩; rw [HL.out]))
  go_ret
  exact ⟨g, rfl, ⟨by rw [List.length_map, HL.out], fun _ => ⟨_, rfl, hg.lt, fun j u hu => by rw [add_plain', Nat.zero_add, hg.cell]; exact hu⟩⟩, hb⟩
theorem rn_4 (n : Nat) (hn : n < 4294967296) (w : World) : Calls Try.prog 72 #[.int .u64 n, .int .i64 4] w (NumPost (beB n 4) 4 w) := by
  have HB := Lib.hid (rbytes_4 n hn)
  have HL := Lib.hid (beB_length n 4)
  clear hn
  go_enter Try.func72, Try.ntmps72
  go_wp2_with (go_at_call 87; go_must (refine (HB.out _).mono ?_; rintro e w1 ⟨g, rfl, hg, _, hb⟩; rw [HL.out]))
  go_ret
  exact ⟨g, rfl, ⟨by rw [List.length_map, HL.out], fun _ => ⟨_, rfl, hg.lt, fun j u hu => by rw [add_plain', Nat.zero_add, hg.cell]; exact hu⟩⟩, hb⟩
theorem rn_i2 (n : Int) (h0 : 0 ≤ n) (hn : n < 65536) (w : World) : Calls Try.prog 72 #[.int .u64 n, .int .i64 2] w (NumPost (beB n.toNat 2) 2 w) := by
  obtain ⟨m, rfl⟩ := Int.eq_ofNat_of_zero_le h0
  exact rn_2 m (by omega) w
theorem rn_i4 (n : Int) (h0 : 0 ≤ n) (hn : n < 4294967296) (w : World) : Calls Try.prog 72 #[.int .u64 n, .int .i64 4] w (NumPost (beB n.toNat 4) 4 w) := by
  obtain ⟨m, rfl⟩ := Int.eq_ofNat_of_zero_le h0
  exact rn_4 m (by omega) w
set_option maxRecDepth 10000 in
theorem rat_any (bs : List UInt8) (n : Nat) (hn : bs.length = n) (i : Nat) (h0 : 0 < i) (hi : i + 4 ≤ n) (hb : n ≤ 140737488355000) (A : Option Addr) (c B : Nat) (hc : n ≤ c) (w : World) (hr : Reads w B 1 A n (bs.map bv)) :
    Calls Try.prog 47 #[.slice A n c, .int .i64 i] w fun e w' => e = .returned (.int .u32 (wordOf (bs.drop i))) ∧ w = w' := by
  have HN := Lib.hid hn
  obtain ⟨ad, rfl, _, _⟩ := hr.2 (by omega)
  have h1 : ((bs.drop i).take 4).length = 4 := by simp; omega
  have hw : IntKind.u32.wrap (beN ((bs.drop i).take 4)) = (wordOf (bs.drop i) : Int) := by
    have := beN_lt ((bs.drop i).take 4)
    rw [h1] at this
    unfold wordOf
    rw [IntKind.wrap_u32]; omega
  have H1 := Lib.hid h1
  have hs : Reads w B 1 (some (ad.add i)) (n - i) ((bs.drop i).map bv) := by rw [add_pos ad h0]; exact hr.cut1 h0 (by omega) rfl
  have f1 : (i : Int) + 4 ≤ (c : Int) := by omega
  have f2 : i + 4 ≤ c := by omega
  have f3 : ¬ c = i := by omega
  have f4 : (0 : Int) ≤ (i : Int) := by omega
  have f5 : i + 4 - i = 4 := by omega
  clear hn h1
  go_enter Try.func47, Try.ntmps47
  go_wp2_with (go_at_call 74; go_must (refine (rnum_4 ((bs.drop i).take 4) H1.out _ _ B _ (hs.take1 (by omega))).mono ?_; rintro e w1 ⟨rfl, rfl⟩))
  go_ret
  exact ⟨rfl, rfl⟩
end Go.Proofs.Ytmoldmnhijcckaa
