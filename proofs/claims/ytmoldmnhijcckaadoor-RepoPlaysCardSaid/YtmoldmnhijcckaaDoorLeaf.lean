/- The contracts of the small functions: addr.most, roa.most, pdu.width, addr.mask. No conditions. -/
import Derived.Test.YtmoldmnhijcckaaDoorProg
import Derived.Test.YtmoldmnhijcckaaDoorTy
import Derived.KernelRfl
import Derived.Outline
namespace Go.Proofs.YtmoldmnhijcckaaDoor
open Go.RowKit

theorem still_of {P : Program} {f : FuncId} {args : Array Value} {w : World} {v : Value} (h : Calls P f args w fun e w' => e = .returned v ∧ w = w') : Calls P f args w fun e w' => e = .returned v ∧ w' = w :=
  h.mono fun _ _ ⟨he, hw⟩ => ⟨he, hw.symm⟩
/-- max and min of two, closed to the walk. -/
def imax (x y : Int) : Int := if y > x then y else x
def imin (x y : Int) : Int := if y < x then y else x
theorem imax_eq (x y : Int) : imax x y = max x y := by unfold imax; omega
theorem imin_eq (x y : Int) : imin x y = min x y := by unfold imin; omega
theorem run_imax {P : Program} {w : World} (ts : Array TypeId) (t : TypeId) (k k' : IntKind) (x y : Int) : (Builtin.max_ ts t #[.int k x, .int k' y]).run P w = .ok (.int k (imax x y)) w := run_max_int2 w ts t k k' x y
theorem run_imin {P : Program} {w : World} (ts : Array TypeId) (t : TypeId) (k k' : IntKind) (x y : Int) : (Builtin.min_ ts t #[.int k x, .int k' y]).run P w = .ok (.int k (imin x y)) w := run_min_int2 w ts t k k' x y
def mostOf (b : Bool) : Int := if b then 128 else 32
theorem mostOf_t : mostOf true = 128 := rfl
theorem mostOf_f : mostOf false = 32 := rfl
def widthOf (k : Int) : Int := if k = 6 then 16 else 4
/-- The mask's byte. -/
def maskB (n : Int) : UInt8 := if n ≤ 0 then 0 else if 8 ≤ n then 255 else ~~~ (255 >>> UInt8.ofNat n.toNat)
theorem addrMost_any (b : Bool) (w : World) : Calls Tryd.prog 71 #[.bool b] w fun e w' => e = .returned (.int .i64 (mostOf b)) ∧ w = w' := by
  cases b
  all_goals
    go_enter Tryd.func71, Tryd.ntmps71
    go_wp2
    go_ret
    exact ⟨rfl, rfl⟩
theorem roaMost_any (b : Bool) (w : World) : Calls Tryd.prog 114 #[.bool b] w fun e w' => e = .returned (.int .i64 (mostOf b)) ∧ w = w' := by
  cases b
  all_goals
    go_enter Tryd.func114, Tryd.ntmps114
    go_wp2
    go_ret
    exact ⟨rfl, rfl⟩
theorem ret_int {k : IntKind} {a b : Int} (h : a = b) : Ending.returned (.int k a) = .returned (.int k b) := by rw [h]
theorem mask_any (n : Int) (w : World) : Calls Tryd.prog 72 #[.int .i64 n] w fun e w' => e = .returned (bv (maskB n)) ∧ w = w' := by
  unfold bv
  by_cases h : n ≤ 0
  · have H := Lib.hid (show maskB n = 0 by simp [maskB, h])
    have h1 : decide (n ≤ 0) = true := by simpa using h
    go_enter Tryd.func72, Tryd.ntmps72
    go_wp2
    go_ret
    exact ⟨ret_int (by rw [H.out]; rfl), rfl⟩
  · by_cases h8 : 8 ≤ n
    · have H := Lib.hid (show maskB n = 255 by simp [maskB, h, h8])
      have h2 : decide (n ≤ 0) = false := by simpa using h
      have h3 : decide (8 ≤ n) = true := by simpa using h8
      go_enter Tryd.func72, Tryd.ntmps72
      go_wp2
      go_ret
      exact ⟨ret_int (by rw [H.out]; rfl), rfl⟩
    · obtain rfl | rfl | rfl | rfl | rfl | rfl | rfl : n = 1 ∨ n = 2 ∨ n = 3 ∨ n = 4 ∨ n = 5 ∨ n = 6 ∨ n = 7 := by omega
      all_goals
        clear h h8
        go_enter Tryd.func72, Tryd.ntmps72
        go_wp2
        go_ret
        exact ⟨by first | rfl | decide | kernel_rfl, rfl⟩
end Go.Proofs.YtmoldmnhijcckaaDoor
