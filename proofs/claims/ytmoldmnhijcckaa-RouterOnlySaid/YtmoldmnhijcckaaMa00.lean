/- The plain types of this part (a prefix, a row's element, a message), their cells in memory, and small facts on them. No program stands in this text. -/
import Derived.WalkKit
import Derived.Below
import Derived.Laws.OwnMore
import Derived.Laws.Rows
import Derived.Deep.Draws
import Derived.Deep.AppendLies
import Derived.Lib.Hide
import Derived.Test.YtmoldmnhijcckaaProg
import Derived.KernelRfl
import Derived.Outline
namespace Go.Proofs.Ytmoldmnhijcckaa
open Go.RowKit

/-- A byte's cell. -/
def bv (b : UInt8) : Value := .int .u8 b.toNat
/-- The 16 bytes of an address. -/
structure A16 where
  l : List UInt8
  h : l.length = 16
theorem A16.ext' {a b : A16} (h : a.l = b.l) : a = b := by cases a; cases b; simp at h; subst h; rfl
instance : DecidableEq A16 := fun a b => decidable_of_iff (a.l = b.l) ⟨A16.ext', fun h => by rw [h]⟩
structure Pfx where
  v6 : Bool
  a : A16
  len : Int
deriving DecidableEq
structure Vrp where
  asn : UInt32
  p : Pfx
  mx : Int
deriving DecidableEq
structure Pdu where
  kind : Int
  session : Int
  serial : UInt32
  add : Bool
  v : Vrp
  code : Int
  text : ByteArray
def A16.cells (a : A16) : List Value := a.l.map bv
def Pfx.cells (p : Pfx) : List Value := .bool p.v6 :: (p.a.cells ++ [.int .i64 p.len])
def Vrp.cells (v : Vrp) : List Value := .int .u32 v.asn.toNat :: (v.p.cells ++ [.int .i64 v.mx])
def Pdu.cells (p : Pdu) : List Value := .int .i64 p.kind :: .int .i64 p.session :: .int .u32 p.serial.toNat :: .bool p.add :: (p.v.cells ++ [.int .i64 p.code, .string p.text])
def A16.val (p : A16) : Value := .agg p.cells.toArray
def Pfx.val (p : Pfx) : Value := .agg p.cells.toArray
def Vrp.val (p : Vrp) : Value := .agg p.cells.toArray
def Pdu.val (p : Pdu) : Value := .agg p.cells.toArray
theorem A16.cells_length (a : A16) : a.cells.length = 16 := by simp [A16.cells, a.h]
theorem Pfx.cells_length (p : Pfx) : p.cells.length = 18 := by simp [Pfx.cells, A16.cells_length]
theorem Vrp.cells_length (p : Vrp) : p.cells.length = 20 := by simp [Vrp.cells, Pfx.cells_length]
theorem Pdu.cells_length (p : Pdu) : p.cells.length = 26 := by simp [Pdu.cells, Vrp.cells_length]
theorem A16.one (a : A16) : ∀ v ∈ a.cells, v.oneCell' = true := by
  intro v hv; simp only [A16.cells, List.mem_map] at hv; obtain ⟨b, _, rfl⟩ := hv; rfl
theorem Pfx.one (p : Pfx) : ∀ v ∈ p.cells, v.oneCell' = true := by
  intro v hv; simp only [Pfx.cells, List.mem_cons, List.mem_append, List.mem_nil_iff, or_false] at hv
  rcases hv with rfl | hv | rfl
  · rfl
  · exact A16.one _ _ hv
  · rfl
theorem Vrp.one (p : Vrp) : ∀ v ∈ p.cells, v.oneCell' = true := by
  intro v hv; simp only [Vrp.cells, List.mem_cons, List.mem_append, List.mem_nil_iff, or_false] at hv
  rcases hv with rfl | hv | rfl
  · rfl
  · exact Pfx.one _ _ hv
  · rfl
theorem Pdu.one (p : Pdu) : ∀ v ∈ p.cells, v.oneCell' = true := by
  intro v hv; simp only [Pdu.cells, List.mem_cons, List.mem_append, List.mem_nil_iff, or_false] at hv
  rcases hv with rfl | rfl | rfl | rfl | hv | rfl | rfl
  any_goals rfl
  exact Vrp.one _ _ hv
end Go.Proofs.Ytmoldmnhijcckaa
/- The contracts of the small functions: addr.most, roa.most, pdu.width, addr.mask. No conditions. -/
namespace Go.Proofs.Ytmoldmnhijcckaa
open Go.RowKit

theorem still_of {P : Program} {f : FuncId} {args : Array Value} {w : World} {v : Value} (h : Calls P f args w fun e w' => e = .returned v ∧ w = w') : Calls P f args w fun e w' => e = .returned v ∧ w' = w :=
  h.mono fun _ _ ⟨he, hw⟩ => ⟨he, hw.symm⟩
/-- max and min of two, closed to the walk. -/
def imax (x y : Int) : Int := if y > x then y else x
def imin (x y : Int) : Int := if y < x then y else x
theorem imax_eq (x y : Int) : imax x y = max x y := by unfold imax; omega
theorem imin_eq (x y : Int) : imin x y = min x y := by unfold imin; omega
theorem run_imax {P : Program} {w : World} (ts : Array TypeId) (t : TypeId) (k k' : IntKind) (x y : Int) : (Builtin.max_ ts t #[.int k x, .int k' y]).run P w = .ok (.int k (imax x y)) w := run_max_int2 w ts t k k' x y
theorem run_imin {P : Program} {w : World} (ts : Array TypeId) (t : TypeId) (k k' : IntKind) (x y : Int) : (Builtin.min_ ts t #[.int k x, .int k' y]).run P w = .ok (.int k (imin x y)) w := run_min_int2 w ts t k k' x y
def mostOf (b : Bool) : Int := if b then 128 else 32
theorem mostOf_t : mostOf true = 128 := rfl
theorem mostOf_f : mostOf false = 32 := rfl
def widthOf (k : Int) : Int := if k = 6 then 16 else 4
/-- The mask's byte. -/
def maskB (n : Int) : UInt8 := if n ≤ 0 then 0 else if 8 ≤ n then 255 else ~~~ (255 >>> UInt8.ofNat n.toNat)
theorem addrMost_any (b : Bool) (w : World) : Calls Try.prog 104 #[.bool b] w fun e w' => e = .returned (.int .i64 (mostOf b)) ∧ w = w' := by
  cases b
  all_goals
    go_enter Try.func104, Try.ntmps104
    go_wp2
    go_ret
    exact ⟨rfl, rfl⟩
theorem roaMost_any (b : Bool) (w : World) : Calls Try.prog 69 #[.bool b] w fun e w' => e = .returned (.int .i64 (mostOf b)) ∧ w = w' := by
  cases b
  all_goals
    go_enter Try.func69, Try.ntmps69
    go_wp2
    go_ret
    exact ⟨rfl, rfl⟩
theorem ret_int {k : IntKind} {a b : Int} (h : a = b) : Ending.returned (.int k a) = .returned (.int k b) := by rw [h]
theorem width_any (k : Int) (w : World) : Calls Try.prog 39 #[.int .i64 k] w fun e w' => e = .returned (.int .i64 (widthOf k)) ∧ w = w' := by
  unfold widthOf
  by_cases h : k = 6
  · subst h
    go_enter Try.func39, Try.ntmps39
    go_wp2
    go_ret
    exact ⟨rfl, rfl⟩
  · have h1 : (k == 6) = false := by simpa using h
    go_enter Try.func39, Try.ntmps39
    go_wp2
    go_ret
    exact ⟨rfl, rfl⟩
theorem mask_any (n : Int) (w : World) : Calls Try.prog 105 #[.int .i64 n] w fun e w' => e = .returned (bv (maskB n)) ∧ w = w' := by
  unfold bv
  by_cases h : n ≤ 0
  · have H := Lib.hid (show maskB n = 0 by simp [maskB, h])
    have h1 : decide (n ≤ 0) = true := by simpa using h
    go_enter Try.func105, Try.ntmps105
    go_wp2
    go_ret
    exact ⟨ret_int (by rw [H.out]; rfl), rfl⟩
  · by_cases h8 : 8 ≤ n
    · have H := Lib.hid (show maskB n = 255 by simp [maskB, h, h8])
      have h2 : decide (n ≤ 0) = false := by simpa using h
      have h3 : decide (8 ≤ n) = true := by simpa using h8
      go_enter Try.func105, Try.ntmps105
      go_wp2
      go_ret
      exact ⟨ret_int (by rw [H.out]; rfl), rfl⟩
    · obtain rfl | rfl | rfl | rfl | rfl | rfl | rfl : n = 1 ∨ n = 2 ∨ n = 3 ∨ n = 4 ∨ n = 5 ∨ n = 6 ∨ n = 7 := by omega
      all_goals
        clear h h8
        go_enter Try.func105, Try.ntmps105
        go_wp2
        go_ret
        exact ⟨by first | rfl | decide | kernel_rfl, rfl⟩
end Go.Proofs.Ytmoldmnhijcckaa
