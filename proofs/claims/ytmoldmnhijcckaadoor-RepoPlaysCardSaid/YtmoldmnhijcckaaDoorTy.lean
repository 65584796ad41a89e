/- The plain types of this part (a prefix, a row's element, a message), their cells in memory, and small facts on them. No program stands in this text. -/
import Derived.WalkKit
import Derived.Below
import Derived.Laws.OwnMore
import Derived.Laws.Rows
import Derived.Deep.Draws
import Derived.Deep.AppendLies
import Derived.Lib.Hide
namespace Go.Proofs.YtmoldmnhijcckaaDoor
open Go.RowKit

/-- A byte's cell. -/
def bv (b : UInt8) : Value := .int .u8 b.toNat
/-- The 16 bytes of an address. -/
structure A16 where
  l : List UInt8
  h : l.length = 16
theorem A16.ext' {a b : A16} (h : a.l = b.l) : a = b := by cases a; cases b; simp at h; subst h; rfl
instance : DecidableEq A16 := fun a b => decidable_of_iff (a.l = b.l) ⟨A16.ext', fun h => by rw [h]⟩
structure Pfx where
  v6 : Bool
  a : A16
  len : Int
deriving DecidableEq
structure Vrp where
  asn : UInt32
  p : Pfx
  mx : Int
deriving DecidableEq
structure Pdu where
  kind : Int
  session : Int
  serial : UInt32
  add : Bool
  v : Vrp
  code : Int
  text : ByteArray
def A16.cells (a : A16) : List Value := a.l.map bv
def Pfx.cells (p : Pfx) : List Value := .bool p.v6 :: (p.a.cells ++ [.int .i64 p.len])
def Vrp.cells (v : Vrp) : List Value := .int .u32 v.asn.toNat :: (v.p.cells ++ [.int .i64 v.mx])
def Pdu.cells (p : Pdu) : List Value := .int .i64 p.kind :: .int .i64 p.session :: .int .u32 p.serial.toNat :: .bool p.add :: (p.v.cells ++ [.int .i64 p.code, .string p.text])
def A16.val (p : A16) : Value := .agg p.cells.toArray
def Pfx.val (p : Pfx) : Value := .agg p.cells.toArray
def Vrp.val (p : Vrp) : Value := .agg p.cells.toArray
def Pdu.val (p : Pdu) : Value := .agg p.cells.toArray
theorem A16.cells_length (a : A16) : a.cells.length = 16 := by simp [A16.cells, a.h]
theorem Pfx.cells_length (p : Pfx) : p.cells.length = 18 := by simp [Pfx.cells, A16.cells_length]
theorem Vrp.cells_length (p : Vrp) : p.cells.length = 20 := by simp [Vrp.cells, Pfx.cells_length]
theorem Pdu.cells_length (p : Pdu) : p.cells.length = 26 := by simp [Pdu.cells, Vrp.cells_length]
theorem A16.one (a : A16) : ∀ v ∈ a.cells, v.oneCell' = true := by
  intro v hv; simp only [A16.cells, List.mem_map] at hv; obtain ⟨b, _, rfl⟩ := hv; rfl
theorem Pfx.one (p : Pfx) : ∀ v ∈ p.cells, v.oneCell' = true := by
  intro v hv; simp only [Pfx.cells, List.mem_cons, List.mem_append, List.mem_nil_iff, or_false] at hv
  rcases hv with rfl | hv | rfl
  · rfl
  · exact A16.one _ _ hv
  · rfl
theorem Vrp.one (p : Vrp) : ∀ v ∈ p.cells, v.oneCell' = true := by
  intro v hv; simp only [Vrp.cells, List.mem_cons, List.mem_append, List.mem_nil_iff, or_false] at hv
  rcases hv with rfl | hv | rfl
  · rfl
  · exact Pfx.one _ _ hv
  · rfl
theorem Pdu.one (p : Pdu) : ∀ v ∈ p.cells, v.oneCell' = true := by
  intro v hv; simp only [Pdu.cells, List.mem_cons, List.mem_append, List.mem_nil_iff, or_false] at hv
  rcases hv with rfl | rfl | rfl | rfl | hv | rfl | rfl
  any_goals rfl
  exact Vrp.one _ _ hv
end Go.Proofs.YtmoldmnhijcckaaDoor
