/- container/heap at no row or one. -/
import Derived.Test.YtmoldmnhijcckaaMa14
set_option linter.unusedVariables false
set_option linter.unusedSectionVars false
set_option linter.unusedSimpArgs false
namespace Go.Proofs.Ytmoldmnhijcckaa
open Go.RowKit
theorem loadOne {P : Program} {w : World} {t : TypeId} {a : Addr} {v : Value} (hd : (isAgg t).run P w = .ok false w) (hc : w.cell? a = some v) : (loadVar t a).run P w = .ok v w := by
  unfold loadVar
  simp [go_sem, hd, hc]
theorem wrapOk {P : Program} {w : World} (ts : Array TypeId) (t : TypeId) (a : Addr) (s m : String) : (Builtin.ssaWrapNilChk_ ts t #[.pointer (some a), strVal s, strVal m]).run P w = .ok (.pointer (some a)) w := rfl
/-- A method of a value, called through a pointer in an interface. -/
theorem run_method_val {P : Program} {w : World} {t elem : TypeId} {f : FuncId} {name : String} {fuel : Nat} (a : Addr) (v : Value) (hm : ((P.info? t).bind fun i => (i.methods.find? (·.name == name)).map fun m => (m.path.toList, m.func)) = some ([], some (f, false)))
    (hu : P.underlying t = some (.pointer elem)) (hl : (loadVar elem a).run P w = .ok v w) : (method (fuel + 1) t (.pointer (some a)) name).run P w = .ok (f, v) w := by
  unfold method
  cases hi : P.info? t with
  | none => rw [hi] at hm; simp at hm
  | some i =>
    rw [hi] at hm
    simp only [Option.bind_some, Option.map_eq_some_iff] at hm
    obtain ⟨m, hm1, hm2⟩ := hm
    have hm3 : m.path = #[] := Array.toList_inj.1 (congrArg Prod.fst hm2)
    have hm4 : m.func = some (f, false) := congrArg Prod.snd hm2
    simp only [Sem.run_bind, run_typeInfo w hi, Result.andThen_ok, hm1, hm3, hm4, follow, receiverAt, Place.get, Sem.run_pure, run_underlying hu, Array.isEmpty_empty, if_true, wrapOk, asAddr, hl]
theorem meth_len (k : Nat) (w : World) (R : Nat) (v : Value) (hc : w.cell? ⟨R, 0, none⟩ = some v) : (method (k + 1) 128 (.pointer (some ⟨R, 0, none⟩)) "Len").run Try.prog w = .ok (158, v) w :=
  run_method_val _ v (by kernel_rfl) Try.underlying128 (loadOne (Try.isAgg127 w) hc)
theorem meth_swap (k : Nat) (w : World) (R : Nat) (v : Value) (hc : w.cell? ⟨R, 0, none⟩ = some v) : (method (k + 1) 128 (.pointer (some ⟨R, 0, none⟩)) "Swap").run Try.prog w = .ok (160, v) w :=
  run_method_val _ v (by kernel_rfl) Try.underlying128 (loadOne (Try.isAgg127 w) hc)
theorem len_any (A : Option Addr) (n c : Nat) (w : World) : Calls Try.prog 158 #[.slice A n c] w fun e w' => e = .returned (.int .i64 n) ∧ w = w' := by
  go_enter Try.func158, Try.ntmps158
  go_wp2_with fail
  go_ret
  exact ⟨rfl, rfl⟩
def qOf (R : Nat) : Value := .iface 128 (.pointer (some ⟨R, 0, none⟩))
set_option maxRecDepth 100000 in
set_option maxHeartbeats 1000000 in
theorem down_0 (R : Nat) (w : World) : Calls Try.prog 99 #[.iface 128 (.pointer (some ⟨R, 0, none⟩)), .int .i64 0, .int .i64 0] w fun e w' => e = .returned (.bool false) ∧ w = w' := by
  go_enter Try.func99, Try.ntmps99
  go_wp2_with fail
  go_loopw [7, 8, 9, 10] (fun v7 v8 v9 v10 wr => v7 = .int .i64 0 ∧ w = wr) (fun _ _ _ _ _ => 0)
  case atStart => exact ⟨rfl, rfl⟩
  case round =>
    obtain ⟨rfl, rfl⟩ := hrel
    go_wp2_with fail
    go_ret
    exact ⟨rfl, rfl⟩
set_option maxRecDepth 100000 in
set_option maxHeartbeats 1000000 in
theorem init_0 (R : Nat) (A : Option Addr) (c : Nat) (w : World) (h : w.cell? ⟨R, 0, none⟩ = some (.slice A 0 c)) : Calls Try.prog 79 #[.iface 128 (.pointer (some ⟨R, 0, none⟩))] w fun e w' => e = .returned (.tuple #[]) ∧ w = w' := by
  have hm := meth_len 302 w R _ h
  go_enter Try.func79, Try.ntmps79
  go_wp2_with fail
  refine (len_any A 0 c w).mono ?_
  rintro e w1 ⟨rfl, rfl⟩
  go_wp2_with fail
  go_loopw [3] (fun i wr => i = .int .i64 (-1) ∧ w = wr) (fun _ _ => 0)
  case atStart => exact ⟨rfl, rfl⟩
  case round =>
    obtain ⟨rfl, rfl⟩ := hrel
    go_wp2_with fail
    go_end0
    exact ⟨rfl, rfl⟩
set_option maxRecDepth 100000 in
set_option maxHeartbeats 1000000 in
theorem down_1 (R : Nat) (w : World) : Calls Try.prog 99 #[.iface 128 (.pointer (some ⟨R, 0, none⟩)), .int .i64 0, .int .i64 1] w fun e w' => e = .returned (.bool false) ∧ w = w' := by
  go_enter Try.func99, Try.ntmps99
  go_wp2_with fail
  go_loopw [7, 8, 9, 10] (fun v7 v8 v9 v10 wr => v7 = .int .i64 0 ∧ w = wr) (fun _ _ _ _ _ => 0)
  case atStart => exact ⟨rfl, rfl⟩
  case round =>
    obtain ⟨rfl, rfl⟩ := hrel
    go_wp2_with fail
    go_ret
    exact ⟨rfl, rfl⟩
set_option maxRecDepth 100000 in
set_option maxHeartbeats 1000000 in
theorem init_1 (R : Nat) (A : Option Addr) (c : Nat) (w : World) (h : w.cell? ⟨R, 0, none⟩ = some (.slice A 1 c)) : Calls Try.prog 79 #[.iface 128 (.pointer (some ⟨R, 0, none⟩))] w fun e w' => e = .returned (.tuple #[]) ∧ w = w' := by
  have hm := meth_len 302 w R _ h
  go_enter Try.func79, Try.ntmps79
  go_wp2_with fail
  refine (len_any A 1 c w).mono ?_
  rintro e w1 ⟨rfl, rfl⟩
  go_wp2_with fail
  go_loopw [3] (fun i wr => i = .int .i64 (-1) ∧ w = wr) (fun _ _ => 0)
  case atStart => exact ⟨rfl, rfl⟩
  case round =>
    obtain ⟨rfl, rfl⟩ := hrel
    go_wp2_with fail
    go_end0
    exact ⟨rfl, rfl⟩
set_option maxRecDepth 100000 in
set_option maxHeartbeats 1000000 in
theorem up_0 (R : Nat) (w : World) : Calls Try.prog 111 #[.iface 128 (.pointer (some ⟨R, 0, none⟩)), .int .i64 0] w fun e w' => e = .returned (.tuple #[]) ∧ w = w' := by
  go_enter Try.func111, Try.ntmps111
  go_wp2_with fail
  go_loopw [1, 4] (fun j i wr => j = .int .i64 0 ∧ w = wr) (fun _ _ _ => 0)
  case atStart => exact ⟨rfl, rfl⟩
  case round =>
    obtain ⟨rfl, rfl⟩ := hrel
    go_wp2_with fail
    go_end0
    exact ⟨rfl, rfl⟩
set_option maxRecDepth 100000 in
set_option maxHeartbeats 1000000 in
theorem fix_1 (R : Nat) (A : Option Addr) (c : Nat) (w : World) (h : w.cell? ⟨R, 0, none⟩ = some (.slice A 1 c)) : Calls Try.prog 100 #[.iface 128 (.pointer (some ⟨R, 0, none⟩)), .int .i64 0] w fun e w' => e = .returned (.tuple #[]) ∧ w = w' := by
  have hm := meth_len 302 w R _ h
  go_enter Try.func100, Try.ntmps100
  go_wp2_with fail
  refine (len_any A 1 c w).mono ?_
  rintro e w1 ⟨rfl, rfl⟩
  go_wp2_with fail
  refine (down_1 R w).mono ?_
  rintro e w1 ⟨rfl, rfl⟩
  go_wp2_with fail
  refine (up_0 R w).mono ?_
  rintro e w1 ⟨rfl, rfl⟩
  go_wp2_with fail
  go_end0
  exact ⟨rfl, rfl⟩
end Go.Proofs.Ytmoldmnhijcckaa
