/- The plain types of this part (a prefix, a row's element, a message), their cells in memory, and small facts on them. No program stands in this text. -/
import Derived.WalkKit
import Derived.Below
import Derived.Laws.OwnMore
import Derived.Laws.Rows
import Derived.Deep.Draws
import Derived.Deep.AppendLies
import Derived.Lib.Hide
import Derived.Test.YtmoldmnhijcckaaGreatProg
import Derived.KernelRfl
import Derived.Outline
import Derived.Deep.MidRow
import Derived.Maps.AppendAt
namespace Go.Proofs.YtmoldmnhijcckaaGreat
open Go.RowKit

/-- A byte's cell. -/
def bv (b : UInt8) : Value := .int .u8 b.toNat
/-- The 16 bytes of an address. -/
structure A16 where
  l : List UInt8
  h : l.length = 16
theorem A16.ext' {a b : A16} (h : a.l = b.l) : a = b := by cases a; cases b; simp at h; subst h; rfl
instance : DecidableEq A16 := fun a b => decidable_of_iff (a.l = b.l) ⟨A16.ext', fun h => by rw [h]⟩
structure Pfx where
  v6 : Bool
  a : A16
  len : Int
deriving DecidableEq
structure Vrp where
  asn : UInt32
  p : Pfx
  mx : Int
deriving DecidableEq
structure Pdu where
  kind : Int
  session : Int
  serial : UInt32
  add : Bool
  v : Vrp
  code : Int
  text : ByteArray
def A16.cells (a : A16) : List Value := a.l.map bv
def Pfx.cells (p : Pfx) : List Value := .bool p.v6 :: (p.a.cells ++ [.int .i64 p.len])
def Vrp.cells (v : Vrp) : List Value := .int .u32 v.asn.toNat :: (v.p.cells ++ [.int .i64 v.mx])
def Pdu.cells (p : Pdu) : List Value := .int .i64 p.kind :: .int .i64 p.session :: .int .u32 p.serial.toNat :: .bool p.add :: (p.v.cells ++ [.int .i64 p.code, .string p.text])
def A16.val (p : A16) : Value := .agg p.cells.toArray
def Pfx.val (p : Pfx) : Value := .agg p.cells.toArray
def Vrp.val (p : Vrp) : Value := .agg p.cells.toArray
def Pdu.val (p : Pdu) : Value := .agg p.cells.toArray
theorem A16.cells_length (a : A16) : a.cells.length = 16 := by simp [A16.cells, a.h]
theorem Pfx.cells_length (p : Pfx) : p.cells.length = 18 := by simp [Pfx.cells, A16.cells_length]
theorem Vrp.cells_length (p : Vrp) : p.cells.length = 20 := by simp [Vrp.cells, Pfx.cells_length]
theorem Pdu.cells_length (p : Pdu) : p.cells.length = 26 := by simp [Pdu.cells, Vrp.cells_length]
theorem A16.one (a : A16) : ∀ v ∈ a.cells, v.oneCell' = true := by
  intro v hv; simp only [A16.cells, List.mem_map] at hv; obtain ⟨b, _, rfl⟩ := hv; rfl
theorem Pfx.one (p : Pfx) : ∀ v ∈ p.cells, v.oneCell' = true := by
  intro v hv; simp only [Pfx.cells, List.mem_cons, List.mem_append, List.mem_nil_iff, or_false] at hv
  rcases hv with rfl | hv | rfl
  · rfl
  · exact A16.one _ _ hv
  · rfl
theorem Vrp.one (p : Vrp) : ∀ v ∈ p.cells, v.oneCell' = true := by
  intro v hv; simp only [Vrp.cells, List.mem_cons, List.mem_append, List.mem_nil_iff, or_false] at hv
  rcases hv with rfl | hv | rfl
  · rfl
  · exact Pfx.one _ _ hv
  · rfl
theorem Pdu.one (p : Pdu) : ∀ v ∈ p.cells, v.oneCell' = true := by
  intro v hv; simp only [Pdu.cells, List.mem_cons, List.mem_append, List.mem_nil_iff, or_false] at hv
  rcases hv with rfl | rfl | rfl | rfl | hv | rfl | rfl
  any_goals rfl
  exact Vrp.one _ _ hv
end Go.Proofs.YtmoldmnhijcckaaGreat
/- The contracts of the small functions: addr.most, roa.most, pdu.width, addr.mask. No conditions. -/
namespace Go.Proofs.YtmoldmnhijcckaaGreat
open Go.RowKit

theorem still_of {P : Program} {f : FuncId} {args : Array Value} {w : World} {v : Value} (h : Calls P f args w fun e w' => e = .returned v ∧ w = w') : Calls P f args w fun e w' => e = .returned v ∧ w' = w :=
  h.mono fun _ _ ⟨he, hw⟩ => ⟨he, hw.symm⟩
/-- max and min of two, closed to the walk. -/
def imax (x y : Int) : Int := if y > x then y else x
def imin (x y : Int) : Int := if y < x then y else x
theorem imax_eq (x y : Int) : imax x y = max x y := by unfold imax; omega
theorem imin_eq (x y : Int) : imin x y = min x y := by unfold imin; omega
theorem run_imax {P : Program} {w : World} (ts : Array TypeId) (t : TypeId) (k k' : IntKind) (x y : Int) : (Builtin.max_ ts t #[.int k x, .int k' y]).run P w = .ok (.int k (imax x y)) w := run_max_int2 w ts t k k' x y
theorem run_imin {P : Program} {w : World} (ts : Array TypeId) (t : TypeId) (k k' : IntKind) (x y : Int) : (Builtin.min_ ts t #[.int k x, .int k' y]).run P w = .ok (.int k (imin x y)) w := run_min_int2 w ts t k k' x y
def mostOf (b : Bool) : Int := if b then 128 else 32
theorem mostOf_t : mostOf true = 128 := rfl
theorem mostOf_f : mostOf false = 32 := rfl
def widthOf (k : Int) : Int := if k = 6 then 16 else 4
/-- The mask's byte. -/
def maskB (n : Int) : UInt8 := if n ≤ 0 then 0 else if 8 ≤ n then 255 else ~~~ (255 >>> UInt8.ofNat n.toNat)
theorem addrMost_any (b : Bool) (w : World) : Calls Tryz.prog 144 #[.bool b] w fun e w' => e = .returned (.int .i64 (mostOf b)) ∧ w = w' := by
  cases b
  all_goals
    go_enter Tryz.func144, Tryz.ntmps144
    go_wp2
    go_ret
    exact ⟨rfl, rfl⟩
theorem roaMost_any (b : Bool) (w : World) : Calls Tryz.prog 113 #[.bool b] w fun e w' => e = .returned (.int .i64 (mostOf b)) ∧ w = w' := by
  cases b
  all_goals
    go_enter Tryz.func113, Tryz.ntmps113
    go_wp2
    go_ret
    exact ⟨rfl, rfl⟩
theorem ret_int {k : IntKind} {a b : Int} (h : a = b) : Ending.returned (.int k a) = .returned (.int k b) := by rw [h]
theorem width_any (k : Int) (w : World) : Calls Tryz.prog 59 #[.int .i64 k] w fun e w' => e = .returned (.int .i64 (widthOf k)) ∧ w = w' := by
  unfold widthOf
  by_cases h : k = 6
  · subst h
    go_enter Tryz.func59, Tryz.ntmps59
    go_wp2
    go_ret
    exact ⟨rfl, rfl⟩
  · have h1 : (k == 6) = false := by simpa using h
    go_enter Tryz.func59, Tryz.ntmps59
    go_wp2
    go_ret
    exact ⟨rfl, rfl⟩
theorem mask_any (n : Int) (w : World) : Calls Tryz.prog 145 #[.int .i64 n] w fun e w' => e = .returned (bv (maskB n)) ∧ w = w' := by
  unfold bv
  by_cases h : n ≤ 0
  · have H := Lib.hid (show maskB n = 0 by simp [maskB, h])
    have h1 : decide (n ≤ 0) = true := by simpa using h
    go_enter Tryz.func145, Tryz.ntmps145
    go_wp2
    go_ret
    exact ⟨ret_int (by rw [H.out]; rfl), rfl⟩
  · by_cases h8 : 8 ≤ n
    · have H := Lib.hid (show maskB n = 255 by simp [maskB, h, h8])
      have h2 : decide (n ≤ 0) = false := by simpa using h
      have h3 : decide (8 ≤ n) = true := by simpa using h8
      go_enter Tryz.func145, Tryz.ntmps145
      go_wp2
      go_ret
      exact ⟨ret_int (by rw [H.out]; rfl), rfl⟩
    · obtain rfl | rfl | rfl | rfl | rfl | rfl | rfl : n = 1 ∨ n = 2 ∨ n = 3 ∨ n = 4 ∨ n = 5 ∨ n = 6 ∨ n = 7 := by omega
      all_goals
        clear h h8
        go_enter Tryz.func145, Tryz.ntmps145
        go_wp2
        go_ret
        exact ⟨by first | rfl | decide | kernel_rfl, rfl⟩
end Go.Proofs.YtmoldmnhijcckaaGreat
/- Words for memory: a block that is known whole; a slice that reads as a list; the world under a name. For whatever program. -/
set_option linter.unusedVariables false
set_option linter.unusedSectionVars false
set_option linter.unusedSimpArgs false
namespace Go.Proofs.YtmoldmnhijcckaaGreat
open Go Go.RowKit

/-- The code from here on, the world known by S alone. -/
theorem wp_gen {P : Program} {c : Code} {Q : Exit → Act → World → Prop} {a : Act} {w : World} (S : World → Prop) (hS : S w) (h : ∀ W, S W → c.wp P Q a W) : c.wp P Q a w := h w hS
theorem exit_gen {F : Exit → Act → World → Prop} {e : Exit} {a : Act} {w : World} (S : World → Prop) (hS : S w) (h : ∀ W, S W → F e a W) : F e a w := h w hS
theorem then_gen {K : Act → World → Prop} {Q : Exit → Act → World → Prop} {e : Exit} {a : Act} {w : World} (S : World → Prop) (hS : S w) (h : ∀ W, S W → Exit.then K Q e a W) : Exit.then K Q e a w := h w hS
theorem wpList_gen {P : Program} {ops : Array Oper} {l : List Oper} {Q : Exit → Act → World → Prop} {a : Act} {w : World} (S : World → Prop) (hS : S w) (h : ∀ W, S W → wpList P ops Q l a W) : wpList P ops Q l a w := h w hS

theorem add_blk (a : Addr) (n : Nat) : (a.add n).block = a.block := by unfold Addr.add; split <;> rfl
theorem add_add' (a : Addr) (i j : Nat) : (a.add i).add j = a.add (i + j) := by
  unfold Addr.add
  by_cases hi : i = 0 <;> by_cases hj : j = 0 <;> simp [hi, hj, Nat.add_assoc]
theorem add_plain' (g i j : Nat) : (⟨g, i, none⟩ : Addr).add j = ⟨g, i + j, none⟩ := Addr.add_mid g i j

theorem add_pos (ad : Addr) {k : Nat} (hk : 0 < k) : ad.add k = ⟨ad.block, ad.off + k, none⟩ := by unfold Addr.add; rw [if_neg (by omega)]
/-- Block g is just these cells. -/
def Blk (w : World) (g : Nat) (t : TypeId) (cs : List Value) : Prop := w.heap[g]? = some (.cells cs.toArray t (0, 0))
section
variable {w w' : World} {g : Nat} {t : TypeId} {cs : List Value}
theorem Blk.lt (h : Blk w g t cs) : g < w.heap.size := (Array.getElem?_eq_some_iff.1 h).1
theorem Blk.cell (h : Blk w g t cs) (i : Nat) : w.cell? ⟨g, i, none⟩ = cs[i]? := by rw [cell_of_row w g i _ t (0, 0) h]; simp
theorem Blk.frozen (h : Blk w g t cs) (i : Nat) : w.frozen? ⟨g, i, none⟩ = false := by
  unfold Blk at h
  simp [World.frozen?, h]
theorem Blk.new (w : World) (t : TypeId) (cs : List Value) : Blk (w.alloc (.cells cs.toArray t)) w.heap.size t cs := heap_alloc_new w _
theorem blk_new' (w : World) (t : TypeId) (cs : List Value) (g : Nat) (hg : w.heap.size = g) : Blk (w.alloc (.cells cs.toArray t)) g t cs := by subst hg; exact heap_alloc_new w _
theorem Blk.drew (h : Blk w g t cs) : Blk w.drew g t cs := h
theorem Blk.drewN (h : Blk w g t cs) (n : Nat) : Blk (w.drewN n) g t cs := h
theorem Blk.alloc (h : Blk w g t cs) (o : Obj) : Blk (w.alloc o) g t cs := (Below.heap_alloc w o g h.lt).trans h
theorem Blk.set_ (h : Blk w g t cs) (i : Nat) (u : Value) : Blk (w.setCell ⟨g, i, none⟩ u) g t (cs.set i u) := by
  unfold Blk at h ⊢
  simp [World.setCell, Array.getElem?_modify, h]
theorem Blk.far (h : Blk w g t cs) {p : Addr} (hp : g ≠ p.block) (u : Value) : Blk (w.setCell p u) g t cs := (Below.heap_setCell w p u g hp).trans h
theorem Blk.below {B : Nat} (h : Blk w g t cs) (hb : Below B w w') (hg : g < B) : Blk w' g t cs := (hb.block g hg).trans h
theorem Blk.grown {row : Option Nat} (h : Blk w g t cs) (hb : w.grownBy w' row) (hg : some g ≠ row) : Blk w' g t cs := (hb.block g h.lt hg).trans h
theorem Blk.ne_ {g' : Nat} {t' : TypeId} {cs' : List Value} (h : Blk w g t cs) (h' : Blk w g' t' cs') (hne : t ≠ t') : g ≠ g' := by
  rintro rfl
  unfold Blk at h h'
  rw [h] at h'
  injection h' with h'
  injection h' with _ ht
  exact hne ht
theorem Blk.range (h : Blk w g t cs) : w.rangeAt g 0 cs := fun j v hv => by rw [Nat.zero_add, h.cell, hv]
theorem Blk.there (h : Blk w g t cs) {n : Nat} (hn : n ≤ cs.length) (o : Nat) (ho : o + n ≤ cs.length) : w.there g o n := fun j hj => by
  rw [h.cell, h.frozen]
  exact ⟨by simp; omega, rfl⟩
end
theorem Blk.setCells {g : Nat} {t : TypeId} : ∀ (vs : List Value) {w : World} {cs : List Value} (o : Nat), Blk w g t cs → o + vs.length ≤ cs.length → Blk (w.setCells g o vs) g t (cs.take o ++ vs ++ cs.drop (o + vs.length))
  | [], w, cs, o, h, _ => by simpa [World.setCells] using h
  | v :: vs, w, cs, o, h, ho => by
    have hl : o + 1 + vs.length ≤ cs.length := by simp at ho; omega
    have h1 := Blk.setCells vs (o + 1) (h.set_ o v) (by simpa using hl)
    have e : (cs.set o v).take (o + 1) ++ vs ++ (cs.set o v).drop (o + 1 + vs.length) = cs.take o ++ (v :: vs) ++ cs.drop (o + (v :: vs).length) := by
      have ho' : o < cs.length := by omega
      rw [List.drop_set_of_lt (by omega), List.take_set, List.take_succ_eq_append_getElem ho', List.set_append_right _ _ (by simp; omega)]
      have : min o cs.length = o := by omega
      simp [this, Nat.add_assoc, Nat.add_comm 1]
    rw [e] at h1
    exact h1
theorem Blk.setCells_all {g : Nat} {t : TypeId} {w : World} {cs vs : List Value} (h : Blk w g t cs) (hl : vs.length = cs.length) : Blk (w.setCells g 0 vs) g t vs := by
  have := Blk.setCells vs 0 h (by omega)
  simpa [hl] using this
theorem Below.setCells {B g : Nat} {a : World} (hg : B ≤ g) : ∀ (vs : List Value) {w : World} (o : Nat), Below B a w → Below B a (w.setCells g o vs)
  | [], _, _, h => h
  | v :: vs, _, o, h => Below.setCells hg vs (o + 1) (h.setCell (p := ⟨g, o, none⟩) hg v)
theorem Blk.setCells_far {g g' : Nat} {t : TypeId} {cs : List Value} (hne : g ≠ g') : ∀ (vs : List Value) {w : World} (o : Nat), Blk w g t cs → Blk (w.setCells g' o vs) g t cs
  | [], _, _, h => h
  | v :: vs, _, o, h => Blk.setCells_far hne vs (o + 1) (h.far (p := ⟨g', o, none⟩) hne v)
theorem Blk.sub {w : World} {g : Nat} {t : TypeId} {cs : List Value} (h : Blk w g t cs) (pre vs post : List Value) (o : Nat) (e : cs = pre ++ (vs ++ post)) (ho : pre.length = o) : w.rangeAt g o vs := fun j v hv => by
  rw [h.cell, e, ← ho, List.getElem?_append_right (by omega), Nat.add_sub_cancel_left, List.getElem?_append_left ((List.getElem?_eq_some_iff.1 hv).1), hv]
section
variable {P : Program} {ops : Array Oper} {rest : List Oper} {op : Oper} {a : Act} {w : World} {Q : Exit → Act → World → Prop}
theorem wpList_load_at (hgd : op.guard = none) (ty : TypeId) (x : Operand) (ho : op.op = .load ty x) (g o n : Nat) (hx : a.eval x = .pointer (some ⟨g, o, none⟩)) (vs : List Value) (d : TypeDesc)
    (hr : w.rangeAt g o vs) (hl : vs.length = n) (hu : P.underlying ty = some d) (hd : d.isRow = true) (hi : (P.info? ty).map (·.size) = some n)
    (h : wpList P ops Q rest (a.put op.dst (.agg vs.toArray)) w) : wpList P ops Q (op :: rest) a w :=
  wpList_load_mid hgd ty x ho g o hx vs d hr hu hd (by rw [hl]; exact hi) h
theorem wpList_store_at (hgd : op.guard = none) (ty : TypeId) (x y : Operand) (ho : op.op = .store ty x y) (g o n : Nat) (t : TypeId) (vs cs : List Value) (hx : a.eval x = .pointer (some ⟨g, o, none⟩)) (hy : a.eval y = .agg vs.toArray)
    (hB : Blk w g t cs) (hl : vs.length = n) (hn : o + n ≤ cs.length) (hi : (P.info? ty).map (·.size) = some n) (h1 : ∀ v ∈ vs, v.oneCell' = true)
    (h : wpList P ops Q rest (a.put op.dst undef) (w.setCells g o vs)) : wpList P ops Q (op :: rest) a w :=
  wpList_store_mid hgd ty x y ho g o vs.toArray hx hy (hB.there (n := vs.toArray.size) (by rw [List.size_toArray]; omega) o (by rw [List.size_toArray]; omega)) (by simp only [List.size_toArray, hl]; exact hi) (all_oneCell_toArray h1) h
end
theorem exec_load_at {P : Program} {op : Oper} {a : Act} {w : World} (ty : TypeId) (x : Operand) (ho : op.op = .load ty x) (g o n : Nat) (hx : a.eval x = .pointer (some ⟨g, o, none⟩)) (vs : List Value) (d : TypeDesc)
    (hr : w.rangeAt g o vs) (hl : vs.length = n) (hu : P.underlying ty = some d) (hd : d.isRow = true) (hi : (P.info? ty).map (·.size) = some n) : (execOp a.eval op).run P w = .ok (.value (.agg vs.toArray)) w := by
  unfold execOp
  simp only [ho, hx, Instr.loadAt, Instr.sureAddr, Sem.run_bind, Sem.run_pure, Result.andThen_ok, run_loadVar_mid w g o ty vs d hr hu hd (by rw [hl]; exact hi)]
theorem results_cell1 {P : Program} {fn : Func} {w : World} {p : Tmp} {ty : TypeId} (h : fn.results = #[.cell p ty]) (tmps : Array Value) (g o n : Nat) (cs : List Value) (d : TypeDesc) (hp : tmps.getD p undef = .pointer (some ⟨g, o, none⟩)) (hr : w.rangeAt g o cs) (hl : cs.length = n)
    (hu : P.underlying ty = some d) (hd : d.isRow = true) (hi : (P.info? ty).map (·.size) = some n) : (results fn tmps).run P w = .ok (.agg cs.toArray) w := by
  have := run_loadVar_mid w g o ty cs d hr hu hd (by rw [hl]; exact hi)
  have hp' : tmps[p]?.getD undef = .pointer (some ⟨g, o, none⟩) := by simpa using hp
  simp [results, h, hp', asAddr, Sem.run_bind, Result.andThen, this]
theorem results_cell_tmp3 {P : Program} {fn : Func} {w : World} {p q r s : Tmp} {ty : TypeId} (h : fn.results = #[.cell p ty, .tmp q, .tmp r, .tmp s]) (tmps : Array Value) (g o n : Nat) (cs : List Value) (d : TypeDesc) (hp : tmps.getD p undef = .pointer (some ⟨g, o, none⟩)) (hr : w.rangeAt g o cs) (hl : cs.length = n)
    (hu : P.underlying ty = some d) (hd : d.isRow = true) (hi : (P.info? ty).map (·.size) = some n) : (results fn tmps).run P w = .ok (.tuple #[.agg cs.toArray, tmps.getD q undef, tmps.getD r undef, tmps.getD s undef]) w := by
  have := run_loadVar_mid w g o ty cs d hr hu hd (by rw [hl]; exact hi)
  have hp' : tmps[p]?.getD undef = .pointer (some ⟨g, o, none⟩) := by simpa using hp
  simp [results, h, hp', asAddr, Sem.run_bind, Result.andThen, this]
theorem below_drewN' {B : Nat} {a w : World} (h : Below B a w) (n : Nat) : Below B a (w.drewN n) := ⟨h.os, h.tape, h.output, h.size, h.block⟩
/-- Below, one step on, where the step speaks of the world at hand. -/
theorem below_then {B : Nat} {w w1 w2 : World} (h : Below B w w1) (hB : B ≤ w.heap.size) (k : Below w1.heap.size w1 w2) : Below B w w2 := h.trans (k.mono (Nat.le_trans hB h.size))

/-- The slice value '.slice A n c' holds the cells xs, all below block B. -/
def Reads (w : World) (B size : Nat) (A : Option Addr) (n : Nat) (xs : List Value) : Prop :=
  xs.length = n * size ∧ (0 < n → ∃ ad, A = some ad ∧ ad.block < B ∧ ∀ j u, xs[j]? = some u → w.cell? (ad.add j) = some u)
section
variable {w w' : World} {B B' size n : Nat} {A : Option Addr} {xs : List Value}
theorem Reads.none_ : Reads w B size none 0 [] := ⟨by simp, fun h => absurd h (by omega)⟩
theorem Reads.nil {A : Option Addr} : Reads w B size A 0 [] := ⟨by simp, fun h => absurd h (by omega)⟩
theorem Reads.at_ {k : Nat} (h : Reads w B 1 A n xs) (hk : k < n) : ∃ ad u, A = some ad ∧ ad.block < B ∧ xs[k]? = some u ∧ w.cell? (ad.add k) = some u := by
  obtain ⟨ad, e, hb, hc⟩ := h.2 (by omega)
  have hl : k < xs.length := by have := h.1; omega
  exact ⟨ad, xs[k], e, hb, List.getElem?_eq_getElem hl, hc k _ (List.getElem?_eq_getElem hl)⟩
theorem Reads.keep (h : Reads w B size A n xs) (hk : ∀ p : Addr, p.block < B → w'.cell? p = w.cell? p) : Reads w' B size A n xs :=
  ⟨h.1, fun hn => by
    obtain ⟨ad, e, hb, hc⟩ := h.2 hn
    exact ⟨ad, e, hb, fun j u hu => (hk _ (by rw [add_blk]; exact hb)).trans (hc j u hu)⟩⟩
theorem Reads.more (h : Reads w B size A n xs) (hB : B ≤ B') : Reads w B' size A n xs :=
  ⟨h.1, fun hn => by
    obtain ⟨ad, e, hb, hc⟩ := h.2 hn
    exact ⟨ad, e, by omega, hc⟩⟩
theorem Reads.below {C : Nat} (h : Reads w B size A n xs) (hb : Below C w w') (hBC : B ≤ C) : Reads w' B size A n xs := h.keep fun _ hp => hb.cell (by omega)
theorem Reads.drew (h : Reads w B size A n xs) : Reads w.drew B size A n xs := h
theorem Reads.drewN (h : Reads w B size A n xs) (k : Nat) : Reads (w.drewN k) B size A n xs := h
theorem Reads.alloc (h : Reads w B size A n xs) (hB : B ≤ w.heap.size) (o : Obj) : Reads (w.alloc o) B size A n xs := h.keep fun p hp => World.cell?_alloc_lt w o p (by omega)
theorem Reads.setCell (h : Reads w B size A n xs) {p : Addr} (hB : B ≤ p.block) (u : Value) : Reads (w.setCell p u) B size A n xs :=
  h.keep fun q hq => World.cell?_setCell_other w p q u (fun e => by subst e; omega)
theorem Reads.grown (h : Reads w B size A n xs) {row : Option Nat} (hg : w.grownBy w' row) (hB : B ≤ w.heap.size) (hr : ∀ g, row = some g → B ≤ g) : Reads w' B size A n xs :=
  h.keep fun p hp => World.cell?_of_block (hg.block p.block (by omega) (fun e => by have := hr _ e.symm; omega))
theorem Reads.cut (h : Reads w B size A n xs) {k cap : Nat} (hk : k ≤ n) (hc : n ≤ cap) :
    Reads w B size (if cap = k then A else A.map (·.add (k * size))) (n - k) (xs.drop (k * size)) := by
  refine ⟨by rw [List.length_drop, h.1, Nat.sub_mul], fun hn => ?_⟩
  obtain ⟨ad, rfl, hb, hcell⟩ := h.2 (by omega)
  rw [if_neg (by omega)]
  refine ⟨ad.add (k * size), rfl, by rw [add_blk]; exact hb, fun j u hu => ?_⟩
  rw [add_add']
  exact hcell _ u (by rw [← hu, List.getElem?_drop])
theorem Reads.take (h : Reads w B size A n xs) {k : Nat} (hk : k ≤ n) : Reads w B size A k (xs.take (k * size)) := by
  have hks : k * size ≤ n * size := Nat.mul_le_mul_right _ hk
  refine ⟨by rw [List.length_take, h.1]; omega, fun hn => ?_⟩
  obtain ⟨ad, rfl, hb, hcell⟩ := h.2 (by omega)
  refine ⟨ad, rfl, hb, fun j u hu => hcell j u ?_⟩
  rw [List.getElem?_take] at hu
  split at hu
  · exact hu
  · cases hu
theorem Reads.of_own {base : Nat} {e : TypeId} {c : Nat} (h : w.ownsRow base e size (.slice A n c) n xs) : Reads w w.heap.size size A n xs := by
  refine ⟨h.1, fun hn => ?_⟩
  obtain ⟨g, cap, hv, _, hlt⟩ := h.form hn
  have hA : A = some ⟨g, 0, none⟩ := by injection hv
  subst hA
  exact ⟨_, rfl, hlt, h.cells (g := g) rfl⟩
end
end Go.Proofs.YtmoldmnhijcckaaGreat
