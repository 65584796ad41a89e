/- The contract of pdu.Write. -/
import Derived.Test.YtmoldmnhijcckaaRight
import Derived.Test.YtmoldmnhijcckaaLay
import Derived.Lib.AppendStr
set_option linter.unusedVariables false
set_option linter.unusedSectionVars false
set_option linter.unusedSimpArgs false
namespace Go.Proofs.Ytmoldmnhijcckaa
open Go.RowKit
attribute [local go_sem high] run_imax run_imin
/-- What stands behind the head. -/
def wrBody (p : Pdu) : List UInt8 :=
  if p.kind = 0 ∨ p.kind = 1 then beB p.serial.toNat 4
  else if p.kind = 4 ∨ p.kind = 6 then beB (if p.add then 1 else 0) 1 ++ beB p.v.p.len.toNat 1 ++ beB p.v.mx.toNat 1 ++ beB 0 1 ++ p.v.p.a.l.take (widthOf p.kind).toNat ++ beB p.v.asn.toNat 4
  else if p.kind = 7 then beB p.serial.toNat 4 ++ beB 3600 4 ++ beB 600 4 ++ beB 7200 4
  else if p.kind = 10 then beB 0 4 ++ beB p.text.size 4 ++ p.text.data.toList
  else []
def wrHead (p : Pdu) : List UInt8 := [1, UInt8.ofNat p.kind.toNat] ++ beB (imax p.session p.code).toNat 2 ++ beB (lenOf p.kind + p.text.size).toNat 4
/-- A message's bytes. -/
def wrB (p : Pdu) : List UInt8 := wrHead p ++ wrBody p
def WrPost (p : Pdu) (w : World) (e : Ending) (w' : World) : Prop :=
  (pduOk p = true → ∃ v, e = .returned (.tuple #[v, .int .i64 0]) ∧ w'.ownsRow w.heap.size 5 1 v (wrB p).length ((wrB p).map bv)) ∧
  (pduOk p = false → e = .returned (.tuple #[.slice none 0 0, .int .i64 1])) ∧ Below w.heap.size w w'
set_option maxRecDepth 100000 in
set_option maxHeartbeats 1000000 in
theorem write_no (p : Pdu) (w : World) (h : pduOk p = false) : Calls Try.prog 13 #[p.val] w (WrPost p w) := by
  simp only [Pdu.val]
  have H := Lib.hid h
  clear h
  have hX := Bx.new w p
  go_enter Try.func13, Try.ntmps13
  go_wp2_with (first | (refine wpList_load_at rfl 29 _ rfl w.heap.size 0 26 rfl _ _ hX.1.range (Pdu.cells_length _) Try.underlying29 rfl info_pdu ?_) | (go_at_call 14; refine (right_any p _).mono ?_; rintro e w1 ⟨rfl, hb1⟩; replace hX := hX.next hb1; rw [H.out]))
  go_ret2
  exact ⟨fun h => (by rw [H.out] at h; cases h), fun _ => rfl, hX.2⟩
/-- The box, and what is laid so far. -/
structure WS (w : World) (p : Pdu) (bo base : Nat) (xs : List UInt8) (W : World) : Prop where
  bx : Bx w p W
  out : OutV W bo base xs
  lt : w.heap.size < base
  le : base ≤ bo
  sz : base ≤ W.heap.size
theorem WS.cast {w : World} {p : Pdu} {bo base : Nat} {xs ys : List UInt8} {W : World} (h : WS w p bo base xs W) (e : xs = ys) : WS w p bo base ys W := e ▸ h
theorem WS.drew {w : World} {p : Pdu} {bo base : Nat} {xs : List UInt8} {W : World} (h : WS w p bo base xs W) : WS w p bo base xs W.drew := ⟨h.bx.drew, h.out.drew, h.lt, h.le, h.sz⟩
theorem WS.below {w : World} {p : Pdu} {bo base : Nat} {xs : List UInt8} {W W' : World} (h : WS w p bo base xs W) (hb : Below W.heap.size W W') : WS w p bo base xs W' :=
  ⟨h.bx.next hb, h.out.below hb, h.lt, h.le, Nat.le_trans h.sz hb.size⟩
theorem WS.lay {w : World} {p : Pdu} {bo base : Nat} {xs ys : List UInt8} {W W' : World} (h : WS w p bo base xs W) (ho : OutV W' bo base ys) (hb : Below base W W') : WS w p bo base ys W' :=
  ⟨⟨h.bx.1.below hb h.lt, h.bx.2.trans (hb.mono (Nat.le_of_lt h.lt))⟩, ho, h.lt, h.le, Nat.le_trans h.sz hb.size⟩
theorem ws_start {w : World} {p : Pdu} {W : World} (h : Bx w p W) (a b : UInt8) (va vb : Value) (ha : va = bv a) (hb : vb = bv b) (v : Value) (hv : v = .slice (some ⟨W.heap.size, 0, none⟩) 2 2) :
    WS w p (W.heap.size + 1) W.heap.size [a, b] ((W.alloc (.cells #[va, vb] 5)).alloc (.cells #[v] 30)) := by
  subst ha; subst hb; subst hv
  have h1 := World.ownsRow_lit (base := W.heap.size) (e := 5) (size := 1) W #[bv a, bv b] 2 (Nat.le_refl _) (by decide) (by simp)
  refine ⟨⟨(h.1.alloc _).alloc _, (h.2.alloc h.2.size _).alloc (by simp; have := h.2.size; omega) _⟩, ⟨_, blk_new' _ _ [_] _ (by simp), own_below h1 ((Below.refl _ _).alloc (Nat.le_refl _) _)⟩, h.1.lt, by omega, by simp; omega⟩
theorem ok_parts {p : Pdu} (h : pduOk p = true) : isKind p.kind = true ∧ namedOf p = p ∧ 0 ≤ imin p.session p.code ∧ imax p.session p.code ≤ 65535 ∧ p.text.size ≤ 200 ∧ (p.kind = 4 ∨ p.kind = 6 → vrpOk p.v = true ∧ p.v.p.v6 = decide (p.kind = 6)) := by
  unfold pduOk at h
  simp only [Bool.and_eq_true, decide_eq_true_eq] at h
  obtain ⟨h1, h2, h3, h4, h5, h6⟩ := h
  refine ⟨h1, h2, h3, h4, h5, fun hk => ?_⟩
  rw [if_pos hk] at h6
  simpa using h6
theorem kind_bd {k : Int} (h : isKind k = true) : 0 ≤ k ∧ k ≤ 10 := by unfold isKind at h; simp at h; omega
theorem lenOf_bd (k : Int) : 0 ≤ lenOf k ∧ lenOf k ≤ 32 := by unfold lenOf; repeat' split
                                                              all_goals omega
end Go.Proofs.Ytmoldmnhijcckaa
