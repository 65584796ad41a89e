/- A cache in memory; session.last, remembered. -/
import Derived.Test.YtmoldmnhijcckaaMa26
import Derived.Test.YtmoldmnhijcckaaMa27
set_option linter.unusedVariables false
set_option linter.unusedSectionVars false
set_option linter.unusedSimpArgs false
namespace Go.Proofs.Ytmoldmnhijcckaa
open Go.RowKit
structure SetV where
  A : Option Addr
  c : Nat
  l : List Vrp
  sn : UInt32
instance : Inhabited SetV := ⟨⟨none, 0, [], 0⟩⟩
def SetV.cells (s : SetV) : List Value := [.slice s.A s.l.length s.c, .int .u32 s.sn.toNat]
theorem SetV.len (s : SetV) : s.cells.length = 2 := rfl
theorem SetV.one (s : SetV) : ∀ v ∈ s.cells, v.oneCell' = true := by intro v h; simp [SetV.cells] at h; rcases h with rfl | rfl <;> rfl
structure Lf where
  A : Option Addr
  c : Nat
  bs : List UInt8
def Lf.val (x : Lf) : Value := .slice x.A x.bs.length x.c
structure CA (W : World) (lo g b : Nat) (sess : Int) (serial : UInt32) (v : Value) (ss : List SetV) (f : Int → Option Lf) (many : Int) : Prop where
  blk : Blk W g 110 [.int .i64 sess, .int .u32 serial.toNat, v, .map (some b), .int .i64 many]
  row : W.ownsRow lo 106 2 v ss.length (ss.flatMap SetV.cells)
  sets : ∀ s ∈ ss, W.ownsRow lo 27 20 (.slice s.A s.l.length s.c) s.l.length (s.l.flatMap Vrp.cells)
  mp : MapI W b fun k => (f k).map Lf.val
  left : ∀ k x, f k = some x → Reads W W.heap.size 1 x.A x.bs.length (x.bs.map bv) ∧ x.bs.length ≤ x.c
  l1 : lo ≤ b
  l2 : b < g
theorem MapI.lt {w : World} {b : Nat} {f : Int → Option Value} (h : MapI w b f) : b < w.heap.size := by
  obtain ⟨es, n, hh, _⟩ := h
  exact (Array.getElem?_eq_some_iff.1 hh).1
theorem MapI.kept {w w' : World} {b : Nat} {f : Int → Option Value} (h : MapI w b f) (hk : w'.heap[b]? = w.heap[b]?) : MapI w' b f := by
  obtain ⟨es, n, hh, h2⟩ := h
  exact ⟨es, n, hk.trans hh, h2⟩
theorem CA.next {W W' : World} {lo g b : Nat} {sess : Int} {serial : UInt32} {v : Value} {ss : List SetV} {f : Int → Option Lf} {many : Int} (h : CA W lo g b sess serial v ss f many) (hb : Below W.heap.size W W') : CA W' lo g b sess serial v ss f many :=
  ⟨h.blk.below hb h.blk.lt, own_below h.row hb, fun s hs => own_below (h.sets s hs) hb, h.mp.kept (hb.block b h.mp.lt), fun k x hx => ⟨((h.left k x hx).1.below hb (Nat.le_refl _)).more hb.size, (h.left k x hx).2⟩, h.l1, h.l2⟩
theorem CA.drew {W : World} {lo g b : Nat} {sess : Int} {serial : UInt32} {v : Value} {ss : List SetV} {f : Int → Option Lf} {many : Int} (h : CA W lo g b sess serial v ss f many) : CA W.drew lo g b sess serial v ss f many := h.next (Below.refl _ _).drew
/-- Where the last set lies. -/
theorem CA.lastAt {W : World} {lo g b : Nat} {sess : Int} {serial : UInt32} {v : Value} {ss : List SetV} {f : Int → Option Lf} {many : Int} (h : CA W lo g b sess serial v ss f many) {s : SetV} (hs : ss.getLast? = some s) {gs n c : Nat} (hv : v = .slice (some ⟨gs, 0, none⟩) n c) :
    W.cell? ⟨gs, (ss.length - 1) * 2, none⟩ = some (.slice s.A s.l.length s.c) ∧ W.cell? ⟨gs, (ss.length - 1) * 2 + 1, none⟩ = some (.int .u32 s.sn.toNat) ∧ s ∈ ss := by
  subst hv
  have hne : ss ≠ [] := fun e => by rw [e] at hs; simp at hs
  have hlt : ss.length - 1 < ss.length := by have := List.length_pos_iff.2 hne; omega
  have hsl : ss[ss.length - 1] = s := by
    rw [List.getLast?_eq_getElem?, List.getElem?_eq_getElem hlt] at hs
    exact Option.some.inj hs
  have hn : ss.length = n := by
    have := h.row.2
    rcases this with ⟨e, _⟩ | ⟨_, _, _, e, _⟩
    · cases e
    · injection e with _ e2 _
      exact e2.symm
  subst hn
  have hat := (Reads.of_own h.row).elem SetV.len hlt rfl
  rw [hsl] at hat
  have h0 := hat 0 _ rfl
  have h1 := hat 1 _ rfl
  rw [add_plain', add_plain'] at h0 h1
  simp only [Nat.zero_add, Nat.add_zero] at h0 h1
  exact ⟨h0, h1, by rw [← hsl]; exact List.getElem_mem hlt⟩
def LastPost (v : Value) (ss : List SetV) (e : Ending) : Prop :=
  (ss = [] ∧ e = .returned (.pointer none)) ∨ ∃ s gs c, ss.getLast? = some s ∧ v = .slice (some ⟨gs, 0, none⟩) ss.length c ∧ e = .returned (.pointer (some ⟨gs, (ss.length - 1) * 2, none⟩))
set_option maxRecDepth 100000 in
set_option maxHeartbeats 1000000 in
theorem last_any (w : World) (lo g b : Nat) (sess : Int) (serial : UInt32) (v : Value) (ss : List SetV) (f : Int → Option Lf) (many : Int) (h : CA w lo g b sess serial v ss f many) (hl : ss.length ≤ 1000000) :
    Calls Try.prog 61 #[.pointer (some ⟨g, 0, none⟩)] w fun e w' => LastPost v ss e ∧ Below w.heap.size w w' := by
  have c2 := h.blk.cell 2
  simp only [List.getElem?_cons_zero, List.getElem?_cons_succ] at c2
  obtain ⟨A, c, rfl⟩ := own_slice' h.row
  by_cases hz : ss.length = 0
  · have he : ss = [] := List.eq_nil_of_length_eq_zero hz
    have HE := Lib.hid he
    have be0 : ((ss.length : Int) == 0) = true := by simp [hz]
    clear he hz
    go_enter Try.func61, Try.ntmps61
    go_wp2_with fail
    go_ret
    exact ⟨.inl ⟨HE.out, rfl⟩, Below.refl _ _⟩
  · obtain ⟨s, hs⟩ : ∃ s, ss.getLast? = some s := by
      cases h : ss.getLast? with
      | none => rw [List.getLast?_eq_none_iff] at h; rw [h] at hz; simp at hz
      | some y => exact ⟨y, rfl⟩
    obtain ⟨gs, rfl⟩ : ∃ gs, A = some ⟨gs, 0, none⟩ := by
      rcases h.row.2 with ⟨e, hz2⟩ | ⟨g', _, _, e, _⟩
      · omega
      · injection e with e1 _ _
        exact ⟨g', e1⟩
    have HS := Lib.hid hs
    have be0 : ((ss.length : Int) == 0) = false := beq_eq_false_iff_ne.2 (by omega)
    have hkm : IntKind.i64.wrap ((ss.length : Int) - 1) = ((ss.length - 1 : Nat) : Int) := by rw [IntWalk.i64_in _ (by omega)]; omega
    have hk3 : ((ss.length - 1 : Nat) : Int) < (ss.length : Int) := by omega
    have hk4 : (0 : Int) ≤ ((ss.length - 1 : Nat) : Int) := by omega
    clear hs
    go_enter Try.func61, Try.ntmps61
    go_upto_region 3 with fail
    refine reg_sch2 12 [(true, 0), (true, 1), (true, 2), (true, 3), (true, 4), (true, 5), (true, 6), (true, 7), (true, 8), (true, 9), (true, 10), (true, 11)] (by kernel_rfl) (by kernel_rfl) (fun W => CA W lo g b sess serial (.slice (some ⟨gs, 0, none⟩) ss.length c) ss f many ∧ Below w.heap.size w W) (fun W => CA W lo g b sess serial (.slice (some ⟨gs, 0, none⟩) ss.length c) ss f many ∧ Below w.heap.size w W) ?_ ?_ ?_
    · exact ⟨h.drew, (Below.refl _ _).drew⟩
    · exact fun _ h => h
    intro W hSW
    simp only [List.map_cons, List.map_nil, List.getD_cons_zero, List.getD_cons_succ, List.drop_succ_cons, List.drop_zero]
    refine hd_pure (v := ?_) (by rfl) (fun W' hS' => ?_) ?_ -- 0
    rotate_left
    · have c2 := hS'.1.blk.cell 2; simp only [List.getElem?_cons_zero, List.getElem?_cons_succ] at c2; clear hS'; (go_simp; first | with_reducible rfl | rfl)
    try simp only [Act.put, List.setIfInBounds_toArray, List.set_cons_zero, List.set_cons_succ]
    refine hd_pure (v := ?_) (by rfl) (fun W' hS' => ?_) ?_ -- 1
    rotate_left
    · have c2 := hS'.1.blk.cell 2; simp only [List.getElem?_cons_zero, List.getElem?_cons_succ] at c2; clear hS'; (go_simp; first | with_reducible rfl | rfl)
    try simp only [Act.put, List.setIfInBounds_toArray, List.set_cons_zero, List.set_cons_succ]
    refine hd_pure (v := ?_) (by rfl) (fun W' hS' => ?_) ?_ -- 2
    rotate_left
    · have c2 := hS'.1.blk.cell 2; simp only [List.getElem?_cons_zero, List.getElem?_cons_succ] at c2; clear hS'; (go_simp; first | with_reducible rfl | rfl)
    try simp only [Act.put, List.setIfInBounds_toArray, List.set_cons_zero, List.set_cons_succ]
    refine hd_pure (v := ?_) (by rfl) (fun W' hS' => ?_) ?_ -- 3
    rotate_left
    · have c2 := hS'.1.blk.cell 2; simp only [List.getElem?_cons_zero, List.getElem?_cons_succ] at c2; clear hS'; (go_simp; first | with_reducible rfl | rfl)
    try simp only [Act.put, List.setIfInBounds_toArray, List.set_cons_zero, List.set_cons_succ]
    refine hd_pure (v := ?_) (by rfl) (fun W' hS' => ?_) ?_ -- 4
    rotate_left
    · have c2 := hS'.1.blk.cell 2; simp only [List.getElem?_cons_zero, List.getElem?_cons_succ] at c2; clear hS'; (go_simp; first | with_reducible rfl | rfl)
    try simp only [Act.put, List.setIfInBounds_toArray, List.set_cons_zero, List.set_cons_succ]
    refine hd_pure (v := ?_) (by rfl) (fun W' hS' => ?_) ?_ -- 5
    rotate_left
    · have c2 := hS'.1.blk.cell 2; simp only [List.getElem?_cons_zero, List.getElem?_cons_succ] at c2; clear hS'; (go_simp; first | with_reducible rfl | rfl)
    try simp only [Act.put, List.setIfInBounds_toArray, List.set_cons_zero, List.set_cons_succ]
    refine hd_pure (v := ?_) (by rfl) (fun W' hS' => ?_) ?_ -- 6
    rotate_left
    · have c2 := hS'.1.blk.cell 2; simp only [List.getElem?_cons_zero, List.getElem?_cons_succ] at c2; clear hS'; (go_simp; first | with_reducible rfl | rfl)
    try simp only [Act.put, List.setIfInBounds_toArray, List.set_cons_zero, List.set_cons_succ]
    refine hd_pure (v := ?_) (by rfl) (fun W' hS' => ?_) ?_ -- 7
    rotate_left
    · have c2 := hS'.1.blk.cell 2; simp only [List.getElem?_cons_zero, List.getElem?_cons_succ] at c2; clear hS'; (go_simp; first | with_reducible rfl | rfl)
    try simp only [Act.put, List.setIfInBounds_toArray, List.set_cons_zero, List.set_cons_succ]
    refine hd_pure (v := ?_) (by rfl) (fun W' hS' => ?_) ?_ -- 8
    rotate_left
    · have c2 := hS'.1.blk.cell 2; simp only [List.getElem?_cons_zero, List.getElem?_cons_succ] at c2; clear hS'; (go_simp; first | with_reducible rfl | rfl)
    try simp only [Act.put, List.setIfInBounds_toArray, List.set_cons_zero, List.set_cons_succ]
    refine hd_pure (v := ?_) (by rfl) (fun W' hS' => ?_) ?_ -- 9
    rotate_left
    · have c2 := hS'.1.blk.cell 2; simp only [List.getElem?_cons_zero, List.getElem?_cons_succ] at c2; clear hS'; (go_simp; first | with_reducible rfl | rfl)
    try simp only [Act.put, List.setIfInBounds_toArray, List.set_cons_zero, List.set_cons_succ]
    refine hd_pure (v := ?_) (by rfl) (fun W' hS' => ?_) ?_ -- 10
    rotate_left
    · have c2 := hS'.1.blk.cell 2; simp only [List.getElem?_cons_zero, List.getElem?_cons_succ] at c2; clear hS'; (go_simp; first | with_reducible rfl | rfl)
    try simp only [Act.put, List.setIfInBounds_toArray, List.set_cons_zero, List.set_cons_succ]
    refine hd_pure (v := ?_) (by rfl) (fun W' hS' => ?_) ?_ -- 11
    rotate_left
    · have c2 := hS'.1.blk.cell 2; simp only [List.getElem?_cons_zero, List.getElem?_cons_succ] at c2; clear hS'; (go_simp; first | with_reducible rfl | rfl)
    try simp only [Act.put, List.setIfInBounds_toArray, List.set_cons_zero, List.set_cons_succ]
    refine hd_nil ?_
    have hb := hSW.2; clear hSW
    refine wpList_nil (NoPanic.normal ?_)
    go_wp2_with fail
    go_ret
    exact ⟨.inr ⟨s, gs, c, HS.out, rfl, rfl⟩, hb⟩
end Go.Proofs.Ytmoldmnhijcckaa
