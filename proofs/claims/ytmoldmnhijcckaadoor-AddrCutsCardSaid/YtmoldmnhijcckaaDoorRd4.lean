/- The contract of addr.Read at the text of a prefix of four bytes. -/
import Derived.Test.YtmoldmnhijcckaaDoorFour
set_option linter.unusedVariables false
set_option linter.unusedSectionVars false
set_option linter.unusedSimpArgs false
namespace Go.Proofs.YtmoldmnhijcckaaDoor
open Go.RowKit
theorem cut_c (s : ByteArray) (h t : List UInt8) (b : Bool) (hs : s.size ≤ 1000) (hc : Lib.cut s.data.toList [47] = (h, t, b)) (m : Int) (w : World) (hm : w.cell? ⟨0, 0, none⟩ = some (.int .i64 m)) :
    Calls Tryd.prog 62 #[.string s, .string ⟨#[47]⟩] w fun e w' => e = .returned (.tuple #[.string ⟨h.toArray⟩, .string ⟨t.toArray⟩, .bool b]) ∧ Below w.heap.size w w' :=
  (Tryd.strings_Cut s ⟨#[47]⟩ m w (by omega) hm).mono fun e w' ⟨he, n, hw⟩ => ⟨by
    have e1 : Lib.cut s.data.toList (ByteArray.mk #[47]).data.toList = (h, t, b) := hc
    rw [e1] at he; exact he, by subst hw; exact below_drewN' (Below.refl _ _) n⟩
def p4 (us : List UInt8) (n : Nat) : Pfx := ⟨false, fillA us 4, n⟩
structure R2 (w : World) (g : Nat) (q : Pfx) (W : World) : Prop where
  r : Blk W w.heap.size 50 zPfx
  p : Blk W g 50 q.cells
  lo : Below w.heap.size w W
  le : w.heap.size < g
theorem R2.next {w : World} {g : Nat} {q : Pfx} {W W' : World} (h : R2 w g q W) (hb : Below W.heap.size W W') : R2 w g q W' := ⟨h.r.below hb h.r.lt, h.p.below hb h.p.lt, below_then h.lo (Nat.le_refl _) hb, h.le⟩
theorem R2.put {w : World} {g n : Nat} {us : List UInt8} {W : World} (h : R2 w g ⟨false, fillA us 0, n⟩ W) : R2 w g (p4 us n) (W.setCells g 1 (fillA us 4).cells) := by
  refine ⟨Blk.setCells_far (by have := h.le; omega) _ _ h.r, ?_, Below.setCells (by have := h.le; omega) _ _ h.lo, h.le⟩
  have := Blk.setCells (fillA us 4).cells 1 h.p (by rw [A16.cells_length, Pfx.cells_length]; decide)
  have e : List.take 1 (Pfx.cells ⟨false, fillA us 0, n⟩) ++ (fillA us 4).cells ++ List.drop (1 + (fillA us 4).cells.length) (Pfx.cells ⟨false, fillA us 0, n⟩) = (p4 us n).cells := by
    rw [A16.cells_length]
    unfold p4 Pfx.cells
    simp only [fillA_zero, zA]
    simp
  rw [e] at this
  exact this
theorem r2_new {w w4 : World} {n : Nat} {us : List UInt8} (hR : Blk w4 w.heap.size 50 zPfx ∧ Below w.heap.size w w4) : R2 w w4.heap.size ⟨false, fillA us 0, n⟩ (w4.alloc (.cells #[.bool false, .int .u8 0, .int .u8 0, .int .u8 0, .int .u8 0, .int .u8 0, .int .u8 0, .int .u8 0, .int .u8 0, .int .u8 0, .int .u8 0, .int .u8 0, .int .u8 0, .int .u8 0, .int .u8 0, .int .u8 0, .int .u8 0, .int .i64 n] 50)) := by
  refine ⟨hR.1.alloc _, ?_, hR.2.alloc hR.2.size _, hR.1.lt⟩
  have e : Pfx.cells ⟨false, fillA us 0, n⟩ = .bool false :: (zA ++ [.int .i64 n]) := by unfold Pfx.cells; rw [fillA_zero]
  rw [e]
  exact Blk.new _ _ _
set_option maxRecDepth 100000 in
set_option maxHeartbeats 4000000 in
theorem read4 (s : ByteArray) (h t : List UInt8) (n : Nat) (xs : List ByteArray) (us : List UInt8) (hs : s.size ≤ 1000) (hc : Lib.cut s.data.toList [47] = (h, t, true)) (hn : Lib.parseUintB 8 t = .ok n) (hn8 : n < 256) (ht : t.length ≤ 1000) (hh : h.length ≤ 1000)
    (hc4 : Lib.countB ⟨h.toArray⟩ ⟨#[46]⟩ = 3) (hx : Lib.splitB ⟨#[46]⟩ 0 3 ⟨h.toArray⟩ = xs) (h4 : us.length = 4) (hl : xs.length = 4)
    (hu : ∀ k, k < 4 → (xs.getD k ⟨#[]⟩).size ≤ 1000 ∧ Lib.parseUintB 8 (xs.getD k ⟨#[]⟩).data.toList = .ok (us.getD k 0).toNat)
    (hok : pfxOk (p4 us n) = true) (htx : slash (addr4 (p4 us n)) (dec n) = s) (m : Int) (w : World) (h0 : 0 < w.heap.size) (hm : w.cell? ⟨0, 0, none⟩ = some (.int .i64 m))
    (hit : ∀ k, k < 4 → ItoaAt w ((p4 us n).a.at k).toNat) (hin : ItoaAt w n) :
    Calls Tryd.prog 31 #[.string s] w fun e w' => e = .returned (.tuple #[(p4 us n).val, .int .i64 0]) ∧ Below w.heap.size w w' := by
  have hR : Blk (w.alloc (.cells zPfx.toArray 50)) w.heap.size 50 zPfx ∧ Below w.heap.size w (w.alloc (.cells zPfx.toArray 50)) := ⟨Blk.new _ _ _, (Below.refl _ _).alloc (Nat.le_refl _) _⟩
  have Hm : ∀ W, Below w.heap.size w W → W.cell? ⟨0, 0, none⟩ = some (.int .i64 m) := fun W hW => (hW.cell (p := ⟨0, 0, none⟩) h0).trans hm
  have Htx := Lib.hid htx
  have Hok := Lib.hid hok
  have Hit := Lib.hid hit
  have Hin := Lib.hid hin
  have Hu := Lib.hid hu
  have e1 : IntKind.i64.wrap (n : Int) = (n : Int) := IntWalk.i64_in _ (by omega)
  have e2 : wrap64 (n : Int) = (n : Int) := IntWalk.wrap64_in _ (by omega)
  clear hm hok htx hit hin hu
  go_enter Tryd.func31, Tryd.ntmps31
  have hsa : (addr4 (p4 us n)).size ≤ 1000 := by
    have := addr4_len (p4 us n)
    show (List.toArray _).size ≤ 1000
    rw [List.size_toArray]; omega
  have hsd : (dec n).size ≤ 1000 := by
    have := dec_len (u := n) (by omega)
    show (List.toArray _).size ≤ 1000
    rw [List.size_toArray]; omega
  go_wp2_with (first | (go_at_call 62; go_must (refine (cut_c s h t true hs hc m _ (Hm _ hR.2)).mono ?_; rintro e w3 ⟨rfl, hb⟩; replace hR := And.intro (hR.1.below hb hR.1.lt) (below_then hR.2 (Nat.le_refl _) hb); clear hb)) | (go_at_call 63; go_must (refine (parse8 ⟨t.toArray⟩ (by show t.toArray.size ≤ 1000; simpa using ht) n hn _).mono ?_; rintro e w4 ⟨rfl, hb⟩; replace hR := And.intro (hR.1.below hb hR.1.lt) (below_then hR.2 (Nat.le_refl _) hb); clear hb)) | (go_at_call 64; go_must (have h2 := r2_new (n := n) (us := us) hR; refine (four_ok ⟨h.toArray⟩ xs us (by show h.toArray.size ≤ 1000; simpa using hh) hc4 hx h4 hl Hu.out m _ (Nat.lt_of_lt_of_le h0 h2.lo.size) (Hm _ h2.lo)).mono ?_; rintro e w5 ⟨rfl, hb⟩; replace h2 := h2.next hb; clear hb hR; generalize w4.heap.size = g at h2 ⊢; have hle := h2.le)) | (go_at_call 29; go_must (refine (text_ok (p4 us n) Hok.out n rfl (addr4 (p4 us n)) hsa hsd _ (fun W hW => address4 (p4 us n) rfl W (fun k hk => (Hit.out k hk).next (below_then h2.lo (Nat.le_refl _) hW))) (Hin.out.next h2.lo)).mono ?_; rw [Htx.out]; rintro e w6 ⟨rfl, hb⟩; replace h2 := h2.next hb; clear hb)) | (refine wpList_store_at rfl 48 _ _ rfl g 1 16 50 _ _ rfl rfl h2.p (A16.cells_length _) (by rw [Pfx.cells_length]; decide) info_a16 (A16.one _) ?_; replace h2 := h2.put) | (refine wpList_load_at rfl 50 _ rfl g 0 18 rfl _ _ h2.p.range (Pfx.cells_length _) Tryd.underlying50 rfl info_pfx ?_) | (refine wpList_store_at rfl 50 _ _ rfl w.heap.size 0 18 50 _ _ rfl rfl h2.r (Pfx.cells_length _) (by decide) info_pfx (Pfx.one _) ?_))
  exact bodyPost_ret (results_cell_tmp rfl _ w.heap.size 0 18 (p4 us n).cells _ rfl ((h2.r.setCells_all (by rw [Pfx.cells_length]; decide)).range) (Pfx.cells_length _) Tryd.underlying50 rfl info_pfx) rfl ⟨rfl, Below.setCells (by omega) _ _ h2.lo⟩
end Go.Proofs.YtmoldmnhijcckaaDoor
