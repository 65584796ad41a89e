/- The laws' first line: a message without anything. -/
import Derived.Test.YtmoldmnhijcckaaRead
import Derived.Test.YtmoldmnhijcckaaApp
set_option linter.unusedVariables false
set_option linter.unusedSectionVars false
set_option linter.unusedSimpArgs false
namespace Go.Proofs.Ytmoldmnhijcckaa
open Go.RowKit
theorem own_cap {w : World} {base n c size : Nat} {e : TypeId} {A : Option Addr} {xs : List Value} (h : w.ownsRow base e size (.slice A n c) n xs) : n ≤ c := by
  rcases h.2 with ⟨h, rfl⟩ | ⟨g, cap, cur, h, _, _, hnc, _⟩
  · exact Nat.zero_le _
  · injection h with _ _ h
    subst h
    exact hnc
theorem read_n (bs : List UInt8) (n : Nat) (hn : bs.length = n) (q : Pdu) (m k x : Int) (hr0 : readOf bs = (q, m, k, x)) (A : Option Addr) (c B : Nat) (hc : n ≤ c) (w : World) (hB : B ≤ w.heap.size) (hr : Reads w B 1 A n (bs.map bv)) :
    Calls Try.prog 15 #[.slice A n c] w fun e w' => e = .returned (.tuple #[.agg q.cells.toArray, .int .i64 m, .int .i64 k, .int .i64 x]) ∧ Below w.heap.size w w' := by
  subst hn
  have h := read_any bs A c B hc w hB hr
  unfold RdPost at h
  rw [hr0] at h
  exact h
theorem Reads.new {w : World} {t : TypeId} (bs : List UInt8) (g : Nat) (hg : w.heap.size = g) (cs : List Value) (hcs : cs = bs.map bv) (n : Nat) (hn : n = bs.length) : Reads (w.alloc (.cells cs.toArray t)) (g + 1) 1 (some ⟨g, 0, none⟩) n (bs.map bv) := by
  subst hcs; subst hn
  refine ⟨by simp, fun _ => ⟨_, rfl, by simp, fun j u hu => ?_⟩⟩
  rw [add_plain', Nat.zero_add, (blk_new' w t _ g hg).cell]
  exact hu
structure Bx1 (w : World) (g : Nat) (q : Pdu) (W : World) : Prop where
  q : Blk W g 29 q.cells
  b : Below w.heap.size w W
theorem Bx1.next {w : World} {g : Nat} {q : Pdu} {W W' : World} (h : Bx1 w g q W) (hb : Below W.heap.size W W') : Bx1 w g q W' := ⟨h.q.below hb h.q.lt, below_then h.b (Nat.le_refl _) hb⟩
theorem put_new (W : World) (q : Pdu) : Blk ((W.alloc (.cells (bareL 0).toArray 29)).setCells W.heap.size 0 q.cells) W.heap.size 29 q.cells ∧ Below W.heap.size W ((W.alloc (.cells (bareL 0).toArray 29)).setCells W.heap.size 0 q.cells) := by
  have hq1 : Blk (W.alloc (.cells (bareL 0).toArray 29)) W.heap.size 29 (bareL 0) := blk_new' _ _ _ _ rfl
  have hb0 : Below W.heap.size W (W.alloc (.cells (bareL 0).toArray 29)) := (Below.refl _ _).alloc (Nat.le_refl _) _
  have hl : q.cells.length = (bareL 0).length := by rw [Pdu.cells_length]; rfl
  generalize W.alloc (.cells (bareL 0).toArray 29) = V at *
  exact ⟨Blk.setCells_all hq1 hl, Below.setCells (Nat.le_refl _) q.cells (g := W.heap.size) 0 hb0⟩
theorem wr2 : wrB (bareP 2) = [1, 2, 0, 0, 0, 0, 0, 8] := by kernel_rfl
theorem ok2 : pduOk (bareP 2) = true := by kernel_rfl
theorem rd9 : readOf [1, 2, 0, 0, 0, 0, 0, 8, 9] = (bareP 2, 8, 0, 0) := by kernel_rfl
theorem rd0 : readOf [0, 0, 0, 0, 0, 0, 0, 0] = (bareP 0, 0, 4, 2) := by kernel_rfl
theorem write_2 (w : World) : Calls Try.prog 13 #[.agg (bareL 2).toArray] w fun e w' => ∃ A c, e = .returned (.tuple #[.slice A 8 c, .int .i64 0]) ∧ w'.ownsRow w.heap.size 5 1 (.slice A 8 c) 8 ([1, 2, 0, 0, 0, 0, 0, 8].map bv) ∧ Below w.heap.size w w' := by
  have h := write_any (bareP 2) w
  rw [Pdu.val, ← bareL_eq] at h
  refine h.mono ?_
  rintro e w1 ⟨h1, _, hb⟩
  obtain ⟨v, rfl, hov⟩ := h1 ok2
  obtain ⟨A, c, rfl⟩ := own_slice' hov
  rw [wr2] at hov ⊢
  exact ⟨A, c, rfl, hov, hb⟩
set_option maxRecDepth 100000 in
set_option maxHeartbeats 1000000 in
theorem awake_any (w : World) : Calls Try.prog 12 #[] w fun e w' => e = .returned (.bool true) ∧ Below w.heap.size w w' := by
  obtain ⟨q, hq⟩ : ∃ q, q = bareP 2 := ⟨_, rfl⟩
  obtain ⟨z, hz⟩ : ∃ q, q = bareP 0 := ⟨_, rfl⟩
  have r9 : readOf [1, 2, 0, 0, 0, 0, 0, 8, 9] = (q, 8, 0, 0) := by rw [hq]; exact rd9
  have r0 : readOf [0, 0, 0, 0, 0, 0, 0, 0] = (z, 0, 4, 2) := by rw [hz]; exact rd0
  have HQ := Lib.hid hq
  have R9 := Lib.hid r9
  have R0 := Lib.hid r0
  clear hq hz r9 r0
  obtain ⟨i0, hi0, hz0, hz1, hz2⟩ := info_parts info5b
  go_enter Try.func12, Try.ntmps12
  go_upto_region 2 with (go_at_call 13; refine (write_2 _).mono ?_; rintro e w1 ⟨A, c, rfl, hov, hw1⟩)
  go_upto_region 3 with (first | (at_builtin; refine wpList_append_any _ rfl _ _ 30 rfl w.heap.size 5 i0 _ 1 1 Try.underlying30 hi0 hz0 hz1 hz2 rfl (by omega) _ 8 _ rfl (own_below hov ((Below.refl _ _).alloc (Nat.le_refl _) _)) (w1.heap.size + 1) (some ⟨w1.heap.size, 0, none⟩) 1 1 _ rfl (Reads.new [9] _ rfl _ rfl _ rfl) (bv_one _) (by simp only [maxLen]; omega) (by omega) (by have := hw1.size; simp; omega) ?_; intro v2 w2 ho2 hg2 _; obtain ⟨A2, c2, rfl⟩ := own_slice' ho2; replace ho2 : w2.ownsRow w.heap.size 5 1 (.slice A2 9 c2) 9 ([1, 2, 0, 0, 0, 0, 0, 8, 9].map bv) := ho2) | (go_at_call 15; refine (read_n [1, 2, 0, 0, 0, 0, 0, 8, 9] 9 rfl _ _ _ _ R9.out _ c2 _ (own_cap ho2) _ (Nat.le_refl _) (Reads.of_own ho2)).mono ?_; rintro e w3 ⟨rfl, hb3⟩) | (refine wpList_store_at rfl 29 _ _ rfl _ 0 26 29 q.cells (bareL 0) rfl rfl (blk_new' _ _ _ _ rfl) (Pdu.cells_length _) (by decide) info_pdu (Pdu.one _) ?_))
  refine wp_gen (Bx1 w w3.heap.size (q)) ⟨(put_new w3 (q)).1, ?_⟩ ?_
  · have hsz := hw1.size
    have h2 : Below w.heap.size w w2 := ((hw1.alloc hsz _).grown hg2 (by simp; omega) (fun k hk => (own_base_le hov k hk).1))
    exact below_then (below_then h2 (Nat.le_refl _) hb3) (Nat.le_refl _) (put_new w3 (q)).2
  clear hov hw1 ho2 hg2 hb3
  generalize w3.heap.size = g3
  intro W hW
  have hmk : ∀ w, (Instr.makeSlice 30 (.int .i64 8) (.int .i64 8)).run Try.prog w = .ok (.slice (some ⟨w.heap.size, 0, none⟩) 8 8) (w.alloc (.cells #[.int .u8 0, .int .u8 0, .int .u8 0, .int .u8 0, .int .u8 0, .int .u8 0, .int .u8 0, .int .u8 0] 5)) := fun _ => by kernel_rfl
  go_upto_region 4 with (first | (go_at_call 15; refine (read_n [0, 0, 0, 0, 0, 0, 0, 0] 8 rfl _ _ _ _ R0.out _ 8 _ (Nat.le_refl _) _ (by simp) (Reads.new [0, 0, 0, 0, 0, 0, 0, 0] _ rfl _ rfl _ rfl)).mono ?_; rintro e w5 ⟨rfl, hb5⟩; replace hW := hW.next (((Below.refl W.heap.size W).alloc (Nat.le_refl _) _).trans (hb5.mono (by simp))); clear hb5) | (refine wpList_store_at rfl 29 _ _ rfl _ 0 26 29 z.cells (bareL 0) rfl rfl (blk_new' _ _ _ _ rfl) (Pdu.cells_length _) (by decide) info_pdu (Pdu.one _) ?_))
  refine wp_gen (Bx1 w g3 (q)) (hW.next (put_new w5 (z)).2) ?_
  clear hW hmk
  intro W hW
  have e0 : W.cell? ⟨g3, 0, none⟩ = some (.int .i64 2) := (hW.q.cell 0).trans (by rw [HQ.out]; rfl)
  go_wp2
  go_ret
  exact ⟨rfl, hW.b⟩
end Go.Proofs.Ytmoldmnhijcckaa
