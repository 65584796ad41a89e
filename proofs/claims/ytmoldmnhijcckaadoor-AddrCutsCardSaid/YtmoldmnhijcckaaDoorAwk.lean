/- The contract of lanyardlaw10.awake: it returns true. -/
import Derived.Test.YtmoldmnhijcckaaDoorSix2
import Derived.Test.YtmoldmnhijcckaaDoorRd4
import Derived.Test.YtmoldmnhijcckaaDoorCov
set_option linter.unusedVariables false
set_option linter.unusedSectionVars false
set_option linter.unusedSimpArgs false
namespace Go.Proofs.YtmoldmnhijcckaaDoor
open Go.RowKit
theorem d1 {u : Nat} (h : u < 10) : Lib.decDigits u = [UInt8.ofNat (48 + u)] := by rw [Lib.decDigits, dif_pos h]
theorem d2 {u : Nat} (h : ¬ u < 10) (h2 : u / 10 < 10) : Lib.decDigits u = [UInt8.ofNat (48 + u / 10), UInt8.ofNat (48 + u % 10)] := by rw [Lib.decDigits, dif_neg h, d1 h2]; rfl
theorem dec0 : dec 0 = ⟨#[48]⟩ := by unfold dec; rw [d1 (by decide)]; rfl
theorem dec1 : dec 1 = ⟨#[49]⟩ := by unfold dec; rw [d1 (by decide)]; rfl
theorem dec8 : dec 8 = ⟨#[56]⟩ := by unfold dec; rw [d1 (by decide)]; rfl
theorem dec10 : dec 10 = ⟨#[49, 48]⟩ := by unfold dec; rw [d2 (by decide) (by decide)]; rfl
theorem dec16 : dec 16 = ⟨#[49, 54]⟩ := by unfold dec; rw [d2 (by decide) (by decide)]; rfl
theorem read_a (m : Int) (w : World) (h0 : 0 < w.heap.size) (hm : w.cell? ⟨0, 0, none⟩ = some (.int .i64 m)) :
    Calls Tryd.prog 31 #[.string ⟨#[49, 48, 46, 48, 46, 48, 46, 48, 47, 56]⟩] w fun e w' => e = .returned (.tuple #[(p4 [10, 0, 0, 0] 8).val, .int .i64 0]) ∧ Below w.heap.size w w' := by
  refine read4 _ [49, 48, 46, 48, 46, 48, 46, 48] [56] 8 [⟨#[49, 48]⟩, ⟨#[48]⟩, ⟨#[48]⟩, ⟨#[48]⟩] [10, 0, 0, 0] (by decide) (by decide +kernel) (by decide +kernel) (by decide) (by decide) (by decide) (by decide +kernel) (by decide +kernel) rfl rfl ?_ (by decide +kernel) ?_ m w h0 hm ?_ (itoa_small _ (by decide))
  · intro k hk
    obtain rfl | rfl | rfl | rfl : k = 0 ∨ k = 1 ∨ k = 2 ∨ k = 3 := by omega
    all_goals exact ⟨by decide, by decide +kernel⟩
  · have hq : quad (p4 [10, 0, 0, 0] 8) 4 = [dec 10, dec 0, dec 0, dec 0] := rfl
    unfold addr4
    rw [hq, dec10, dec0, dec8]
    rfl
  · intro k hk
    obtain rfl | rfl | rfl | rfl : k = 0 ∨ k = 1 ∨ k = 2 ∨ k = 3 := by omega
    all_goals exact itoa_small _ (by decide)
theorem read_b (m : Int) (w : World) (h0 : 0 < w.heap.size) (hm : w.cell? ⟨0, 0, none⟩ = some (.int .i64 m)) :
    Calls Tryd.prog 31 #[.string ⟨#[49, 48, 46, 49, 46, 48, 46, 48, 47, 49, 54]⟩] w fun e w' => e = .returned (.tuple #[(p4 [10, 1, 0, 0] 16).val, .int .i64 0]) ∧ Below w.heap.size w w' := by
  refine read4 _ [49, 48, 46, 49, 46, 48, 46, 48] [49, 54] 16 [⟨#[49, 48]⟩, ⟨#[49]⟩, ⟨#[48]⟩, ⟨#[48]⟩] [10, 1, 0, 0] (by decide) (by decide +kernel) (by decide +kernel) (by decide) (by decide) (by decide) (by decide +kernel) (by decide +kernel) rfl rfl ?_ (by decide +kernel) ?_ m w h0 hm ?_ (itoa_small _ (by decide))
  · intro k hk
    obtain rfl | rfl | rfl | rfl : k = 0 ∨ k = 1 ∨ k = 2 ∨ k = 3 := by omega
    all_goals exact ⟨by decide, by decide +kernel⟩
  · have hq : quad (p4 [10, 1, 0, 0] 16) 4 = [dec 10, dec 1, dec 0, dec 0] := rfl
    unfold addr4
    rw [hq, dec10, dec1, dec0, dec16]
    rfl
  · intro k hk
    obtain rfl | rfl | rfl | rfl : k = 0 ∨ k = 1 ∨ k = 2 ∨ k = 3 := by omega
    all_goals exact itoa_small _ (by decide)
theorem put_newP (w : World) (q : Pfx) : Blk ((w.alloc (.cells zPfx.toArray 50)).setCells w.heap.size 0 q.cells) w.heap.size 50 q.cells ∧ Below w.heap.size w ((w.alloc (.cells zPfx.toArray 50)).setCells w.heap.size 0 q.cells) :=
  ⟨(Blk.new w _ _).setCells_all (by rw [Pfx.cells_length]; decide), Below.setCells (Nat.le_refl _) _ _ ((Below.refl _ _).alloc (Nat.le_refl _) _)⟩
set_option maxRecDepth 100000 in
set_option maxHeartbeats 4000000 in
theorem awake_any (m : Int) (w : World) (h0 : 0 < w.heap.size) (hm : w.cell? ⟨0, 0, none⟩ = some (.int .i64 m)) :
    Calls Tryd.prog 28 #[] w fun e w' => e = .returned (.bool true) ∧ Below w.heap.size w w' := by
  have hra := read_a m w h0 hm
  have hrb := fun W (hb : Below w.heap.size w W) => read_b m W (Nat.lt_of_lt_of_le h0 hb.size) ((hb.cell (p := ⟨0, 0, none⟩) h0).trans hm)
  have h6 := text6 ⟨true, z16, 0⟩ rfl rfl rfl
  have e6 : Pfx.val ⟨true, z16, 0⟩ = .agg #[.bool true, .int .u8 0, .int .u8 0, .int .u8 0, .int .u8 0, .int .u8 0, .int .u8 0, .int .u8 0, .int .u8 0, .int .u8 0, .int .u8 0, .int .u8 0, .int .u8 0, .int .u8 0, .int .u8 0, .int .u8 0, .int .u8 0, .int .i64 0] := rfl
  simp only [e6] at h6
  have c1 : coversOf (p4 [10, 0, 0, 0] 8) (p4 [10, 1, 0, 0] 16) = true := by decide +kernel
  have c2 : coversOf (p4 [10, 1, 0, 0] 16) (p4 [10, 0, 0, 0] 8) = false := by decide +kernel
  clear h0 hm e6
  generalize p4 [10, 0, 0, 0] 8 = p at hra c1 c2
  generalize p4 [10, 1, 0, 0] 16 = q at hrb c1 c2
  have C1 := Lib.hid c1
  have C2 := Lib.hid c2
  clear c1 c2
  simp only [Pfx.val] at hra hrb
  go_enter Tryd.func28, Tryd.ntmps28
  go_upto_region 2 with (first | (go_at_call 31; go_must (refine hra.mono ?_; rintro e w3 ⟨rfl, hb3⟩)) | (refine wpList_store_at rfl 50 _ _ rfl _ 0 18 50 p.cells zPfx rfl rfl (blk_new' _ _ _ _ rfl) (Pfx.cells_length _) (by decide) info_pfx (Pfx.one _) ?_))
  refine wp_gen (fun W => Blk W w3.heap.size 50 p.cells ∧ Below w.heap.size w W) ⟨(put_newP w3 p).1, below_then hb3 (Nat.le_refl _) (put_newP w3 p).2⟩ ?_
  clear hra hb3
  generalize w3.heap.size = g1
  rintro W1 ⟨hp, hlo⟩
  go_upto_region 3 with (first | (go_at_call 31; go_must (refine (hrb _ hlo).mono ?_; rintro e w4 ⟨rfl, hb4⟩)) | (refine wpList_store_at rfl 50 _ _ rfl _ 0 18 50 q.cells zPfx rfl rfl (blk_new' _ _ _ _ rfl) (Pfx.cells_length _) (by decide) info_pfx (Pfx.one _) ?_))
  refine wp_gen (fun W => Blk W g1 50 p.cells ∧ Blk W w4.heap.size 50 q.cells ∧ Below w.heap.size w W) ⟨(hp.below hb4 hp.lt).below (put_newP w4 q).2 (hp.below hb4 hp.lt).lt, (put_newP w4 q).1, below_then (below_then hlo (Nat.le_refl _) hb4) (Nat.le_refl _) (put_newP w4 q).2⟩ ?_
  clear hrb hb4 hp hlo
  generalize w4.heap.size = g2
  rintro W2 ⟨hp, hq, hlo⟩
  go_upto_region 4 with (go_at_call 29; go_must (refine (h6 _).mono ?_; rintro e w5 ⟨rfl, hb5⟩))
  refine wp_gen (fun W => Blk W g1 50 p.cells ∧ Blk W g2 50 q.cells ∧ Below w.heap.size w W) ⟨hp.below hb5 hp.lt, hq.below hb5 hq.lt, below_then hlo (Nat.le_refl _) hb5⟩ ?_
  clear h6 hb5 hp hq hlo
  rintro W3 ⟨hp, hq, hlo⟩
  go_wp2_with (first | (refine wpList_load_g (by rfl) 50 _ rfl g1 0 18 rfl _ _ hp.range (Pfx.cells_length _) Tryd.underlying50 rfl info_pfx ?_) | (refine wpList_load_g (by rfl) 50 _ rfl g2 0 18 rfl _ _ hq.range (Pfx.cells_length _) Tryd.underlying50 rfl info_pfx ?_))
  refine (covers_any p q _).mono ?_
  rintro e w6 ⟨rfl, hb⟩
  rw [C1.out]
  replace hp := hp.below hb hp.lt
  replace hq := hq.below hb hq.lt
  replace hlo := below_then hlo (Nat.le_refl _) hb
  clear hb
  go_wp2_with (first | (refine wpList_load_g (by rfl) 50 _ rfl g1 0 18 rfl _ _ hp.range (Pfx.cells_length _) Tryd.underlying50 rfl info_pfx ?_) | (refine wpList_load_g (by rfl) 50 _ rfl g2 0 18 rfl _ _ hq.range (Pfx.cells_length _) Tryd.underlying50 rfl info_pfx ?_))
  refine (covers_any q p _).mono ?_
  rintro e w7 ⟨rfl, hb⟩
  rw [C2.out]
  replace hlo := below_then hlo (Nat.le_refl _) hb
  clear hb hp hq
  go_wp2
  go_ret
  exact ⟨rfl, hlo⟩
end Go.Proofs.YtmoldmnhijcckaaDoor
