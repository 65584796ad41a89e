/- The contract of lanyardref25.behind: what stands behind a message's head. Conditions: a kind, small numbers. -/
import Derived.Test.YtmoldmnhijcckaaRefA
import Derived.Test.YtmoldmnhijcckaaWrite0
import Derived.Test.YtmoldmnhijcckaaWriteD
import Derived.Test.YtmoldmnhijcckaaAwake
import Derived.Test.YtmoldmnhijcckaaBackL
import Derived.Lib.AppendStr
set_option linter.unusedVariables false
set_option linter.unusedSectionVars false
set_option linter.unusedSimpArgs false
namespace Go.Proofs.Ytmoldmnhijcckaa
open Go.RowKit
def BytesOut (bs : List UInt8) (w : World) (e : Ending) (w' : World) : Prop :=
  ∃ A n c, e = .returned (.slice A n c) ∧ n = bs.length ∧ n ≤ c ∧ Reads w' w'.heap.size 1 A n (bs.map bv) ∧ Below w.heap.size w w'
theorem bx_grown {w : World} {p : Pdu} {W W' : World} {v : Value} {n : Nat} {xs : List Value} (h : Bx w p W) (ho : W.ownsRow (w.heap.size + 1) 5 1 v n xs) (hg : W.grownBy W' v.ownBlock) : Bx w p W' :=
  ⟨h.1.grown hg (fun e => own_blk_ne ho h.1 (by decide) e.symm), h.2.grown hg h.2.size (fun k hk => by have := (own_base_le ho k hk).1; omega)⟩
theorem out_own {w W : World} {p : Pdu} {bs : List UInt8} {v : Value} {n base : Nat} {xs : List UInt8} (h : Bx w p W) (ho : W.ownsRow base 5 1 v n (xs.map bv)) (e : xs = bs) : BytesOut bs w (.returned v) W := by
  subst e
  obtain ⟨A, c, rfl⟩ := own_slice' ho
  refine ⟨A, n, c, rfl, ?_, own_cap ho, Reads.of_own ho, h.2⟩
  have := ho.1
  simpa using this.symm
set_option maxRecDepth 100000 in
set_option maxHeartbeats 1000000 in
theorem behind_0 (p : Pdu) (w : World) (hke : p.kind = 0) : Calls Try.prog 71 #[p.val] w (BytesOut (wrBody p) w) := by
  simp only [Pdu.val]
  have hX := Bx.new w p
  obtain ⟨i0, hi0, hz0, hz1, hz2⟩ := info_parts info5b
  go_enter Try.func71, Try.ntmps71
  go_upto_region 2 with fail
  refine wp_gen (Bx w p) hX ?_
  clear hX
  intro W hX
  have hsz := hX.1.lt
  have ho : W.ownsRow (w.heap.size + 1) 5 1 (.slice none 0 0) 0 (([] : List UInt8).map bv) := World.ownsRow_nil _ _ _ _
  have c0 := (hX.1.cell 0).trans p.c0
  rw [hke] at c0
  have HK := Lib.hid hke
  clear hke
  have c2 := (hX.1.cell 2).trans p.c2
  have hsl : p.serial.toNat < 4294967296 := p.serial.toNat_lt
  go_wp2_with (go_at_call 72; go_must (refine (rn_4 p.serial.toNat hsl _).mono ?_; rintro e w1 ⟨g, rfl, hs, hb⟩; replace hX := hX.next hb; clear hb))
  go_ret
  exact ⟨_, 4, 4, rfl, by simp [wrBody, HK.out, beB_length], Nat.le_refl _, by rw [show wrBody p = beB p.serial.toNat 4 by simp [wrBody, HK.out]]; exact hs, hX.2⟩
set_option maxRecDepth 100000 in
set_option maxHeartbeats 1000000 in
theorem behind_1 (p : Pdu) (w : World) (hke : p.kind = 1) : Calls Try.prog 71 #[p.val] w (BytesOut (wrBody p) w) := by
  simp only [Pdu.val]
  have hX := Bx.new w p
  obtain ⟨i0, hi0, hz0, hz1, hz2⟩ := info_parts info5b
  go_enter Try.func71, Try.ntmps71
  go_upto_region 2 with fail
  refine wp_gen (Bx w p) hX ?_
  clear hX
  intro W hX
  have hsz := hX.1.lt
  have ho : W.ownsRow (w.heap.size + 1) 5 1 (.slice none 0 0) 0 (([] : List UInt8).map bv) := World.ownsRow_nil _ _ _ _
  have c0 := (hX.1.cell 0).trans p.c0
  rw [hke] at c0
  have HK := Lib.hid hke
  clear hke
  have c2 := (hX.1.cell 2).trans p.c2
  have hsl : p.serial.toNat < 4294967296 := p.serial.toNat_lt
  go_wp2_with (go_at_call 72; go_must (refine (rn_4 p.serial.toNat hsl _).mono ?_; rintro e w1 ⟨g, rfl, hs, hb⟩; replace hX := hX.next hb; clear hb))
  go_ret
  exact ⟨_, 4, 4, rfl, by simp [wrBody, HK.out, beB_length], Nat.le_refl _, by rw [show wrBody p = beB p.serial.toNat 4 by simp [wrBody, HK.out]]; exact hs, hX.2⟩
set_option maxRecDepth 100000 in
set_option maxHeartbeats 1000000 in
theorem behind_2 (p : Pdu) (w : World) (hke : p.kind = 2) : Calls Try.prog 71 #[p.val] w (BytesOut (wrBody p) w) := by
  simp only [Pdu.val]
  have hX := Bx.new w p
  obtain ⟨i0, hi0, hz0, hz1, hz2⟩ := info_parts info5b
  go_enter Try.func71, Try.ntmps71
  go_upto_region 2 with fail
  refine wp_gen (Bx w p) hX ?_
  clear hX
  intro W hX
  have hsz := hX.1.lt
  have ho : W.ownsRow (w.heap.size + 1) 5 1 (.slice none 0 0) 0 (([] : List UInt8).map bv) := World.ownsRow_nil _ _ _ _
  have c0 := (hX.1.cell 0).trans p.c0
  rw [hke] at c0
  have HK := Lib.hid hke
  clear hke
  have c2 := (hX.1.cell 2).trans p.c2
  have hsl : p.serial.toNat < 4294967296 := p.serial.toNat_lt
  go_wp2
  go_ret
  exact ⟨none, 0, 0, rfl, by simp [wrBody, HK.out], Nat.le_refl _, by rw [show wrBody p = [] by simp [wrBody, HK.out]]; exact Reads.none_, hX.2⟩
set_option maxRecDepth 100000 in
set_option maxHeartbeats 1000000 in
theorem behind_3 (p : Pdu) (w : World) (hke : p.kind = 3) : Calls Try.prog 71 #[p.val] w (BytesOut (wrBody p) w) := by
  simp only [Pdu.val]
  have hX := Bx.new w p
  obtain ⟨i0, hi0, hz0, hz1, hz2⟩ := info_parts info5b
  go_enter Try.func71, Try.ntmps71
  go_upto_region 2 with fail
  refine wp_gen (Bx w p) hX ?_
  clear hX
  intro W hX
  have hsz := hX.1.lt
  have ho : W.ownsRow (w.heap.size + 1) 5 1 (.slice none 0 0) 0 (([] : List UInt8).map bv) := World.ownsRow_nil _ _ _ _
  have c0 := (hX.1.cell 0).trans p.c0
  rw [hke] at c0
  have HK := Lib.hid hke
  clear hke
  have c2 := (hX.1.cell 2).trans p.c2
  have hsl : p.serial.toNat < 4294967296 := p.serial.toNat_lt
  go_wp2
  go_ret
  exact ⟨none, 0, 0, rfl, by simp [wrBody, HK.out], Nat.le_refl _, by rw [show wrBody p = [] by simp [wrBody, HK.out]]; exact Reads.none_, hX.2⟩
set_option maxRecDepth 100000 in
set_option maxHeartbeats 1000000 in
theorem behind_8 (p : Pdu) (w : World) (hke : p.kind = 8) : Calls Try.prog 71 #[p.val] w (BytesOut (wrBody p) w) := by
  simp only [Pdu.val]
  have hX := Bx.new w p
  obtain ⟨i0, hi0, hz0, hz1, hz2⟩ := info_parts info5b
  go_enter Try.func71, Try.ntmps71
  go_upto_region 2 with fail
  refine wp_gen (Bx w p) hX ?_
  clear hX
  intro W hX
  have hsz := hX.1.lt
  have ho : W.ownsRow (w.heap.size + 1) 5 1 (.slice none 0 0) 0 (([] : List UInt8).map bv) := World.ownsRow_nil _ _ _ _
  have c0 := (hX.1.cell 0).trans p.c0
  rw [hke] at c0
  have HK := Lib.hid hke
  clear hke
  have c2 := (hX.1.cell 2).trans p.c2
  have hsl : p.serial.toNat < 4294967296 := p.serial.toNat_lt
  go_wp2
  go_ret
  exact ⟨none, 0, 0, rfl, by simp [wrBody, HK.out], Nat.le_refl _, by rw [show wrBody p = [] by simp [wrBody, HK.out]]; exact Reads.none_, hX.2⟩
set_option maxRecDepth 100000 in
set_option maxHeartbeats 2000000 in
theorem behind_7 (p : Pdu) (w : World) (hke : p.kind = 7) : Calls Try.prog 71 #[p.val] w (BytesOut (wrBody p) w) := by
  simp only [Pdu.val]
  have hX := Bx.new w p
  obtain ⟨i0, hi0, hz0, hz1, hz2⟩ := info_parts info5b
  go_enter Try.func71, Try.ntmps71
  go_upto_region 2 with fail
  refine wp_gen (Bx w p) hX ?_
  clear hX
  intro W hX
  have hsz := hX.1.lt
  have ho : W.ownsRow (w.heap.size + 1) 5 1 (.slice none 0 0) 0 (([] : List UInt8).map bv) := World.ownsRow_nil _ _ _ _
  have c0 := (hX.1.cell 0).trans p.c0
  rw [hke] at c0
  have HK := Lib.hid hke
  clear hke
  have c2 := (hX.1.cell 2).trans p.c2
  have hsl : p.serial.toNat < 4294967296 := p.serial.toNat_lt
  go_wp2_with (first | (go_at_call 72; go_must (refine (rn_i4 _ (by omega) (by omega) _).mono ?_; rintro e w1 ⟨g, rfl, hs, hb⟩; replace ho := own_below ho hb; replace hX := hX.next hb; clear hsz; have hsz := hX.1.lt; clear hb)) | (at_builtin; go_must (refine wpList_append_any _ rfl _ _ 30 rfl (w.heap.size + 1) 5 i0 _ 1 1 Try.underlying30 hi0 hz0 hz1 hz2 rfl (by omega) _ _ _ rfl ho _ _ _ _ _ rfl hs (bv_one _) (by simp only [maxLen]; omega) (by omega) (by omega) ?_; intro v2 w2 ho2 hg2 _; rw [← List.map_append] at ho2; replace hX := bx_grown hX ho hg2; clear hsz; have hsz := hX.1.lt; replace ho := ho2; clear hs hg2)))
  go_ret
  exact out_own hX ho (by simp [wrBody, HK.out])
set_option maxRecDepth 100000 in
set_option maxHeartbeats 2000000 in
theorem behind_10 (p : Pdu) (w : World) (hke : p.kind = 10) (htx : p.text.size ≤ 200) : Calls Try.prog 71 #[p.val] w (BytesOut (wrBody p) w) := by
  simp only [Pdu.val]
  have hX := Bx.new w p
  obtain ⟨i0, hi0, hz0, hz1, hz2⟩ := info_parts info5b
  go_enter Try.func71, Try.ntmps71
  go_upto_region 2 with fail
  refine wp_gen (Bx w p) hX ?_
  clear hX
  intro W hX
  have hsz := hX.1.lt
  have ho : W.ownsRow (w.heap.size + 1) 5 1 (.slice none 0 0) 0 (([] : List UInt8).map bv) := World.ownsRow_nil _ _ _ _
  have c0 := (hX.1.cell 0).trans p.c0
  rw [hke] at c0
  have HK := Lib.hid hke
  clear hke
  have c2 := (hX.1.cell 2).trans p.c2
  have hsl : p.serial.toNat < 4294967296 := p.serial.toNat_lt
  have H4 := Lib.hid (show [Value.int .u8 0, Value.int .u8 0, Value.int .u8 0, Value.int .u8 0] = [(0 : UInt8), 0, 0, 0].map bv from rfl)
  have HL4 := Lib.hid (show 4 = [(0 : UInt8), 0, 0, 0].length from rfl)
  obtain ⟨L4, hL4⟩ : ∃ L, L = [(0 : UInt8), 0, 0, 0] := ⟨_, rfl⟩
  rw [← hL4] at H4 HL4
  have HE4 := Lib.hid hL4
  clear hL4
  have tok1 : True := trivial
  go_upto_region 24 with (at_builtin; have _t := tok1; go_must (refine wpList_append_any _ rfl _ _ 30 rfl (w.heap.size + 1) 5 i0 _ 1 1 Try.underlying30 hi0 hz0 hz1 hz2 rfl (by omega) _ _ _ rfl (own_below ho ((Below.refl _ _).alloc (Nat.le_refl _) _)) _ _ _ _ _ rfl (Reads.new L4 _ rfl _ H4.out 4 HL4.out) (bv_one _) (by simp only [maxLen]; omega) (by omega) (by simp; omega) ?_; intro v2 w2 ho2 hg2 _; rw [← List.map_append, List.nil_append] at ho2; replace hX := bx_grown (hX.next ((Below.refl _ _).alloc (Nat.le_refl _) _)) (own_below ho ((Below.refl _ _).alloc (Nat.le_refl _) _)) hg2; clear hsz; have hsz := hX.1.lt; replace ho := ho2; clear tok1 hg2))
  have c25 := (hX.1.cell 25).trans p.c25
  go_upto_region 25 with (first | (go_at_call 72; go_must (refine (rn_i4 _ (by omega) (by omega) _).mono ?_; rintro e w1 ⟨g, rfl, hs, hb⟩; replace ho := own_below ho hb; replace hX := hX.next hb; clear hsz; have hsz := hX.1.lt; clear hb)) | (at_builtin; go_must (refine wpList_append_any _ rfl _ _ 30 rfl (w.heap.size + 1) 5 i0 _ 1 1 Try.underlying30 hi0 hz0 hz1 hz2 rfl (by omega) _ _ _ rfl ho _ _ _ _ _ rfl hs (bv_one _) (by simp only [maxLen]; omega) (by omega) (by omega) ?_; intro v2 w2 ho2 hg2 _; rw [← List.map_append] at ho2; replace hX := bx_grown hX ho hg2; clear hsz; have hsz := hX.1.lt; replace ho := ho2; clear hs hg2)))
  clear c25
  have c25 := (hX.1.cell 25).trans p.c25
  have tok2 : True := trivial
  go_wp2_with (at_builtin; have _t := tok2; go_must (refine Lib.wpList_append_own_string _ rfl _ _ 30 9 rfl (w.heap.size + 1) 5 i0 Try.underlying30 Try.underlying9 hi0 hz0 hz1 hz2 _ _ _ rfl ho p.text rfl (by simp only [maxLen]; omega) (by omega) (by omega) ?_; intro v2 w2 ho2 hg2 _; replace hX := bx_grown hX ho hg2; replace ho := ho2; clear tok2 hg2))
  go_ret
  have hy : ∀ xs : List UInt8, xs.map bv ++ Lib.strCells p.text = (xs ++ p.text.data.toList).map bv := fun xs => by simp [Lib.strCells, bv]
  rw [hy] at ho
  exact out_own hX ho (by simp [wrBody, HK.out, HE4.out]; rfl)
set_option maxRecDepth 100000 in
set_option maxHeartbeats 2000000 in
theorem behind_4true (p : Pdu) (w : World) (hke : p.kind = 4) (ha : p.add = true) (hl0 : 0 ≤ p.v.p.len) (hl1 : p.v.p.len ≤ 128) (hm0 : 0 ≤ p.v.mx) (hm1 : p.v.mx ≤ 128) : Calls Try.prog 71 #[p.val] w (BytesOut (wrBody p) w) := by
  simp only [Pdu.val]
  have hX := Bx.new w p
  obtain ⟨i0, hi0, hz0, hz1, hz2⟩ := info_parts info5b
  go_enter Try.func71, Try.ntmps71
  go_upto_region 2 with fail
  refine wp_gen (Bx w p) hX ?_
  clear hX
  intro W hX
  have hsz := hX.1.lt
  have ho : W.ownsRow (w.heap.size + 1) 5 1 (.slice none 0 0) 0 (([] : List UInt8).map bv) := World.ownsRow_nil _ _ _ _
  have c0 := (hX.1.cell 0).trans p.c0
  rw [hke] at c0
  have HK := Lib.hid hke
  clear hke
  have c2 := (hX.1.cell 2).trans p.c2
  have hsl : p.serial.toNat < 4294967296 := p.serial.toNat_lt
  have c3 := (hX.1.cell 3).trans p.c3
  rw [ha] at c3
  have HA := Lib.hid ha
  have hw1 : IntKind.u8.wrap p.v.p.len = p.v.p.len := by rw [IntKind.wrap_u8]; omega
  have hw2 : IntKind.u8.wrap p.v.mx = p.v.mx := by rw [IntKind.wrap_u8]; omega
  have c22 := (hX.1.cell 22).trans p.c22
  have c23 := (hX.1.cell 23).trans p.c23
  obtain ⟨L4, hL4⟩ : ∃ L, L = [UInt8.ofNat 1, UInt8.ofNat p.v.p.len.toNat, UInt8.ofNat p.v.mx.toNat, (0 : UInt8)] := ⟨_, rfl⟩
  have H4 := Lib.hid (show [Value.int .u8 1, Value.int .u8 p.v.p.len, Value.int .u8 p.v.mx, Value.int .u8 0] = L4.map bv by rw [hL4]; simp [bv]; omega)
  have HL4 := Lib.hid (show 4 = L4.length by rw [hL4]; rfl)
  have HE4 := Lib.hid hL4
  have tok1 : True := trivial
  have hasl : p.v.asn.toNat < 4294967296 := p.v.asn.toNat_lt
  clear hL4 ha
  go_upto_region 15 with (at_builtin; have _t := tok1; go_must (refine wpList_append_any _ rfl _ _ 30 rfl (w.heap.size + 1) 5 i0 _ 1 1 Try.underlying30 hi0 hz0 hz1 hz2 rfl (by omega) _ _ _ rfl (own_below ho ((Below.refl _ _).alloc (Nat.le_refl _) _)) _ _ _ _ _ rfl (Reads.new L4 _ rfl _ H4.out 4 HL4.out) (bv_one _) (by simp only [maxLen]; omega) (by omega) (by simp; omega) ?_; intro v2 w2 ho2 hg2 _; rw [← List.map_append, List.nil_append] at ho2; replace hX := bx_grown (hX.next ((Below.refl _ _).alloc (Nat.le_refl _) _)) (own_below ho ((Below.refl _ _).alloc (Nat.le_refl _) _)) hg2; clear hsz; have hsz := hX.1.lt; replace ho := ho2; clear tok1 hg2))
  clear c0 c2 c3 c22 c23 hw1 hw2
  have tok2 : True := trivial
  go_upto_region 16 with (at_builtin; have _t := tok2; go_must (refine wpList_append_any _ rfl _ _ 30 rfl (w.heap.size + 1) 5 i0 _ 1 1 Try.underlying30 hi0 hz0 hz1 hz2 rfl (by omega) _ _ _ rfl ho (w.heap.size + 1) (some ⟨w.heap.size, 6, none⟩) 4 16 _ rfl (Pdu.reads_addr hX.1 4 (by omega)) (bv_one _) (by simp only [maxLen]; omega) (by omega) (by omega) ?_; intro v2 w2 ho2 hg2 _; rw [← List.map_append] at ho2; replace hX := bx_grown hX ho hg2; clear hsz; have hsz := hX.1.lt; replace ho := ho2; clear hg2 tok2))
  have c4 := (hX.1.cell 4).trans p.c4
  go_wp2_with (first | (go_at_call 72; go_must (refine (rn_i4 _ (by omega) (by omega) _).mono ?_; rintro e w1 ⟨g, rfl, hs, hb⟩; replace ho := own_below ho hb; replace hX := hX.next hb; clear hsz; have hsz := hX.1.lt; clear hb)) | (at_builtin; go_must (refine wpList_append_any _ rfl _ _ 30 rfl (w.heap.size + 1) 5 i0 _ 1 1 Try.underlying30 hi0 hz0 hz1 hz2 rfl (by omega) _ _ _ rfl ho _ _ _ _ _ rfl hs (bv_one _) (by simp only [maxLen]; omega) (by omega) (by omega) ?_; intro v2 w2 ho2 hg2 _; rw [← List.map_append] at ho2; replace hX := bx_grown hX ho hg2; clear hsz; have hsz := hX.1.lt; replace ho := ho2; clear hs hg2)))
  go_ret
  exact out_own hX ho (by have := p.v.p.a.h; simp [wrBody, HK.out, HE4.out, HA.out, beB1, widthOf])
set_option maxRecDepth 100000 in
set_option maxHeartbeats 2000000 in
theorem behind_4false (p : Pdu) (w : World) (hke : p.kind = 4) (ha : p.add = false) (hl0 : 0 ≤ p.v.p.len) (hl1 : p.v.p.len ≤ 128) (hm0 : 0 ≤ p.v.mx) (hm1 : p.v.mx ≤ 128) : Calls Try.prog 71 #[p.val] w (BytesOut (wrBody p) w) := by
  simp only [Pdu.val]
  have hX := Bx.new w p
  obtain ⟨i0, hi0, hz0, hz1, hz2⟩ := info_parts info5b
  go_enter Try.func71, Try.ntmps71
  go_upto_region 2 with fail
  refine wp_gen (Bx w p) hX ?_
  clear hX
  intro W hX
  have hsz := hX.1.lt
  have ho : W.ownsRow (w.heap.size + 1) 5 1 (.slice none 0 0) 0 (([] : List UInt8).map bv) := World.ownsRow_nil _ _ _ _
  have c0 := (hX.1.cell 0).trans p.c0
  rw [hke] at c0
  have HK := Lib.hid hke
  clear hke
  have c2 := (hX.1.cell 2).trans p.c2
  have hsl : p.serial.toNat < 4294967296 := p.serial.toNat_lt
  have c3 := (hX.1.cell 3).trans p.c3
  rw [ha] at c3
  have HA := Lib.hid ha
  have hw1 : IntKind.u8.wrap p.v.p.len = p.v.p.len := by rw [IntKind.wrap_u8]; omega
  have hw2 : IntKind.u8.wrap p.v.mx = p.v.mx := by rw [IntKind.wrap_u8]; omega
  have c22 := (hX.1.cell 22).trans p.c22
  have c23 := (hX.1.cell 23).trans p.c23
  obtain ⟨L4, hL4⟩ : ∃ L, L = [UInt8.ofNat 0, UInt8.ofNat p.v.p.len.toNat, UInt8.ofNat p.v.mx.toNat, (0 : UInt8)] := ⟨_, rfl⟩
  have H4 := Lib.hid (show [Value.int .u8 0, Value.int .u8 p.v.p.len, Value.int .u8 p.v.mx, Value.int .u8 0] = L4.map bv by rw [hL4]; simp [bv]; omega)
  have HL4 := Lib.hid (show 4 = L4.length by rw [hL4]; rfl)
  have HE4 := Lib.hid hL4
  have tok1 : True := trivial
  have hasl : p.v.asn.toNat < 4294967296 := p.v.asn.toNat_lt
  clear hL4 ha
  go_upto_region 15 with (at_builtin; have _t := tok1; go_must (refine wpList_append_any _ rfl _ _ 30 rfl (w.heap.size + 1) 5 i0 _ 1 1 Try.underlying30 hi0 hz0 hz1 hz2 rfl (by omega) _ _ _ rfl (own_below ho ((Below.refl _ _).alloc (Nat.le_refl _) _)) _ _ _ _ _ rfl (Reads.new L4 _ rfl _ H4.out 4 HL4.out) (bv_one _) (by simp only [maxLen]; omega) (by omega) (by simp; omega) ?_; intro v2 w2 ho2 hg2 _; rw [← List.map_append, List.nil_append] at ho2; replace hX := bx_grown (hX.next ((Below.refl _ _).alloc (Nat.le_refl _) _)) (own_below ho ((Below.refl _ _).alloc (Nat.le_refl _) _)) hg2; clear hsz; have hsz := hX.1.lt; replace ho := ho2; clear tok1 hg2))
  clear c0 c2 c3 c22 c23 hw1 hw2
  have tok2 : True := trivial
  go_upto_region 16 with (at_builtin; have _t := tok2; go_must (refine wpList_append_any _ rfl _ _ 30 rfl (w.heap.size + 1) 5 i0 _ 1 1 Try.underlying30 hi0 hz0 hz1 hz2 rfl (by omega) _ _ _ rfl ho (w.heap.size + 1) (some ⟨w.heap.size, 6, none⟩) 4 16 _ rfl (Pdu.reads_addr hX.1 4 (by omega)) (bv_one _) (by simp only [maxLen]; omega) (by omega) (by omega) ?_; intro v2 w2 ho2 hg2 _; rw [← List.map_append] at ho2; replace hX := bx_grown hX ho hg2; clear hsz; have hsz := hX.1.lt; replace ho := ho2; clear hg2 tok2))
  have c4 := (hX.1.cell 4).trans p.c4
  go_wp2_with (first | (go_at_call 72; go_must (refine (rn_i4 _ (by omega) (by omega) _).mono ?_; rintro e w1 ⟨g, rfl, hs, hb⟩; replace ho := own_below ho hb; replace hX := hX.next hb; clear hsz; have hsz := hX.1.lt; clear hb)) | (at_builtin; go_must (refine wpList_append_any _ rfl _ _ 30 rfl (w.heap.size + 1) 5 i0 _ 1 1 Try.underlying30 hi0 hz0 hz1 hz2 rfl (by omega) _ _ _ rfl ho _ _ _ _ _ rfl hs (bv_one _) (by simp only [maxLen]; omega) (by omega) (by omega) ?_; intro v2 w2 ho2 hg2 _; rw [← List.map_append] at ho2; replace hX := bx_grown hX ho hg2; clear hsz; have hsz := hX.1.lt; replace ho := ho2; clear hs hg2)))
  go_ret
  exact out_own hX ho (by have := p.v.p.a.h; simp [wrBody, HK.out, HE4.out, HA.out, beB1, widthOf])
set_option maxRecDepth 100000 in
set_option maxHeartbeats 2000000 in
theorem behind_6true (p : Pdu) (w : World) (hke : p.kind = 6) (ha : p.add = true) (hl0 : 0 ≤ p.v.p.len) (hl1 : p.v.p.len ≤ 128) (hm0 : 0 ≤ p.v.mx) (hm1 : p.v.mx ≤ 128) : Calls Try.prog 71 #[p.val] w (BytesOut (wrBody p) w) := by
  simp only [Pdu.val]
  have hX := Bx.new w p
  obtain ⟨i0, hi0, hz0, hz1, hz2⟩ := info_parts info5b
  go_enter Try.func71, Try.ntmps71
  go_upto_region 2 with fail
  refine wp_gen (Bx w p) hX ?_
  clear hX
  intro W hX
  have hsz := hX.1.lt
  have ho : W.ownsRow (w.heap.size + 1) 5 1 (.slice none 0 0) 0 (([] : List UInt8).map bv) := World.ownsRow_nil _ _ _ _
  have c0 := (hX.1.cell 0).trans p.c0
  rw [hke] at c0
  have HK := Lib.hid hke
  clear hke
  have c2 := (hX.1.cell 2).trans p.c2
  have hsl : p.serial.toNat < 4294967296 := p.serial.toNat_lt
  have c3 := (hX.1.cell 3).trans p.c3
  rw [ha] at c3
  have HA := Lib.hid ha
  have hw1 : IntKind.u8.wrap p.v.p.len = p.v.p.len := by rw [IntKind.wrap_u8]; omega
  have hw2 : IntKind.u8.wrap p.v.mx = p.v.mx := by rw [IntKind.wrap_u8]; omega
  have c22 := (hX.1.cell 22).trans p.c22
  have c23 := (hX.1.cell 23).trans p.c23
  obtain ⟨L4, hL4⟩ : ∃ L, L = [UInt8.ofNat 1, UInt8.ofNat p.v.p.len.toNat, UInt8.ofNat p.v.mx.toNat, (0 : UInt8)] := ⟨_, rfl⟩
  have H4 := Lib.hid (show [Value.int .u8 1, Value.int .u8 p.v.p.len, Value.int .u8 p.v.mx, Value.int .u8 0] = L4.map bv by rw [hL4]; simp [bv]; omega)
  have HL4 := Lib.hid (show 4 = L4.length by rw [hL4]; rfl)
  have HE4 := Lib.hid hL4
  have tok1 : True := trivial
  have hasl : p.v.asn.toNat < 4294967296 := p.v.asn.toNat_lt
  clear hL4 ha
  go_upto_region 15 with (at_builtin; have _t := tok1; go_must (refine wpList_append_any _ rfl _ _ 30 rfl (w.heap.size + 1) 5 i0 _ 1 1 Try.underlying30 hi0 hz0 hz1 hz2 rfl (by omega) _ _ _ rfl (own_below ho ((Below.refl _ _).alloc (Nat.le_refl _) _)) _ _ _ _ _ rfl (Reads.new L4 _ rfl _ H4.out 4 HL4.out) (bv_one _) (by simp only [maxLen]; omega) (by omega) (by simp; omega) ?_; intro v2 w2 ho2 hg2 _; rw [← List.map_append, List.nil_append] at ho2; replace hX := bx_grown (hX.next ((Below.refl _ _).alloc (Nat.le_refl _) _)) (own_below ho ((Below.refl _ _).alloc (Nat.le_refl _) _)) hg2; clear hsz; have hsz := hX.1.lt; replace ho := ho2; clear tok1 hg2))
  clear c0 c2 c3 c22 c23 hw1 hw2
  have tok2 : True := trivial
  go_upto_region 16 with (at_builtin; have _t := tok2; go_must (refine wpList_append_any _ rfl _ _ 30 rfl (w.heap.size + 1) 5 i0 _ 1 1 Try.underlying30 hi0 hz0 hz1 hz2 rfl (by omega) _ _ _ rfl ho (w.heap.size + 1) (some ⟨w.heap.size, 6, none⟩) 16 16 _ rfl (Pdu.reads_addr hX.1 16 (by omega)) (bv_one _) (by simp only [maxLen]; omega) (by omega) (by omega) ?_; intro v2 w2 ho2 hg2 _; rw [← List.map_append] at ho2; replace hX := bx_grown hX ho hg2; clear hsz; have hsz := hX.1.lt; replace ho := ho2; clear hg2 tok2))
  have c4 := (hX.1.cell 4).trans p.c4
  go_wp2_with (first | (go_at_call 72; go_must (refine (rn_i4 _ (by omega) (by omega) _).mono ?_; rintro e w1 ⟨g, rfl, hs, hb⟩; replace ho := own_below ho hb; replace hX := hX.next hb; clear hsz; have hsz := hX.1.lt; clear hb)) | (at_builtin; go_must (refine wpList_append_any _ rfl _ _ 30 rfl (w.heap.size + 1) 5 i0 _ 1 1 Try.underlying30 hi0 hz0 hz1 hz2 rfl (by omega) _ _ _ rfl ho _ _ _ _ _ rfl hs (bv_one _) (by simp only [maxLen]; omega) (by omega) (by omega) ?_; intro v2 w2 ho2 hg2 _; rw [← List.map_append] at ho2; replace hX := bx_grown hX ho hg2; clear hsz; have hsz := hX.1.lt; replace ho := ho2; clear hs hg2)))
  go_ret
  exact out_own hX ho (by have := p.v.p.a.h; simp [wrBody, HK.out, HE4.out, HA.out, beB1, widthOf])
set_option maxRecDepth 100000 in
set_option maxHeartbeats 2000000 in
theorem behind_6false (p : Pdu) (w : World) (hke : p.kind = 6) (ha : p.add = false) (hl0 : 0 ≤ p.v.p.len) (hl1 : p.v.p.len ≤ 128) (hm0 : 0 ≤ p.v.mx) (hm1 : p.v.mx ≤ 128) : Calls Try.prog 71 #[p.val] w (BytesOut (wrBody p) w) := by
  simp only [Pdu.val]
  have hX := Bx.new w p
  obtain ⟨i0, hi0, hz0, hz1, hz2⟩ := info_parts info5b
  go_enter Try.func71, Try.ntmps71
  go_upto_region 2 with fail
  refine wp_gen (Bx w p) hX ?_
  clear hX
  intro W hX
  have hsz := hX.1.lt
  have ho : W.ownsRow (w.heap.size + 1) 5 1 (.slice none 0 0) 0 (([] : List UInt8).map bv) := World.ownsRow_nil _ _ _ _
  have c0 := (hX.1.cell 0).trans p.c0
  rw [hke] at c0
  have HK := Lib.hid hke
  clear hke
  have c2 := (hX.1.cell 2).trans p.c2
  have hsl : p.serial.toNat < 4294967296 := p.serial.toNat_lt
  have c3 := (hX.1.cell 3).trans p.c3
  rw [ha] at c3
  have HA := Lib.hid ha
  have hw1 : IntKind.u8.wrap p.v.p.len = p.v.p.len := by rw [IntKind.wrap_u8]; omega
  have hw2 : IntKind.u8.wrap p.v.mx = p.v.mx := by rw [IntKind.wrap_u8]; omega
  have c22 := (hX.1.cell 22).trans p.c22
  have c23 := (hX.1.cell 23).trans p.c23
  obtain ⟨L4, hL4⟩ : ∃ L, L = [UInt8.ofNat 0, UInt8.ofNat p.v.p.len.toNat, UInt8.ofNat p.v.mx.toNat, (0 : UInt8)] := ⟨_, rfl⟩
  have H4 := Lib.hid (show [Value.int .u8 0, Value.int .u8 p.v.p.len, Value.int .u8 p.v.mx, Value.int .u8 0] = L4.map bv by rw [hL4]; simp [bv]; omega)
  have HL4 := Lib.hid (show 4 = L4.length by rw [hL4]; rfl)
  have HE4 := Lib.hid hL4
  have tok1 : True := trivial
  have hasl : p.v.asn.toNat < 4294967296 := p.v.asn.toNat_lt
  clear hL4 ha
  go_upto_region 15 with (at_builtin; have _t := tok1; go_must (refine wpList_append_any _ rfl _ _ 30 rfl (w.heap.size + 1) 5 i0 _ 1 1 Try.underlying30 hi0 hz0 hz1 hz2 rfl (by omega) _ _ _ rfl (own_below ho ((Below.refl _ _).alloc (Nat.le_refl _) _)) _ _ _ _ _ rfl (Reads.new L4 _ rfl _ H4.out 4 HL4.out) (bv_one _) (by simp only [maxLen]; omega) (by omega) (by simp; omega) ?_; intro v2 w2 ho2 hg2 _; rw [← List.map_append, List.nil_append] at ho2; replace hX := bx_grown (hX.next ((Below.refl _ _).alloc (Nat.le_refl _) _)) (own_below ho ((Below.refl _ _).alloc (Nat.le_refl _) _)) hg2; clear hsz; have hsz := hX.1.lt; replace ho := ho2; clear tok1 hg2))
  clear c0 c2 c3 c22 c23 hw1 hw2
  have tok2 : True := trivial
  go_upto_region 16 with (at_builtin; have _t := tok2; go_must (refine wpList_append_any _ rfl _ _ 30 rfl (w.heap.size + 1) 5 i0 _ 1 1 Try.underlying30 hi0 hz0 hz1 hz2 rfl (by omega) _ _ _ rfl ho (w.heap.size + 1) (some ⟨w.heap.size, 6, none⟩) 16 16 _ rfl (Pdu.reads_addr hX.1 16 (by omega)) (bv_one _) (by simp only [maxLen]; omega) (by omega) (by omega) ?_; intro v2 w2 ho2 hg2 _; rw [← List.map_append] at ho2; replace hX := bx_grown hX ho hg2; clear hsz; have hsz := hX.1.lt; replace ho := ho2; clear hg2 tok2))
  have c4 := (hX.1.cell 4).trans p.c4
  go_wp2_with (first | (go_at_call 72; go_must (refine (rn_i4 _ (by omega) (by omega) _).mono ?_; rintro e w1 ⟨g, rfl, hs, hb⟩; replace ho := own_below ho hb; replace hX := hX.next hb; clear hsz; have hsz := hX.1.lt; clear hb)) | (at_builtin; go_must (refine wpList_append_any _ rfl _ _ 30 rfl (w.heap.size + 1) 5 i0 _ 1 1 Try.underlying30 hi0 hz0 hz1 hz2 rfl (by omega) _ _ _ rfl ho _ _ _ _ _ rfl hs (bv_one _) (by simp only [maxLen]; omega) (by omega) (by omega) ?_; intro v2 w2 ho2 hg2 _; rw [← List.map_append] at ho2; replace hX := bx_grown hX ho hg2; clear hsz; have hsz := hX.1.lt; replace ho := ho2; clear hs hg2)))
  go_ret
  exact out_own hX ho (by have := p.v.p.a.h; simp [wrBody, HK.out, HE4.out, HA.out, beB1, widthOf])
end Go.Proofs.Ytmoldmnhijcckaa
