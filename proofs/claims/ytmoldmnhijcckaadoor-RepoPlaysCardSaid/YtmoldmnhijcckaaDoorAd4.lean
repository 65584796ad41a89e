/- The contract of addr.address for four bytes, where each byte's numeral is known. -/
import Derived.Test.YtmoldmnhijcckaaDoorCmp
import Derived.Test.YtmoldmnhijcckaaDoorReg3
import Derived.Test.YtmoldmnhijcckaaDoorShelf
set_option linter.unusedVariables false
set_option linter.unusedSectionVars false
set_option linter.unusedSimpArgs false
namespace Go.Proofs.YtmoldmnhijcckaaDoor
open Go.RowKit
def dec (n : Nat) : ByteArray := ⟨(Lib.decDigits n).toArray⟩
/-- That a number's numeral is known from a world on. -/
def ItoaAt (w : World) (n : Nat) : Prop := ∀ W, Below w.heap.size w W → Calls Tryd.prog 59 #[.int .i64 n] W fun e w' => e = .returned (.string (dec n)) ∧ Below W.heap.size W w'
theorem ItoaAt.next {w w' : World} {n : Nat} (h : ItoaAt w n) (hb : Below w.heap.size w w') : ItoaAt w' n := fun W hW => h W (below_then hb (Nat.le_refl _) hW)
theorem itoa_small (w : World) {n : Nat} (h : n < 100) : ItoaAt w n := fun W _ => (Tryd.strconv_Itoa_small n h W).mono fun e w' ⟨he, hw⟩ => ⟨he, by subst hw; exact Below.refl _ _⟩
theorem dec_len {u : Nat} (h : u < 1000) : (Lib.decDigits u).length ≤ 3 := by
  rw [Lib.decDigits]
  split
  · simp
  · rw [Lib.decDigits]
    split
    · simp
    · rw [Lib.decDigits, dif_pos (by omega)]
      simp
def quad (p : Pfx) (k : Nat) : List ByteArray := (p.a.l.take k).map fun b => dec b.toNat
def addr4 (p : Pfx) : ByteArray := ⟨(Lib.join ((quad p 4).map (·.data.toList)) [46]).toArray⟩
theorem quad_zero (p : Pfx) : quad p 0 = [] := by simp [quad]
theorem quad_succ (p : Pfx) {k : Nat} (h : k < 16) : quad p (k + 1) = quad p k ++ [dec (p.a.at k).toNat] := by
  have hl := p.a.h
  simp only [quad]
  rw [List.take_succ_eq_append_getElem (by omega), List.map_append]
  simp [A16.at, List.getD_eq_getElem?_getD, List.getElem?_eq_getElem (show k < p.a.l.length by omega)]
theorem quad_len (p : Pfx) {k : Nat} (h : k ≤ 16) : (quad p k).length = k := by simp [quad, p.a.h]; omega
theorem addr4_len (p : Pfx) : (Lib.join ((quad p 4).map (·.data.toList)) [46]).length ≤ 15 := by
  have e : quad p 4 = [dec (p.a.at 0).toNat, dec (p.a.at 1).toNat, dec (p.a.at 2).toNat, dec (p.a.at 3).toNat] := by
    rw [quad_succ p (by omega), quad_succ p (by omega), quad_succ p (by omega), quad_succ p (by omega), quad_zero]; rfl
  rw [e]
  have h0 := dec_len (u := (p.a.at 0).toNat) (by have := (p.a.at 0).toNat_lt; omega)
  have h1 := dec_len (u := (p.a.at 1).toNat) (by have := (p.a.at 1).toNat_lt; omega)
  have h2 := dec_len (u := (p.a.at 2).toNat) (by have := (p.a.at 2).toNat_lt; omega)
  have h3 := dec_len (u := (p.a.at 3).toNat) (by have := (p.a.at 3).toNat_lt; omega)
  simp [Lib.join, List.intercalate, dec, List.intersperse]
  omega
theorem info_str : (Tryd.prog.info? 9).map (fun i => (i.zero, i.size, i.bytes)) = some (some (.string ⟨#[]⟩), 1, 16) := by kernel_rfl
theorem reads_new1 {w : World} {t : TypeId} (v : Value) (g : Nat) (hg : w.heap.size = g) : Reads (w.alloc (.cells #[v] t)) (g + 1) 1 (some ⟨g, 0, none⟩) 1 [v] := by
  refine ⟨rfl, fun _ => ⟨_, rfl, by simp, fun j u hu => ?_⟩⟩
  rw [add_plain', Nat.zero_add, (blk_new' w t [v] g hg).cell]
  exact hu
/-- What holds at a round's head. -/
structure A4 (w : World) (p : Pfx) (k : Nat) (v : Value) (W : World) : Prop where
  b : Blk W w.heap.size 50 p.cells
  own : W.ownsRow w.heap.size 9 1 v k ((quad p k).map Value.string)
  lo : Below w.heap.size w W
theorem A4.next {w : World} {p : Pfx} {k : Nat} {v : Value} {W W' : World} (h : A4 w p k v W) (hb : Below W.heap.size W W') : A4 w p k v W' :=
  ⟨h.b.below hb h.b.lt, own_below h.own hb, below_then h.lo (Nat.le_refl _) hb⟩
theorem join_own {W : World} {base : Nat} {v : Value} {n : Nat} (xs : List ByteArray) (hx : xs.length = n) (ho : W.ownsRow base 9 1 v n (xs.map Value.string)) (hn : 0 < n) (hN : n ≤ 140737488355328) (sep : ByteArray) (hlen : (Lib.join (xs.map (·.data.toList)) sep.data.toList).length ≤ 140737488355328) :
    Calls Tryd.prog 94 #[v, .string sep] W fun e w' => e = .returned (.string ⟨(Lib.join (xs.map (·.data.toList)) sep.data.toList).toArray⟩) ∧ Below W.heap.size W w' := by
  subst hx
  rcases ho.2 with ⟨_, h0⟩ | ⟨g, cap, cur, rfl, hb, hg, hnc, hcm, hcs, ht⟩
  · omega
  · refine Tryd.strings_Join g 0 cap xs sep W (fun j x hj => ?_) (Array.getElem?_eq_some_iff.1 hg).1 hN hnc hlen
    have hjl := (List.getElem?_eq_some_iff.1 hj).1
    rw [cell_of_row W g (0 + j) cur 9 (0, 0) hg, Nat.zero_add]
    have e := congrArg (·[j]?) ht
    simp only [List.getElem?_map, hj, Option.map_some] at e
    rw [List.getElem?_take_of_lt (by omega)] at e
    simpa using e
set_option maxRecDepth 100000 in
set_option maxHeartbeats 2000000 in
theorem address4 (p : Pfx) (h6 : p.v6 = false) (w : World) (hit : ∀ k, k < 4 → ItoaAt w (p.a.at k).toNat) : Calls Tryd.prog 58 #[p.val] w fun e w' => e = .returned (.string (addr4 p)) ∧ Below w.heap.size w w' := by
  simp only [Pfx.val]
  obtain ⟨i0, hi0, hz0, hz1, hz2⟩ := info_parts info_str
  have hst : A4 w p 0 (.slice none 0 0) (w.alloc (.cells p.cells.toArray 50)) := ⟨Blk.new _ _ _, by rw [quad_zero]; exact World.ownsRow_nil _ _ _ _, (Below.refl _ _).alloc (Nat.le_refl _) _⟩
  have c0 := (hst.b.cell 0).trans (Pfx.c0 _)
  rw [h6] at c0
  clear h6
  go_enter Tryd.func58, Tryd.ntmps58
  go_wp2_with fail
  go_loopw [5, 7, 34] (fun s5 s7 s34 wr => ∃ k : Nat, k ≤ 4 ∧ s34 = .int .i64 k ∧ A4 w p k s5 wr) (fun _ _ i _ => 4 - (intOf i).toNat)
  case atStart => exact ⟨0, by omega, rfl, hst⟩
  case round =>
    clear hst c0
    obtain ⟨k, hk, rfl, hA⟩ := hrel
    by_cases hlt : k < 4
    · have hk0 : (0 : Int) ≤ (k : Int) := by omega
      have hk1 : (k : Int) < 4 := by omega
      have c1 := (hA.b.cell (1 + k)).trans (Pfx.cells_at p (by omega))
      rw [bv] at c1
      have e1 : wrap64 ((p.a.at k).toNat : Int) = ((p.a.at k).toNat : Int) := by have := (p.a.at k).toNat_lt; unfold wrap64; omega
      have hsz := hA.lo.size
      go_wp2_with (first | (go_at_call 59; rw [e1]; go_must (refine (hit k hlt _ hA.lo).mono ?_; rintro e w3 ⟨rfl, hb3⟩; replace hA := hA.next hb3; replace hsz := hA.lo.size)) | (at_builtin; go_must (refine wpList_append_any _ rfl _ _ 35 rfl w.heap.size 9 i0 _ 1 16 Tryd.underlying35 hi0 hz0 hz1 hz2 rfl (by omega) _ k _ rfl (own_below hA.own ((Below.refl _ _).alloc (Nat.le_refl _) _)) (w3.heap.size + 1) (some ⟨w3.heap.size, 0, none⟩) 1 1 _ rfl (reads_new1 _ _ rfl) (by intro u hu; simp at hu; subst hu; rfl) (by simp only [maxLen]; omega) (by omega) (by simp; omega) ?_; intro v4 w4 ho4 hg4 _; have hbW := ((Below.refl w.heap.size w3).alloc hsz _).grown hg4 (by simp; omega) (fun k hk => (own_base_le hA.own k hk).1); have hne := own_blk_ne hA.own hA.b (by decide); have hB4 := (hA.b.alloc (.cells #[.string (dec (p.a.at k).toNat)] 9)).grown hg4 (fun h => hne h.symm); clear hg4)))
      go_roundw
      case rel => exact ⟨k + 1, by omega, by go_num, hB4, by rw [quad_succ p (by omega), List.map_append]; exact ho4, hA.lo.trans hbW⟩
      case measure => simp [intOf]; omega
    · have hk4 : k = 4 := by omega
      subst hk4
      clear hlt hk
      go_wp2_with (go_at_call 94; refine (join_own (quad p 4) (quad_len p (by omega)) hA.own (by omega) (by omega) ⟨#[46]⟩ (Nat.le_trans (addr4_len p) (by omega))).mono ?_; rintro e w3 ⟨rfl, hb3⟩)
      exact bodyPost_ret (v := .string (addr4 p)) (by simp [results, Tryd.results58, go_sem, addr4]) rfl ⟨rfl, (hA.next hb3).lo⟩
end Go.Proofs.YtmoldmnhijcckaaDoor
