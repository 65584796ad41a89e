/-
  DERIVED: THE SHELF's CONTRACTS AT THIS DUMP, IN PLAIN WORDS (tools/lay-plain.mjs out of 'YtmoldmnhijcckaaGreatSrt.lean', which tools/lay-shelf.mjs wrote): THE SAME DECLARATIONS UNDER THE SAME NAMES: 'import', 'namespace', 'open', 'def', 'theorem' AND NOTHING ELSE: no command of the shelf's: FOR A HAND-IN. Each laying: the table of numbers ('.._ren') and one theorem, a field a fact of the dump's own or the kernel's comparison; each contract: ONE APPLICATION.
-/
import Derived.Shelf.SlSortCmp.NoneTotal
import Derived.Ground.SlsfProg
import Derived.Test.YtmoldmnhijcckaaGreatProg
import Derived.Test.YtmoldmnhijcckaaGreatMa07
import Derived.Test.YtmoldmnhijcckaaGreatMa09
namespace Go.Proofs
open Go.Shelf
def Tryz.sortV_ren : Go.Shelf.Ren := ⟨fun | 6 => 96 | 15 => 119 | 14 => 118 | 28 => 136 | 29 => 137 | 20 => 128 | 21 => 129 | 22 => 130 | 23 => 131 | 24 => 132 | 25 => 133 | 26 => 134 | 27 => 135 | 46 => 146 | 47 => 147 | 48 => 148 | 49 => 149 | 50 => 150 | 57 => 156 | n => n, fun | 22 => 27 | 24 => 67 | 25 => 133 | 3 => 3 | 39 => 170 | 0 => 0 | 53 => 28 | 55 => 118 | 4 => 4 | 46 => 180 | 45 => 179 | 50 => 140 | 5 => 5 | 9 => 9 | 66 => 191 | 70 => 195 | 76 => 200 | 77 => 201 | n => n, fun | n => n⟩
theorem Tryz.sortV : Go.Proofs.SlLaysF0.n6 Tryz.prog Tryz.sortV_ren := {
  mixed := by kernel_rfl
  f6 := ⟨Tryz.f96.name, by decide, Tryz.func96.trans (congrArg some (by kernel_rfl))⟩
  f14 := ⟨Tryz.f118.name, by decide, Tryz.func118.trans (congrArg some (by kernel_rfl))⟩
  f15 := Tryz.func119.trans (congrArg some (by kernel_rfl))
  f20 := ⟨Tryz.f128.name, by decide, Tryz.func128.trans (congrArg some (by kernel_rfl))⟩
  f21 := ⟨Tryz.f129.name, by decide, Tryz.func129.trans (congrArg some (by kernel_rfl))⟩
  f22 := ⟨Tryz.f130.name, by decide, Tryz.func130.trans (congrArg some (by kernel_rfl))⟩
  f23 := ⟨Tryz.f131.name, by decide, Tryz.func131.trans (congrArg some (by kernel_rfl))⟩
  f24 := ⟨Tryz.f132.name, by decide, Tryz.func132.trans (congrArg some (by kernel_rfl))⟩
  f25 := ⟨Tryz.f133.name, by decide, Tryz.func133.trans (congrArg some (by kernel_rfl))⟩
  f26 := ⟨Tryz.f134.name, by decide, Tryz.func134.trans (congrArg some (by kernel_rfl))⟩
  f27 := ⟨Tryz.f135.name, by decide, Tryz.func135.trans (congrArg some (by kernel_rfl))⟩
  f28 := Tryz.func136.trans (congrArg some (by kernel_rfl))
  f29 := Tryz.func137.trans (congrArg some (by kernel_rfl))
  f46 := ⟨Tryz.f146.name, by decide, Tryz.func146.trans (congrArg some (by kernel_rfl))⟩
  f47 := Tryz.func147.trans (congrArg some (by kernel_rfl))
  f48 := Tryz.func148.trans (congrArg some (by kernel_rfl))
  f49 := ⟨Tryz.f149.name, by decide, Tryz.func149.trans (congrArg some (by kernel_rfl))⟩
  f50 := ⟨Tryz.f150.name, by decide, Tryz.func150.trans (congrArg some (by kernel_rfl))⟩
  f57 := ⟨Tryz.f156.name, by decide, Tryz.func156.trans (congrArg some (by kernel_rfl))⟩
  t0 := Tryz.underlying0
  a0 := Tryz.isAgg0
  z0 := Tryz.sizeOf0
  v0 := Tryz.zeroValue0
  t3 := Tryz.underlying3
  a3 := Tryz.isAgg3
  z3 := Tryz.sizeOf3
  v3 := Tryz.zeroValue3
  t4 := Tryz.underlying4
  a4 := Tryz.isAgg4
  z4 := Tryz.sizeOf4
  v4 := Tryz.zeroValue4
  t5 := Tryz.underlying5
  a5 := Tryz.isAgg5
  z5 := Tryz.sizeOf5
  v5 := Tryz.zeroValue5
  t9 := Tryz.underlying9
  a9 := Tryz.isAgg9
  z9 := Tryz.sizeOf9
  v9 := Tryz.zeroValue9
  t22 := Tryz.underlying27
  a22 := Tryz.isAgg27
  z22 := Tryz.sizeOf27
  v22 := Tryz.zeroValue27
  t25 := Tryz.underlying133
  a25 := Tryz.isAgg133
  z25 := Tryz.sizeOf133
  v25 := Tryz.zeroValue133
  t39 := Tryz.underlying170
  a39 := Tryz.isAgg170
  z39 := Tryz.sizeOf170
  v39 := Tryz.zeroValue170
  t45 := Tryz.underlying179
  a45 := Tryz.isAgg179
  z45 := Tryz.sizeOf179
  v45 := Tryz.zeroValue179
  t46 := Tryz.underlying180
  a46 := Tryz.isAgg180
  z46 := Tryz.sizeOf180
  v46 := Tryz.zeroValue180
  t50 := Tryz.underlying140
  a50 := Tryz.isAgg140
  z50 := Tryz.sizeOf140
  v50 := Tryz.zeroValue140
  t53 := Tryz.underlying28
  a53 := Tryz.isAgg28
  z53 := Tryz.sizeOf28
  v53 := Tryz.zeroValue28
  t55 := Tryz.underlying118
  a55 := Tryz.isAgg118
  z55 := Tryz.sizeOf118
  v55 := Tryz.zeroValue118
  t66 := Tryz.underlying191
  a66 := Tryz.isAgg191
  z66 := Tryz.sizeOf191
  v66 := Tryz.zeroValue191
  t70 := Tryz.underlying195
  a70 := Tryz.isAgg195
  z70 := Tryz.sizeOf195
  v70 := Tryz.zeroValue195
  t76 := Tryz.underlying200
  a76 := Tryz.isAgg200
  z76 := Tryz.sizeOf200
  v76 := Tryz.zeroValue200
  t77 := Tryz.underlying201
  a77 := Tryz.isAgg201
  z77 := Tryz.sizeOf201
  v77 := Tryz.zeroValue201 }
end Go.Proofs
/- slices.SortFunc over a row of the call's own. -/
set_option linter.unusedVariables false
set_option linter.unusedSectionVars false
set_option linter.unusedSimpArgs false
namespace Go.Proofs.YtmoldmnhijcckaaGreat
open Go.RowKit
open Go.Sort
theorem ltV_eq (x y : Vrp) : ltOf cmpV x y = decide (cmpV x y < 0) := rfl
theorem swoV : SWO (ltOf cmpV) where
  irrefl x := by rw [ltV_eq]; have := compV.anti x x; simp; omega
  trans x y z h1 h2 := by
    rw [ltV_eq] at *
    simp only [decide_eq_true_eq] at *
    have a1 := compV.bd x y
    have a2 := compV.bd y z
    have := compV.trans x y z (by omega)
    omega
  ntrans x y z h1 h2 := by
    rw [ltV_eq] at *
    simp only [decide_eq_false_iff_not] at *
    have a1 := compV.bd x y
    have a2 := compV.bd y z
    by_cases e1 : cmpV x y = 0
    · have := compV.zl z e1; omega
    · by_cases e2 : cmpV y z = 0
      · have := compV.zr x e2; omega
      · have := compV.trans x y z (by omega); omega
theorem totV (x y : Vrp) (h1 : ltOf cmpV x y = false) (h2 : ltOf cmpV y x = false) : x = y := by
  rw [ltV_eq] at h1 h2
  simp only [decide_eq_false_iff_not] at h1 h2
  have := compV.anti x y
  exact cmpV_zero (by omega)
def leV (x y : Vrp) : Bool := !(ltOf cmpV y x)
theorem flatK_V (xs : List Vrp) : (flatK Vrp.cells 20 xs.toArray).toList = xs.flatMap Vrp.cells := by
  apply List.ext_getElem?
  intro t
  by_cases ht : t < xs.length * 20
  · rw [flatV_get xs t ht]
    have h1 := get_flatK Vrp.cells 20 xs.toArray t (by simpa using ht)
    have hs : t < (flatK Vrp.cells 20 xs.toArray).size := by simpa using ht
    rw [getElem!_pos _ t hs] at h1
    rw [Array.getElem?_toList, Array.getElem?_eq_getElem hs, h1]
    have hk : t / 20 < xs.length := by omega
    have e : xs.toArray[t / 20]! = xs[t / 20] := by rw [getElem!_pos _ _ (by simpa using hk)]; simp
    rw [e, getElem!_pos _ _ (by rw [Vrp.cells_length]; omega), List.getElem?_eq_getElem]
  · rw [List.getElem?_eq_none (by simp; omega), List.getElem?_eq_none (by rw [flatV_len]; omega)]
theorem holdsV {W : World} {g : Nat} {t : TypeId} {xs : List Vrp} {sp : List Value} (h : Blk W g t (xs.flatMap Vrp.cells ++ sp)) : HoldsK Vrp.cells 20 W g 0 xs.toArray := by
  intro j hj
  refine ⟨?_, h.frozen _⟩
  have hj' : j < (xs.flatMap Vrp.cells).length := by rw [flatV_len]; simpa using hj
  rw [h.cell, Nat.zero_add, List.getElem?_append_left hj', ← flatK_V, Array.getElem?_toList, Array.getElem?_eq_getElem hj, getElem!_pos _ j hj]
  rfl
theorem sortedV_blk {w : World} {g n : Nat} {t : TypeId} {xs ts : List Vrp} {sp : List Value} {os : Array Obj} (h : Blk w g t (xs.flatMap Vrp.cells ++ sp)) (hl : ts.length = xs.length) : Blk (sortWorldK Vrp.cells 20 w g 0 n ts.toArray os) g t (ts.flatMap Vrp.cells ++ sp) := by
  have hg : g < w.heap.size := h.lt
  unfold sortWorldK putRowK Blk
  rw [heap_grow_old _ _ (by simpa using hg)]
  unfold Blk at h
  simp only [putRow, mapBlock, Sort.ahead, Array.getElem?_modify, h, onCells, if_true, Option.map_some]
  congr 2
  apply Array.toList_inj.1
  apply List.ext_getElem?
  intro j
  rw [← flatK_V ts]
  simp only [putCells, Array.getElem?_toList, Array.getElem?_mapIdx, List.getElem?_toArray, Nat.zero_le, true_and, Nat.zero_add, Nat.sub_zero]
  by_cases hj : j < (flatK Vrp.cells 20 ts.toArray).size
  · have hj2 : j < (xs.flatMap Vrp.cells ++ sp).length := by rw [List.length_append, flatV_len]; rw [size_flatK] at hj; simp at hj; omega
    rw [List.getElem?_eq_getElem hj2, Option.map_some, if_pos hj, List.getElem?_append_left (by simpa using hj), getElem!_pos _ j hj, Array.getElem?_toList, Array.getElem?_eq_getElem hj]
    rfl
  · have hj' : ¬ j < ts.length * 20 := by simpa using hj
    have h1 : (flatK Vrp.cells 20 ts.toArray).toList.length = xs.length * 20 := by simp [hl]
    rw [List.getElem?_append_right (by rw [flatV_len]; omega), List.getElem?_append_right (by rw [h1]; omega), h1, flatV_len]
    cases sp[j - xs.length * 20]? <;> simp [hj']
theorem sortedV_grown {w : World} {g n : Nat} {ts : Array Vrp} {os : Array Obj} : w.grownBy (sortWorldK Vrp.cells 20 w g 0 n ts os) (some g) := by
  refine ⟨rfl, rfl, rfl, by simp [sortWorldK, putRowK, putRow, mapBlock, Sort.ahead, grow], fun k hk hne => ?_⟩
  unfold sortWorldK putRowK
  rw [heap_grow_old _ _ (by simpa [putRow, mapBlock, Sort.ahead] using hk)]
  have : g ≠ k := fun e => hne (by rw [e])
  simp [putRow, mapBlock, Sort.ahead, Array.getElem?_modify, this]
open Go.RowKit
open Go.Sort
set_option maxRecDepth 100000 in
theorem sortV_any (xs : List Vrp) (g cap : Nat) (sp : List Value) (hlen : xs.length ≤ 1000000) (w : World) (hB : Blk w g 67 (xs.flatMap Vrp.cells ++ sp)) :
    Calls Tryz.prog 96 #[.slice (some ⟨g, 0, none⟩) xs.length cap, .func (.func 97) #[] #[]] w fun e w' => e = .returned (.tuple #[]) ∧ Blk w' g 67 ((xs.mergeSort leV).flatMap Vrp.cells ++ sp) ∧ w.grownBy w' (some g) := by
  have eg : ∀ args w, (callFunc 97 args).run Tryz.prog w = .ok (.enter 97 args) w := enters_of Tryz.func97 (by kernel_rfl) rfl
  have hc : CmpLays Tryz.prog 97 #[] Vrp.cells 20 cmpV g 0 xs.toArray.size w := fun m os dk hs x y => (row2_any x y _).mono (by
    rintro e w' ⟨rfl, hb⟩
    exact ⟨rfl, hb.grow⟩)
  have hcon := AnyQ.slices_SortFunc_total Tryz.sortV 20 Tryz.isAgg67 Tryz.sizeOf67 Vrp.cells Vrp.cells_length Vrp.one cmpV swoV 97 #[] g 0 cap xs.toArray w eg hc (holdsV hB) hB.lt (by simp; omega) totV
  change Calls Tryz.prog 96 _ _ _ at hcon
  rw [List.size_toArray] at hcon
  refine hcon.mono ?_
  rintro e w' ⟨rfl, n, os, rfl⟩
  refine ⟨rfl, ?_, sortedV_grown⟩
  have h1 : (xs.toArray.toList.mergeSort fun x y => !(ltOf cmpV) y x) = xs.mergeSort leV := rfl
  rw [h1]
  exact sortedV_blk hB (by simp)
end Go.Proofs.YtmoldmnhijcckaaGreat
/- The contract of vrp.row: those of a list that may be, each once, rising. -/
set_option linter.unusedVariables false
set_option linter.unusedSectionVars false
set_option linter.unusedSimpArgs false
namespace Go.Proofs.YtmoldmnhijcckaaGreat
open Go.RowKit
def rowOf (xs : List Vrp) : List Vrp := dedF ((xs.filter vrpOk).mergeSort leV)
theorem own_blkV {w : World} {base n c : Nat} {A : Option Addr} {xs : List Vrp} (h : w.ownsRow base 67 20 (.slice A n c) n (xs.flatMap Vrp.cells)) : (A = none ∧ n = 0 ∧ c = 0 ∧ xs = []) ∨ ∃ g sp, A = some ⟨g, 0, none⟩ ∧ base ≤ g ∧ Blk w g 67 (xs.flatMap Vrp.cells ++ sp) ∧ n ≤ c ∧ c ≤ maxLen ∧ xs.length = n ∧ xs.length * 20 + sp.length = c * 20 := by
  have hl : xs.length = n := by have := h.1; rw [flatV_len] at this; omega
  rcases h.2 with ⟨e, hz⟩ | ⟨g, cap, cur, e, hb, hh, q1, q2, q3, q4⟩
  · injection e with e1 e2 e3
    exact .inl ⟨e1, hz, e3, List.eq_nil_of_length_eq_zero (by omega)⟩
  · injection e with e1 e2 e3
    subst e3
    refine .inr ⟨g, cur.toList.drop (n * 20), e1, hb, ?_, q1, q2, hl, by
      have hcs : cur.toList.length = c * 20 := by rw [Array.length_toList]; exact q3
      have := Nat.mul_le_mul_right 20 q1
      rw [List.length_drop, hcs]
      omega⟩
    unfold Blk
    rw [hh, ← q4, List.take_append_drop]
theorem blk_ownV {w : World} {base g c : Nat} {xs : List Vrp} {sp : List Value} (hb : base ≤ g) (h : Blk w g 67 (xs.flatMap Vrp.cells ++ sp)) (h1 : xs.length ≤ c) (h2 : c ≤ maxLen) (h3 : xs.length * 20 + sp.length = c * 20) : w.ownsRow base 67 20 (.slice (some ⟨g, 0, none⟩) xs.length c) xs.length (xs.flatMap Vrp.cells) :=
  ⟨flatV_len xs, .inr ⟨g, c, _, rfl, hb, h, h1, h2, by rw [List.size_toArray, List.length_append, flatV_len]; exact h3, by rw [List.take_left' (flatV_len xs)]⟩⟩
set_option maxRecDepth 100000 in
set_option maxHeartbeats 1000000 in
theorem delV_nil (c : Nat) (w : World) : Calls Tryz.prog 94 #[.slice none 0 c, .func (.func 95) #[] #[]] w fun e w' => e = .returned (.slice none 0 c) ∧ Below w.heap.size w w' := by
  go_enter Tryz.func94, Tryz.ntmps94
  go_wp2_with fail
  refine (idxV_any [] none c 0 (by simp) w (Nat.zero_le _) Reads.none_).mono ?_
  rintro e w1 ⟨hi, hb⟩
  rcases hi with ⟨i, hi, _⟩ | ⟨rfl, _⟩
  · simp at hi
  · go_wp2_with fail
    go_ret
    exact ⟨rfl, hb⟩
set_option maxRecDepth 100000 in
theorem compV_nil (c : Nat) (w : World) : Calls Tryz.prog 99 #[.slice none 0 c] w fun e w' => e = .returned (.slice none 0 c) ∧ w = w' := by
  go_enter Tryz.func99, Tryz.ntmps99
  go_wp2_with fail
  go_ret
  exact ⟨rfl, rfl⟩
theorem sortV_nil (c : Nat) (fv : Value) (w : World) : Calls Tryz.prog 96 #[.slice none 0 c, fv] w fun e w' => e = .returned (.tuple #[]) ∧ w = w' := by
  have hcon := AnyF.slices_SortFunc_none { Tryz.sortV with } none c fv w
  change Calls Tryz.prog 96 _ _ _ at hcon
  exact hcon.mono (by rintro e w' ⟨rfl, rfl⟩; exact ⟨rfl, rfl⟩)
theorem row_len (xs : List Vrp) : (dedF xs).length ≤ xs.length := by
  have : ∀ (xs acc : List Vrp), (xs.foldl addD acc).length ≤ acc.length + xs.length := by
    intro xs
    induction xs with
    | nil => intro acc; simp
    | cons x xs ih =>
      intro acc
      rw [List.foldl_cons]
      have h1 := ih (addD acc x)
      have h2 : (addD acc x).length ≤ acc.length + 1 := by unfold addD; split <;> simp
      rw [List.length_cons]
      omega
  have := this xs []
  simpa [dedF] using this
theorem rowOf_len (xs : List Vrp) : (rowOf xs).length ≤ xs.length := by
  unfold rowOf
  have h1 := row_len ((xs.filter vrpOk).mergeSort leV)
  rw [List.length_mergeSort] at h1
  have h2 := List.length_filter_le vrpOk xs
  omega
theorem rowOf_nil : rowOf [] = [] := by simp [rowOf, dedF]
set_option maxRecDepth 100000 in
set_option maxHeartbeats 2000000 in
theorem vrow_any (xs : List Vrp) (n : Nat) (hn : xs.length = n) (A : Option Addr) (c B : Nat) (hlen : n ≤ 1000000) (w : World) (hB : B ≤ w.heap.size) (hr : Reads w B 20 A n (xs.flatMap Vrp.cells)) :
    Calls Tryz.prog 65 #[.slice A n c] w fun e w' => ∃ A' c', e = .returned (.slice A' (rowOf xs).length c') ∧ w'.ownsRow w.heap.size 67 20 (.slice A' (rowOf xs).length c') (rowOf xs).length ((rowOf xs).flatMap Vrp.cells) ∧ Below w.heap.size w w' := by
  go_enter Tryz.func65, Tryz.ntmps65
  go_wp2_with fail
  refine (cloneV_any xs n hn A c B hlen w hB hr).mono ?_
  rintro e w1 ⟨A1, c1, rfl, ho, hb⟩
  rcases own_blkV ho with ⟨rfl, rfl, rfl, rfl⟩ | ⟨g, sp, rfl, hg, hK, q1, q2, hl, q3⟩
  · clear ho hr
    go_wp2_with fail
    refine (delV_nil 0 w1).mono ?_
    rintro e w2 ⟨rfl, hb2⟩
    replace hb := below_then hb (Nat.le_refl _) hb2
    clear hb2
    go_wp2_with fail
    refine (sortV_nil 0 _ w2).mono ?_
    rintro e w3 ⟨rfl, rfl⟩
    go_wp2_with fail
    refine (compV_nil 0 w2).mono ?_
    rintro e w3 ⟨rfl, rfl⟩
    go_wp2_with fail
    go_ret
    exact ⟨none, 0, by rw [rowOf_nil]; rfl, by rw [rowOf_nil]; exact World.ownsRow_nil _ _ _ _, hb⟩
  · subst hl
    have hg1 := hb.size
    clear ho hr
    go_wp2_with fail
    refine (delV_any xs g c1 sp hlen q1 w1 hK).mono ?_
    rintro e w2 ⟨rfl, ⟨sp2, hK2, hl2⟩, hf2⟩
    have hfl := List.length_filter_le vrpOk xs
    have HR := Lib.hid (show rowOf xs = dedF ((xs.filter vrpOk).mergeSort leV) from rfl)
    generalize xs.filter vrpOk = ys at hK2 hl2 hfl HR
    clear hK
    go_wp2_with fail
    refine (sortV_any ys g c1 sp2 (by omega) w2 hK2).mono ?_
    rintro e w3 ⟨rfl, hK3, hf3⟩
    have HSL := Lib.hid (show (ys.mergeSort leV).length = ys.length from List.length_mergeSort _)
    have HL2 := Lib.hid hl2
    generalize ys.mergeSort leV = zs at hK3 HR HSL
    rw [← HSL.out]
    clear hK2 hl2
    go_wp2_with fail
    refine (compV_any zs g c1 sp2 (by have := HSL.out; omega) (by have := HSL.out; omega) w3 hK3).mono ?_
    rintro e w4 ⟨rfl, ⟨sp4, hK4, hl4⟩, hf4⟩
    have hdl := row_len zs
    rw [← HR.out] at hK4 hl4 hdl ⊢
    have hsl := HSL.out
    have hl2 := HL2.out
    have hfin := blk_ownV (base := w.heap.size) hg hK4 (by omega) q2 (by omega)
    have hlo := Below.grown hb ((hf2.trans hf3).trans hf4) hg1 (fun k hk => by have := Option.some.inj hk; omega)
    clear hK3 hK4 hf2 hf3 hf4 hsl hl2 hl4 hdl
    go_wp2_with fail
    go_ret
    exact ⟨_, _, rfl, hfin, hlo⟩
end Go.Proofs.YtmoldmnhijcckaaGreat
