/- The contract of addr.four where a text has just four parts, each a byte's numeral. -/
import Derived.Test.YtmoldmnhijcckaaDoorTxt
set_option linter.unusedVariables false
set_option linter.unusedSectionVars false
set_option linter.unusedSimpArgs false
namespace Go.Proofs.YtmoldmnhijcckaaDoor
open Go.RowKit
theorem results_cell_tmp {P : Program} {fn : Func} {w : World} {p q : Tmp} {ty : TypeId} (h : fn.results = #[.cell p ty, .tmp q]) (tmps : Array Value) (g o n : Nat) (cs : List Value) (d : TypeDesc) (hp : tmps.getD p undef = .pointer (some ⟨g, o, none⟩)) (hr : w.rangeAt g o cs) (hl : cs.length = n)
    (hu : P.underlying ty = some d) (hd : d.isRow = true) (hi : (P.info? ty).map (·.size) = some n) : (results fn tmps).run P w = .ok (.tuple #[.agg cs.toArray, tmps.getD q undef]) w := by
  have := run_loadVar_mid w g o ty cs d hr hu hd (by rw [hl]; exact hi)
  have hp' : tmps[p]?.getD undef = .pointer (some ⟨g, o, none⟩) := by simpa using hp
  simp [results, h, hp', asAddr, Sem.run_bind, Result.andThen, this]
def fillA (us : List UInt8) (k : Nat) : A16 := ⟨((us.take k ++ List.replicate 16 0).take 16), by simp⟩
def zA : List Value := [.int .u8 0, .int .u8 0, .int .u8 0, .int .u8 0, .int .u8 0, .int .u8 0, .int .u8 0, .int .u8 0, .int .u8 0, .int .u8 0, .int .u8 0, .int .u8 0, .int .u8 0, .int .u8 0, .int .u8 0, .int .u8 0]
theorem fillA_zero (us : List UInt8) : (fillA us 0).cells = zA := by unfold fillA; simp; rfl
theorem fillA_succ (us : List UInt8) (h4 : us.length = 4) {k : Nat} (hk : k < 4) : (fillA us k).cells.set k (bv (us.getD k 0)) = (fillA us (k + 1)).cells := by
  obtain ⟨a, b, c, d, rfl⟩ : ∃ a b c d, us = [a, b, c, d] := by
    match us, h4 with
    | [a, b, c, d], _ => exact ⟨a, b, c, d, rfl⟩
  obtain rfl | rfl | rfl | rfl : k = 0 ∨ k = 1 ∨ k = 2 ∨ k = 3 := by omega
  all_goals rfl
theorem A16.cells_k (a : A16) {k : Nat} (hk : k < 16) : a.cells[k]? = some (.int .u8 (a.at k).toNat) := by
  have := a.h
  simp [A16.cells, A16.at, bv, List.getD_eq_getElem?_getD, List.getElem?_eq_getElem (show k < a.l.length by omega)]
theorem info_a16 : (Tryd.prog.info? 48).map (·.size) = some 16 := by kernel_rfl
structure F4 (w : World) (xs : List ByteArray) (us : List UInt8) (k : Nat) (W : World) : Prop where
  a : Blk W w.heap.size 48 (fillA us k).cells
  s : Blk W (w.heap.size + 1) 9 (xs.map Value.string)
  lo : Below w.heap.size w W
theorem F4.next {w : World} {xs : List ByteArray} {us : List UInt8} {k : Nat} {W W' : World} (h : F4 w xs us k W) (hb : Below W.heap.size W W') : F4 w xs us k W' := ⟨h.a.below hb h.a.lt, h.s.below hb h.s.lt, below_then h.lo (Nat.le_refl _) hb⟩
theorem F4.put {w : World} {xs : List ByteArray} {us : List UInt8} {k : Nat} {W : World} (h : F4 w xs us k W) (h4 : us.length = 4) (hk : k < 4) : F4 w xs us (k + 1) (W.setCell ⟨w.heap.size, k, none⟩ (bv (us.getD k 0))) :=
  ⟨by rw [← fillA_succ us h4 hk]; exact h.a.set_ _ _, h.s.far (by simp) _, h.lo.setCell (by simp) _⟩
theorem parse8 (s : ByteArray) (hmax : s.size ≤ 1000) (u : Nat) (h : Lib.parseUintB 8 s.data.toList = .ok u) (w : World) :
    Calls Tryd.prog 63 #[.string s, .int .i64 10, .int .i64 8] w fun e w' => e = .returned (.tuple #[.int .u64 u, .nilIface]) ∧ Below w.heap.size w w' :=
  (Tryd.strconv_ParseUint_10_at8_ok s (by omega) u h w).mono fun e w' ⟨he, hw⟩ => ⟨he, by rcases hw with rfl | rfl; exact Below.refl _ _; exact Lib.bytesWorld_below _ _ _⟩
set_option maxRecDepth 100000 in
set_option maxHeartbeats 2000000 in
theorem four_ok (s : ByteArray) (xs : List ByteArray) (us : List UInt8) (hs : s.size ≤ 1000) (hc : Lib.countB s ⟨#[46]⟩ = 3) (hx : Lib.splitB ⟨#[46]⟩ 0 3 s = xs) (h4 : us.length = 4) (hl : xs.length = 4)
    (hu : ∀ k, k < 4 → (xs.getD k ⟨#[]⟩).size ≤ 1000 ∧ Lib.parseUintB 8 (xs.getD k ⟨#[]⟩).data.toList = .ok (us.getD k 0).toNat) (m : Int) (w : World) (h0 : 0 < w.heap.size) (hm : w.cell? ⟨0, 0, none⟩ = some (.int .i64 m)) :
    Calls Tryd.prog 64 #[.string s] w fun e w' => e = .returned (.tuple #[(fillA us 4).val, .bool true]) ∧ Below w.heap.size w w' := by
  have hA : Blk (w.alloc (.cells zA.toArray 48)) w.heap.size 48 (fillA us 0).cells := by rw [fillA_zero]; exact Blk.new _ _ _
  have hm2 : (w.alloc (.cells zA.toArray 48)).cell? ⟨0, 0, none⟩ = some (.int .i64 m) := (World.cell?_alloc_lt w _ _ h0).trans hm
  go_enter Tryd.func64, Tryd.ntmps64
  go_wp2_with (go_at_call 83; refine (Tryd.strings_Split s ⟨#[46]⟩ m _ (by omega) hm2 (by decide)).mono ?_; rw [hc, hx]; rintro e w3 ⟨rfl, rfl⟩)
  have hst : F4 w xs us 0 (((w.alloc (.cells zA.toArray 48)).alloc (.cells (xs.map Value.string).toArray 9))) := ⟨hA.alloc _, blk_new' _ _ _ _ (by simp), ((Below.refl _ _).alloc (Nat.le_refl _) _).alloc (by simp) _⟩
  clear hA hm2 hm h0
  go_loopw [5, 6, 7, 8, 17] (fun s5 s6 s7 s8 s17 wr => ∃ k : Nat, k ≤ 4 ∧ s17 = .int .i64 k ∧ F4 w xs us k wr) (fun _ _ _ _ i _ => 4 - (intOf i).toNat)
  case atStart => exact ⟨0, by omega, rfl, hst⟩
  case round =>
    clear hst
    obtain ⟨k, hk, rfl, hF⟩ := hrel
    by_cases hlt : k < 4
    · have hk0 : (0 : Int) ≤ (k : Int) := by omega
      have hk1 : (k : Int) < 4 := by omega
      obtain ⟨hu1, hu2⟩ := hu k hlt
      have c1 : wr.cell? ⟨w.heap.size + 1, k, none⟩ = some (.string (xs.getD k ⟨#[]⟩)) := by
        rw [hF.s.cell k]; simp [List.getD_eq_getElem?_getD, List.getElem?_eq_getElem (show k < xs.length by omega)]
      generalize xs.getD k ⟨#[]⟩ = x at hu1 hu2 c1
      have hput : ∀ W, F4 w xs us k W → F4 w xs us (k + 1) (W.setCell ⟨w.heap.size, k, none⟩ (bv (us.getD k 0))) := fun W h => h.put h4 hlt
      generalize us.getD k 0 = u at hu2 hput
      have e8 : ((u.toNat : Int) % 256) = (u.toNat : Int) := by have := u.toNat_lt; omega
      go_wp2_with (go_at_call 63; refine (parse8 x hu1 _ hu2 _).mono ?_; rintro e w3 ⟨rfl, hb3⟩; replace hF := hF.next hb3; have c2 := (hF.a.cell k).trans ((fillA us k).cells_k (by omega)); have f2 := hF.a.frozen k)
      go_roundw
      case rel => exact ⟨k + 1, by omega, by go_num, hput _ hF⟩
      case measure => simp [intOf]; omega
    · have hk4 : k = 4 := by omega
      subst hk4
      clear hlt hk
      go_wp2_with (first | (refine wpList_load_at rfl 48 _ rfl w.heap.size 0 16 rfl _ _ hF.a.range (A16.cells_length _) Tryd.underlying48 rfl info_a16 ?_) | (refine wpList_store_at rfl 48 _ _ rfl w.heap.size 0 16 48 _ _ rfl rfl hF.a (A16.cells_length _) (by rw [A16.cells_length]; decide) info_a16 (A16.one _) ?_))
      exact bodyPost_ret (results_cell_tmp rfl _ w.heap.size 0 16 (fillA us 4).cells _ rfl ((hF.a.setCells_all (by rw [A16.cells_length])).range) (A16.cells_length _) Tryd.underlying48 rfl info_a16) rfl ⟨rfl, Below.setCells (by omega) _ _ hF.lo⟩
end Go.Proofs.YtmoldmnhijcckaaDoor
