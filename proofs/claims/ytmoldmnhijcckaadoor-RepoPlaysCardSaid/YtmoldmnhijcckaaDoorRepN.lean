/- The contract of repo.New: the checks of its blobs. -/
import Derived.Test.YtmoldmnhijcckaaDoorClnD
import Derived.Test.YtmoldmnhijcckaaDoorNam
import Derived.Test.YtmoldmnhijcckaaDoorAdr
import Derived.Carry
set_option linter.unusedVariables false
set_option linter.unusedSectionVars false
set_option linter.unusedSimpArgs false
namespace Go.Proofs.YtmoldmnhijcckaaDoor
open Go.RowKit
/-- A blob as the program holds it: its place, its bytes, and where they lie. -/
structure Blb where
  u : ByteArray
  A : Option Addr
  c : Nat
  bs : List UInt8
instance : Inhabited Blb := ⟨⟨ByteArray.empty, none, 0, []⟩⟩
def Blb.cells (b : Blb) : List Value := [.string b.u, .slice b.A b.bs.length b.c]
theorem Blb.len (b : Blb) : b.cells.length = 2 := rfl
theorem Blb.one (b : Blb) : ∀ v ∈ b.cells, v.oneCell' = true := by intro v h; simp [Blb.cells] at h; rcases h with rfl | rfl <;> rfl
def zBlb : List Value := [.string ⟨#[]⟩, .slice none 0 0]
theorem info_blb : (Tryd.prog.info? 27).map (·.size) = some 2 := by kernel_rfl
/-- A blob whose bytes are read below a block, of a size that memory allows. -/
structure Blb.Fine (w : World) (B : Nat) (b : Blb) : Prop where
  rd : Reads w B 1 b.A b.bs.length (b.bs.map bv)
  us : b.u.size ≤ 9223372036854775807
  bl : b.bs.length ≤ 140737488355000
def goodB (b : Blb) : Bool := uriB b.u && !dirB b.u
def largeB (xs : List Blb) : Bool := decide (400 < xs.length) || xs.any fun b => decide (20000 < b.bs.length)
/-- Those first at each place. -/
def addF (l : List (ByteArray × List UInt8)) (b : Blb) : List (ByteArray × List UInt8) := if l.any (fun q => b.u == q.1) then l else l ++ [(b.u, b.bs)]
def firstsOf (xs : List Blb) : List (ByteArray × List UInt8) := xs.foldl addF []
structure BlkLo (w : World) (g : Nat) (x : Blb) (W : World) : Prop where
  b : Blk W g 27 x.cells
  lo : Below w.heap.size w W
  h : w.heap.size ≤ g
theorem BlkLo.next {w : World} {g : Nat} {x : Blb} {W W' : World} (h : BlkLo w g x W) (hb : Below W.heap.size W W') : BlkLo w g x W' := ⟨h.b.below hb h.b.lt, below_then h.lo (Nat.le_refl _) hb, h.h⟩
theorem BlkLo.drew {w : World} {g : Nat} {x : Blb} {W : World} (h : BlkLo w g x W) : BlkLo w g x W.drew := ⟨h.b.drew, h.lo.drew, h.h⟩
theorem BlkLo.new {w W : World} (hlo : Below w.heap.size w W) (x : Blb) : BlkLo w W.heap.size x ((W.alloc (.cells zBlb.toArray 27)).setCells W.heap.size 0 x.cells) :=
  ⟨(Blk.new _ _ _).setCells_all rfl, Below.setCells hlo.size _ _ (hlo.alloc hlo.size _), hlo.size⟩
/-- What is asked of the world: the one variable, and the blobs. -/
structure NewPre (w : World) (m : Int) (A : Option Addr) (xs : List Blb) : Prop where
  h0 : 0 < w.heap.size
  hm : w.cell? ⟨0, 0, none⟩ = some (.int .i64 m)
  hr : Reads w w.heap.size 2 A xs.length (xs.flatMap Blb.cells)
  hf : ∀ x ∈ xs, x.Fine w w.heap.size
  hn : xs.length ≤ 100000000
theorem NewPre.var {w : World} {m : Int} {A : Option Addr} {xs : List Blb} (h : NewPre w m A xs) {W : World} (hlo : Below w.heap.size w W) : 0 < W.heap.size ∧ W.cell? ⟨0, 0, none⟩ = some (.int .i64 m) :=
  ⟨Nat.lt_of_lt_of_le h.h0 hlo.size, (hlo.cell (p := ⟨0, 0, none⟩) h.h0).trans h.hm⟩
/-- A repo: its two maps, what was asked for, and its blobs. -/
structure RepoAt (W : World) (lo g b1 b2 : Nat) (es : List Blb) (ks : List ByteArray) : Prop where
  blk : ∃ v, Blk W g 75 [.map (some b1), .map (some b2), v] ∧ W.ownsRow (g + 1) 9 1 v ks.length (ks.map Value.string)
  m1 : MapAt W b1 (es.map fun e => (e.u, .slice e.A e.bs.length e.c))
  m2 : MapAt W b2 (ks.map fun k => (k, .bool true))
  rd : ∀ e ∈ es, W.ownsRow (g + 1) 5 1 (.slice e.A e.bs.length e.c) e.bs.length (e.bs.map bv) ∧ e.bs.length ≤ 140737488355000
  l1 : lo ≤ b1
  l2 : b1 < b2
  l3 : b2 < g
theorem RepoAt.next {W W' : World} {lo g b1 b2 : Nat} {es : List Blb} {ks : List ByteArray} (h : RepoAt W lo g b1 b2 es ks) (hb : Below W.heap.size W W') : RepoAt W' lo g b1 b2 es ks := by
  obtain ⟨v, hB, ho⟩ := h.blk
  exact ⟨⟨v, hB.below hb hB.lt, own_below ho hb⟩, h.m1.below hb h.m1.lt, h.m2.below hb h.m2.lt, fun e he => ⟨own_below (h.rd e he).1 hb, (h.rd e he).2⟩, h.l1, h.l2, h.l3⟩
theorem RepoAt.drew {W : World} {lo g b1 b2 : Nat} {es : List Blb} {ks : List ByteArray} (h : RepoAt W lo g b1 b2 es ks) : RepoAt W.drew lo g b1 b2 es ks := ⟨h.blk, h.m1.drew, h.m2.drew, h.rd, h.l1, h.l2, h.l3⟩
theorem RepoAt.new {w W : World} (hlo : Below w.heap.size w W) : RepoAt (((W.alloc (.map #[] 0)).alloc (.map #[] 0)).alloc (.cells #[.map (some W.heap.size), .map (some (W.heap.size + 1)), .slice none 0 0] 75)) w.heap.size (W.heap.size + 2) W.heap.size (W.heap.size + 1) [] [] :=
  ⟨⟨.slice none 0 0, blk_new' _ _ [_, _, _] _ (by simp), World.ownsRow_nil _ _ _ _⟩, ((MapAt.new W).alloc _).alloc _, (mapAt_new' _ _ (by simp)).alloc _, fun e he => absurd he (by simp), hlo.size, by omega, by omega⟩
theorem RepoAt.gsize {W : World} {lo g b1 b2 : Nat} {es : List Blb} {ks : List ByteArray} (h : RepoAt W lo g b1 b2 es ks) : g + 1 ≤ W.heap.size := by
  obtain ⟨v, hB, _⟩ := h.blk
  exact hB.lt
def Blb.kv (e : Blb) : ByteArray × Value := (e.u, .slice e.A e.bs.length e.c)
/-- A blob more. -/
theorem RepoAt.put {W : World} {lo g b1 b2 : Nat} {es : List Blb} {ks : List ByteArray} (h : RepoAt W lo g b1 b2 es ks) (e : Blb) (he : W.ownsRow (g + 1) 5 1 (.slice e.A e.bs.length e.c) e.bs.length (e.bs.map bv) ∧ e.bs.length ≤ 140737488355000) :
    RepoAt (Go.ChangeMaps.setBlock W b1 (.map (mapEs ((es ++ [e]).map Blb.kv)) ((es ++ [e]).map Blb.kv).length)) lo g b1 b2 (es ++ [e]) ks := by
  obtain ⟨v, hB, ho⟩ := h.blk
  have l1 := h.l1
  have l2 := h.l2
  have l3 := h.l3
  have hk : ∀ x : Blb, W.ownsRow (g + 1) 5 1 (.slice x.A x.bs.length x.c) x.bs.length (x.bs.map bv) → (Go.ChangeMaps.setBlock W b1 (.map (mapEs ((es ++ [e]).map Blb.kv)) ((es ++ [e]).map Blb.kv).length)).ownsRow (g + 1) 5 1 (.slice x.A x.bs.length x.c) x.bs.length (x.bs.map bv) := fun x hx =>
    own_kept hx fun k hk => heap_setBlock_far W _ (by have := (own_base_le hx k hk).1; omega)
  refine ⟨⟨v, hB.setBlock_far _ (by omega), own_kept ho fun k hk => heap_setBlock_far W _ (by have := (own_base_le ho k hk).1; omega)⟩, h.m1.put _, h.m2.setBlock_far _ (by omega), fun x hx => ?_, l1, l2, l3⟩
  rcases List.mem_append.1 hx with hx | hx
  · exact ⟨hk x (h.rd x hx).1, (h.rd x hx).2⟩
  · obtain rfl := List.mem_singleton.1 hx
    exact ⟨hk x he.1, he.2⟩
theorem findK_any (u : ByteArray) : ∀ es : List Blb, (findK u (es.map Blb.kv) = none ↔ (es.map fun e => (e.u, e.bs)).any (fun q => u == q.1) = false)
  | [] => by simp [findK]
  | e :: es => by
    simp only [List.map_cons, findK, Blb.kv, List.any_cons]
    cases h : u == e.u
    · simp only [Bool.false_eq_true, if_false, Bool.false_or]
      exact findK_any u es
    · simp
theorem firstsOf_snoc (xs : List Blb) (x : Blb) : firstsOf (xs ++ [x]) = addF (firstsOf xs) x := by unfold firstsOf; rw [List.foldl_append]; rfl
/-- What New answers. -/
def NewPost (w : World) (xs : List Blb) (e : Ending) (w' : World) : Prop :=
  if xs.all goodB && !largeB xs then ∃ g b1 b2 es, e = .returned (.tuple #[.pointer (some ⟨g, 0, none⟩), .int .i64 0]) ∧ RepoAt w' w.heap.size g b1 b2 es [] ∧ es.map (fun e => (e.u, e.bs)) = firstsOf xs
  else e = .returned (.tuple #[.pointer none, .int .i64 (if xs.all goodB then 5 else 1)])
set_option maxRecDepth 100000 in
set_option maxHeartbeats 8000000 in
theorem new_any (xs : List Blb) (A : Option Addr) (c : Nat) (hc : xs.length ≤ c) (m : Int) (w : World) (hp : NewPre w m A xs) :
    Calls Tryd.prog 17 #[.slice A xs.length c] w fun e w' => NewPost w xs e w' ∧ Below w.heap.size w w' := by
  have hlo := Below.refl w.heap.size w
  have HN := hp.hn
  obtain ⟨l0, hl0⟩ : ∃ b, decide ((400 : Int) < (xs.length : Int)) = b := ⟨_, rfl⟩
  have HL0 := Lib.hid (show decide (400 < xs.length) = l0 by rw [← hl0]; exact decide_eq_decide.2 (by omega))
  go_enter Tryd.func17, Tryd.ntmps17
  go_wp2_with fail
  clear hl0
  go_loopw [4, 6, 17] (fun v4 v6 i wr => ∃ (k : Nat) (lg : Bool), k ≤ xs.length ∧ i = .int .i64 k ∧ v4 = .bool lg ∧ Below w.heap.size w wr ∧ Hid (lg = (l0 || (xs.take k).any fun b => decide (20000 < b.bs.length)) ∧ (xs.take k).all goodB = true)) (fun _ _ i _ => xs.length - (intOf i).toNat)
  case atStart => exact ⟨0, l0, by omega, rfl, rfl, hlo, Lib.hid ⟨by simp, rfl⟩⟩
  case round =>
    clear hlo
    obtain ⟨k, lg, hk, rfl, rfl, hlo, HG⟩ := hrel
    by_cases hlt : k < xs.length
    · obtain ⟨ad, rfl, _, _⟩ := hp.hr.2 (by omega)
      have hk0 : (0 : Int) ≤ (k : Int) := by omega
      have hk1 : (k : Int) < (xs.length : Int) := by omega
      have hat : AtAdr wr (ad.add (k * 2)) xs[k].cells := (hp.hr.below hlo (Nat.le_refl _)).elem Blb.len hlt rfl
      have hus := (hp.hf xs[k] (List.getElem_mem hlt)).us
      have HT := Lib.hid (show xs.take (k + 1) = xs.take k ++ [xs[k]] from List.take_succ_eq_append_getElem hlt)
      have HM := Lib.hid (show xs[k] ∈ xs from List.getElem_mem hlt)
      generalize xs[k] = x at hat hus HT HM
      go_upto_region 5 with (first | (refine wpList_load_adr (by rfl) 27 _ rfl (ad.add (k * 2)) 2 (by rfl) _ _ hat rfl Tryd.underlying27 rfl info_blb ?_) | (refine wpList_store_at rfl 27 _ _ rfl wr.heap.size 0 2 27 _ zBlb rfl rfl (Blk.new _ _ _) rfl (by decide) info_blb (Blb.one _) ?_))
      refine wp_gen (BlkLo w wr.heap.size x) (BlkLo.new hlo x) ?_
      clear hlo hat
      intro w1 hX
      have c0 : w1.cell? ⟨wr.heap.size, 0, none⟩ = some (.string x.u) := hX.b.cell 0
      cases hu : uriB x.u
      · have HB := Lib.hid (show xs.all goodB = false from List.all_eq_false.2 ⟨x, HM.out, by unfold goodB; rw [hu]; simp⟩)
        have HU := Lib.hid hu
        clear hu
        go_wp2_with fail
        refine (uri_any x.u m _ (hp.var hX.lo).1 (hp.var hX.lo).2).mono ?_
        rintro e w2 ⟨rfl, hb⟩
        rw [HU.out]
        replace hX := hX.next hb
        clear hb
        go_wp2_with fail
        exact bodyPost_ret (v := .tuple #[.pointer none, .int .i64 1]) (by simp [results, Tryd.results17, go_sem]) rfl ⟨by unfold NewPost; rw [HB.out]; rfl, hX.lo⟩
      · have HU := Lib.hid hu
        cases hd : dirB x.u
        · have HG2 := Lib.hid (show (xs.take (k + 1)).all goodB = true by rw [HT.out, List.all_append, HG.out.2]; simp [goodB, hu, hd])
          have HG1 := Lib.hid (show (lg || decide (20000 < x.bs.length)) = (l0 || (xs.take (k + 1)).any fun b => decide (20000 < b.bs.length)) by rw [HT.out, List.any_append, HG.out.1]; simp [Bool.or_assoc])
          have HD := Lib.hid hd
          clear hu hd
          go_wp2_with fail
          refine (uri_any x.u m _ (hp.var hX.lo).1 (hp.var hX.lo).2).mono ?_
          rintro e w2 ⟨rfl, hb⟩
          rw [HU.out]
          replace hX := hX.next hb
          clear hb c0
          have c0 : w2.cell? ⟨wr.heap.size, 0, none⟩ = some (.string x.u) := hX.b.cell 0
          go_wp2_with fail
          refine (dir_any x.u hus m _ (hp.var hX.lo).1 (hp.var hX.lo).2).mono ?_
          rintro e w3 ⟨rfl, hb⟩
          rw [HD.out]
          replace hX := hX.next hb
          clear hb c0
          have c1 : w3.cell? ⟨wr.heap.size, 1, none⟩ = some (.slice x.A x.bs.length x.c) := hX.b.cell 1
          obtain ⟨dd, hdd⟩ : ∃ b, decide ((20000 : Int) < (x.bs.length : Int)) = b := ⟨_, rfl⟩
          have HDD := Lib.hid (show decide (20000 < x.bs.length) = dd by rw [← hdd]; exact decide_eq_decide.2 (by omega))
          cases lg
          · go_wp2_with fail
            clear hdd
            go_roundw
            case rel => exact ⟨k + 1, dd, by omega, by go_num, rfl, hX.lo, Lib.hid ⟨by rw [← HG1.out, HDD.out]; rfl, HG2.out⟩⟩
            case measure => simp [intOf]; omega
          · go_wp2_with fail
            clear hdd
            go_roundw
            case rel => exact ⟨k + 1, true, by omega, by go_num, rfl, hX.lo, Lib.hid ⟨by rw [← HG1.out]; rfl, HG2.out⟩⟩
            case measure => simp [intOf]; omega
        · have HB := Lib.hid (show xs.all goodB = false from List.all_eq_false.2 ⟨x, HM.out, by unfold goodB; rw [hd]; simp⟩)
          have HD := Lib.hid hd
          clear hu hd
          go_wp2_with fail
          refine (uri_any x.u m _ (hp.var hX.lo).1 (hp.var hX.lo).2).mono ?_
          rintro e w2 ⟨rfl, hb⟩
          rw [HU.out]
          replace hX := hX.next hb
          clear hb c0
          have c0 : w2.cell? ⟨wr.heap.size, 0, none⟩ = some (.string x.u) := hX.b.cell 0
          go_wp2_with fail
          refine (dir_any x.u hus m _ (hp.var hX.lo).1 (hp.var hX.lo).2).mono ?_
          rintro e w3 ⟨rfl, hb⟩
          rw [HD.out]
          replace hX := hX.next hb
          clear hb
          go_wp2_with fail
          exact bodyPost_ret (v := .tuple #[.pointer none, .int .i64 1]) (by simp [results, Tryd.results17, go_sem]) rfl ⟨by unfold NewPost; rw [HB.out]; rfl, hX.lo⟩
    · have hkk : k = xs.length := by omega
      subst hkk
      have HA := Lib.hid (show xs.all goodB = true by have := HG.out.2; rwa [List.take_length] at this)
      have HLG := Lib.hid (show largeB xs = lg by have := HG.out.1; rw [List.take_length] at this; rw [this, ← HL0.out]; rfl)
      clear HG hlt hk
      cases lg
      · have hmm := @run_makeMap Tryd.prog
        have hR := RepoAt.new hlo
        have HQ := Lib.hid (show (xs.all goodB && !largeB xs) = true by rw [HA.out, HLG.out]; rfl)
        clear HA HLG
        go_wp2_with fail
        refine wp_gen (fun W => RepoAt W w.heap.size (wr.heap.size + 2) wr.heap.size (wr.heap.size + 1) [] [] ∧ Below w.heap.size w W) ⟨hR, ((hlo.alloc hlo.size _).alloc (by simp; have := hlo.size; omega) _).alloc (by simp; have := hlo.size; omega) _⟩ ?_
        clear hR hlo hmm
        generalize wr.heap.size + 2 = g
        generalize wr.heap.size + 1 = b2
        generalize wr.heap.size = b1
        rintro w5 ⟨hR, hlo⟩
        go_loopw [9, 10, 11, 45] (fun v9 v10 v11 i wr => ∃ (k : Nat) (es : List Blb), k ≤ xs.length ∧ i = .int .i64 k ∧ RepoAt wr w.heap.size g b1 b2 es [] ∧ Below w.heap.size w wr ∧ Hid (es.map (fun e => (e.u, e.bs)) = firstsOf (xs.take k))) (fun _ _ _ i _ => xs.length - (intOf i).toNat)
        case atStart => exact ⟨0, [], by omega, rfl, hR, hlo, Lib.hid rfl⟩
        case round =>
          clear hR hlo
          obtain ⟨k, es, hk, rfl, hR, hlo, HG⟩ := hrel
          by_cases hlt : k < xs.length
          · obtain ⟨ad, rfl, _, _⟩ := hp.hr.2 (by omega)
            have hk0 : (0 : Int) ≤ (k : Int) := by omega
            have hk1 : (k : Int) < (xs.length : Int) := by omega
            have hat : AtAdr wr (ad.add (k * 2)) xs[k].cells := (hp.hr.below hlo (Nat.le_refl _)).elem Blb.len hlt rfl
            have hfin := hp.hf xs[k] (List.getElem_mem hlt)
            have HT := Lib.hid (show firstsOf (xs.take (k + 1)) = addF (firstsOf (xs.take k)) xs[k] by rw [List.take_succ_eq_append_getElem hlt, firstsOf_snoc])
            generalize xs[k] = x at hat hfin HT
            go_upto_region 15 with (first | (refine wpList_load_adr (by rfl) 27 _ rfl (ad.add (k * 2)) 2 (by rfl) _ _ hat rfl Tryd.underlying27 rfl info_blb ?_) | (refine wpList_store_at rfl 27 _ _ rfl wr.heap.size 0 2 27 _ zBlb rfl rfl (Blk.new _ _ _) rfl (by decide) info_blb (Blb.one _) ?_))
            refine wp_gen (fun W => RepoAt W w.heap.size g b1 b2 es [] ∧ BlkLo w wr.heap.size x W) ⟨hR.next (Below.setCells (Nat.le_refl _) _ _ ((Below.refl _ _).alloc (Nat.le_refl _) _)), BlkLo.new hlo x⟩ ?_
            clear hlo hat hR
            rintro w1 ⟨hR, hX⟩
            cases hf : findK x.u (es.map Blb.kv)
            · have hany := (findK_any x.u es).1 hf
              have HN2 := Lib.hid (show ∀ A2 c2, (es ++ [(⟨x.u, A2, c2, x.bs⟩ : Blb)]).map (fun e : Blb => (e.u, e.bs)) = firstsOf (xs.take (k + 1)) from fun A2 c2 => by rw [HT.out, ← HG.out, addF, hany]; simp)
              have HF := Lib.hid hf
              clear hf hany HG HT
              refine reg_sch2 12 [(true, 0), (true, 1), (true, 2), (true, 3), (true, 4), (true, 5), (true, 6), (true, 7), (true, 8), (true, 9), (true, 10), (true, 11)] (by kernel_rfl) (by kernel_rfl) (fun W => RepoAt W w.heap.size g b1 b2 es [] ∧ BlkLo w wr.heap.size x W) (fun W => RepoAt W w.heap.size g b1 b2 es [] ∧ BlkLo w wr.heap.size x W) ?_ ?_ ?_
              · exact ⟨hR.drew, hX.drew⟩
              · exact fun _ h => h
              intro W hSW
              simp only [List.map_cons, List.map_nil, List.getD_cons_zero, List.getD_cons_succ, List.drop_succ_cons, List.drop_zero]
              refine hd_pure (v := ?_) (by rfl) (fun W' hS' => ?_) ?_ -- 0
              rotate_left
              · have hl := run_look_none (P := Tryd.prog) Tryd.underlying72 Tryd.underlying9 hS'.1.m1 (Tryd.zeroValue25 _) HF.out true; obtain ⟨v, hB, _⟩ := hS'.1.blk; have cg := hB.cell 0; have c0 := hS'.2.b.cell 0; simp only [Blb.cells, List.getElem?_cons_zero] at cg c0; clear hS' hB; (go_simp; first | with_reducible rfl | rfl)
              try simp only [Act.put, List.setIfInBounds_toArray, List.set_cons_zero, List.set_cons_succ]
              refine hd_pure (v := ?_) (by rfl) (fun W' hS' => ?_) ?_ -- 1
              rotate_left
              · have hl := run_look_none (P := Tryd.prog) Tryd.underlying72 Tryd.underlying9 hS'.1.m1 (Tryd.zeroValue25 _) HF.out true; obtain ⟨v, hB, _⟩ := hS'.1.blk; have cg := hB.cell 0; have c0 := hS'.2.b.cell 0; simp only [Blb.cells, List.getElem?_cons_zero] at cg c0; clear hS' hB; (go_simp; first | with_reducible rfl | rfl)
              try simp only [Act.put, List.setIfInBounds_toArray, List.set_cons_zero, List.set_cons_succ]
              refine hd_pure (v := ?_) (by rfl) (fun W' hS' => ?_) ?_ -- 2
              rotate_left
              · have hl := run_look_none (P := Tryd.prog) Tryd.underlying72 Tryd.underlying9 hS'.1.m1 (Tryd.zeroValue25 _) HF.out true; obtain ⟨v, hB, _⟩ := hS'.1.blk; have cg := hB.cell 0; have c0 := hS'.2.b.cell 0; simp only [Blb.cells, List.getElem?_cons_zero] at cg c0; clear hS' hB; (go_simp; first | with_reducible rfl | rfl)
              try simp only [Act.put, List.setIfInBounds_toArray, List.set_cons_zero, List.set_cons_succ]
              refine hd_pure (v := ?_) (by rfl) (fun W' hS' => ?_) ?_ -- 3
              rotate_left
              · have hl := run_look_none (P := Tryd.prog) Tryd.underlying72 Tryd.underlying9 hS'.1.m1 (Tryd.zeroValue25 _) HF.out true; obtain ⟨v, hB, _⟩ := hS'.1.blk; have cg := hB.cell 0; have c0 := hS'.2.b.cell 0; simp only [Blb.cells, List.getElem?_cons_zero] at cg c0; clear hS' hB; (go_simp; first | with_reducible rfl | rfl)
              try simp only [Act.put, List.setIfInBounds_toArray, List.set_cons_zero, List.set_cons_succ]
              refine hd_pure (v := ?_) (by rfl) (fun W' hS' => ?_) ?_ -- 4
              rotate_left
              · have hl := run_look_none (P := Tryd.prog) Tryd.underlying72 Tryd.underlying9 hS'.1.m1 (Tryd.zeroValue25 _) HF.out true; obtain ⟨v, hB, _⟩ := hS'.1.blk; have cg := hB.cell 0; have c0 := hS'.2.b.cell 0; simp only [Blb.cells, List.getElem?_cons_zero] at cg c0; clear hS' hB; (go_simp; first | with_reducible rfl | rfl)
              try simp only [Act.put, List.setIfInBounds_toArray, List.set_cons_zero, List.set_cons_succ]
              refine hd_pure (v := ?_) (by rfl) (fun W' hS' => ?_) ?_ -- 5
              rotate_left
              · have hl := run_look_none (P := Tryd.prog) Tryd.underlying72 Tryd.underlying9 hS'.1.m1 (Tryd.zeroValue25 _) HF.out true; obtain ⟨v, hB, _⟩ := hS'.1.blk; have cg := hB.cell 0; have c0 := hS'.2.b.cell 0; simp only [Blb.cells, List.getElem?_cons_zero] at cg c0; clear hS' hB; (go_simp; first | with_reducible rfl | rfl)
              try simp only [Act.put, List.setIfInBounds_toArray, List.set_cons_zero, List.set_cons_succ]
              refine hd_pure (v := ?_) (by rfl) (fun W' hS' => ?_) ?_ -- 6
              rotate_left
              · have hl := run_look_none (P := Tryd.prog) Tryd.underlying72 Tryd.underlying9 hS'.1.m1 (Tryd.zeroValue25 _) HF.out true; obtain ⟨v, hB, _⟩ := hS'.1.blk; have cg := hB.cell 0; have c0 := hS'.2.b.cell 0; simp only [Blb.cells, List.getElem?_cons_zero] at cg c0; clear hS' hB; (go_simp; first | with_reducible rfl | rfl)
              try simp only [Act.put, List.setIfInBounds_toArray, List.set_cons_zero, List.set_cons_succ]
              refine hd_pure (v := ?_) (by rfl) (fun W' hS' => ?_) ?_ -- 7
              rotate_left
              · have hl := run_look_none (P := Tryd.prog) Tryd.underlying72 Tryd.underlying9 hS'.1.m1 (Tryd.zeroValue25 _) HF.out true; obtain ⟨v, hB, _⟩ := hS'.1.blk; have cg := hB.cell 0; have c0 := hS'.2.b.cell 0; simp only [Blb.cells, List.getElem?_cons_zero] at cg c0; clear hS' hB; (go_simp; first | with_reducible rfl | rfl)
              try simp only [Act.put, List.setIfInBounds_toArray, List.set_cons_zero, List.set_cons_succ]
              refine hd_pure (v := ?_) (by rfl) (fun W' hS' => ?_) ?_ -- 8
              rotate_left
              · have hl := run_look_none (P := Tryd.prog) Tryd.underlying72 Tryd.underlying9 hS'.1.m1 (Tryd.zeroValue25 _) HF.out true; obtain ⟨v, hB, _⟩ := hS'.1.blk; have cg := hB.cell 0; have c0 := hS'.2.b.cell 0; simp only [Blb.cells, List.getElem?_cons_zero] at cg c0; clear hS' hB; (go_simp; first | with_reducible rfl | rfl)
              try simp only [Act.put, List.setIfInBounds_toArray, List.set_cons_zero, List.set_cons_succ]
              refine hd_pure (v := ?_) (by rfl) (fun W' hS' => ?_) ?_ -- 9
              rotate_left
              · have hl := run_look_none (P := Tryd.prog) Tryd.underlying72 Tryd.underlying9 hS'.1.m1 (Tryd.zeroValue25 _) HF.out true; obtain ⟨v, hB, _⟩ := hS'.1.blk; have cg := hB.cell 0; have c0 := hS'.2.b.cell 0; simp only [Blb.cells, List.getElem?_cons_zero] at cg c0; clear hS' hB; (go_simp; first | with_reducible rfl | rfl)
              try simp only [Act.put, List.setIfInBounds_toArray, List.set_cons_zero, List.set_cons_succ]
              refine hd_pure (v := ?_) (by rfl) (fun W' hS' => ?_) ?_ -- 10
              rotate_left
              · have hl := run_look_none (P := Tryd.prog) Tryd.underlying72 Tryd.underlying9 hS'.1.m1 (Tryd.zeroValue25 _) HF.out true; obtain ⟨v, hB, _⟩ := hS'.1.blk; have cg := hB.cell 0; have c0 := hS'.2.b.cell 0; simp only [Blb.cells, List.getElem?_cons_zero] at cg c0; clear hS' hB; (go_simp; first | with_reducible rfl | rfl)
              try simp only [Act.put, List.setIfInBounds_toArray, List.set_cons_zero, List.set_cons_succ]
              refine hd_pure (v := ?_) (by rfl) (fun W' hS' => ?_) ?_ -- 11
              rotate_left
              · have hl := run_look_none (P := Tryd.prog) Tryd.underlying72 Tryd.underlying9 hS'.1.m1 (Tryd.zeroValue25 _) HF.out true; obtain ⟨v, hB, _⟩ := hS'.1.blk; have cg := hB.cell 0; have c0 := hS'.2.b.cell 0; simp only [Blb.cells, List.getElem?_cons_zero] at cg c0; clear hS' hB; (go_simp; first | with_reducible rfl | rfl)
              try simp only [Act.put, List.setIfInBounds_toArray, List.set_cons_zero, List.set_cons_succ]
              refine hd_nil ?_
              obtain ⟨hR, hX⟩ := hSW
              refine wpList_nil (NoPanic.normal ?_)
              go_upto_region 17 with fail
              refine reg_sch2 9 [(true, 0), (true, 1), (true, 2), (true, 3), (true, 4), (true, 5), (true, 6), (true, 7), (false, 8)] (by kernel_rfl) (by kernel_rfl) (fun W => RepoAt W w.heap.size g b1 b2 es [] ∧ BlkLo w wr.heap.size x W) (fun W => RepoAt W w.heap.size g b1 b2 es [] ∧ BlkLo w wr.heap.size x W) ?_ ?_ ?_
              · exact ⟨hR.drew, hX.drew⟩
              · exact fun _ h => h
              intro W hSW
              simp only [List.map_cons, List.map_nil, List.getD_cons_zero, List.getD_cons_succ, List.drop_succ_cons, List.drop_zero]
              refine hd_pure (v := ?_) (by rfl) (fun W' hS' => ?_) ?_ -- 0
              rotate_left
              · obtain ⟨v, hB, _⟩ := hS'.1.blk; have cg := hB.cell 0; have c0 := hS'.2.b.cell 0; have c1 := hS'.2.b.cell 1; simp only [Blb.cells, List.getElem?_cons_zero, List.getElem?_cons_succ] at cg c0 c1; clear hS' hB; (go_simp; first | with_reducible rfl | rfl)
              try simp only [Act.put, List.setIfInBounds_toArray, List.set_cons_zero, List.set_cons_succ]
              refine hd_pure (v := ?_) (by rfl) (fun W' hS' => ?_) ?_ -- 1
              rotate_left
              · obtain ⟨v, hB, _⟩ := hS'.1.blk; have cg := hB.cell 0; have c0 := hS'.2.b.cell 0; have c1 := hS'.2.b.cell 1; simp only [Blb.cells, List.getElem?_cons_zero, List.getElem?_cons_succ] at cg c0 c1; clear hS' hB; (go_simp; first | with_reducible rfl | rfl)
              try simp only [Act.put, List.setIfInBounds_toArray, List.set_cons_zero, List.set_cons_succ]
              refine hd_pure (v := ?_) (by rfl) (fun W' hS' => ?_) ?_ -- 2
              rotate_left
              · obtain ⟨v, hB, _⟩ := hS'.1.blk; have cg := hB.cell 0; have c0 := hS'.2.b.cell 0; have c1 := hS'.2.b.cell 1; simp only [Blb.cells, List.getElem?_cons_zero, List.getElem?_cons_succ] at cg c0 c1; clear hS' hB; (go_simp; first | with_reducible rfl | rfl)
              try simp only [Act.put, List.setIfInBounds_toArray, List.set_cons_zero, List.set_cons_succ]
              refine hd_pure (v := ?_) (by rfl) (fun W' hS' => ?_) ?_ -- 3
              rotate_left
              · obtain ⟨v, hB, _⟩ := hS'.1.blk; have cg := hB.cell 0; have c0 := hS'.2.b.cell 0; have c1 := hS'.2.b.cell 1; simp only [Blb.cells, List.getElem?_cons_zero, List.getElem?_cons_succ] at cg c0 c1; clear hS' hB; (go_simp; first | with_reducible rfl | rfl)
              try simp only [Act.put, List.setIfInBounds_toArray, List.set_cons_zero, List.set_cons_succ]
              refine hd_pure (v := ?_) (by rfl) (fun W' hS' => ?_) ?_ -- 4
              rotate_left
              · obtain ⟨v, hB, _⟩ := hS'.1.blk; have cg := hB.cell 0; have c0 := hS'.2.b.cell 0; have c1 := hS'.2.b.cell 1; simp only [Blb.cells, List.getElem?_cons_zero, List.getElem?_cons_succ] at cg c0 c1; clear hS' hB; (go_simp; first | with_reducible rfl | rfl)
              try simp only [Act.put, List.setIfInBounds_toArray, List.set_cons_zero, List.set_cons_succ]
              refine hd_pure (v := ?_) (by rfl) (fun W' hS' => ?_) ?_ -- 5
              rotate_left
              · obtain ⟨v, hB, _⟩ := hS'.1.blk; have cg := hB.cell 0; have c0 := hS'.2.b.cell 0; have c1 := hS'.2.b.cell 1; simp only [Blb.cells, List.getElem?_cons_zero, List.getElem?_cons_succ] at cg c0 c1; clear hS' hB; (go_simp; first | with_reducible rfl | rfl)
              try simp only [Act.put, List.setIfInBounds_toArray, List.set_cons_zero, List.set_cons_succ]
              refine hd_pure (v := ?_) (by rfl) (fun W' hS' => ?_) ?_ -- 6
              rotate_left
              · obtain ⟨v, hB, _⟩ := hS'.1.blk; have cg := hB.cell 0; have c0 := hS'.2.b.cell 0; have c1 := hS'.2.b.cell 1; simp only [Blb.cells, List.getElem?_cons_zero, List.getElem?_cons_succ] at cg c0 c1; clear hS' hB; (go_simp; first | with_reducible rfl | rfl)
              try simp only [Act.put, List.setIfInBounds_toArray, List.set_cons_zero, List.set_cons_succ]
              refine hd_pure (v := ?_) (by rfl) (fun W' hS' => ?_) ?_ -- 7
              rotate_left
              · obtain ⟨v, hB, _⟩ := hS'.1.blk; have cg := hB.cell 0; have c0 := hS'.2.b.cell 0; have c1 := hS'.2.b.cell 1; simp only [Blb.cells, List.getElem?_cons_zero, List.getElem?_cons_succ] at cg c0 c1; clear hS' hB; (go_simp; first | with_reducible rfl | rfl)
              try simp only [Act.put, List.setIfInBounds_toArray, List.set_cons_zero, List.set_cons_succ]
              refine hd_sole (by rfl) (fun K hK => ?_) -- 8
              go_simp
              refine (clone_any x.bs x.A x.c w.heap.size hfin.bl _ hSW.2.lo.size (hfin.rd.below hSW.2.lo (Nat.le_refl _))).mono ?_; rintro e w' ⟨A2, c2, rfl, hrf, hb⟩; replace hrf := own_base_mono hrf hSW.1.gsize
              refine hK _ _ (⟨hSW.1.next hb, hSW.2.next hb⟩) ?_
              clear hK K hSW
              intro hSW
              clear hb
              try simp only [Act.put, List.setIfInBounds_toArray, List.set_cons_zero, List.set_cons_succ]
              refine hd_nil ?_
              obtain ⟨hR, hX⟩ := hSW; have hput := run_put_new (P := Tryd.prog) (l := es.map Blb.kv) Tryd.underlying72 Tryd.underlying9 hR.m1 (.slice A2 x.bs.length c2) HF.out
              go_wp2_with fail
              refine NoPanic.normal ?_
              clear hput
              have hR2 := hR.put ⟨x.u, A2, c2, x.bs⟩ ⟨hrf, hfin.bl⟩
              have hlo2 := Below.setBlock' (b := b1) hX.lo (.map (mapEs (es.map Blb.kv ++ [(x.u, Value.slice A2 x.bs.length c2)])) (es.length + 1)) hR.l1
              rw [show (es ++ [(⟨x.u, A2, c2, x.bs⟩ : Blb)]).map Blb.kv = es.map Blb.kv ++ [(x.u, Value.slice A2 x.bs.length c2)] by rw [List.map_append]; rfl, show (es.map Blb.kv ++ [(x.u, Value.slice A2 x.bs.length c2)]).length = es.length + 1 by simp] at hR2
              go_wp2_with fail
              go_roundw
              case rel => exact ⟨k + 1, es ++ [⟨x.u, A2, c2, x.bs⟩], by omega, by go_num, hR2, hlo2, Lib.hid (HN2.out A2 c2)⟩
              case measure => simp [intOf]; omega
            · have hany : (es.map fun e => (e.u, e.bs)).any (fun q => x.u == q.1) = true := by
                cases h : (es.map fun e => (e.u, e.bs)).any (fun q => x.u == q.1)
                · rw [(findK_any x.u es).2 h] at hf; cases hf
                · rfl
              have HN2 := Lib.hid (show es.map (fun e => (e.u, e.bs)) = firstsOf (xs.take (k + 1)) by rw [HT.out, ← HG.out, addF, hany]; rfl)
              have HF := Lib.hid hf
              clear hf hany HG HT
              refine reg_sch2 12 [(true, 0), (true, 1), (true, 2), (true, 3), (true, 4), (true, 5), (true, 6), (true, 7), (true, 8), (true, 9), (true, 10), (true, 11)] (by kernel_rfl) (by kernel_rfl) (fun W => RepoAt W w.heap.size g b1 b2 es [] ∧ BlkLo w wr.heap.size x W) (fun W => RepoAt W w.heap.size g b1 b2 es [] ∧ BlkLo w wr.heap.size x W) ?_ ?_ ?_
              · exact ⟨hR.drew, hX.drew⟩
              · exact fun _ h => h
              intro W hSW
              simp only [List.map_cons, List.map_nil, List.getD_cons_zero, List.getD_cons_succ, List.drop_succ_cons, List.drop_zero]
              refine hd_pure (v := ?_) (by rfl) (fun W' hS' => ?_) ?_ -- 0
              rotate_left
              · have hl := run_look_some (P := Tryd.prog) Tryd.underlying72 Tryd.underlying9 hS'.1.m1 HF.out true; obtain ⟨v, hB, _⟩ := hS'.1.blk; have cg := hB.cell 0; have c0 := hS'.2.b.cell 0; simp only [Blb.cells, List.getElem?_cons_zero] at cg c0; clear hS' hB; (go_simp; first | with_reducible rfl | rfl)
              try simp only [Act.put, List.setIfInBounds_toArray, List.set_cons_zero, List.set_cons_succ]
              refine hd_pure (v := ?_) (by rfl) (fun W' hS' => ?_) ?_ -- 1
              rotate_left
              · have hl := run_look_some (P := Tryd.prog) Tryd.underlying72 Tryd.underlying9 hS'.1.m1 HF.out true; obtain ⟨v, hB, _⟩ := hS'.1.blk; have cg := hB.cell 0; have c0 := hS'.2.b.cell 0; simp only [Blb.cells, List.getElem?_cons_zero] at cg c0; clear hS' hB; (go_simp; first | with_reducible rfl | rfl)
              try simp only [Act.put, List.setIfInBounds_toArray, List.set_cons_zero, List.set_cons_succ]
              refine hd_pure (v := ?_) (by rfl) (fun W' hS' => ?_) ?_ -- 2
              rotate_left
              · have hl := run_look_some (P := Tryd.prog) Tryd.underlying72 Tryd.underlying9 hS'.1.m1 HF.out true; obtain ⟨v, hB, _⟩ := hS'.1.blk; have cg := hB.cell 0; have c0 := hS'.2.b.cell 0; simp only [Blb.cells, List.getElem?_cons_zero] at cg c0; clear hS' hB; (go_simp; first | with_reducible rfl | rfl)
              try simp only [Act.put, List.setIfInBounds_toArray, List.set_cons_zero, List.set_cons_succ]
              refine hd_pure (v := ?_) (by rfl) (fun W' hS' => ?_) ?_ -- 3
              rotate_left
              · have hl := run_look_some (P := Tryd.prog) Tryd.underlying72 Tryd.underlying9 hS'.1.m1 HF.out true; obtain ⟨v, hB, _⟩ := hS'.1.blk; have cg := hB.cell 0; have c0 := hS'.2.b.cell 0; simp only [Blb.cells, List.getElem?_cons_zero] at cg c0; clear hS' hB; (go_simp; first | with_reducible rfl | rfl)
              try simp only [Act.put, List.setIfInBounds_toArray, List.set_cons_zero, List.set_cons_succ]
              refine hd_pure (v := ?_) (by rfl) (fun W' hS' => ?_) ?_ -- 4
              rotate_left
              · have hl := run_look_some (P := Tryd.prog) Tryd.underlying72 Tryd.underlying9 hS'.1.m1 HF.out true; obtain ⟨v, hB, _⟩ := hS'.1.blk; have cg := hB.cell 0; have c0 := hS'.2.b.cell 0; simp only [Blb.cells, List.getElem?_cons_zero] at cg c0; clear hS' hB; (go_simp; first | with_reducible rfl | rfl)
              try simp only [Act.put, List.setIfInBounds_toArray, List.set_cons_zero, List.set_cons_succ]
              refine hd_pure (v := ?_) (by rfl) (fun W' hS' => ?_) ?_ -- 5
              rotate_left
              · have hl := run_look_some (P := Tryd.prog) Tryd.underlying72 Tryd.underlying9 hS'.1.m1 HF.out true; obtain ⟨v, hB, _⟩ := hS'.1.blk; have cg := hB.cell 0; have c0 := hS'.2.b.cell 0; simp only [Blb.cells, List.getElem?_cons_zero] at cg c0; clear hS' hB; (go_simp; first | with_reducible rfl | rfl)
              try simp only [Act.put, List.setIfInBounds_toArray, List.set_cons_zero, List.set_cons_succ]
              refine hd_pure (v := ?_) (by rfl) (fun W' hS' => ?_) ?_ -- 6
              rotate_left
              · have hl := run_look_some (P := Tryd.prog) Tryd.underlying72 Tryd.underlying9 hS'.1.m1 HF.out true; obtain ⟨v, hB, _⟩ := hS'.1.blk; have cg := hB.cell 0; have c0 := hS'.2.b.cell 0; simp only [Blb.cells, List.getElem?_cons_zero] at cg c0; clear hS' hB; (go_simp; first | with_reducible rfl | rfl)
              try simp only [Act.put, List.setIfInBounds_toArray, List.set_cons_zero, List.set_cons_succ]
              refine hd_pure (v := ?_) (by rfl) (fun W' hS' => ?_) ?_ -- 7
              rotate_left
              · have hl := run_look_some (P := Tryd.prog) Tryd.underlying72 Tryd.underlying9 hS'.1.m1 HF.out true; obtain ⟨v, hB, _⟩ := hS'.1.blk; have cg := hB.cell 0; have c0 := hS'.2.b.cell 0; simp only [Blb.cells, List.getElem?_cons_zero] at cg c0; clear hS' hB; (go_simp; first | with_reducible rfl | rfl)
              try simp only [Act.put, List.setIfInBounds_toArray, List.set_cons_zero, List.set_cons_succ]
              refine hd_pure (v := ?_) (by rfl) (fun W' hS' => ?_) ?_ -- 8
              rotate_left
              · have hl := run_look_some (P := Tryd.prog) Tryd.underlying72 Tryd.underlying9 hS'.1.m1 HF.out true; obtain ⟨v, hB, _⟩ := hS'.1.blk; have cg := hB.cell 0; have c0 := hS'.2.b.cell 0; simp only [Blb.cells, List.getElem?_cons_zero] at cg c0; clear hS' hB; (go_simp; first | with_reducible rfl | rfl)
              try simp only [Act.put, List.setIfInBounds_toArray, List.set_cons_zero, List.set_cons_succ]
              refine hd_pure (v := ?_) (by rfl) (fun W' hS' => ?_) ?_ -- 9
              rotate_left
              · have hl := run_look_some (P := Tryd.prog) Tryd.underlying72 Tryd.underlying9 hS'.1.m1 HF.out true; obtain ⟨v, hB, _⟩ := hS'.1.blk; have cg := hB.cell 0; have c0 := hS'.2.b.cell 0; simp only [Blb.cells, List.getElem?_cons_zero] at cg c0; clear hS' hB; (go_simp; first | with_reducible rfl | rfl)
              try simp only [Act.put, List.setIfInBounds_toArray, List.set_cons_zero, List.set_cons_succ]
              refine hd_pure (v := ?_) (by rfl) (fun W' hS' => ?_) ?_ -- 10
              rotate_left
              · have hl := run_look_some (P := Tryd.prog) Tryd.underlying72 Tryd.underlying9 hS'.1.m1 HF.out true; obtain ⟨v, hB, _⟩ := hS'.1.blk; have cg := hB.cell 0; have c0 := hS'.2.b.cell 0; simp only [Blb.cells, List.getElem?_cons_zero] at cg c0; clear hS' hB; (go_simp; first | with_reducible rfl | rfl)
              try simp only [Act.put, List.setIfInBounds_toArray, List.set_cons_zero, List.set_cons_succ]
              refine hd_pure (v := ?_) (by rfl) (fun W' hS' => ?_) ?_ -- 11
              rotate_left
              · have hl := run_look_some (P := Tryd.prog) Tryd.underlying72 Tryd.underlying9 hS'.1.m1 HF.out true; obtain ⟨v, hB, _⟩ := hS'.1.blk; have cg := hB.cell 0; have c0 := hS'.2.b.cell 0; simp only [Blb.cells, List.getElem?_cons_zero] at cg c0; clear hS' hB; (go_simp; first | with_reducible rfl | rfl)
              try simp only [Act.put, List.setIfInBounds_toArray, List.set_cons_zero, List.set_cons_succ]
              refine hd_nil ?_
              obtain ⟨hR, hX⟩ := hSW
              refine wpList_nil (NoPanic.normal ?_)
              go_wp2_with fail
              go_roundw
              case rel => exact ⟨k + 1, es, by omega, by go_num, hR, hX.lo, HN2⟩
              case measure => simp [intOf]; omega
          · have hkk : k = xs.length := by omega
            subst hkk
            go_wp2_with fail
            refine bodyPost_ret (v := .tuple #[.pointer (some ⟨g, 0, none⟩), .int .i64 0]) (by simp [results, Tryd.results17, go_sem]) rfl ⟨?_, hlo⟩
            unfold NewPost
            rw [HQ.out]
            exact ⟨g, b1, b2, es, rfl, hR, by rw [HG.out, List.take_length]⟩
      · go_wp2_with fail
        exact bodyPost_ret (v := .tuple #[.pointer none, .int .i64 5]) (by simp [results, Tryd.results17, go_sem]) rfl ⟨by unfold NewPost; rw [HA.out, HLG.out]; rfl, hlo⟩
end Go.Proofs.YtmoldmnhijcckaaDoor
