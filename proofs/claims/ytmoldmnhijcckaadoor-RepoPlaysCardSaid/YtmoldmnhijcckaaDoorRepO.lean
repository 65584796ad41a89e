/- The contract of repo's Only. -/
import Derived.Test.YtmoldmnhijcckaaDoorRepA
import Derived.Test.YtmoldmnhijcckaaDoorBld
set_option linter.unusedVariables false
set_option linter.unusedSectionVars false
set_option linter.unusedSimpArgs false
namespace Go.Proofs.YtmoldmnhijcckaaDoor
open Go.RowKit
def onlyF (es : List Blb) (ks : List ByteArray) : List (ByteArray × List UInt8) := ks.filterMap fun u => (getK es u).map fun bs => (u, bs)
theorem info_blbO : (Tryd.prog.info? 27).map (fun i => (i.zero, i.size, i.bytes)) = some (some (.agg zBlb.toArray), 2, 40) := by kernel_rfl
theorem reads_blkO {w : World} {g n size : Nat} {t : TypeId} {cs : List Value} (h : Blk w g t cs) (hl : cs.length = n * size) : Reads w (g + 1) size (some ⟨g, 0, none⟩) n cs :=
  ⟨hl, fun _ => ⟨_, rfl, Nat.lt_succ_self _, fun j u hu => by rw [add_plain', Nat.zero_add, h.cell, hu]⟩⟩
theorem own_grown {w w' : World} {b1 n size : Nat} {e : TypeId} {v : Value} {x : List Value} {row : Option Nat} (h : w.ownsRow b1 e size v n x) (hg : w.grownBy w' row) (hne : ∀ k, v.ownBlock = some k → row ≠ some k) : w'.ownsRow b1 e size v n x :=
  own_kept h fun k hk => hg.block k (own_base_le h k hk).2 fun e => hne k hk e.symm
/-- A blob whose bytes lie in a row of the call's own. -/
def OwnB (w : World) (base : Nat) (y : Blb) : Prop := w.ownsRow base 5 1 (.slice y.A y.bs.length y.c) y.bs.length (y.bs.map bv) ∧ y.bs.length ≤ 140737488355000
structure OS (w : World) (es : List Blb) (ks : List ByteArray) (k : Nat) (v : Value) (ys : List Blb) (W : World) : Prop where
  o : W.ownsRow w.heap.size 27 2 v ys.length (ys.flatMap Blb.cells)
  b : ∀ y ∈ ys, OwnB W w.heap.size y
  lo : Below w.heap.size w W
  e : ys.map (fun y => (y.u, y.bs)) = onlyF es (ks.take k)
  l : ys.length ≤ k
set_option maxRecDepth 100000 in
set_option maxHeartbeats 4000000 in
theorem only_any (w : World) (lo g b1 b2 : Nat) (es : List Blb) (ks : List ByteArray) (h : RepoAt w lo g b1 b2 es ks) (hk : ks.length ≤ 1000000) :
    Calls Tryd.prog 26 #[.pointer (some ⟨g, 0, none⟩)] w fun e w' => ∃ (A : Option Addr) (c : Nat) (ys : List Blb), e = .returned (.slice A ys.length c) ∧ w'.ownsRow w.heap.size 27 2 (.slice A ys.length c) ys.length (ys.flatMap Blb.cells) ∧ (∀ y ∈ ys, OwnB w' w.heap.size y) ∧ ys.map (fun y => (y.u, y.bs)) = onlyF es ks ∧ Below w.heap.size w w' := by
  obtain ⟨v, hB, ho⟩ := h.blk
  obtain ⟨A, c, rfl⟩ := own_slice' ho
  have c2 : w.cell? ⟨g, 2, none⟩ = some (.slice A ks.length c) := hB.cell 2
  obtain ⟨ib, hib, hbz0, hbz1, hbz2⟩ := info_parts info_blbO
  have hS : OS w es ks 0 (.slice none 0 0) [] w := ⟨World.ownsRow_nil _ _ _ _, fun y hy => by simp at hy, Below.refl _ _, rfl, by simp⟩
  go_enter Tryd.func26, Tryd.ntmps26
  go_wp2_with fail
  clear c2
  go_loopw [3, 5, 6, 7, 13] (fun v3 v5 v6 v7 i wr => ∃ (k : Nat) (ys : List Blb), k ≤ ks.length ∧ i = .int .i64 k ∧ OS w es ks k v3 ys wr) (fun _ _ _ _ i _ => ks.length - (intOf i).toNat)
  case atStart => exact ⟨0, [], by omega, rfl, hS⟩
  case round =>
    clear hS
    obtain ⟨k, ys, hkk, rfl, hS⟩ := hrel
    by_cases hlt : k < ks.length
    · have hk0 : (0 : Int) ≤ (k : Int) := by omega
      have hk1 : (k : Int) < (ks.length : Int) := by omega
      have hR := h.next hS.lo
      obtain ⟨v', hB', ho'⟩ := hR.blk
      have cg : wr.cell? ⟨g, 0, none⟩ = some (.map (some b1)) := hB'.cell 0
      obtain ⟨gg, rfl, _, hcl⟩ := own_at (own_below ho hS.lo) (by omega)
      have c1 : wr.cell? ⟨gg, k, none⟩ = some (.string ks[k]) := hcl k _ (by simp [hlt])
      have HT := Lib.hid (show onlyF es (ks.take (k + 1)) = onlyF es (ks.take k) ++ (match getK es ks[k] with | some bs => [(ks[k], bs)] | none => []) by
        unfold onlyF
        rw [List.take_succ_eq_append_getElem hlt, List.filterMap_append]
        congr 1
        simp only [List.filterMap_cons, List.filterMap_nil]
        cases getK es ks[k] <;> rfl)
      generalize ks[k] = u at c1 HT
      clear hcl hB' ho'
      rcases findK_get u es with ⟨hf, hg⟩ | ⟨x, hx, hf, hg⟩
      · have hl := run_look_none (P := Tryd.prog) Tryd.underlying72 Tryd.underlying9 hR.m1 (Tryd.zeroValue25 _) hf true
        have HX := Lib.hid (show onlyF es (ks.take (k + 1)) = onlyF es (ks.take k) by rw [HT.out, hg]; simp)
        clear hf hg HT
        go_wp2_with fail
        go_roundw
        case rel => exact ⟨k + 1, ys, by omega, by go_num, hS.o, hS.b, hS.lo, by rw [HX.out]; exact hS.e, by have := hS.l; omega⟩
        case measure => simp [intOf]; omega
      · have hl := run_look_some (P := Tryd.prog) Tryd.underlying72 Tryd.underlying9 hR.m1 hf true
        have HX := Lib.hid (show onlyF es (ks.take (k + 1)) = onlyF es (ks.take k) ++ [(u, x.bs)] by rw [HT.out, hg])
        obtain ⟨hxo, hxl⟩ := hR.rd x hx
        clear hf hg HT
        go_wp2_with fail
        refine (clone_any x.bs x.A x.c wr.heap.size hxl _ (Nat.le_refl _) (Reads.of_own hxo)).mono ?_
        rintro e w2 ⟨A2, c2, rfl, hc2, hb⟩
        have hS2o := own_below hS.o hb
        have hlo2 := below_then hS.lo (Nat.le_refl _) hb
        have hsz := hS.lo.size
        have hyl := hS.l
        have hS2b : ∀ y ∈ ys ++ [⟨u, A2, c2, x.bs⟩], OwnB w2 w.heap.size y := fun y hy => by
          rcases List.mem_append.1 hy with hy | hy
          · exact ⟨own_below (hS.b y hy).1 hb, (hS.b y hy).2⟩
          · obtain rfl := List.mem_singleton.1 hy
            exact ⟨own_base_mono hc2 hsz, hxl⟩
        clear cg c1 hl
        go_wp2_with (first | (refine wpList_build1 rfl 22 27 _ rfl (Blb.cells ⟨u, A2, c2, x.bs⟩) 2 rfl rfl Tryd.underlying22 (by kernel_rfl) (by kernel_rfl) (by omega) (by omega) ?_) | (at_builtin; refine wpList_append_any _ rfl _ _ 22 rfl w.heap.size 27 ib _ 2 40 Tryd.underlying22 hib hbz0 hbz1 hbz2 rfl (by omega) _ ys.length _ rfl (own_below hS2o ((Below.refl _ _).alloc (Nat.le_refl _) _)) (w2.heap.size + 1) (some ⟨w2.heap.size, 0, none⟩) 1 1 _ rfl (reads_blkO (Blk.new w2 _ (Blb.cells ⟨u, A2, c2, x.bs⟩)) rfl) (Blb.one ⟨u, A2, c2, x.bs⟩) (by simp only [maxLen]; omega) (by omega) (by have := hlo2.size; rw [World.size_alloc]; omega) ?_; intro v7 w7 ho7 hg7 _))
        have hlo7 := Below.grown (hlo2.alloc hlo2.size (.cells (Blb.cells ⟨u, A2, c2, x.bs⟩).toArray 27)) hg7 (by have := hlo2.size; rw [World.size_alloc]; omega) (fun k hk => (own_base_le hS2o k hk).1)
        have hb7 : ∀ y ∈ ys ++ [⟨u, A2, c2, x.bs⟩], OwnB w7 w.heap.size y := fun y hy => ⟨own_grown (own_below (hS2b y hy).1 ((Below.refl _ _).alloc (Nat.le_refl _) _)) hg7 (fun k hk => own_own_ne (own_below (hS2b y hy).1 ((Below.refl _ _).alloc (Nat.le_refl _) (.cells (Blb.cells ⟨u, A2, c2, x.bs⟩).toArray 27))) (own_below hS2o ((Below.refl _ _).alloc (Nat.le_refl _) _)) (by decide) k hk), (hS2b y hy).2⟩
        have hen := hS.e
        go_roundw
        case rel => exact ⟨k + 1, ys ++ [⟨u, A2, c2, x.bs⟩], by omega, by go_num, by rw [List.length_append, List.flatMap_append]; simpa using ho7, hb7, hlo7, by rw [HX.out, List.map_append, hen]; rfl, by simp; omega⟩
        case measure => simp [intOf]; omega
    · have hkk : k = ks.length := by omega
      subst hkk
      obtain ⟨A3, c3, rfl⟩ := own_slice' hS.o
      go_wp2_with fail
      go_ret
      exact ⟨A3, c3, ys, rfl, hS.o, hS.b, by rw [hS.e, List.take_length], hS.lo⟩
end Go.Proofs.YtmoldmnhijcckaaDoor
