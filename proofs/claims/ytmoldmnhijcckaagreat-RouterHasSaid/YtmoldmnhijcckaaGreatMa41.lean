/- A cache that goes on and a router that asks it: what is kept between two questions, as plain law. -/
import Derived.Test.YtmoldmnhijcckaaGreatMa39
import Derived.Test.YtmoldmnhijcckaaGreatMa40
import Derived.Test.YtmoldmnhijcckaaGreatMa38
import Derived.Shelf.SlMaps.Clone
import Derived.Ground.SlmcProg
import Derived.Test.YtmoldmnhijcckaaGreatProg
set_option linter.unusedVariables false
set_option linter.unusedSectionVars false
set_option linter.unusedSimpArgs false
namespace Go.Proofs.YtmoldmnhijcckaaGreat
open Go.RowKit
theorem nat32 : ∀ a, a < 18 → ∀ b, b < 18 → UInt32.ofNat a = UInt32.ofNat b → a = b := by decide
theorem ser32 {s0 : UInt32} {a b : Nat} (ha : a < 18) (hb : b < 18) (h : s0 + UInt32.ofNat a = s0 + UInt32.ofNat b) : a = b := by
  refine nat32 a ha b hb ?_
  have h2 := congrArg (fun x => x - s0) h
  simpa [UInt32.add_comm s0] using h2
structure HasInv (s0 : UInt32) (n : Nat) (st : UInt32 × List (List Vrp × UInt32)) : Prop where
  few : n ≤ 16
  sn : st.1 = s0 + UInt32.ofNat n
  nd : (st.2.map Prod.snd).Nodup
  rng : ∀ x ∈ st.2, ∃ j, j ≤ n ∧ x.2 = s0 + UInt32.ofNat j
  last : ∀ s, st.2.getLast? = some s → s.2 = st.1
  rows : ∀ x ∈ st.2, Row x.1
/-- What a router has is what the cache had under that serial. -/
def RelQ (s0 : UInt32) (n : Nat) (L : List (List Vrp × UInt32)) (q : RoQ) : Prop :=
  q.s.h = none ∨ ∃ ks j, q.s.h = some (7, ks) ∧ j ≤ n ∧ q.s.sn = s0 + UInt32.ofNat j ∧ ∀ x ∈ L, x.2 = q.s.sn → ∀ y, y ∈ ks ↔ y ∈ x.1
theorem HasInv.start (s0 : UInt32) : HasInv s0 0 (s0, []) := ⟨by omega, by simp, by simp, fun x hx => (by cases hx), fun s hs => (by cases hs), fun x hx => (by cases hx)⟩
theorem upd_sub (l : List (List Vrp × UInt32)) : (updS l).Sublist l := by
  unfold updS
  split
  · exact List.drop_sublist _ _
  · exact List.Sublist.refl _
theorem updS_last' (l : List (List Vrp × UInt32)) (x : List Vrp × UInt32) : (updS (l ++ [x])).getLast? = some x := updS_last l x
theorem HasInv.step {s0 : UInt32} {n : Nat} {st : UInt32 × List (List Vrp × UInt32)} (h : HasInv s0 n st) (hn : n < 16) (xs : List Vrp) {q : RoQ} (hq : RelQ s0 n st.2 q) :
    ∃ n', n' ≤ n + 1 ∧ HasInv s0 n' (mkStep st xs) ∧ RelQ s0 n' (mkStep st xs).2 q ∧ ∃ s, (mkStep st xs).2.getLast? = some s := by
  unfold mkStep
  by_cases he : st.2.getLast?.map Prod.fst = some (rowOf xs)
  · rw [if_pos he]
    refine ⟨n, by omega, h, hq, ?_⟩
    cases hl : st.2.getLast? with
    | none => rw [hl] at he; cases he
    | some s => exact ⟨s, rfl⟩
  · rw [if_neg he]
    have hsn : st.1 + 1 = s0 + UInt32.ofNat (n + 1) := by
      rw [h.sn, UInt32.add_assoc]
      congr 1
      simp [UInt32.ofNat_add]
    have hmem : ∀ x ∈ updS (st.2 ++ [(rowOf xs, st.1 + 1)]), x ∈ st.2 ∨ x = (rowOf xs, st.1 + 1) := fun x hx => by
      rcases List.mem_append.1 ((upd_sub _).subset hx) with h1 | h1
      · exact .inl h1
      · exact .inr (List.mem_singleton.1 h1)
    refine ⟨n + 1, Nat.le_refl _, ⟨by omega, hsn, ?_, fun x hx => ?_, fun s hs => ?_, fun x hx => ?_⟩, ?_, _, updS_last _ _⟩
    · refine List.Nodup.sublist ((upd_sub _).map _) ?_
      rw [List.map_append, List.nodup_append]
      refine ⟨h.nd, by simp, fun a ha b hb e => ?_⟩
      obtain ⟨x, hx, rfl⟩ := List.mem_map.1 ha
      obtain ⟨j, hj, e2⟩ := h.rng x hx
      have hb' : b = st.1 + 1 := by simpa using hb
      rw [e2, hb', hsn] at e
      have := ser32 (by omega) (by omega) e
      omega
    · rcases hmem x hx with h1 | h1
      · obtain ⟨j, hj, e⟩ := h.rng x h1
        exact ⟨j, by omega, e⟩
      · exact ⟨n + 1, Nat.le_refl _, by rw [h1]; exact hsn⟩
    · rw [updS_last] at hs
      rw [← Option.some.inj hs]
    · rcases hmem x hx with h1 | h1
      · exact h.rows x h1
      · rw [h1]; exact Row.of xs
    · rcases hq with h0 | ⟨ks, j, h1, h2, h3, h4⟩
      · exact .inl h0
      · refine .inr ⟨ks, j, h1, by omega, h3, fun x hx hxs => ?_⟩
        rcases hmem x hx with h5 | h5
        · exact h4 x h5 hxs
        · rw [h5, hsn, h3] at hxs
          have := ser32 (by omega) (by omega) hxs
          omega
/-- A question, answered in two parts. -/
theorem sync_inv {s0 : UInt32} {n : Nat} {st : UInt32 × List (List Vrp × UInt32)} (h : HasInv s0 n st) {q : RoQ} (hb : q.b = false) (hl : q.l = []) (hq : RelQ s0 n st.2 q) {s : List Vrp × UInt32} (hs : st.2.getLast? = some s) :
    ∃ (p : Pdu) (ps : List Pdu) (q' : RoQ), (askQ q).2 = wrB p ∧ pduOk p = true ∧ takeG 7 st.2 p = (ps.flatMap wrB, true) ∧ takeQ (askQ q).1 (ps.flatMap wrB) = (q', 0) ∧ q'.b = false ∧ q'.l = [] ∧ RelQ s0 n st.2 q' ∧
      ((q'.s.h = none ∧ q.s.h ≠ none) ∨ ∃ ks, q'.s.h = some (7, ks) ∧ q'.s.sn = s.2 ∧ (∀ x, x ∈ ks ↔ x ∈ s.1) ∧ rowOf ks = s.1) := by
  have hsm := List.mem_of_getLast? hs
  obtain ⟨p, ps, q', h1, h2, h3, h4, h5, h6, h7, h8⟩ := sync_law q hb hl st.2 s hs h.rows (by
    rcases hq with h0 | ⟨ks, j, a1, a2, a3, a4⟩
    · exact .inl h0
    · exact .inr ⟨ks, a1, a4⟩)
  refine ⟨p, ps, q', h1, h2, h3, h5, h6, h7, ?_, ?_⟩
  · rcases h8 with ⟨h0, _⟩ | ⟨ks, a1, a2, a3⟩
    · exact .inl h0
    · refine .inr ⟨ks, n, a1, Nat.le_refl _, by rw [a2, h.last s hs, h.sn], fun x hx hxs => ?_⟩
      have hxe : x = s := map_inj_of_nodup Prod.snd h.nd hx hsm (by rw [hxs, a2])
      rw [hxe]
      exact a3
  · rcases h8 with h0 | ⟨ks, a1, a2, a3⟩
    · exact .inl h0
    · exact .inr ⟨ks, a1, a2, a3, by rw [rowOf_congr a3, (h.rows s hsm).self]⟩
end Go.Proofs.YtmoldmnhijcckaaGreat
/- A router in memory; router.New, waits, Ask. -/
set_option linter.unusedVariables false
set_option linter.unusedSectionVars false
set_option linter.unusedSimpArgs false
namespace Go.Proofs.YtmoldmnhijcckaaGreat
open Go.RowKit
/-- A table that a router holds: where its state lies and where its map, its session, its prefixes. -/
structure TbV where
  s : Nat
  m : Nat
  sess : Int
  ks : List Vrp
def TbV.abs (t : TbV) : Int × List Vrp := (t.sess, t.ks)
def tbP : Option TbV → Value
  | none => .pointer none
  | some t => .pointer (some ⟨t.s, 0, none⟩)
structure TbAt (W : World) (t : TbV) : Prop where
  b : Blk W t.s 78 [.int .i64 t.sess, .map (some t.m)]
  m : MapV W t.m t.ks
structure RoT where
  h : Option TbV
  sn : UInt32
  nx : Option TbV
  asked : Bool
  kind : Int
  lf : Lf
  broken : Bool
def RoT.abs (r : RoT) : RoS := ⟨r.h.map TbV.abs, r.sn, r.nx.map TbV.abs, r.asked, r.kind⟩
def RoT.q (r : RoT) : RoQ := ⟨r.abs, r.lf.bs, r.broken⟩
def RoT.cells (r : RoT) : List Value := [tbP r.h, .int .u32 r.sn.toNat, tbP r.nx, .bool r.asked, .int .i64 r.kind, r.lf.val, .bool r.broken]
def RoT.zero : RoT := ⟨none, 0, none, false, 0, ⟨none, 0, []⟩, false⟩
structure RtA0 (W : World) (g : Nat) (r : RoT) : Prop where
  blk : Blk W g 74 r.cells
  has : ∀ t, r.h = some t → TbAt W t
  nxt : ∀ t, r.nx = some t → TbAt W t
  left : Reads W W.heap.size 1 r.lf.A r.lf.bs.length (r.lf.bs.map bv) ∧ r.lf.bs.length ≤ r.lf.c
structure RtA (W : World) (g : Nat) (r : RoT) : Prop extends RtA0 W g r where
  ne : ∀ t t', r.h = some t → r.nx = some t' → t.m ≠ t'.m
theorem TbAt.next {W W' : World} {t : TbV} (h : TbAt W t) (hb : Below W.heap.size W W') : TbAt W' t := ⟨h.b.below hb h.b.lt, h.m.below hb⟩
theorem TbAt.kept {W W' : World} {t : TbV} (h : TbAt W t) (h1 : W'.heap[t.s]? = W.heap[t.s]?) (h2 : W'.heap[t.m]? = W.heap[t.m]?) : TbAt W' t := ⟨h1.trans h.b, h.m.kept h2⟩
theorem RtA.next {W W' : World} {g : Nat} {r : RoT} (h : RtA W g r) (hb : Below W.heap.size W W') : RtA W' g r :=
  ⟨⟨h.blk.below hb h.blk.lt, fun t ht => (h.has t ht).next hb, fun t ht => (h.nxt t ht).next hb, ((h.left.1.below hb (Nat.le_refl _)).more hb.size), h.left.2⟩, h.ne⟩
theorem RtA.drew {W : World} {g : Nat} {r : RoT} (h : RtA W g r) : RtA W.drew g r := h.next (Below.refl _ _).drew
theorem blk_map_ne {W : World} {g m : Nat} {t : TypeId} {cs : List Value} {ks : List Vrp} (h : Blk W g t cs) (h' : MapV W m ks) : m ≠ g := by
  rintro rfl
  obtain ⟨l, n, hh, _⟩ := h'
  unfold Blk at h
  rw [hh] at h
  cases h
theorem blk_typ_ne {W : World} {g g' : Nat} {t t' : TypeId} {cs cs' : List Value} (h : Blk W g t cs) (h' : Blk W g' t' cs') (hne : t ≠ t') : g ≠ g' := by
  rintro rfl
  unfold Blk at h h'
  rw [h] at h'
  injection h' with h'
  injection h' with _ h' _
  exact hne h'
theorem blkAdd (a : Addr) (i : Nat) : (a.add i).block = a.block := by unfold Addr.add; split <;> rfl
/-- Bytes are kept while a block of no bytes turns. -/
theorem Reads.offBlk {W W' : World} {B n : Nat} {A : Option Addr} {bs : List UInt8} (h : Reads W B 1 A n (bs.map bv)) {g : Nat} {t : TypeId} {cs : List Value} (hB : Blk W g t cs) (hcs : ∀ v ∈ cs, ∀ x : UInt8, v ≠ bv x)
    (hk : ∀ k, k < B → k ≠ g → W'.heap[k]? = W.heap[k]?) : Reads W' B 1 A n (bs.map bv) := by
  refine ⟨h.1, fun hn => ?_⟩
  obtain ⟨ad, e, hb, hc⟩ := h.2 hn
  have hne : ad.block ≠ g := fun e2 => by
    have hl : 0 < bs.length := by have := h.1; rw [List.length_map] at this; omega
    have h0 := hc 0 (bv bs[0]) (by simp [hl])
    have h2 : ∀ u, W.cell? (ad.add 0) = some u → u ∈ cs := fun u hu => by
      unfold World.cell? at hu
      have e3 : (ad.add 0).block = g := e2
      rw [e3] at hu
      unfold Blk at hB
      rw [hB] at hu
      simp at hu
      first | exact List.mem_of_getElem? hu | exact List.mem_of_getElem? hu.2
    exact hcs _ (h2 _ h0) _ rfl
  exact ⟨ad, e, hb, fun j u hu => (World.cell?_of_block (a := ad.add j) (hk (ad.add j).block (by rw [blkAdd]; exact hb) (by rw [blkAdd]; exact hne))).trans (hc j u hu)⟩
theorem Reads.offMap {W W' : World} {B n : Nat} {A : Option Addr} {bs : List UInt8} (h : Reads W B 1 A n (bs.map bv)) {m : Nat} {ks : List Vrp} (hM : MapV W m ks)
    (hk : ∀ k, k < B → k ≠ m → W'.heap[k]? = W.heap[k]?) : Reads W' B 1 A n (bs.map bv) := by
  refine ⟨h.1, fun hn => ?_⟩
  obtain ⟨ad, e, hb, hc⟩ := h.2 hn
  have hne : ad.block ≠ m := fun e2 => by
    have hl : 0 < bs.length := by have := h.1; rw [List.length_map] at this; omega
    have h0 := hc 0 (bv bs[0]) (by simp [hl])
    obtain ⟨l, nn, hh, _⟩ := hM
    have h2 : W.cell? (ad.add 0) = none := by
      unfold World.cell?
      have e3 : (ad.add 0).block = m := e2
      rw [e3, hh]
    rw [h0] at h2
    cases h2
  exact ⟨ad, e, hb, fun j u hu => (World.cell?_of_block (a := ad.add j) (hk (ad.add j).block (by rw [blkAdd]; exact hb) (by rw [blkAdd]; exact hne))).trans (hc j u hu)⟩
theorem tbP_bv (o : Option TbV) (x : UInt8) : tbP o ≠ bv x := by cases o <;> exact fun e => by cases e
theorem RoT.cells_bv (r : RoT) : ∀ v ∈ r.cells, ∀ x : UInt8, v ≠ bv x := by
  intro v hv x e
  simp only [RoT.cells, List.mem_cons, List.not_mem_nil, or_false] at hv
  rcases hv with rfl | rfl | rfl | rfl | rfl | rfl | rfl
  · exact tbP_bv _ _ e
  · cases e
  · exact tbP_bv _ _ e
  · cases e
  · cases e
  · cases e
  · cases e
/-- A cell of the router's own turns. -/
theorem RtA0.setG {W : World} {g : Nat} {r r' : RoT} (h : RtA0 W g r) (i : Nat) (u : Value) (hc : r.cells.set i u = r'.cells) (h1 : ∀ t, r'.h = some t → TbAt W t) (h2 : ∀ t, r'.nx = some t → TbAt W t)
    (h4 : Reads W W.heap.size 1 r'.lf.A r'.lf.bs.length (r'.lf.bs.map bv) ∧ r'.lf.bs.length ≤ r'.lf.c) : RtA0 (W.setCell ⟨g, i, none⟩ u) g r' := by
  have hset : ∀ k, k ≠ g → (W.setCell ⟨g, i, none⟩ u).heap[k]? = W.heap[k]? := fun k hk => Below.heap_setCell W ⟨g, i, none⟩ _ k hk
  have hT : ∀ t, TbAt W t → TbAt (W.setCell ⟨g, i, none⟩ u) t := fun t ht => ht.kept (hset _ (blk_typ_ne ht.b h.blk (by decide))) (hset _ (blk_map_ne h.blk ht.m))
  refine ⟨by have := h.blk.set_ i u; rw [hc] at this; exact this, fun t ht => hT t (h1 t ht), fun t ht => hT t (h2 t ht), ?_, h4.2⟩
  rw [World.size_setCell]
  exact h4.1.offBlk h.blk r.cells_bv fun k _ hk => hset k hk
theorem RtA.setG {W : World} {g : Nat} {r r' : RoT} (h : RtA W g r) (i : Nat) (u : Value) (hc : r.cells.set i u = r'.cells) (h1 : ∀ t, r'.h = some t → TbAt W t) (h2 : ∀ t, r'.nx = some t → TbAt W t) (h3 : ∀ t t', r'.h = some t → r'.nx = some t' → t.m ≠ t'.m)
    (h4 : Reads W W.heap.size 1 r'.lf.A r'.lf.bs.length (r'.lf.bs.map bv) ∧ r'.lf.bs.length ≤ r'.lf.c) : RtA (W.setCell ⟨g, i, none⟩ u) g r' := ⟨h.toRtA0.setG i u hc h1 h2 h4, h3⟩
/-- What else a router's step leaves alone, and where its maps lie behind it. -/
structure RFr (W W' : World) (g : Nat) (r r' : RoT) : Prop where
  os : W'.os = W.os
  tape : W'.tape = W.tape
  output : W'.output = W.output
  size : W.heap.size ≤ W'.heap.size
  keep : ∀ k, k < W.heap.size → k ≠ g → (∀ t, r.nx = some t → k ≠ t.m) → W'.heap[k]? = W.heap[k]?
  tabs : ∀ t', (r'.h = some t' ∨ r'.nx = some t') → (∃ t, (r.h = some t ∨ r.nx = some t) ∧ t.m = t'.m) ∨ W.heap.size ≤ t'.m
  nx : ∀ t', r'.nx = some t' → (∃ t, r.nx = some t ∧ t.m = t'.m) ∨ W.heap.size ≤ t'.m
theorem RFr.refl (W : World) (g : Nat) (r : RoT) : RFr W W g r r := ⟨rfl, rfl, rfl, Nat.le_refl _, fun _ _ _ _ => rfl, fun t ht => .inl ⟨t, ht, rfl⟩, fun t ht => .inl ⟨t, ht, rfl⟩⟩
theorem RFr.trans {A B C : World} {g : Nat} {r r1 r2 : RoT} (h : RFr A B g r r1) (k : RFr B C g r1 r2) : RFr A C g r r2 := by
  refine ⟨k.os.trans h.os, k.tape.trans h.tape, k.output.trans h.output, Nat.le_trans h.size k.size, fun i hi h1 h2 => ?_, fun t' ht' => ?_, fun t' ht' => ?_⟩
  · refine (k.keep i (Nat.lt_of_lt_of_le hi h.size) h1 fun t ht e => ?_).trans (h.keep i hi h1 h2)
    rcases h.nx t ht with ⟨t0, h0, e0⟩ | hle
    · exact h2 t0 h0 (e.trans e0.symm)
    · omega
  · rcases k.tabs t' ht' with ⟨t, ht, e⟩ | hle
    · rcases h.tabs t ht with ⟨t0, h0, e0⟩ | hle
      · exact .inl ⟨t0, h0, e0.trans e⟩
      · exact .inr (by omega)
    · exact .inr (Nat.le_trans h.size hle)
  · rcases k.nx t' ht' with ⟨t, ht, e⟩ | hle
    · rcases h.nx t ht with ⟨t0, h0, e0⟩ | hle
      · exact .inl ⟨t0, h0, e0.trans e⟩
      · exact .inr (by omega)
    · exact .inr (Nat.le_trans h.size hle)
theorem RFr.below {W W' : World} {g : Nat} {r : RoT} (h : Below W.heap.size W W') : RFr W W' g r r := ⟨h.os, h.tape, h.output, h.size, fun k hk _ _ => h.block k hk, fun t ht => .inl ⟨t, ht, rfl⟩, fun t ht => .inl ⟨t, ht, rfl⟩⟩
theorem RFr.then {A B C : World} {g : Nat} {r r1 : RoT} (h : RFr A B g r r1) (k : Below B.heap.size B C) : RFr A C g r r1 := h.trans (.below k)
theorem RFr.cell {W : World} {g i : Nat} {u : Value} {r r' : RoT} (h1 : ∀ t', (r'.h = some t' ∨ r'.nx = some t') → (r.h = some t' ∨ r.nx = some t')) (h2 : ∀ t', r'.nx = some t' → r.nx = some t') : RFr W (W.setCell ⟨g, i, none⟩ u) g r r' :=
  have hg := grown_setCell (grown_refl W (some g)) i u
  ⟨hg.os, hg.tape, hg.output, hg.size, fun k hk hne _ => hg.block k hk (fun e => hne (Option.some.inj e)), fun t ht => .inl ⟨t, h1 t ht, rfl⟩, fun t ht => .inl ⟨t, h2 t ht, rfl⟩⟩
/-- What lay below is kept, where neither the router nor the map of its answer lies there. -/
theorem RFr.lo {A B C : World} {g lo : Nat} {r r' : RoT} (h : Below lo A B) (k : RFr B C g r r') (hg : lo ≤ g) (hn : ∀ t, r.nx = some t → lo ≤ t.m) (hs : lo ≤ B.heap.size) : Below lo A C :=
  h.trans ⟨k.os, k.tape, k.output, k.size, fun i hi => k.keep i (by omega) (by omega) (fun t ht => by have := hn t ht; omega)⟩
set_option maxRecDepth 100000 in
set_option maxHeartbeats 1000000 in
theorem rnew_any (w : World) : Calls Tryz.prog 7 #[] w fun e w' => e = .returned (.pointer (some ⟨w.heap.size, 0, none⟩)) ∧ RtA w' w.heap.size RoT.zero ∧ Below w.heap.size w w' := by
  have hR : RtA (w.alloc (.cells #[.pointer none, .int .u32 0, .pointer none, .bool false, .int .i64 0, .slice none 0 0, .bool false] 74)) w.heap.size RoT.zero :=
    ⟨⟨blk_new' _ _ [_, _, _, _, _, _, _] _ (by simp), fun t ht => (by cases ht), fun t ht => (by cases ht), Reads.nil, Nat.le_refl _⟩, fun t t' ht => (by cases ht)⟩
  have hlo : Below w.heap.size w (w.alloc (.cells #[.pointer none, .int .u32 0, .pointer none, .bool false, .int .i64 0, .slice none 0 0, .bool false] 74)) := (Below.refl _ _).alloc (Nat.le_refl _) _
  go_enter Tryz.func7, Tryz.ntmps7
  go_wp2_with fail
  go_ret
  exact ⟨rfl, hR, hlo⟩
set_option maxRecDepth 100000 in
set_option maxHeartbeats 1000000 in
theorem rwaits_any (w : World) (g : Nat) (r : RoT) (h : RtA w g r) : Calls Tryz.prog 89 #[.pointer (some ⟨g, 0, none⟩)] w fun e w' => e = .returned (.bool r.abs.waits) ∧ w = w' := by
  have c2 := h.blk.cell 2
  have c3 := h.blk.cell 3
  simp only [RoT.cells, List.getElem?_cons_zero, List.getElem?_cons_succ] at c2 c3
  have HW := Lib.hid (show r.abs.waits = (r.asked && r.nx.isNone) by unfold RoS.waits RoT.abs; cases r.nx <;> rfl)
  clear h
  rw [HW.out]
  cases ha : r.asked
  · rw [ha] at c3
    clear HW ha
    go_enter Tryz.func89, Tryz.ntmps89
    go_wp2_with fail
    go_ret
    exact ⟨rfl, rfl⟩
  · rw [ha] at c3
    cases hn : r.nx with
    | none =>
      rw [hn] at c2
      simp only [tbP] at c2
      clear HW ha hn
      go_enter Tryz.func89, Tryz.ntmps89
      go_wp2_with fail
      go_ret
      exact ⟨rfl, rfl⟩
    | some t =>
      rw [hn] at c2
      simp only [tbP] at c2
      clear HW ha hn
      go_enter Tryz.func89, Tryz.ntmps89
      go_wp2_with fail
      go_ret
      exact ⟨rfl, rfl⟩
end Go.Proofs.YtmoldmnhijcckaaGreat
/-
  DERIVED: THE SHELF's CONTRACTS AT THIS DUMP, IN PLAIN WORDS (tools/lay-plain.mjs out of 'YtmoldmnhijcckaaGreatMcl.lean', which tools/lay-shelf.mjs wrote): THE SAME DECLARATIONS UNDER THE SAME NAMES: 'import', 'namespace', 'open', 'def', 'theorem' AND NOTHING ELSE: no command of the shelf's: FOR A HAND-IN. Each laying: the table of numbers ('.._ren') and one theorem, a field a fact of the dump's own or the kernel's comparison; each contract: ONE APPLICATION.
-/
namespace Go.Proofs
open Go.Shelf
def Tryz.cloneM_ren : Go.Shelf.Ren := ⟨fun | 5 => 115 | 7 => 127 | n => n, fun | 23 => 76 | 25 => 67 | 3 => 4 | 4 => 4 | 20 => 20 | n => n, fun | n => n⟩
theorem Tryz.cloneM : Go.Proofs.SlLaysW.n5 Tryz.prog Tryz.cloneM_ren := {
  mixed := by kernel_rfl
  f5 := ⟨Tryz.f115.name, by decide, Tryz.func115.trans (congrArg some (by kernel_rfl))⟩
  f7 := Tryz.func127.trans (congrArg some (by kernel_rfl))
  t4 := Tryz.underlying4
  a4 := Tryz.isAgg4
  z4 := Tryz.sizeOf4
  v4 := Tryz.zeroValue4
  t20 := Tryz.underlying20
  a20 := Tryz.isAgg20
  z20 := Tryz.sizeOf20
  v20 := Tryz.zeroValue20
  t23 := Tryz.underlying76
  a23 := Tryz.isAgg76
  z23 := Tryz.sizeOf76
  v23 := Tryz.zeroValue76 }
end Go.Proofs
/- maps.Clone at a map of rows. -/
set_option linter.unusedVariables false
set_option linter.unusedSectionVars false
set_option linter.unusedSimpArgs false
namespace Go.Proofs.YtmoldmnhijcckaaGreat
open Go.RowKit
theorem mclone_any (w : World) (b : Nat) (ks : List Vrp) (h : MapV w b ks) : Calls Tryz.prog 115 #[.map (some b)] w fun e w' => e = .returned (.map (some w.heap.size)) ∧ MapV w' w.heap.size ks ∧ Below w.heap.size w w' := by
  have hlt := h.lt
  obtain ⟨l, n, hh, hE⟩ := h
  have hc := AnyW.maps_Clone Tryz.cloneM b _ n w hh
  change Calls Tryz.prog 115 _ _ _ at hc
  refine hc.mono ?_
  rintro e w' ⟨rfl, rfl⟩
  exact ⟨rfl, ⟨l, n, heap_alloc_new w _, hE⟩, (Below.refl _ _).alloc (Nat.le_refl _) _⟩
end Go.Proofs.YtmoldmnhijcckaaGreat
