/- A region that draws its order, walked along a tree of schedules: where two operations may come up, both ways are walked. For whatever program. -/
import Derived.Test.YtmoldmnhijcckaaDoorReg
namespace Go.Proofs.YtmoldmnhijcckaaDoor
open Go
inductive Sch (α : Type) where
  | nil : Sch α
  | op : Bool → α → Sch α → Sch α
  | fork : α → Sch α → α → Sch α → Sch α
namespace Sch
def map {α β : Type} (f : α → β) : Sch α → Sch β
  | nil => nil
  | op p x r => op p (f x) (r.map f)
  | fork x r y s => fork (f x) (r.map f) (f y) (s.map f)
def depth {α : Type} : Sch α → Nat
  | nil => 0
  | op _ _ r => r.depth + 1
  | fork _ r _ _ => r.depth + 1
end Sch
section
variable {P : Program} {ops : Array Oper} {Q : Exit → Act → World → Prop} {md : Region.Mode} {S : World → Prop}
def soleAt (P : Program) (ops : Array Oper) (Q : Exit → Act → World → Prop) (S : World → Prop) (o : Oper) (K : Act → World → Prop) (a : Act) (w : World) : Prop :=
  if Region.wanted o (yielded ops a.tmps) then o.wp P a w (fun a' w' => S w' ∧ K a' w') Q else K (a.put o.dst undef) w
def wpHt (P : Program) (ops : Array Oper) (Q : Exit → Act → World → Prop) (S : World → Prop) (T : Act → World → Prop) : Sch Oper → Act → World → Prop
  | .nil, a, w => T a w
  | .op true o r, a, w => ∃ v, YieldsIf P ops S o v a ∧ wpHt P ops Q S T r (a.put o.dst v) w
  | .op false o r, a, w => soleAt P ops Q S o (wpHt P ops Q S T r) a w
  | .fork o r o' s, a, w => soleAt P ops Q S o (wpHt P ops Q S T r) a w ∧ soleAt P ops Q S o' (wpHt P ops Q S T s) a w
def schTOk (md : Region.Mode) (ops : Array Oper) (n : Nat) : Sch Nat → Array Bool → Bool
  | .nil, listed => Region.seqB md ops (ops.size - n) n listed
  | .op true i r, listed => (Region.ready md ops listed).contains i && (Region.free md ops listed i && (decide (i < n) && schTOk md ops n r (listed.setIfInBounds i true)))
  | .op false i r, listed => decide (Region.ready md ops listed = [i]) && (decide (i < n) && schTOk md ops n r (listed.setIfInBounds i true))
  | .fork i r j s, listed => decide (Region.ready md ops listed = [i, j]) && (decide (i < n) && (decide (j < n) && (decide (s.depth = r.depth) && (schTOk md ops n r (listed.setIfInBounds i true) && schTOk md ops n s (listed.setIfInBounds j true)))))
theorem sole_op {n i f : Nat} {L : Array Bool → Act → World → Prop} {K : Act → World → Prop} {listed : Array Bool} {a : Act} {w : World} {oi : Oper} (hoi : ops[i]? = some oi) (hS : S w)
    (h : soleAt P ops Q S oi K a w) (hK : ∀ a' w', S w' → K a' w' → wpLH P md ops Q n S L f (listed.setIfInBounds i true) a' w') : wpOp P ops Q i (fun a' w' => S w' ∧ wpLH P md ops Q n S L f (listed.setIfInBounds i true) a' w') a w := by
  unfold wpOp
  simp only [hoi]
  unfold soleAt at h
  split
  · rename_i hw
    rw [if_pos hw] at h
    exact .inl (Oper.wp_mono (fun a' w' h' => ⟨h'.1, hK _ _ h'.1 h'.2⟩) h)
  · rename_i hw
    rw [if_neg hw] at h
    exact ⟨hS, hK _ _ hS h⟩
theorem ht_LH {n : Nat} {T : Act → World → Prop} (hsel : Region.noSelect ops = true) (hwt : ∀ listed, HeadInv md ops n listed → ∀ i, i < n → listed.getD i true = false → ∀ t, n ≤ t → t ∉ Region.ready md ops listed)
    (hQ : ∀ c a d v w, Q (.panic c) (Act.put a d v) w → Q (.panic c) a w) :
    ∀ (sch : Sch Nat) (listed : Array Bool) (a : Act) (w : World), schTOk md ops n sch listed = true → HeadInv md ops n listed → S w →
      wpHt P ops Q S T (sch.map fun x => ops.getD x default) a w → wpLH P md ops Q n S (fun listed' a' w' => Region.seqB md ops (ops.size - n) n listed' = true ∧ T a' w') sch.depth listed a w
  | .nil, listed, a, w, hB, inv, hS, h => ⟨hB, h⟩
  | .op true i r, listed, a, w, hB, inv, hS, h => by
    simp only [schTOk, Bool.and_eq_true, decide_eq_true_eq] at hB
    obtain ⟨hr, hf, hin, hB'⟩ := hB
    have hr' : i ∈ Region.ready md ops listed := by simpa using hr
    obtain ⟨_, oi, hoi, _⟩ := mem_ready.1 hr'
    have hd : ops.getD i default = oi := by rw [Array.getD_eq_getD_getElem?, hoi]; rfl
    obtain ⟨v, hy, hrest⟩ := h
    simp only [hd] at hy hrest
    exact wpLH_first hoi (Region.noSelect_spec hsel) (fun c a w hq => hQ c a _ _ w hq) hwt hin (fun listed' a' w' hL => seqB_ready hL.1) r.depth listed a w inv (Region.free_spec hoi hf) hr' hy hS
      (ht_LH hsel hwt hQ r _ _ _ hB' (inv.set hr' hin) hS hrest)
  | .op false i r, listed, a, w, hB, inv, hS, h => by
    simp only [schTOk, Bool.and_eq_true, decide_eq_true_eq] at hB
    obtain ⟨hr, hin, hB'⟩ := hB
    have hr' : i ∈ Region.ready md ops listed := by rw [hr]; simp
    obtain ⟨_, oi, hoi, _⟩ := mem_ready.1 hr'
    have hd : ops.getD i default = oi := by rw [Array.getD_eq_getD_getElem?, hoi]; rfl
    refine ⟨fun h0 => (by rw [h0] at hr'; cases hr'), fun j hj => ?_⟩
    rw [hr] at hj
    have hj' : j = i := by simpa using hj
    subst hj'
    simp only [Sch.map, wpHt, hd] at h
    exact ⟨hin, sole_op hoi hS h fun a' w' hS' h' => ht_LH hsel hwt hQ r _ _ _ hB' (inv.set hr' hin) hS' h'⟩
  | .fork i r j s, listed, a, w, hB, inv, hS, h => by
    simp only [schTOk, Bool.and_eq_true, decide_eq_true_eq] at hB
    obtain ⟨hr, hin, hjn, hds, hB1, hB2⟩ := hB
    have hri : i ∈ Region.ready md ops listed := by rw [hr]; simp
    have hrj : j ∈ Region.ready md ops listed := by rw [hr]; simp
    obtain ⟨_, oi, hoi, _⟩ := mem_ready.1 hri
    obtain ⟨_, oj, hoj, _⟩ := mem_ready.1 hrj
    have hdi : ops.getD i default = oi := by rw [Array.getD_eq_getD_getElem?, hoi]; rfl
    have hdj : ops.getD j default = oj := by rw [Array.getD_eq_getD_getElem?, hoj]; rfl
    simp only [Sch.map, wpHt, hdi, hdj] at h
    refine ⟨fun h0 => (by rw [h0] at hri; cases hri), fun k hk => ?_⟩
    rw [hr] at hk
    have hk' : k = i ∨ k = j := by simpa using hk
    rcases hk' with rfl | rfl
    · exact ⟨hin, sole_op hoi hS h.1 fun a' w' hS' h' => ht_LH hsel hwt hQ r _ _ _ hB1 (inv.set hri hin) hS' h'⟩
    · refine ⟨hjn, sole_op hoj hS h.2 fun a' w' hS' h' => ?_⟩
      have := ht_LH hsel hwt hQ s _ _ _ hB2 (inv.set hrj hjn) hS' h'
      rwa [hds] at this
theorem sch_map_getD (l : List Oper) : ∀ sch : Sch Nat, (sch.map fun x => l.toArray.getD x default) = sch.map fun x => l.getD x default
  | .nil => rfl
  | .op p x r => by simp only [Sch.map, sch_map_getD l r]; simp [Array.getD_eq_getD_getElem?, List.getD_eq_getElem?_getD]
  | .fork x r y s => by simp only [Sch.map, sch_map_getD l r, sch_map_getD l s]; simp [Array.getD_eq_getD_getElem?, List.getD_eq_getElem?_getD]
theorem reg_sch3 {id : Nat} {a : Act} {w : World} {l : List Oper} (n : Nat) (sch : Sch Nat) (hm : P.follows .mixedOrders = true)
    (hB : (Region.noSelect l.toArray && (decide (n ≤ l.toArray.size) && ((decide (n = l.toArray.size) || (Region.sinkB .any l.toArray n && Region.chainB .any l.toArray n)) && (decide (sch.depth = n) && schTOk .any l.toArray n sch (Array.replicate l.toArray.size false))))) = true)
    (S F : World → Prop) (hF : F w.drew) (hFS : ∀ W, F W → S W)
    (h : ∀ W, F W → wpHt P l.toArray (NoPanic Q) S (fun a' w' => wpList P l.toArray (NoPanic Q) (l.drop n) a' w') (sch.map fun x => l.getD x default) a W) : (Code.region id l.toArray true).wp P Q a w := by
  simp only [Bool.and_eq_true, Bool.or_eq_true, decide_eq_true_eq] at hB
  obtain ⟨hsel, hn, hsc, hlen, hok⟩ := hB
  have hwt : ∀ listed, HeadInv .any l.toArray n listed → ∀ i, i < n → listed.getD i true = false → ∀ t, n ≤ t → t ∉ Region.ready .any l.toArray listed := by
    intro listed inv i hin hun t ht hr
    rcases hsc with he | ⟨hs, hc⟩
    · obtain ⟨_, ot, hot, _⟩ := mem_ready.1 hr
      have := (Array.getElem?_eq_some_iff.1 hot).1
      omega
    · obtain ⟨_, ot, hot, _⟩ := mem_ready.1 hr
      have := (Array.getElem?_eq_some_iff.1 hot).1
      exact tail_waits hs hc (by omega) inv _ i rfl hin hun t ht hr
  have hdl : (l.drop n).length = l.toArray.size - n := by simp
  have inv0 : HeadInv .any l.toArray n (Array.replicate l.toArray.size false) :=
    ⟨by simp, fun j oj _ hl => (by rw [getD_replicate_false] at hl; cases hl), fun t _ ht => getD_in (by simpa using ht) (getD_replicate_false _ _)⟩
  have H := ht_LH (P := P) (Q := NoPanic Q) (S := S) (md := .any) hsel hwt (fun c a d v w hq => (hq : False).elim) sch _ a w.drew hok inv0 (hFS _ hF) (by rw [sch_map_getD]; exact h _ hF)
  refine wp_region_noPanic (wp_region_any hm ?_)
  have := wpAny_of_LH (Q := NoPanic Q) (g := l.toArray.size - n) (fun listed a' w' hL => by
    have := wpAny_of_seq (md := .any) (Q' := NoPanic Q) (l.drop n) n listed a' w' (fun j => by simp [List.getElem?_drop]) (by rw [hdl]; exact hL.1) hL.2
    rwa [hdl] at this) _ _ _ _ H
  rw [hlen, show n + (l.toArray.size - n) = l.toArray.size by omega] at this
  exact this
theorem ht_pure {T : Act → World → Prop} {o : Oper} {v : Value} {r : Sch Oper} {a : Act} {w : World} (hw : Region.wanted o (yielded ops a.tmps) = true)
    (h : ∀ W, S W → (execOp a.eval o).run P W = .ok (.value v) W) (hr : wpHt P ops Q S T r (a.put o.dst v) w) : wpHt P ops Q S T (.op true o r) a w := ⟨v, .inl ⟨hw, h⟩, hr⟩
theorem ht_skip {T : Act → World → Prop} {o : Oper} {r : Sch Oper} {a : Act} {w : World} (hw : Region.wanted o (yielded ops a.tmps) = false)
    (hr : wpHt P ops Q S T r (a.put o.dst undef) w) : wpHt P ops Q S T (.op true o r) a w := ⟨undef, .inr ⟨hw, rfl⟩, hr⟩
theorem ht_sole {T : Act → World → Prop} {o : Oper} {r : Sch Oper} {a : Act} {w : World} (hw : Region.wanted o (yielded ops a.tmps) = true)
    (h : ∀ K : Act → World → Prop, (∀ a' w', S w' → (S w' → wpHt P ops Q S T r a' w') → K a' w') → o.wp P a w K Q) : wpHt P ops Q S T (.op false o r) a w := by
  unfold wpHt soleAt
  rw [if_pos hw]
  exact h _ (fun a' w' h1 h2 => ⟨h1, h2 h1⟩)
theorem ht_sole_skip {T : Act → World → Prop} {o : Oper} {r : Sch Oper} {a : Act} {w : World} (hw : Region.wanted o (yielded ops a.tmps) = false)
    (hr : wpHt P ops Q S T r (a.put o.dst undef) w) : wpHt P ops Q S T (.op false o r) a w := by
  unfold wpHt soleAt
  rw [if_neg (by simp [hw])]
  exact hr
theorem ht_fork {T : Act → World → Prop} {o o' : Oper} {r s : Sch Oper} {a : Act} {w : World} (h1 : wpHt P ops Q S T (.op false o r) a w) (h2 : wpHt P ops Q S T (.op false o' s) a w) : wpHt P ops Q S T (.fork o r o' s) a w := by
  unfold wpHt at h1 h2 ⊢
  exact ⟨h1, h2⟩
theorem ht_nil {T : Act → World → Prop} {a : Act} {w : World} (h : T a w) : wpHt P ops Q S T .nil a w := h
end
end Go.Proofs.YtmoldmnhijcckaaDoor
