/- A region that draws its order, walked along one written schedule: pure operations and loads (that yield the same value in every world that meets S) in any place, the others where nothing else can come up; behind the head a tail in one forced order. For whatever program. -/
import Derived.OrdersHeld
import Derived.StillTail
import Derived.Deep.RegionHeld3
import Derived.Test.YtmoldmnhijcckaaGreatProg
import Derived.Test.YtmoldmnhijcckaaGreatMa00
import Derived.KernelRfl
import Derived.Laws.StructEq
import Derived.ChangeKeysEq
namespace Go.Proofs.YtmoldmnhijcckaaGreat
open Go
section
variable {P : Program} {ops : Array Oper} {Q : Exit → Act → World → Prop} {md : Region.Mode} {S : World → Prop}

def wpLH (P : Program) (md : Region.Mode) (ops : Array Oper) (Q : Exit → Act → World → Prop) (n : Nat) (S : World → Prop) (L : Array Bool → Act → World → Prop) : Nat → Array Bool → Act → World → Prop
  | 0, listed, a, w => L listed a w
  | f + 1, listed, a, w => Region.ready md ops listed ≠ [] ∧ ∀ i ∈ Region.ready md ops listed, i < n ∧ wpOp P ops Q i (fun a' w' => S w' ∧ wpLH P md ops Q n S L f (listed.setIfInBounds i true) a' w') a w

theorem wpAny_of_LH {n g : Nat} {L : Array Bool → Act → World → Prop} (hL : ∀ listed a w, L listed a w → wpAny P md ops Q g listed a w) :
    ∀ (f : Nat) (listed : Array Bool) (a : Act) (w : World), wpLH P md ops Q n S L f listed a w → wpAny P md ops Q (f + g) listed a w
  | 0, listed, a, w, h => by rw [Nat.zero_add]; exact hL _ _ _ h
  | f + 1, listed, a, w, h => by
    rw [show f + 1 + g = (f + g) + 1 by omega]
    exact ⟨fun h0 => absurd h0 h.1, fun i hi => wpOp_mono (fun a' w' h' => wpAny_of_LH hL f _ a' w' h'.2) (h.2 i hi).2⟩

theorem wpLH_first {n i : Nat} {oi : Oper} {v : Value} {L : Array Bool → Act → World → Prop} (hi : ops[i]? = some oi) (hsel : ∀ (j : Nat) (o : Oper) cs b, ops[j]? = some o → o.op ≠ .select cs b)
    (hQ : ∀ c a w, Q (.panic c) (a.put oi.dst v) w → Q (.panic c) a w)
    (hwt : ∀ listed, HeadInv md ops n listed → ∀ i, i < n → listed.getD i true = false → ∀ t, n ≤ t → t ∉ Region.ready md ops listed) (hin : i < n)
    (hdone : ∀ listed a w, L listed a w → ∀ j ∈ Region.ready md ops listed, n ≤ j) :
    ∀ (f : Nat) (listed : Array Bool) (a : Act) (w : World), HeadInv md ops n listed →
      (∀ j oj, ops[j]? = some oj → j ≠ i → listed.getD j true = false → (∀ e ∈ oj.after, Region.binds md e = true → e.on ≠ i) → oi.apart ops oj = true) →
      i ∈ Region.ready md ops listed → YieldsIf P ops S oi v a → S w →
      wpLH P md ops Q n S L f (listed.setIfInBounds i true) (a.put oi.dst v) w → wpLH P md ops Q n S L (f + 1) listed a w := by
  intro f
  induction f with
  | zero =>
    intro listed a w inv _ hr hy hS H
    have hun := (mem_ready.1 hr).1
    refine ⟨fun h => (by rw [h] at hr; cases hr), fun j hj => ?_⟩
    have hjn : j < n := by
      rcases Nat.lt_or_ge j n with h | h
      · exact h
      · exact absurd hj (hwt _ inv i hin hun j h)
    refine ⟨hjn, ?_⟩
    by_cases hji : j = i
    · subst hji; exact hy.wpOp hi hS ⟨hS, H⟩
    · have := hdone _ _ _ H j (ready_mono hj hji)
      omega
  | succ f ih =>
    intro listed a w inv hfree hr hy hS H
    have hun := (mem_ready.1 hr).1
    refine ⟨fun h => (by rw [h] at hr; cases hr), fun j hj => ?_⟩
    have hjn : j < n := by
      rcases Nat.lt_or_ge j n with h | h
      · exact h
      · exact absurd hj (hwt _ inv i hin hun j h)
    refine ⟨hjn, ?_⟩
    by_cases hji : j = i
    · subst hji; exact hy.wpOp hi hS ⟨hS, H⟩
    · have h1 := (H.2 j (ready_mono hj hji)).2
      obtain ⟨hjun, oj, hoj, hall⟩ := mem_ready.1 hj
      have hnot : ∀ e ∈ oj.after, Region.binds md e = true → e.on ≠ i := fun e he hb heq => by
        have h1 := hall e he hb
        rw [heq, getD_both hun] at h1
        cases h1
      have h2 := wpOp_putIf hoj (hfree j oj hoj hji hjun hnot) (fun cs b => hsel i oi cs b hi) (fun cs b => hsel j oj cs b hoj) hQ hy h1
      have hfree' : ∀ k ok, ops[k]? = some ok → k ≠ i → (listed.setIfInBounds j true).getD k true = false →
          (∀ e ∈ ok.after, Region.binds md e = true → e.on ≠ i) → oi.apart ops ok = true := fun k ok hk hki hun hno => by
        refine hfree k ok hk hki ?_ hno
        by_cases hjk : j = k
        · subst hjk; exact hjun
        · rw [getD_set_ne true hjk] at hun; exact hun
      refine wpOp_mono (fun a' w' h3 => ⟨h3.2.1, ih (listed.setIfInBounds j true) a' w' (inv.set hj hjn) hfree' (ready_mono hr (Ne.symm hji)) h3.1 h3.2.1 ?_⟩) h2
      rw [Array.setIfInBounds_comm _ _ hji]
      exact h3.2.2

/-- The walk along the schedule. 'true': pure under S. -/
def wpHd (P : Program) (ops : Array Oper) (Q : Exit → Act → World → Prop) (S : World → Prop) (T : Act → World → Prop) : List (Bool × Oper) → Act → World → Prop
  | [], a, w => T a w
  | (true, o) :: r, a, w => ∃ v, YieldsIf P ops S o v a ∧ wpHd P ops Q S T r (a.put o.dst v) w
  | (false, o) :: r, a, w => if Region.wanted o (yielded ops a.tmps) then o.wp P a w (fun a' w' => S w' ∧ wpHd P ops Q S T r a' w') Q else wpHd P ops Q S T r (a.put o.dst undef) w

def schOk (md : Region.Mode) (ops : Array Oper) (n : Nat) : List (Bool × Nat) → Array Bool → Bool
  | [], listed => Region.seqB md ops (ops.size - n) n listed
  | (true, i) :: r, listed => (Region.ready md ops listed).contains i && (Region.free md ops listed i && (decide (i < n) && schOk md ops n r (listed.setIfInBounds i true)))
  | (false, i) :: r, listed => decide (Region.ready md ops listed = [i]) && (decide (i < n) && schOk md ops n r (listed.setIfInBounds i true))

theorem hd_LH {n : Nat} {T : Act → World → Prop} (hsel : Region.noSelect ops = true) (hwt : ∀ listed, HeadInv md ops n listed → ∀ i, i < n → listed.getD i true = false → ∀ t, n ≤ t → t ∉ Region.ready md ops listed)
    (hQ : ∀ c a d v w, Q (.panic c) (Act.put a d v) w → Q (.panic c) a w) :
    ∀ (sch : List (Bool × Nat)) (listed : Array Bool) (a : Act) (w : World), schOk md ops n sch listed = true → HeadInv md ops n listed → S w →
      wpHd P ops Q S T (sch.map fun x => (x.1, ops.getD x.2 default)) a w → wpLH P md ops Q n S (fun listed' a' w' => Region.seqB md ops (ops.size - n) n listed' = true ∧ T a' w') sch.length listed a w
  | [], listed, a, w, hB, inv, hS, h => ⟨hB, h⟩
  | (true, i) :: r, listed, a, w, hB, inv, hS, h => by
    simp only [schOk, Bool.and_eq_true, decide_eq_true_eq] at hB
    obtain ⟨hr, hf, hin, hB'⟩ := hB
    have hr' : i ∈ Region.ready md ops listed := by simpa using hr
    obtain ⟨_, oi, hoi, _⟩ := mem_ready.1 hr'
    have hd : ops.getD i default = oi := by rw [Array.getD_eq_getD_getElem?, hoi]; rfl
    obtain ⟨v, hy, hrest⟩ := h
    simp only [hd] at hy hrest
    exact wpLH_first hoi (Region.noSelect_spec hsel) (fun c a w hq => hQ c a _ _ w hq) hwt hin (fun listed' a' w' hL => seqB_ready hL.1) r.length listed a w inv (Region.free_spec hoi hf) hr' hy hS
      (hd_LH hsel hwt hQ r _ _ _ hB' (inv.set hr' hin) hS hrest)
  | (false, i) :: r, listed, a, w, hB, inv, hS, h => by
    simp only [schOk, Bool.and_eq_true, decide_eq_true_eq] at hB
    obtain ⟨hr, hin, hB'⟩ := hB
    have hr' : i ∈ Region.ready md ops listed := by rw [hr]; simp
    obtain ⟨_, oi, hoi, _⟩ := mem_ready.1 hr'
    have hd : ops.getD i default = oi := by rw [Array.getD_eq_getD_getElem?, hoi]; rfl
    refine ⟨fun h0 => (by rw [h0] at hr'; cases hr'), fun j hj => ?_⟩
    rw [hr] at hj
    have hj' : j = i := by simpa using hj
    subst hj'
    refine ⟨hin, ?_⟩
    simp only [List.map_cons, wpHd, hd] at h
    unfold wpOp
    simp only [hoi]
    split
    · rename_i hw
      rw [if_pos hw] at h
      exact .inl (Oper.wp_mono (fun a' w' h' => ⟨h'.1, hd_LH hsel hwt hQ r _ _ _ hB' (inv.set hr' hin) h'.1 h'.2⟩) h)
    · rename_i hw
      rw [if_neg hw] at h
      exact ⟨hS, hd_LH hsel hwt hQ r _ _ _ hB' (inv.set hr' hin) hS h⟩

/-- **The region along a schedule**: of its first n operations, the tail in its own order. -/
theorem reg_sch1 {id : Nat} {a : Act} {w : World} {l : List Oper} (n : Nat) (sch : List (Bool × Nat)) (hm : P.follows .mixedOrders = true)
    (hB : (Region.noSelect l.toArray && (decide (n ≤ l.toArray.size) && ((decide (n = l.toArray.size) || (Region.sinkB .any l.toArray n && Region.chainB .any l.toArray n)) && (decide (sch.length = n) && schOk .any l.toArray n sch (Array.replicate l.toArray.size false))))) = true)
    (S : World → Prop) (hS : S w.drew)
    (h : wpHd P l.toArray (NoPanic Q) S (fun a' w' => wpList P l.toArray (NoPanic Q) (l.drop n) a' w') (sch.map fun x => (x.1, l.getD x.2 default)) a w.drew) : (Code.region id l.toArray true).wp P Q a w := by
  simp only [Bool.and_eq_true, Bool.or_eq_true, decide_eq_true_eq] at hB
  obtain ⟨hsel, hn, hsc, hlen, hok⟩ := hB
  have hwt : ∀ listed, HeadInv .any l.toArray n listed → ∀ i, i < n → listed.getD i true = false → ∀ t, n ≤ t → t ∉ Region.ready .any l.toArray listed := by
    intro listed inv i hin hun t ht hr
    rcases hsc with he | ⟨hs, hc⟩
    · obtain ⟨_, ot, hot, _⟩ := mem_ready.1 hr
      have := (Array.getElem?_eq_some_iff.1 hot).1
      omega
    · obtain ⟨_, ot, hot, _⟩ := mem_ready.1 hr
      have := (Array.getElem?_eq_some_iff.1 hot).1
      exact tail_waits hs hc (by omega) inv _ i rfl hin hun t ht hr
  have hdl : (l.drop n).length = l.toArray.size - n := by simp
  have inv0 : HeadInv .any l.toArray n (Array.replicate l.toArray.size false) :=
    ⟨by simp, fun j oj _ hl => (by rw [getD_replicate_false] at hl; cases hl), fun t _ ht => getD_in (by simpa using ht) (getD_replicate_false _ _)⟩
  have hmap : (sch.map fun x => (x.1, l.toArray.getD x.2 default)) = sch.map fun x => (x.1, l.getD x.2 default) := by
    apply List.map_congr_left
    intro x _
    simp [Array.getD_eq_getD_getElem?, List.getD_eq_getElem?_getD]
  have H := hd_LH (P := P) (Q := NoPanic Q) (S := S) (md := .any) hsel hwt (fun c a d v w hq => (hq : False).elim) sch _ a w.drew hok inv0 hS (by rw [hmap]; exact h)
  refine wp_region_noPanic (wp_region_any hm ?_)
  have := wpAny_of_LH (Q := NoPanic Q) (g := l.toArray.size - n) (fun listed a' w' hL => by
    have := wpAny_of_seq (md := .any) (Q' := NoPanic Q) (l.drop n) n listed a' w' (fun j => by simp [List.getElem?_drop]) (by rw [hdl]; exact hL.1) hL.2
    rwa [hdl] at this) _ _ _ _ H
  rw [hlen, show n + (l.toArray.size - n) = l.toArray.size by omega] at this
  exact this

theorem reg_sch2 {id : Nat} {a : Act} {w : World} {l : List Oper} (n : Nat) (sch : List (Bool × Nat)) (hm : P.follows .mixedOrders = true)
    (hB : (Region.noSelect l.toArray && (decide (n ≤ l.toArray.size) && ((decide (n = l.toArray.size) || (Region.sinkB .any l.toArray n && Region.chainB .any l.toArray n)) && (decide (sch.length = n) && schOk .any l.toArray n sch (Array.replicate l.toArray.size false))))) = true)
    (S F : World → Prop) (hF : F w.drew) (hFS : ∀ W, F W → S W)
    (h : ∀ W, F W → wpHd P l.toArray (NoPanic Q) S (fun a' w' => wpList P l.toArray (NoPanic Q) (l.drop n) a' w') (sch.map fun x => (x.1, l.getD x.2 default)) a W) : (Code.region id l.toArray true).wp P Q a w :=
  reg_sch1 n sch hm hB S (hFS _ hF) (h _ hF)

/-! The moves -/
theorem hd_pure {T : Act → World → Prop} {o : Oper} {v : Value} {r : List (Bool × Oper)} {a : Act} {w : World} (hw : Region.wanted o (yielded ops a.tmps) = true)
    (h : ∀ W, S W → (execOp a.eval o).run P W = .ok (.value v) W) (hr : wpHd P ops Q S T r (a.put o.dst v) w) : wpHd P ops Q S T ((true, o) :: r) a w := ⟨v, .inl ⟨hw, h⟩, hr⟩
theorem hd_skip {T : Act → World → Prop} {o : Oper} {r : List (Bool × Oper)} {a : Act} {w : World} (hw : Region.wanted o (yielded ops a.tmps) = false)
    (hr : wpHd P ops Q S T r (a.put o.dst undef) w) : wpHd P ops Q S T ((true, o) :: r) a w := ⟨undef, .inr ⟨hw, rfl⟩, hr⟩
theorem hd_sole {T : Act → World → Prop} {o : Oper} {r : List (Bool × Oper)} {a : Act} {w : World} (hw : Region.wanted o (yielded ops a.tmps) = true)
    (h : ∀ K : Act → World → Prop, (∀ a' w', S w' → (S w' → wpHd P ops Q S T r a' w') → K a' w') → o.wp P a w K Q) : wpHd P ops Q S T ((false, o) :: r) a w := by
  unfold wpHd
  rw [if_pos hw]
  exact h _ (fun a' w' h1 h2 => ⟨h1, h2 h1⟩)
theorem hd_sole_skip {T : Act → World → Prop} {o : Oper} {r : List (Bool × Oper)} {a : Act} {w : World} (hw : Region.wanted o (yielded ops a.tmps) = false)
    (hr : wpHd P ops Q S T r (a.put o.dst undef) w) : wpHd P ops Q S T ((false, o) :: r) a w := by
  unfold wpHd
  rw [if_neg (by simp [hw])]
  exact hr
theorem hd_nil {T : Act → World → Prop} {a : Act} {w : World} (h : T a w) : wpHd P ops Q S T [] a w := h
end
end Go.Proofs.YtmoldmnhijcckaaGreat
/- '==' and '!=' on prefixes, on a row's elements and on messages: the one Bool that says whether they are the same. -/
set_option linter.unusedVariables false
set_option linter.unusedSectionVars false
set_option linter.unusedSimpArgs false
namespace Go.Proofs.YtmoldmnhijcckaaGreat
open Go.RowKit
section
variable {P : Program} {d : Nat} {xs ys : Array Value} {f : Field} {fs : List Field} {a b : Value} {r s : Bool} {w : World}
theorem eqf_cons' (hn : (f.name == "_") = false) (ha : (part f.type xs f.offset).run P w = .ok a w) (hb : (part f.type ys f.offset).run P w = .ok b w) (he : (Op.equalIn d f.type a b).run P w = .ok r w) (hr : (Op.eqFields d xs ys fs).run P w = .ok s w) : (Op.eqFields d xs ys (f :: fs)).run P w = .ok (r && s) w := by
  have hn' : f.name ≠ "_" := by simpa using hn
  rw [Op.eqFields]
  simp only [if_pos hn', Sem.run_bind, ha, hb, he, Result.andThen_ok]
  cases r
  · simp
  · simpa using hr
theorem eqf_nil' : (Op.eqFields d xs ys []).run P w = .ok true w := by simp [Op.eqFields]
theorem eqA_of' {t : TypeId} {fs : Array Field} (hu : P.underlying t = some (.struct fs)) (hp : P.stoodInHeld t = false) (h : (Op.eqFields d xs ys fs.toList).run P w = .ok r w) : (Op.equalIn (d + 1) t (.agg xs) (.agg ys)).run P w = .ok r w := by
  have hf : P.fieldsOf t = fs := by simp [Program.fieldsOf, hu]
  rw [run_equalIn_struct (P := P) w d t xs ys (by rw [hf]; exact hu) hp, hf]
  exact h
theorem run_part_agg {e : TypeId} {i : TypeInfo} {kd : TypeDesc} (hu : P.underlying e = some kd) (hk : (∃ n e', kd = .array n e') ∨ (∃ fs, kd = .struct fs)) (hi : P.info? e = some i) (off : Nat) : (part e xs off).run P w = .ok (.agg (xs.extract off (off + P.cellsOf e))) w := by
  rcases hk with ⟨n, e', rfl⟩ | ⟨fs, rfl⟩ <;> simp [part, isAgg, run_underlying hu, run_sizeOf w hi]
theorem part_one {e : TypeId} (he : P.plainKey e = true) {l : List Value} {off : Nat} {v : Value} (hx : l[off]? = some v) : (part e l.toArray off).run P w = .ok v w := run_part_plain w he (by simpa using hx)
theorem ext_mid (pre mid post l : List Value) (o n : Nat) (e : l = pre ++ (mid ++ post)) (h : pre.length = o) (hn : o + mid.length = n) : l.toArray.extract o n = mid.toArray := by
  subst h; subst hn; subst e
  apply Array.ext'
  simp
theorem part_mid {e : TypeId} {kd : TypeDesc} (hu : P.underlying e = some kd) (hk : (∃ n e', kd = .array n e') ∨ (∃ fs, kd = .struct fs)) {n : Nat} (hc : P.cellsOf e = n) (hi : (P.info? e).isSome = true) {l : List Value} (pre mid post : List Value) (o : Nat) (el : l = pre ++ (mid ++ post)) (ho : pre.length = o) (hn : mid.length = n) :
    (part e l.toArray o).run P w = .ok (.agg mid.toArray) w := by
  obtain ⟨i, hi⟩ := Option.isSome_iff_exists.1 hi
  rw [run_part_agg hu hk hi, ext_mid pre mid post l o (o + P.cellsOf e) el ho (by rw [hc, hn])]
theorem eqItems_bytes {e : TypeId} (hu : P.underlying e = some (.int .u8)) (hc : P.cellsOf e = 1) (hk : P.plainKey e = true) (xs ys : List UInt8) (hl : xs.length = ys.length) :
    ∀ is : List Nat, (∀ i ∈ is, i < xs.length) → (Op.eqItems (d + 1) e (P.cellsOf e) (xs.map bv).toArray (ys.map bv).toArray is).run P w = .ok (is.all fun i => xs.getD i 0 == ys.getD i 0) w
  | [], _ => by simp [Op.eqItems]
  | i :: is, h => by
    have hi : i < xs.length := h i (by simp)
    have h1 : (part e (xs.map bv).toArray (i * P.cellsOf e)).run P w = .ok (bv (xs.getD i 0)) w := by
      rw [hc, Nat.mul_one]; exact part_one hk (by simp [List.getD_eq_getElem?_getD, hi])
    have h2 : (part e (ys.map bv).toArray (i * P.cellsOf e)).run P w = .ok (bv (ys.getD i 0)) w := by
      rw [hc, Nat.mul_one]; exact part_one hk (by simp [List.getD_eq_getElem?_getD, show i < ys.length by omega])
    have h3 : (Op.equalIn (d + 1) e (bv (xs.getD i 0)) (bv (ys.getD i 0))).run P w = .ok (xs.getD i 0 == ys.getD i 0) w := by
      unfold bv
      rw [run_equalIn_int w d e .u8 .u8 _ _ hu]
      congr 1
      rw [Bool.eq_iff_iff]
      simp only [beq_iff_eq]
      constructor
      · intro h; exact UInt8.toNat_inj.1 (by omega)
      · intro h; rw [h]
    simp only [Op.eqItems, Sem.run_bind, h1, h2, h3, Result.andThen_ok]
    cases hb : (xs.getD i 0 == ys.getD i 0)
    · have hb' : ¬ xs[i]?.getD 0 = ys[i]?.getD 0 := by simpa [List.getD_eq_getElem?_getD] using hb
      simp [hb']
    · have hb' : xs[i]?.getD 0 = ys[i]?.getD 0 := by simpa [List.getD_eq_getElem?_getD] using hb
      have := eqItems_bytes hu hc hk xs ys hl is (fun j hj => h j (by simp [hj]))
      simp only [Bool.not_true, Bool.false_eq_true, if_false, this]
      simp [hb']
theorem all_range_eq (xs ys : List UInt8) (hl : xs.length = ys.length) : ((List.range xs.length).all fun i => xs.getD i 0 == ys.getD i 0) = decide (xs = ys) := by
  rw [Bool.eq_iff_iff]
  simp only [List.all_eq_true, List.mem_range, beq_iff_eq, decide_eq_true_eq]
  constructor
  · intro h
    apply List.ext_getElem hl
    intro i h1 h2
    have := h i h1
    simpa [List.getD_eq_getElem?_getD, h1, h2] using this
  · rintro rfl _ _; rfl
end
theorem info5 : (Tryz.prog.info? 5).isSome = true := by kernel_rfl
theorem eq_a16 (d : Nat) (a b : A16) (w : World) : (Op.equalIn (d + 2) 63 (.agg a.cells.toArray) (.agg b.cells.toArray)).run Tryz.prog w = .ok (decide (a = b)) w := by
  obtain ⟨i, hi⟩ := Option.isSome_iff_exists.1 info5
  rw [run_equalIn_array w (d + 1) _ _ Tryz.underlying63 hi]
  have := eqItems_bytes (P := Tryz.prog) (d := d) (w := w) (e := 5) Tryz.underlying5 (by kernel_rfl) (by kernel_rfl) a.l b.l (by rw [a.h, b.h]) (List.range 16) (fun i hi => by rw [a.h]; simpa using hi)
  unfold A16.cells
  rw [this]
  have h2 := all_range_eq a.l b.l (by rw [a.h, b.h])
  rw [a.h] at h2
  have h3 : decide (a.l = b.l) = decide (a = b) := decide_eq_decide.2 ⟨A16.ext', fun h => by rw [h]⟩
  rw [h2, h3]
theorem stood25 : Tryz.prog.stoodInHeld 65 = false := by kernel_rfl
theorem stood27 : Tryz.prog.stoodInHeld 67 = false := by kernel_rfl
theorem pk3 : Tryz.prog.plainKey 3 = true := by kernel_rfl
theorem pk4 : Tryz.prog.plainKey 4 = true := by kernel_rfl
theorem pk22 : Tryz.prog.plainKey 28 = true := by kernel_rfl
theorem pk9 : Tryz.prog.plainKey 9 = true := by kernel_rfl
theorem info23 : (Tryz.prog.info? 63).isSome = true := by kernel_rfl
theorem info25 : (Tryz.prog.info? 65).isSome = true := by kernel_rfl
theorem info27 : (Tryz.prog.info? 67).isSome = true := by kernel_rfl
theorem cells23 : Tryz.prog.cellsOf 63 = 16 := by kernel_rfl
theorem cells25 : Tryz.prog.cellsOf 65 = 18 := by kernel_rfl
theorem cells27 : Tryz.prog.cellsOf 67 = 20 := by kernel_rfl
theorem Pfx.c0 (p : Pfx) : p.cells[0]? = some (.bool p.v6) := rfl
theorem Pfx.c17 (p : Pfx) : p.cells[17]? = some (.int .i64 p.len) := by
  simp only [Pfx.cells, List.getElem?_cons_succ]
  rw [List.getElem?_append_right (by simp [A16.cells_length])]
  simp [A16.cells_length]
theorem beq_int_decide (a b : Int) : (a == b) = decide (a = b) := by rw [Bool.eq_iff_iff]; simp
set_option maxRecDepth 100000 in
theorem eqIn_pfx (d : Nat) (p q : Pfx) (w : World) : (Op.equalIn (d + 3) 65 (.agg p.cells.toArray) (.agg q.cells.toArray)).run Tryz.prog w = .ok (decide (p = q)) w := by
  refine (eqA_of' Tryz.underlying65 stood25
    (eqf_cons' (by rfl) (part_one pk4 (Pfx.c0 p)) (part_one pk4 (Pfx.c0 q)) (run_equalIn_bool w _ _ _ _ Tryz.underlying4)
    (eqf_cons' (by rfl) (part_mid Tryz.underlying63 (.inl ⟨_, _, rfl⟩) cells23 info23 [.bool p.v6] p.a.cells [.int .i64 p.len] 1 rfl rfl p.a.cells_length) (part_mid Tryz.underlying63 (.inl ⟨_, _, rfl⟩) cells23 info23 [.bool q.v6] q.a.cells [.int .i64 q.len] 1 rfl rfl q.a.cells_length) (eq_a16 d p.a q.a w)
    (eqf_cons' (by rfl) (part_one pk3 (Pfx.c17 p)) (part_one pk3 (Pfx.c17 q)) (run_equalIn_int w _ _ .i64 .i64 _ _ Tryz.underlying3) eqf_nil')))).trans ?_
  refine congrArg (Result.ok · w) ?_
  obtain ⟨v, a, n⟩ := p
  obtain ⟨v', a', n'⟩ := q
  rw [Bool.eq_iff_iff]
  simp
theorem Vrp.c0 (p : Vrp) : p.cells[0]? = some (.int .u32 p.asn.toNat) := rfl
theorem Vrp.c19 (p : Vrp) : p.cells[19]? = some (.int .i64 p.mx) := by
  simp only [Vrp.cells, List.getElem?_cons_succ]
  rw [List.getElem?_append_right (by simp [Pfx.cells_length])]
  simp [Pfx.cells_length]
set_option maxRecDepth 100000 in
theorem eqIn_vrp (d : Nat) (p q : Vrp) (w : World) : (Op.equalIn (d + 4) 67 (.agg p.cells.toArray) (.agg q.cells.toArray)).run Tryz.prog w = .ok (decide (p = q)) w := by
  refine (eqA_of' Tryz.underlying67 stood27
    (eqf_cons' (by rfl) (part_one pk22 (Vrp.c0 p)) (part_one pk22 (Vrp.c0 q)) (run_equalIn_int w _ _ .u32 .u32 _ _ Tryz.underlying28)
    (eqf_cons' (by rfl) (part_mid Tryz.underlying65 (.inr ⟨_, rfl⟩) cells25 info25 [.int .u32 p.asn.toNat] p.p.cells [.int .i64 p.mx] 1 rfl rfl p.p.cells_length) (part_mid Tryz.underlying65 (.inr ⟨_, rfl⟩) cells25 info25 [.int .u32 q.asn.toNat] q.p.cells [.int .i64 q.mx] 1 rfl rfl q.p.cells_length) (eqIn_pfx d p.p q.p w)
    (eqf_cons' (by rfl) (part_one pk3 (Vrp.c19 p)) (part_one pk3 (Vrp.c19 q)) (run_equalIn_int w _ _ .i64 .i64 _ _ Tryz.underlying3) eqf_nil')))).trans ?_
  refine congrArg (Result.ok · w) ?_
  obtain ⟨v, a, n⟩ := p
  obtain ⟨v', a', n'⟩ := q
  rw [Bool.eq_iff_iff]
  simp only [Bool.and_true, Bool.and_eq_true, beq_iff_eq, decide_eq_true_eq, Vrp.mk.injEq]
  exact ⟨fun ⟨h1, h2, h3⟩ => ⟨UInt32.toNat_inj.1 (by omega), h2, h3⟩, fun ⟨h1, h2, h3⟩ => ⟨by rw [h1], h2, h3⟩⟩
theorem eq_pfx (p q : Pfx) (w : World) : (Go.binOp .eql 65 (.agg p.cells.toArray) (.agg q.cells.toArray)).run Tryz.prog w = .ok (.bool (decide (p = q))) w := by
  rw [run_eql_struct, eqIn_pfx 9997]; rfl
theorem neq_pfx (p q : Pfx) (w : World) : (Go.binOp .neq 65 (.agg p.cells.toArray) (.agg q.cells.toArray)).run Tryz.prog w = .ok (.bool (!decide (p = q))) w := by
  rw [run_neq_struct, eqIn_pfx 9997]; rfl
theorem eq_vrp (p q : Vrp) (w : World) : (Go.binOp .eql 67 (.agg p.cells.toArray) (.agg q.cells.toArray)).run Tryz.prog w = .ok (.bool (decide (p = q))) w := by
  rw [run_eql_struct, eqIn_vrp 9996]; rfl
theorem neq_vrp (p q : Vrp) (w : World) : (Go.binOp .neq 67 (.agg p.cells.toArray) (.agg q.cells.toArray)).run Tryz.prog w = .ok (.bool (!decide (p = q))) w := by
  rw [run_neq_struct, eqIn_vrp 9996]; rfl
end Go.Proofs.YtmoldmnhijcckaaGreat
