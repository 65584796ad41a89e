/- RepoOnly: the plain law, and how two repos lie apart. -/
import Derived.Test.YtmoldmnhijcckaaDoorRepO
import Derived.Test.YtmoldmnhijcckaaDoorRpN
set_option linter.unusedVariables false
set_option linter.unusedSectionVars false
set_option linter.unusedSimpArgs false
namespace Go.Proofs.YtmoldmnhijcckaaDoor
open Go.RowKit
def getF (l : List (ByteArray × List UInt8)) (u : ByteArray) : Option (List UInt8) := (l.find? fun q => u == q.1).map (·.2)
theorem getK_F (es : List Blb) (u : ByteArray) : getK es u = getF (es.map fun e => (e.u, e.bs)) u := getK_map es u
theorem getF_append (l r : List (ByteArray × List UInt8)) (u : ByteArray) : getF (l ++ r) u = (getF l u).or (getF r u) := by
  unfold getF
  rw [List.find?_append]
  cases l.find? fun q => u == q.1 <;> rfl
theorem getF_addF (l : List (ByteArray × List UInt8)) (b : Blb) (u : ByteArray) : getF (addF l b) u = getF (l ++ [(b.u, b.bs)]) u := by
  unfold addF
  split
  · rename_i h
    rw [getF_append]
    by_cases hu : u = b.u
    · subst hu
      cases hg : getF l b.u with
      | some x => rfl
      | none =>
        exfalso
        unfold getF at hg
        rw [Option.map_eq_none_iff, List.find?_eq_none] at hg
        obtain ⟨q, hq, he⟩ := List.any_eq_true.1 h
        exact hg q hq he
    · have : getF [(b.u, b.bs)] u = none := by
        unfold getF
        simp [hu]
      rw [this]
      cases getF l u <;> rfl
  · rfl
theorem getF_firsts (ys : List Blb) (u : ByteArray) : getF (firstsOf ys) u = getF (ys.map fun y => (y.u, y.bs)) u := by
  have : ∀ (ys : List Blb) (l : List (ByteArray × List UInt8)), getF (ys.foldl addF l) u = getF (l ++ ys.map fun y => (y.u, y.bs)) u := by
    intro ys
    induction ys with
    | nil => intro l; simp
    | cons y ys ih =>
      intro l
      rw [List.foldl_cons, ih, getF_append, getF_addF, ← getF_append]
      simp
  simpa [firstsOf] using this ys []
theorem getF_only (es : List Blb) (u : ByteArray) : ∀ ks : List ByteArray, u ∈ ks → getF (onlyF es ks) u = getK es u
  | [], h => by simp at h
  | k :: ks, h => by
    by_cases hu : u = k
    · subst hu
      cases hg : getK es u with
      | none =>
        have e : onlyF es (u :: ks) = onlyF es ks := by simp [onlyF, hg]
        rw [e]
        by_cases h2 : u ∈ ks
        · rw [getF_only es u ks h2, hg]
        · unfold getF
          rw [Option.map_eq_none_iff, List.find?_eq_none]
          intro q hq
          unfold onlyF at hq
          obtain ⟨x, hx, hm⟩ := List.mem_filterMap.1 hq
          cases hgx : getK es x with
          | none => rw [hgx] at hm; cases hm
          | some bs =>
            rw [hgx] at hm
            obtain rfl := Option.some.inj hm
            intro e
            have := (beqB _ _).1 e
            subst this
            exact h2 hx
      | some bs =>
        have e : onlyF es (u :: ks) = (u, bs) :: onlyF es ks := by simp [onlyF, hg]
        rw [e]
        simp [getF]
    · have h2 : u ∈ ks := by
        rcases List.mem_cons.1 h with h | h
        · exact absurd h hu
        · exact h
      cases hg : getK es k with
      | none =>
        have e : onlyF es (k :: ks) = onlyF es ks := by simp [onlyF, hg]
        rw [e, getF_only es u ks h2]
      | some bs =>
        have e : onlyF es (k :: ks) = (k, bs) :: onlyF es ks := by simp [onlyF, hg]
        rw [e, ← getF_only es u ks h2]
        simp [getF, List.find?_cons, hu]
/-- What was asked for, behind some asks. -/
def ksOf (qs : List ByteArray) : List ByteArray := qs.foldl askF []
theorem ksOf_snoc (qs : List ByteArray) (u : ByteArray) : ksOf (qs ++ [u]) = askF (ksOf qs) u := by unfold ksOf; rw [List.foldl_append]; rfl
theorem mem_askF (ks : List ByteArray) (u x : ByteArray) : x ∈ askF ks u ↔ x ∈ ks ∨ x = u := by
  unfold askF
  split
  · rename_i h
    obtain ⟨k, hk, he⟩ := List.any_eq_true.1 h
    have := (beqB _ _).1 he
    subst this
    constructor
    · exact .inl
    · rintro (h | rfl)
      · exact h
      · exact hk
  · simp
theorem mem_ksOf (qs : List ByteArray) (x : ByteArray) : x ∈ ksOf qs ↔ x ∈ qs := by
  have : ∀ (qs l : List ByteArray), x ∈ qs.foldl askF l ↔ x ∈ l ∨ x ∈ qs := by
    intro qs
    induction qs with
    | nil => intro l; simp
    | cons q qs ih => intro l; rw [List.foldl_cons, ih, mem_askF]; simp [or_assoc]
  simpa [ksOf] using this qs []
theorem nodup_ksOf (qs : List ByteArray) : (ksOf qs).Nodup := by
  have : ∀ (qs l : List ByteArray), l.Nodup → (qs.foldl askF l).Nodup := by
    intro qs
    induction qs with
    | nil => intro l h; exact h
    | cons q qs ih =>
      intro l h
      refine ih _ ?_
      unfold askF
      split
      · exact h
      · rename_i hn
        rw [List.nodup_append]
        refine ⟨h, (by simp), fun a ha b hb e => hn ?_⟩
        obtain rfl := List.mem_singleton.1 hb
        subst e
        exact List.any_eq_true.2 ⟨a, ha, (beqB _ _).2 rfl⟩
  exact this qs [] List.nodup_nil
theorem len_ksOf (qs : List ByteArray) : (ksOf qs).length ≤ qs.length := by
  have : ∀ (qs l : List ByteArray), (qs.foldl askF l).length ≤ l.length + qs.length := by
    intro qs
    induction qs with
    | nil => intro l; simp
    | cons q qs ih => intro l; have h1 := ih (askF l q); have h2 := askF_len l q; simp only [List.foldl_cons, List.length_cons]; omega
  simpa [ksOf] using this qs []
theorem askF_same {ks : List ByteArray} {u : ByteArray} (h : u ∈ ks) : askF ks u = ks := by
  unfold askF
  rw [if_pos (List.any_eq_true.2 ⟨u, h, (beqB _ _).2 rfl⟩)]
theorem nodup_len {α : Type} [DecidableEq α] : ∀ (l m : List α), l.Nodup → (∀ x ∈ l, x ∈ m) → l.length ≤ m.length
  | [], m, _, _ => Nat.zero_le _
  | x :: l, m, h, hm => by
    have h1 := List.nodup_cons.1 h
    have h2 := nodup_len l (m.erase x) h1.2 fun y hy => (List.mem_erase_of_ne (fun e : y = x => h1.1 (by rw [← e]; exact hy))).2 (hm y (by simp [hy]))
    have h3 := hm x (by simp)
    rw [List.length_erase_of_mem h3] at h2
    have := List.length_pos_of_mem h3
    simp only [List.length_cons]
    omega
theorem getK_some {es : List Blb} {u : ByteArray} {bs : List UInt8} (h : getK es u = some bs) : ∃ e ∈ es, e.u = u ∧ e.bs = bs := by
  unfold getK at h
  cases hf : es.find? fun e => u == e.u with
  | none => rw [hf] at h; cases h
  | some e =>
    rw [hf] at h
    have h1 := List.find?_some hf
    exact ⟨e, List.mem_of_find?_eq_some hf, ((beqB _ _).1 h1).symm, Option.some.inj h⟩
theorem only_mem {es : List Blb} {ks : List ByteArray} {q : ByteArray × List UInt8} (h : q ∈ onlyF es ks) : q.1 ∈ ks ∧ ∃ e ∈ es, e.u = q.1 ∧ e.bs = q.2 := by
  unfold onlyF at h
  obtain ⟨u, hu, hm⟩ := List.mem_filterMap.1 h
  cases hg : getK es u with
  | none => rw [hg] at hm; cases hm
  | some bs =>
    rw [hg] at hm
    obtain rfl := Option.some.inj hm
    exact ⟨hu, getK_some hg⟩
theorem only_len {es : List Blb} {ks : List ByteArray} (hk : ks.Nodup) : (onlyF es ks).length ≤ es.length := by
  have h1 : ((onlyF es ks).map (·.1)).Nodup := by
    unfold onlyF List.Nodup
    rw [List.pairwise_map, List.pairwise_filterMap]
    refine hk.imp fun {a b} hab q hq q' hq' e => ?_
    cases ha : getK es a with
    | none => rw [ha] at hq; cases hq
    | some x =>
      cases hb : getK es b with
      | none => rw [hb] at hq'; cases hq'
      | some y =>
        rw [ha] at hq
        rw [hb] at hq'
        obtain rfl := Option.some.inj hq
        obtain rfl := Option.some.inj hq'
        exact hab e
  have h2 := nodup_len _ (es.map (·.u)) h1 fun x hx => by
    obtain ⟨q, hq, rfl⟩ := List.mem_map.1 hx
    obtain ⟨_, e, he, h3, _⟩ := only_mem hq
    exact List.mem_map.2 ⟨e, he, h3⟩
  simpa using h2
theorem own_ne_map {w : World} {base n size b : Nat} {e : TypeId} {v : Value} {xs : List Value} {l : List (ByteArray × Value)} (h : w.ownsRow base e size v n xs) (hm : MapAt w b l) : v.ownBlock ≠ some b := by
  intro hk
  rcases h.2 with ⟨rfl, _⟩ | ⟨g', cap, cur, rfl, _, hh, _⟩
  · simp [Value.ownBlock] at hk
  · have : g' = b := by simpa [Value.ownBlock] using hk
    subst this
    have hm2 : w.heap[g']? = some (.map (mapEs l) l.length) := hm
    rw [hm2] at hh
    cases hh
/-- A repo that another one's step leaves as it was. -/
theorem RepoAt.fr {W W' : World} {L lo g b1 b2 gx b1x b2x Lx : Nat} {es esx : List Blb} {ks ksx : List ByteArray} (h : RepoAt W L g b1 b2 es ks) (hx : RepoAt W Lx gx b1x b2x esx ksx) (hfr : Fr W W' lo (badAt W gx b2x)) (h1 : g ≠ gx ∧ g ≠ b2x ∧ b1 ≠ gx ∧ b1 ≠ b2x ∧ b2 ≠ gx ∧ b2 ≠ b2x)
    (ha : ∀ v v', W.cell? ⟨g, 2, none⟩ = some v → W.cell? ⟨gx, 2, none⟩ = some v' → ∀ k, v.ownBlock = some k → v'.ownBlock ≠ some k) : RepoAt W' L g b1 b2 es ks ∧ W'.cell? ⟨g, 2, none⟩ = W.cell? ⟨g, 2, none⟩ := by
  obtain ⟨v, hB, ho⟩ := h.blk
  obtain ⟨vx, hBx, hox⟩ := hx.blk
  obtain ⟨n1, n2, n3, n4, n5, n6⟩ := h1
  have hvx : ∀ v', W.cell? ⟨gx, 2, none⟩ = some v' → v' = vx := fun v' hv => by
    have := hBx.cell 2
    rw [hv] at this
    simpa using this
  have kg : W'.heap[g]? = W.heap[g]? := hfr.keep g hB.lt (by
    rintro (e | e | ⟨v', hv, e⟩)
    · exact n1 e
    · exact n2 e
    · rw [hvx v' hv] at e
      exact own_blk_ne hox hB (by decide) e)
  have kb1 : W'.heap[b1]? = W.heap[b1]? := hfr.keep b1 h.m1.lt (by
    rintro (e | e | ⟨v', hv, e⟩)
    · exact n3 e
    · exact n4 e
    · rw [hvx v' hv] at e
      exact own_ne_map hox h.m1 e)
  have kb2 : W'.heap[b2]? = W.heap[b2]? := hfr.keep b2 h.m2.lt (by
    rintro (e | e | ⟨v', hv, e⟩)
    · exact n5 e
    · exact n6 e
    · rw [hvx v' hv] at e
      exact own_ne_map hox h.m2 e)
  refine ⟨⟨⟨v, kg.trans hB, own_kept ho fun k hk => hfr.keep k (own_base_le ho k hk).2 ?_⟩, kb1.trans h.m1, kb2.trans h.m2, fun e he => ⟨own_kept (h.rd e he).1 fun k hk => hfr.keep k (own_base_le (h.rd e he).1 k hk).2 ?_, (h.rd e he).2⟩, h.l1, h.l2, h.l3⟩, World.cell?_of_block kg⟩
  · rintro (e | e | ⟨v', hv, e⟩)
    · subst e; exact own_blk_ne ho hBx (by decide) hk
    · subst e; exact own_ne_map ho hx.m2 hk
    · exact ha v v' (hB.cell 2) hv k hk e
  · rintro (e | e | ⟨v', hv, e⟩)
    · subst e; exact own_blk_ne (h.rd _ he).1 hBx (by decide) hk
    · subst e; exact own_ne_map (h.rd _ he).1 hx.m2 hk
    · rw [hvx v' hv] at e
      exact own_own_ne (h.rd _ he).1 hox (by decide) k hk e
end Go.Proofs.YtmoldmnhijcckaaDoor
