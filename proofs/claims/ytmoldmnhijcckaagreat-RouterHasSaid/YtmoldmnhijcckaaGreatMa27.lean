/- The laws' first line: a message without anything. -/
import Derived.Test.YtmoldmnhijcckaaGreatMa26
import Derived.Test.YtmoldmnhijcckaaGreatMa04
set_option linter.unusedVariables false
set_option linter.unusedSectionVars false
set_option linter.unusedSimpArgs false
namespace Go.Proofs.YtmoldmnhijcckaaGreat
open Go.RowKit
theorem own_cap {w : World} {base n c size : Nat} {e : TypeId} {A : Option Addr} {xs : List Value} (h : w.ownsRow base e size (.slice A n c) n xs) : n ≤ c := by
  rcases h.2 with ⟨h, rfl⟩ | ⟨g, cap, cur, h, _, _, hnc, _⟩
  · exact Nat.zero_le _
  · injection h with _ _ h
    subst h
    exact hnc
theorem read_n (bs : List UInt8) (n : Nat) (hn : bs.length = n) (q : Pdu) (m k x : Int) (hr0 : readOf bs = (q, m, k, x)) (A : Option Addr) (c B : Nat) (hc : n ≤ c) (w : World) (hB : B ≤ w.heap.size) (hr : Reads w B 1 A n (bs.map bv)) :
    Calls Tryz.prog 72 #[.slice A n c] w fun e w' => e = .returned (.tuple #[.agg q.cells.toArray, .int .i64 m, .int .i64 k, .int .i64 x]) ∧ Below w.heap.size w w' := by
  subst hn
  have h := read_any bs A c B hc w hB hr
  unfold RdPost at h
  rw [hr0] at h
  exact h
theorem Reads.new {w : World} {t : TypeId} (bs : List UInt8) (g : Nat) (hg : w.heap.size = g) (cs : List Value) (hcs : cs = bs.map bv) (n : Nat) (hn : n = bs.length) : Reads (w.alloc (.cells cs.toArray t)) (g + 1) 1 (some ⟨g, 0, none⟩) n (bs.map bv) := by
  subst hcs; subst hn
  refine ⟨by simp, fun _ => ⟨_, rfl, by simp, fun j u hu => ?_⟩⟩
  rw [add_plain', Nat.zero_add, (blk_new' w t _ g hg).cell]
  exact hu
structure Bx1 (w : World) (g : Nat) (q : Pdu) (W : World) : Prop where
  q : Blk W g 69 q.cells
  b : Below w.heap.size w W
theorem Bx1.next {w : World} {g : Nat} {q : Pdu} {W W' : World} (h : Bx1 w g q W) (hb : Below W.heap.size W W') : Bx1 w g q W' := ⟨h.q.below hb h.q.lt, below_then h.b (Nat.le_refl _) hb⟩
theorem put_new (W : World) (q : Pdu) : Blk ((W.alloc (.cells (bareL 0).toArray 69)).setCells W.heap.size 0 q.cells) W.heap.size 69 q.cells ∧ Below W.heap.size W ((W.alloc (.cells (bareL 0).toArray 69)).setCells W.heap.size 0 q.cells) := by
  have hq1 : Blk (W.alloc (.cells (bareL 0).toArray 69)) W.heap.size 69 (bareL 0) := blk_new' _ _ _ _ rfl
  have hb0 : Below W.heap.size W (W.alloc (.cells (bareL 0).toArray 69)) := (Below.refl _ _).alloc (Nat.le_refl _) _
  have hl : q.cells.length = (bareL 0).length := by rw [Pdu.cells_length]; rfl
  generalize W.alloc (.cells (bareL 0).toArray 69) = V at *
  exact ⟨Blk.setCells_all hq1 hl, Below.setCells (Nat.le_refl _) q.cells (g := W.heap.size) 0 hb0⟩
theorem wr2 : wrB (bareP 2) = [1, 2, 0, 0, 0, 0, 0, 8] := by kernel_rfl
theorem ok2 : pduOk (bareP 2) = true := by kernel_rfl
theorem rd9 : readOf [1, 2, 0, 0, 0, 0, 0, 8, 9] = (bareP 2, 8, 0, 0) := by kernel_rfl
theorem rd0 : readOf [0, 0, 0, 0, 0, 0, 0, 0] = (bareP 0, 0, 4, 2) := by kernel_rfl
theorem write_2 (w : World) : Calls Tryz.prog 34 #[.agg (bareL 2).toArray] w fun e w' => ∃ A c, e = .returned (.tuple #[.slice A 8 c, .int .i64 0]) ∧ w'.ownsRow w.heap.size 5 1 (.slice A 8 c) 8 ([1, 2, 0, 0, 0, 0, 0, 8].map bv) ∧ Below w.heap.size w w' := by
  have h := write_any (bareP 2) w
  rw [Pdu.val, ← bareL_eq] at h
  refine h.mono ?_
  rintro e w1 ⟨h1, _, hb⟩
  obtain ⟨v, rfl, hov⟩ := h1 ok2
  obtain ⟨A, c, rfl⟩ := own_slice' hov
  rw [wr2] at hov ⊢
  exact ⟨A, c, rfl, hov, hb⟩
end Go.Proofs.YtmoldmnhijcckaaGreat
/- The plain law behind PduBack and PduParts: what is written is read as it was, whatever stands behind; cut it is too short. No program stands in this text. -/
set_option linter.unusedVariables false
set_option linter.unusedSectionVars false
set_option linter.unusedSimpArgs false
namespace Go.Proofs.YtmoldmnhijcckaaGreat
open Go.RowKit
theorem beN_beB (n k : Nat) : beN (beB n k) = n % 256 ^ k := by
  induction k generalizing n with
  | zero => simp [beB, beN, Nat.mod_one]
  | succ k ih =>
    rw [beB, beN_snoc, ih, UInt8.toNat_ofNat', show (256 : Nat) ^ (k + 1) = 256 * 256 ^ k by rw [Nat.pow_succ, Nat.mul_comm], Nat.mod_mul]
    generalize n / 256 % 256 ^ k = z
    omega
theorem wordOf_beB (n : Nat) (h : n < 2 ^ 32) (r : List UInt8) : wordOf (beB n 4 ++ r) = n := by
  unfold wordOf
  rw [List.take_left' (beB_length n 4), beN_beB, show 256 ^ 4 = 2 ^ 32 from rfl, Nat.mod_eq_of_lt h]
theorem beB2 (n : Nat) : beB n 2 = [UInt8.ofNat (n / 256), UInt8.ofNat n] := rfl
/-- The head's bytes one by one. -/
theorem wr_head (p : Pdu) (r : List UInt8) : ∃ a b c d : UInt8, [a, b, c, d] = beB (lenOf p.kind + p.text.size).toNat 4 ∧
    wrB p ++ r = 1 :: UInt8.ofNat p.kind.toNat :: UInt8.ofNat ((imax p.session p.code).toNat / 256) :: UInt8.ofNat (imax p.session p.code).toNat :: a :: b :: c :: d :: (wrBody p ++ r) := by
  refine ⟨_, _, _, _, rfl, ?_⟩
  simp [wrB, wrHead, beB2]
  rfl
theorem named_text {p : Pdu} (h : pduOk p = true) (hk : p.kind ≠ 10) : p.text = ByteArray.empty := by
  have h2 := (ok_parts h).2.1
  rw [← h2]
  unfold namedOf
  repeat' split
  all_goals first | rfl | (exfalso; omega)
theorem body_length {p : Pdu} (h : pduOk p = true) : ((wrBody p).length : Int) + 8 = lenOf p.kind + p.text.size := by
  have hk := kind_cases (ok_parts h).1
  have ha := p.v.p.a.h
  by_cases h10 : p.kind = 10
  · simp [wrBody, h10, lenOf, beB_length]; omega
  · have ht : p.text.size = 0 := by rw [named_text h h10]; rfl
    rw [ht]
    rcases hk with hk | hk | hk | hk | hk | hk | hk | hk | hk
    all_goals first | (exfalso; omega) | (simp [wrBody, hk, lenOf, beB_length, widthOf, ha])
theorem wr_length {p : Pdu} (h : pduOk p = true) : ((wrB p).length : Int) = lenOf p.kind + p.text.size := by
  have := body_length h
  simp [wrB, wrHead, beB_length]; omega
theorem wr_bd {p : Pdu} (h : pduOk p = true) : 8 ≤ (wrB p).length ∧ (wrB p).length ≤ 232 := by
  have h1 := wr_length h
  have h2 := body_length h
  have h3 := (ok_parts h).2.2.2.2.1
  have h4 := lenOf_bd p.kind
  omega
theorem head_facts {p : Pdu} (h : pduOk p = true) (r : List UInt8) : at8 (wrB p ++ r) 0 = 1 ∧ kd (wrB p ++ r) = p.kind ∧ midOf (wrB p ++ r) = imax p.session p.code ∧ longOf (wrB p ++ r) = (wrB p).length ∧ (wrB p ++ r).drop 8 = wrBody p ++ r := by
  obtain ⟨a, b, c, d, h4, e⟩ := wr_head p r
  obtain ⟨hk0, hk1⟩ := kind_bd (ok_parts h).1
  obtain ⟨_, _, h5, h6, h7, _⟩ := ok_parts h
  have hm0 : 0 ≤ imax p.session p.code := by rw [imax_eq]; rw [imin_eq] at h5; omega
  refine ⟨by rw [e]; rfl, ?_, ?_, ?_, by rw [e]; rfl⟩
  · rw [e]
    simp only [kd, at8, List.getD_cons_succ, List.getD_cons_zero, UInt8.toNat_ofNat']
    omega
  · rw [e]
    simp only [midOf, at8, List.getD_cons_succ, List.getD_cons_zero, UInt8.toNat_ofNat']
    omega
  · have hl := wr_length h
    have h9 := wr_bd h
    have e2 : (wrB p ++ r).drop 4 = beB (lenOf p.kind + p.text.size).toNat 4 ++ (wrBody p ++ r) := by rw [e, ← h4]; rfl
    unfold longOf
    rw [e2, wordOf_beB _ (by omega)]
    omega
theorem longOk_wr {p : Pdu} (h : pduOk p = true) (r : List UInt8) : longOk (wrB p ++ r) = true := by
  obtain ⟨h1, h2, h3, h4, h5⟩ := head_facts h r
  have hl := wr_length h
  have h7 := (ok_parts h).2.2.2.2.1
  unfold kd at h2
  unfold longOk
  rw [h4]
  by_cases h10 : p.kind = 10
  · rw [if_pos (by omega)]
    rw [h10] at hl
    have : lenOf 10 = 16 := rfl
    simp; omega
  · have ht : p.text.size = 0 := by rw [named_text h h10]; rfl
    rw [if_neg (by omega), h2]
    simp; omega
theorem u32_back (x : UInt32) : UInt32.ofNat x.toNat = x := by simp
theorem a16_take (a : A16) (n : Nat) (h : a.l.drop n = List.replicate (16 - n) 0) : a16 (a.l.take n) = a := by
  apply A16.ext'
  have := a.h
  simp only [a16]
  have e : a.l = a.l.take n ++ List.replicate (16 - n) 0 := by rw [← h, List.take_append_drop]
  by_cases hn : n ≤ 16
  · conv => rhs; rw [e]
    have e2 : List.replicate 16 (0 : UInt8) = List.replicate (16 - n) 0 ++ List.replicate n 0 := by
      rw [List.replicate_append_replicate]; congr 1; omega
    rw [e2, ← List.append_assoc]
    rw [List.take_left' (by simp; omega)]
  · have e1 : a.l.take n = a.l := List.take_of_length_le (by omega)
    rw [e1, List.take_left' this]
theorem maskB_neg {n : Int} (h : n ≤ 0) : maskB n = 0 := by unfold maskB; rw [if_pos h]
theorem cutA_tail {c : Int} {a : A16} (h : cutA c 16 a = a) (m : Nat) (hc : c ≤ 8 * m) : a.l.drop m = List.replicate (16 - m) 0 := by
  have hl := a.h
  apply List.ext_getElem
  · simp; omega
  · intro i h1 h2
    have h3 : m + i < 16 := by simp at h2; omega
    have e : a.l[m + i]? = (cutA c 16 a).l[m + i]? := by rw [h]
    simp only [cutA, cutL, List.getElem?_mapIdx, List.getElem?_eq_getElem (show m + i < a.l.length by omega), Option.map_some, if_pos h3] at e
    rw [maskB_neg (by omega)] at e
    simp only [List.getElem_drop, List.getElem_replicate]
    injection e with e
    rw [e]
    simp
theorem vrp_tail {v : Vrp} (h : vrpOk v = true) (h6 : v.p.v6 = false) : v.p.a.l.drop 4 = List.replicate 12 0 := by
  unfold vrpOk pfxOk at h
  simp only [Bool.and_eq_true, decide_eq_true_eq] at h
  have e := congrArg Pfx.a h.1
  have hc : clampOf v.p.v6 v.p.len ≤ 32 := by unfold clampOf; rw [imin_eq, h6, mostOf_f]; omega
  exact cutA_tail (c := clampOf v.p.v6 v.p.len) e 4 (by omega)
theorem beB1 (n : Nat) : beB n 1 = [UInt8.ofNat n] := rfl
/-- What is written, read: the message. -/
theorem parse_wr {p : Pdu} (h : pduOk p = true) : parseOf (wrB p) = p := by
  have hh := head_facts h []
  rw [List.append_nil, List.append_nil] at hh
  obtain ⟨h1, h2, h3, h4, h5⟩ := hh
  obtain ⟨hk, hn, hmin, hmax, htx, hv⟩ := ok_parts h
  have hd : ∀ n, (wrB p).drop (n + 8) = (wrBody p).drop n := fun n => by rw [Nat.add_comm, ← List.drop_drop, h5]
  have h8 : ∀ n, at8 (wrB p) (n + 8) = at8 (wrBody p) n := fun n => by
    unfold at8
    rw [List.getD_eq_getElem?_getD, List.getD_eq_getElem?_getD, ← h5, List.getElem?_drop, Nat.add_comm 8 n]
  rw [imax_eq] at h3
  rw [imin_eq] at hmin
  unfold parseOf
  simp only [h2, h3]
  unfold namedOf at hn
  rcases kind_cases hk with hk' | hk' | hk' | hk' | hk' | hk' | hk' | hk' | hk'
  · have hb : wrBody p = beB p.serial.toNat 4 := by simp [wrBody, hk']
    rw [show (wrB p).drop 8 = beB p.serial.toNat 4 ++ [] by rw [h5, hb, List.append_nil], wordOf_beB _ p.serial.toNat_lt, u32_back]
    simp only [hk'] at hn ⊢
    simp at hn ⊢
    have hc : p.code = 0 := by rw [← hn]; rfl
    rw [show max p.session p.code = p.session by omega]
    exact hn
  · have hb : wrBody p = beB p.serial.toNat 4 := by simp [wrBody, hk']
    rw [show (wrB p).drop 8 = beB p.serial.toNat 4 ++ [] by rw [h5, hb, List.append_nil], wordOf_beB _ p.serial.toNat_lt, u32_back]
    simp only [hk'] at hn ⊢
    simp at hn ⊢
    have hc : p.code = 0 := by rw [← hn]; rfl
    rw [show max p.session p.code = p.session by omega]
    exact hn
  · simp only [hk'] at hn ⊢
    simp at hn ⊢
    exact hn
  · simp only [hk'] at hn ⊢
    simp at hn ⊢
    have hc : p.code = 0 := by rw [← hn]; rfl
    rw [show max p.session p.code = p.session by omega]
    exact hn
  · obtain ⟨hvo, h6⟩ := hv (.inl hk')
    obtain ⟨hl0, hl1, hm0, hm1⟩ := vrpOk_bd hvo
    have h6' : p.v.p.v6 = false := by rw [h6, hk']; rfl
    have ha := p.v.p.a.h
    have hb : wrBody p = UInt8.ofNat (if p.add then 1 else 0) :: UInt8.ofNat p.v.p.len.toNat :: UInt8.ofNat p.v.mx.toNat :: UInt8.ofNat 0 :: (p.v.p.a.l.take 4 ++ beB p.v.asn.toNat 4) := by simp [wrBody, hk', widthOf, beB1]
    have e8 : (decide (at8 (wrB p) 8 = 1)) = p.add := by rw [h8 0, hb]; cases p.add <;> simp [at8]
    have e9 : (at8 (wrB p) 9 : Int) = p.v.p.len := by rw [h8 1, hb]; simp only [at8, List.getD_cons_succ, List.getD_cons_zero, UInt8.toNat_ofNat']; omega
    have e10 : (at8 (wrB p) 10 : Int) = p.v.mx := by rw [h8 2, hb]; simp only [at8, List.getD_cons_succ, List.getD_cons_zero, UInt8.toNat_ofNat']; omega
    have e12 : (wrB p).drop 12 = p.v.p.a.l.take 4 ++ beB p.v.asn.toNat 4 := by rw [hd 4, hb]; rfl
    have e16 : (wrB p).drop (12 + 4) = beB p.v.asn.toNat 4 ++ [] := by rw [← List.drop_drop, e12, List.drop_left' (by simp; omega), List.append_nil]
    have ew : (widthOf p.kind).toNat = 4 := by rw [hk']; rfl
    have ea : a16 (((wrB p).drop 12).take 4) = p.v.p.a := by rw [e12, List.take_left' (by simp; omega)]; exact a16_take _ 4 (vrp_tail hvo h6')
    rw [ew, e8, e9, e10, e16, wordOf_beB _ p.v.asn.toNat_lt, u32_back, ea]
    have hvv : (⟨p.v.asn, ⟨false, p.v.p.a, p.v.p.len⟩, p.v.mx⟩ : Vrp) = p.v := by rw [← h6']
    simp only [hk'] at hn ⊢
    simp at hn ⊢
    rw [hvv]
    exact hn
  · obtain ⟨hvo, h6⟩ := hv (.inr hk')
    obtain ⟨hl0, hl1, hm0, hm1⟩ := vrpOk_bd hvo
    have h6' : p.v.p.v6 = true := by rw [h6, hk']; rfl
    have ha := p.v.p.a.h
    have hb : wrBody p = UInt8.ofNat (if p.add then 1 else 0) :: UInt8.ofNat p.v.p.len.toNat :: UInt8.ofNat p.v.mx.toNat :: UInt8.ofNat 0 :: (p.v.p.a.l.take 16 ++ beB p.v.asn.toNat 4) := by simp [wrBody, hk', widthOf, beB1]
    have e8 : (decide (at8 (wrB p) 8 = 1)) = p.add := by rw [h8 0, hb]; cases p.add <;> simp [at8]
    have e9 : (at8 (wrB p) 9 : Int) = p.v.p.len := by rw [h8 1, hb]; simp only [at8, List.getD_cons_succ, List.getD_cons_zero, UInt8.toNat_ofNat']; omega
    have e10 : (at8 (wrB p) 10 : Int) = p.v.mx := by rw [h8 2, hb]; simp only [at8, List.getD_cons_succ, List.getD_cons_zero, UInt8.toNat_ofNat']; omega
    have e12 : (wrB p).drop 12 = p.v.p.a.l.take 16 ++ beB p.v.asn.toNat 4 := by rw [hd 4, hb]; rfl
    have e16 : (wrB p).drop (12 + 16) = beB p.v.asn.toNat 4 ++ [] := by rw [← List.drop_drop, e12, List.drop_left' (by simp; omega), List.append_nil]
    have ew : (widthOf p.kind).toNat = 16 := by rw [hk']; rfl
    have ea : a16 (((wrB p).drop 12).take 16) = p.v.p.a := by rw [e12, List.take_left' (by simp; omega)]; exact a16_take _ 16 (by rw [List.drop_of_length_le (by omega)]; rfl)
    rw [ew, e8, e9, e10, e16, wordOf_beB _ p.v.asn.toNat_lt, u32_back, ea]
    have hvv : (⟨p.v.asn, ⟨true, p.v.p.a, p.v.p.len⟩, p.v.mx⟩ : Vrp) = p.v := by rw [← h6']
    simp only [hk'] at hn ⊢
    simp at hn ⊢
    rw [hvv]
    exact hn
  · have hb : wrBody p = beB p.serial.toNat 4 ++ (beB 3600 4 ++ beB 600 4 ++ beB 7200 4) := by simp [wrBody, hk']
    rw [show (wrB p).drop 8 = beB p.serial.toNat 4 ++ (beB 3600 4 ++ beB 600 4 ++ beB 7200 4) by rw [h5, hb], wordOf_beB _ p.serial.toNat_lt, u32_back]
    simp only [hk'] at hn ⊢
    simp at hn ⊢
    have hc : p.code = 0 := by rw [← hn]; rfl
    rw [show max p.session p.code = p.session by omega]
    exact hn
  · simp only [hk'] at hn ⊢
    simp at hn ⊢
    exact hn
  · have hb : wrBody p = beB 0 4 ++ beB p.text.size 4 ++ p.text.data.toList := by simp [wrBody, hk']
    have e16 : (wrB p).drop 16 = p.text.data.toList := by rw [hd 8, hb, List.drop_left' (by simp [beB_length])]
    rw [e16]
    simp only [hk'] at hn ⊢
    simp at hn ⊢
    have hs : p.session = 0 := by rw [← hn]; rfl
    rw [show max p.session p.code = p.code by omega]
    exact hn
/-- A message is read as it was, whatever stands behind. -/
theorem read_wr {p : Pdu} (h : pduOk p = true) (r : List UInt8) : readOf (wrB p ++ r) = (p, ((wrB p).length : Int), 0, 0) := by
  obtain ⟨h1, h2, h3, h4, h5⟩ := head_facts h r
  have hb := wr_bd h
  have hk := (ok_parts h).1
  have ht : (wrB p ++ r).take (wrB p).length = wrB p := List.take_left' rfl
  unfold readOf
  rw [if_neg (by simp; omega), if_neg (by rw [h1]; simp), if_neg (by rw [h2, hk]; simp), if_neg (by rw [longOk_wr h r]; simp), if_neg (by rw [h4]; simp), h4, ht, parse_wr h, h]
  simp
theorem longOk_take {bs : List UInt8} {k : Nat} (hk : 8 ≤ k) : longOk (bs.take k) = longOk bs ∧ longOf (bs.take k) = longOf bs := by
  have e : longOf (bs.take k) = longOf bs := by
    unfold longOf wordOf
    congr 1
    rw [List.drop_take, List.take_take]
    congr 1; omega
  have e1 : at8 (bs.take k) 1 = at8 bs 1 := by
    unfold at8
    rw [List.getD_eq_getElem?_getD, List.getD_eq_getElem?_getD, List.getElem?_take, if_pos (by omega)]
  exact ⟨by unfold longOk; rw [e, e1], e⟩
/-- Cut anywhere it is too short. -/
theorem read_cutoff {p : Pdu} (h : pduOk p = true) (k : Nat) (hk : k < (wrB p).length) : readOf ((wrB p).take k) = (bareP 0, 0, 0, 3) := by
  have hh := head_facts h []
  rw [List.append_nil, List.append_nil] at hh
  obtain ⟨h1, h2, h3, h4, h5⟩ := hh
  have hlo := longOk_wr h []
  rw [List.append_nil] at hlo
  have hki := (ok_parts h).1
  by_cases h8 : k < 8
  · unfold readOf
    rw [if_pos (by simp; omega)]
  · have e0 : at8 ((wrB p).take k) 0 = at8 (wrB p) 0 := by
      unfold at8
      rw [List.getD_eq_getElem?_getD, List.getD_eq_getElem?_getD, List.getElem?_take, if_pos (by omega)]
    obtain ⟨e1, e2⟩ := longOk_take (bs := wrB p) (k := k) (by omega)
    unfold readOf
    rw [if_neg (by simp; omega), if_neg (by rw [e0, h1]; simp), if_neg (by rw [kd_take (by omega), h2, hki]; simp), if_neg (by rw [e1, hlo]; simp), if_pos (by rw [e2, h4]; simp; omega)]
end Go.Proofs.YtmoldmnhijcckaaGreat
