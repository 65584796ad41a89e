/- The contract of lanyardref21's Names. -/
import Derived.Test.YtmoldmnhijcckaaDoorR21
import Derived.Test.YtmoldmnhijcckaaDoorNmP
set_option linter.unusedVariables false
set_option linter.unusedSectionVars false
set_option linter.unusedSimpArgs false
namespace Go.Proofs.YtmoldmnhijcckaaDoor
open Go.RowKit
open Go.Proofs (encStr)
structure NO (w : World) (v : Value) (out : List (List UInt8)) (W : World) : Prop where
  o : W.ownsRow w.heap.size 9 1 v out.length (out.map encStr)
  lo : Below w.heap.size w W
theorem NO.next {w W W' : World} {v : Value} {out : List (List UInt8)} (h : NO w v out W) (hb : Below W.heap.size W W') : NO w v out W' := ⟨own_below h.o hb, below_then h.lo (Nat.le_refl _) hb⟩
theorem NO.drew {w W : World} {v : Value} {out : List (List UInt8)} (h : NO w v out W) : NO w v out W.drew := ⟨own_below h.o (Below.refl _ _).drew, h.lo.drew⟩
theorem str_one (out : List (List UInt8)) : ∀ u ∈ out.map encStr, u.oneCell' = true := by
  intro u hu
  obtain ⟨t, _, rfl⟩ := List.mem_map.1 hu
  rfl
theorem namesRaw_snoc (ls : List Blb) (d : ByteArray) (k : Nat) (h : k < ls.length) : namesRaw (ls.take (k + 1)) d = namesRaw (ls.take k) d ++ (match nameIn d ls[k].u with | some t => [t] | none => []) := by
  unfold namesRaw
  rw [List.take_succ_eq_append_getElem h, List.filterMap_append]
  congr 1
  simp only [List.filterMap_cons, List.filterMap_nil]
  cases nameIn d ls[k].u <;> rfl
theorem insAll_snoc (ts : List (List UInt8)) (t : List UInt8) : insAll [] (ts ++ [t]) = insL (insAll [] ts) t := by unfold insAll; rw [List.foldl_append]; rfl
theorem insL_len (l : List (List UInt8)) (n : List UInt8) : (insL l n).length = l.length + 1 := by rw [(insL_perm l n).length_eq]; simp
def Names21Post (w : World) (ls : List Blb) (d : ByteArray) (e : Ending) (w' : World) : Prop :=
  if dirB d then ∃ A c, e = .returned (.slice A (namesOf ls d).length c) ∧ w'.ownsRow w.heap.size 9 1 (.slice A (namesOf ls d).length c) (namesOf ls d).length ((namesOf ls d).map encStr)
  else e = .returned (.slice none 0 0)
theorem exec_slice_h {P : Program} {o : Oper} {a : Act} {w : World} (t : TypeId) (x hi : Operand) {v : Value} (ho : o.op = .slice t x none (some hi) none)
    (hr : (Instr.sliceAt t (a.eval x) none (some (a.eval hi)) none).run P w = .ok v w) : (execOp a.eval o).run P w = .ok (.value v) w := by
  unfold execOp
  simp only [ho]
  simp [hr, Result.andThen]
theorem exec_slice_l {P : Program} {o : Oper} {a : Act} {w : World} (t : TypeId) (x lo : Operand) {v : Value} (ho : o.op = .slice t x (some lo) none none)
    (hr : (Instr.sliceAt t (a.eval x) (some (a.eval lo)) none none).run P w = .ok v w) : (execOp a.eval o).run P w = .ok (.value v) w := by
  unfold execOp
  simp only [ho]
  simp [hr, Result.andThen]
structure NQ (w : World) (L : Nat) (v : Value) (out : List (List UInt8)) (W : World) : Prop where
  n : NO w v out W
  ob : ∀ k, v.ownBlock = some k → k < L
  le : L ≤ W.heap.size
  hwL : w.heap.size ≤ L
theorem NQ.next {w W W' : World} {L : Nat} {v : Value} {out : List (List UInt8)} (h : NQ w L v out W) (hb : Below L W W') : NQ w L v out W' :=
  ⟨⟨own_kept h.n.o fun k hk => hb.block k (h.ob k hk), h.n.lo.trans (hb.mono h.hwL)⟩, h.ob, Nat.le_trans h.le hb.size, h.hwL⟩
theorem NQ.drew {w W : World} {L : Nat} {v : Value} {out : List (List UInt8)} (h : NQ w L v out W) : NQ w L v out W.drew := ⟨h.n.drew, h.ob, h.le, h.hwL⟩
theorem slice_two (W : World) (A : Option Addr) (n c j : Nat) (hj : j ≤ n) (hc : n ≤ c) :
    (Instr.sliceAt 35 (.slice A n c) none (some (.int .i64 (j : Int))) none).run Tryd.prog W = .ok (sliced A 0 j c 1) W ∧
    (Instr.sliceAt 35 (.slice A n c) (some (.int .i64 (j : Int))) none none).run Tryd.prog W = .ok (sliced A j n c 1) W := by
  have ht : Tryd.prog.underlying 35 = some (.slice (Tryd.prog.elem 35)) := by kernel_rfl
  have he : Tryd.prog.elem 35 = 9 := by kernel_rfl
  constructor
  · rw [run_sliceAt_slice _ _ _ _ _ _ ht, run_slice_h _ _ _ _ _ ht _ _ (by omega) (by omega), he, Tryd.sizeOf9]
    simp [Result.andThen]
  · rw [run_sliceAt_slice _ _ _ _ _ _ ht, run_slice_l _ _ _ _ _ ht _ _ (by omega) (by omega), he, Tryd.sizeOf9]
    simp [Result.andThen]
theorem cut_two (Ao : Option Addr) (co n j : Nat) (hj : j ≤ n) (hoc : n ≤ co) : ∃ A1 A2 : Option Addr, (∀ W, (Instr.sliceAt 35 (.slice Ao n co) none (some (.int .i64 (j : Int))) none).run Tryd.prog W = .ok (.slice A1 j co) W) ∧
    (∀ W, (Instr.sliceAt 35 (.slice Ao n co) (some (.int .i64 (j : Int))) none none).run Tryd.prog W = .ok (.slice A2 (n - j) (co - j)) W) ∧
    (∀ (W : World) (B : Nat) (xs : List Value), Reads W B 1 Ao n xs → Reads W B 1 A1 j (xs.take j) ∧ Reads W B 1 A2 (n - j) (xs.drop j)) := by
  refine ⟨_, _, fun W => (slice_two W Ao n co j hj hoc).1, fun W => (slice_two W Ao n co j hj hoc).2, fun W B xs h => ⟨?_, ?_⟩⟩
  · have h1 := h.cut (Nat.zero_le n) hoc
    rw [Nat.zero_mul, List.drop_zero] at h1
    have h2 := h1.take (k := j) hj
    rw [Nat.mul_one] at h2
    exact h2
  · have h1 := h.cut hj hoc
    rw [show xs.drop (j * 1) = xs.drop j by rw [Nat.mul_one]] at h1
    exact h1
theorem NQ.fin {w W w9 : World} {L j : Nat} {v v9 : Value} {out ins : List (List UInt8)} {u : Value} (h : NQ w L v out W) (hb : Below L W w9)
    (ho9 : w9.ownsRow L 9 1 v9 (j + 1 + (out.length - j)) ((out.map encStr).take j ++ [u] ++ (out.map encStr).drop j)) (e : ins.map encStr = (out.map encStr).take j ++ [u] ++ (out.map encStr).drop j) (il : ins.length = out.length + 1) (hj : j ≤ out.length) : NO w v9 ins w9 := by
  refine ⟨?_, (h.next hb).n.lo⟩
  rw [e, il]
  have hx := own_base_mono ho9 h.hwL
  rw [show j + 1 + (out.length - j) = out.length + 1 by omega] at hx
  exact hx
set_option maxRecDepth 100000 in
set_option maxHeartbeats 8000000 in
theorem names21_any (d : ByteArray) (hd : d.size ≤ 9223372036854775800) (w : World) (g : Nat) (ls : List Blb) (ks : List ByteArray) (h : R21 w g ls ks) (hl : ls.length ≤ 1000000) (hlu : ∀ e ∈ ls, e.u.size ≤ 9223372036854775800) :
    Calls Tryd.prog 23 #[.pointer (some ⟨g, 0, none⟩), .string d] w fun e w' => Names21Post w ls d e w' ∧ Below w.heap.size w w' := by
  cases hdd : dirB d
  · have HD := Lib.hid hdd
    clear hdd
    go_enter Tryd.func23, Tryd.ntmps23
    go_wp2_with fail
    refine (dir20_any d hd w).mono ?_
    rintro e w1 ⟨rfl, rfl⟩
    rw [HD.out]
    go_wp2_with fail
    go_ret
    exact ⟨by unfold Names21Post; rw [HD.out]; rfl, Below.refl _ _⟩
  obtain ⟨i0, hi0, hz0, hz1, hz2⟩ := info_parts info_str
  obtain ⟨v, a, hB, hv, ha⟩ := h.blk
  obtain ⟨AL, cL, rfl⟩ := own_slice' hv
  have hcg : ∀ W, Below w.heap.size w W → W.cell? ⟨g, 0, none⟩ = some (.slice AL ls.length cL) := fun W hW => (hW.cell (p := ⟨g, 0, none⟩) hB.lt).trans (hB.cell 0)
  have hrL : ∀ W, Below w.heap.size w W → Reads W w.heap.size 2 AL ls.length (ls.flatMap Blb.cells) := fun W hW => (Reads.of_own hv).below hW (Nat.le_refl _)
  have HD := Lib.hid hdd
  have hN : NO w (.slice none 0 0) [] w := ⟨World.ownsRow_nil _ _ _ _, Below.refl _ _⟩
  clear hdd hB ha h hv
  go_enter Tryd.func23, Tryd.ntmps23
  go_wp2_with fail
  refine (dir20_any d hd w).mono ?_
  rintro e w1 ⟨rfl, rfl⟩
  rw [HD.out]
  go_wp2_with fail
  go_loopw [5, 6, 7, 8, 9, 10, 11] (fun v5 i v7 v8 v9 v10 v11 wr => ∃ (k : Nat) (out : List (List UInt8)), k ≤ ls.length ∧ i = .int .i64 k ∧ out.length ≤ k ∧ NO w v5 out wr ∧ Hid (insAll [] (namesRaw (ls.take k) d) = out)) (fun _ i _ _ _ _ _ _ => ls.length - (intOf i).toNat)
  case atStart => exact ⟨0, [], by omega, rfl, by simp, hN, Lib.hid rfl⟩
  case round =>
    clear hN
    obtain ⟨k, out, hk, rfl, hol, hN, HI⟩ := hrel
    have cg := hcg _ hN.lo
    by_cases hlt : k < ls.length
    · have hk0 : (0 : Int) ≤ (k : Int) := by omega
      have hk1 : (k : Int) < (ls.length : Int) := by omega
      have hrr := hrL _ hN.lo
      obtain ⟨ad, rfl, _, _⟩ := hrr.2 (by omega)
      have c0 := hrr.elem Blb.len hlt rfl 0 _ rfl
      rw [add_nil'] at c0
      have hus := hlu ls[k] (List.getElem_mem hlt)
      have HS := Lib.hid (namesRaw_snoc ls d k hlt)
      generalize ls[k].u = u at c0 hus HS
      by_cases hsz : u.size ≤ d.size
      · have dsz : decide (u.size ≤ d.size) = true := decide_eq_true hsz
        have HI2 := Lib.hid (show insAll [] (namesRaw (ls.take (k + 1)) d) = out by rw [HS.out, nameIn_short d u hsz, List.append_nil]; exact HI.out)
        clear hsz
        go_wp2_with fail
        go_roundw
        case rel => exact ⟨k + 1, out, by omega, by go_num, by omega, hN, HI2⟩
        case measure => simp [intOf]; omega
      have dsz : decide (u.size ≤ d.size) = false := decide_eq_false hsz
      have hds : (d.size : Int) ≤ (u.size : Int) := by omega
      have hd0 : (0 : Int) ≤ (d.size : Int) := by omega
      by_cases hpx : u.extract 0 d.size = d
      · have be : ((u.extract 0 d.size).toList == d.toList) = true := by rw [eqS']; exact decide_eq_true hpx
        have HA := Lib.hid (nameIn_at d u hpx (by omega))
        have hnm : (u.extract d.size u.size).size ≤ 9223372036854775800 := by rw [ByteArray.size_extract]; omega
        clear hpx hsz
        go_upto_region 9 with fail
        go_wp2_with fail
        generalize u.extract d.size u.size = nm at HA hnm ⊢
        obtain ⟨W0, rfl⟩ : ∃ W0, W0 = wr := ⟨_, rfl⟩
        clear be c0 cg hrr hrL hus dsz
        go_loopw [9, 10] (fun bb i W => ∃ j : Nat, i = .int .i64 j ∧ j ≤ nm.size ∧ bb = .bool ((nm.data.toList.take j).all fun c => c != 47) ∧ W0 = W) (fun _ i _ => nm.size - (intOf i).toNat)
        case atStart => exact ⟨0, rfl, by omega, rfl, rfl⟩
        case round =>
          obtain ⟨j, rfl, hj, rfl, rfl⟩ := hrel
          by_cases hjl : j < nm.size
          · have hj0 : (0 : Int) ≤ (j : Int) := by omega
            have hj1 : (j : Int) < (nm.size : Int) := by omega
            have hlj : j < nm.data.toList.length := by simpa using hjl
            have HT := Lib.hid (show ((nm.data.toList.take (j + 1)).all fun c => c != 47) = (((nm.data.toList.take j).all fun c => c != 47) && (nm[j]'hjl) != 47) by
              rw [List.take_succ_eq_append_getElem hlj, List.all_append, byte_getD nm j hjl, List.getD_eq_getElem?_getD, List.getElem?_eq_getElem hlj]
              simp)
            clear hlj
            cases hall : (nm.data.toList.take j).all fun c => c != 47
            · have HX := Lib.hid (show ((nm.data.toList.take (j + 1)).all fun c => c != 47) = false by rw [HT.out, hall]; rfl)
              clear hall HT
              go_wp2_with fail
              go_roundw
              case rel => exact ⟨j + 1, by go_num, by omega, by rw [HX.out], by first | rfl | trivial⟩
              case measure => simp [intOf]; omega
            · by_cases hc : (nm[j]'hjl) = 47
              · have b47 : (((nm[j]'hjl).toNat : Int) != 47) = false := by rw [hc]; rfl
                have HX := Lib.hid (show ((nm.data.toList.take (j + 1)).all fun c => c != 47) = false by rw [HT.out, hall, hc]; rfl)
                clear hall HT hc
                go_wp2_with fail
                go_roundw
                case rel => exact ⟨j + 1, by go_num, by omega, by rw [HX.out], by first | rfl | trivial⟩
                case measure => simp [intOf]; omega
              · have b47 : (((nm[j]'hjl).toNat : Int) != 47) = true := by
                  rw [bne_iff_ne]
                  intro h
                  apply hc
                  apply UInt8.toNat_inj.1
                  show _ = 47
                  omega
                have HX := Lib.hid (show ((nm.data.toList.take (j + 1)).all fun c => c != 47) = true by rw [HT.out, hall]; simpa using hc)
                clear hall HT hc
                go_wp2_with fail
                go_roundw
                case rel => exact ⟨j + 1, by go_num, by omega, by rw [HX.out], by first | rfl | trivial⟩
                case measure => simp [intOf]; omega
          · have hjj : j = nm.size := by omega
            subst hjj
            rw [List.take_of_length_le (by simp)]
            have HBR := Lib.hid (bare_end nm)
            obtain ⟨b, hbb⟩ : ∃ b, (nm.data.toList.all fun c => c != 47) = b := ⟨_, rfl⟩
            rw [hbb] at HBR ⊢
            clear hbb hjl hj
            obtain ⟨Ao, co, rfl⟩ := own_slice' hN.o
            have hoc := own_cap hN.o
            go_wp2_with fail
            go_loopw [11] (fun i W => ∃ j : Nat, i = .int .i64 j ∧ j ≤ out.length ∧ W0 = W ∧ Hid (∀ t (ht : t < j) (h : t < out.length), out[t] < nm.data.toList)) (fun i _ => out.length - (intOf i).toNat)
            case atStart => exact ⟨0, rfl, by omega, rfl, Lib.hid fun t ht _ => by omega⟩
            case round =>
              obtain ⟨j, rfl, hj, rfl, HJ⟩ := hrel
              obtain ⟨A1, A2, hs1, hs2, hrr⟩ := cut_two Ao co out.length j hj hoc
              have hr1 : ∀ W, NO w (.slice Ao out.length co) out W → Reads W W.heap.size 1 A1 j ((out.map encStr).take j) := fun W hW => (hrr W _ _ (Reads.of_own hW.o)).1
              have hr2 : ∀ W, NO w (.slice Ao out.length co) out W → Reads W W.heap.size 1 A2 (out.length - j) ((out.map encStr).drop j) := fun W hW => (hrr W _ _ (Reads.of_own hW.o)).2
              clear hrr
              by_cases hjl : j < out.length
              · obtain ⟨gg, rfl, _, hcl⟩ := own_at hN.o (by omega)
                obtain ⟨om, hom⟩ : ∃ om : ByteArray, om = ⟨(out[j]).toArray⟩ := ⟨_, rfl⟩
                have c1 : W0.cell? ⟨gg, j, none⟩ = some (.string om) := hcl j _ (by rw [hom]; simp [hjl, encStr])
                have hj0 : (0 : Int) ≤ (j : Int) := by omega
                have hj1 : (j : Int) < (out.length : Int) := by omega
                have hbl : Op.bytesLess om.toList nm.toList = decide (out[j] < nm.data.toList) := by rw [bytesLess_eq, Lib.toList_data, Lib.toList_data, hom]
                by_cases hlt2 : out[j] < nm.data.toList
                · have hbt : Op.bytesLess om.toList nm.toList = true := by rw [hbl]; exact decide_eq_true hlt2
                  have HJ2 := Lib.hid (show ∀ t (ht : t < j + 1) (h : t < out.length), out[t] < nm.data.toList from fun t ht h => by
                    by_cases h3 : t = j
                    · subst h3; exact hlt2
                    · exact HJ.out t (by omega) h)
                  clear hbl hom hcl hlt2 HJ hs1 hs2 hr1 hr2
                  go_wp2_with fail
                  go_roundw
                  case rel => exact ⟨j + 1, by go_num, by omega, by first | rfl | trivial, HJ2⟩
                  case measure => simp [intOf]; omega
                · have hbt : Op.bytesLess om.toList nm.toList = false := by rw [hbl]; exact decide_eq_false hlt2
                  have hat : atL out nm.data.toList = j := atL_step _ out j hj (fun t ht => HJ.out t ht (by omega)) (fun _ => hlt2)
                  clear hbl hom hcl hlt2 HJ
                  go_upto_region 18 with fail
                  clear hbt c1
                  have hjl0 : (0 : Int) ≤ (j : Int) := by omega
                  cases b
                  · have HI2 := Lib.hid (show insAll [] (namesRaw (ls.take (k + 1)) d) = out by rw [HS.out, HA.out, HBR.out]; simp; exact HI.out)
                    clear hs1 hs2
                    go_wp2_with fail
                    go_roundw
                    case rel => exact ⟨k + 1, out, by omega, by go_num, by omega, hN, HI2⟩
                    case measure => simp [intOf]; omega
                  · have HI2 := Lib.hid (show insAll [] (namesRaw (ls.take (k + 1)) d) = insL out nm.data.toList by rw [HS.out, HA.out, HBR.out]; simp; rw [insAll_snoc, HI.out])
                    have HIN := Lib.hid (show out.map encStr = (out.map encStr).take j ++ (out.map encStr).drop j ∧ (insL out nm.data.toList).map encStr = (out.map encStr).take j ++ [.string nm] ++ (out.map encStr).drop j from ⟨by rw [List.take_append_drop], by unfold insL; rw [hat]; simp [List.map_take, List.map_drop, encStr]⟩)
                    have hil := insL_len out nm.data.toList
                    have HIL := Lib.hid hil
                    clear hil hat
                    have hQ : NQ w W0.heap.size (.slice (some ⟨gg, 0, none⟩) out.length co) out W0 := ⟨hN, fun k hk => (own_base_le hN.o k hk).2, Nat.le_refl _, hN.lo.size⟩
                    generalize W0.heap.size = L at hQ
                    clear hN
                    go_upto_region 19 with fail
                    refine reg_sch3 11 (.op true 1 (.op true 2 (.op true 3 (.op true 5 (.op true 8 (.op true 9 (.op true 10 (.fork 0 (.fork 4 (.op false 6 (.op false 7 .nil)) 6 (.op false 4 (.op false 7 .nil))) 6 (.op false 0 (.op false 4 (.op false 7 .nil))))))))))) (by kernel_rfl) (by kernel_rfl) (NQ w L (.slice (some ⟨gg, 0, none⟩) out.length co) out) (NQ w L (.slice (some ⟨gg, 0, none⟩) out.length co) out) ?_ ?_ ?_
                    · exact hQ.drew
                    · exact fun _ h => h
                    intro W hSW
                    simp only [Sch.map, List.getD_cons_zero, List.getD_cons_succ, List.drop_succ_cons, List.drop_zero]
                    refine ht_pure (v := ?_) (by rfl) (fun W' hS' => ?_) ?_ -- 1
                    rotate_left
                    · clear hS'; (go_simp; first | with_reducible rfl | rfl)
                    try simp only [Act.put, List.setIfInBounds_toArray, List.set_cons_zero, List.set_cons_succ]
                    refine ht_pure (v := ?_) (by rfl) (fun W' hS' => ?_) ?_ -- 2
                    rotate_left
                    · clear hS'; (go_simp; first | with_reducible rfl | rfl)
                    try simp only [Act.put, List.setIfInBounds_toArray, List.set_cons_zero, List.set_cons_succ]
                    refine ht_pure (v := .slice A1 j co) (by rfl) (fun W' hS' => exec_slice_h _ _ _ (by rfl) (hs1 W')) ?_ -- 3
                    try simp only [Act.put, List.setIfInBounds_toArray, List.set_cons_zero, List.set_cons_succ]
                    refine ht_pure (v := ?_) (by rfl) (fun W' hS' => ?_) ?_ -- 5
                    rotate_left
                    · clear hS'; (go_simp; first | with_reducible rfl | rfl)
                    try simp only [Act.put, List.setIfInBounds_toArray, List.set_cons_zero, List.set_cons_succ]
                    refine ht_pure (v := ?_) (by rfl) (fun W' hS' => ?_) ?_ -- 8
                    rotate_left
                    · clear hS'; (go_simp; first | with_reducible rfl | rfl)
                    try simp only [Act.put, List.setIfInBounds_toArray, List.set_cons_zero, List.set_cons_succ]
                    refine ht_pure (v := ?_) (by rfl) (fun W' hS' => ?_) ?_ -- 9
                    rotate_left
                    · clear hS'; (go_simp; first | with_reducible rfl | rfl)
                    try simp only [Act.put, List.setIfInBounds_toArray, List.set_cons_zero, List.set_cons_succ]
                    refine ht_pure (v := .slice A2 (out.length - j) (co - j)) (by rfl) (fun W' hS' => exec_slice_l _ _ _ (by rfl) (hs2 W')) ?_ -- 10
                    try simp only [Act.put, List.setIfInBounds_toArray, List.set_cons_zero, List.set_cons_succ]
                    refine ht_fork ?_ ?_
                    ·
                      refine ht_sole (by rfl) (fun K hK => ?_) -- 0
                      have h1 := own_lit0 _ L 9 1 hSW.le
                      try simp only [World.size_alloc] at h1
                      try (replace h6 := own_below h6 ((Below.refl _ _).alloc (Nat.le_refl _) (.cells #[] 9)))
                      go_simp
                      refine hK _ _ (hSW.next ((Below.refl _ _).alloc hSW.le _)) ?_
                      clear hK K hSW
                      intro hSW
                      try simp only [Act.put, List.setIfInBounds_toArray, List.set_cons_zero, List.set_cons_succ]
                      refine ht_fork ?_ ?_
                      ·
                        refine ht_sole (by rfl) (fun K hK => ?_) -- 4
                        refine wp_append_any _ _ _ 35 rfl L 9 i0 _ 1 16 Tryd.underlying35 hi0 hz0 hz1 hz2 rfl (by omega) _ 0 _ rfl h1 _ _ j _ _ rfl (hr1 _ hSW.n) (fun u hu => str_one out u (List.mem_of_mem_take hu)) (by simp only [maxLen]; omega) (by omega) hSW.le ?_
                        intro v4 w4 ho4 hg4 _
                        rw [Nat.zero_add, List.nil_append] at ho4
                        have hb4 := Below.grown (Below.refl L _) hg4 hSW.le (fun k hk => (own_base_le h1 k hk).1)
                        try (replace h6 := own_grown h6 hg4 (fun k hk e => by have e1 := Option.some.inj hk; have e2 := Option.some.inj e; simp [World.size_alloc] at e1 e2; omega))
                        refine hK _ _ (hSW.next hb4) ?_
                        clear hK K hSW
                        intro hSW
                        clear hg4 hb4 h1
                        try simp only [Act.put, List.setIfInBounds_toArray, List.set_cons_zero, List.set_cons_succ]
                        refine ht_sole (by rfl) (fun K hK => ?_) -- 6
                        have h6 := World.ownsRow_lit (base := L) (e := 9) (size := 1) _ #[.string nm] 1 hSW.le (by simp only [maxLen]; omega) rfl
                        try simp only [World.size_alloc] at h6
                        try (replace h1 := own_below h1 ((Below.refl _ _).alloc (Nat.le_refl _) (.cells #[.string nm] 9)))
                        try (replace ho4 := own_below ho4 ((Below.refl _ _).alloc (Nat.le_refl _) (.cells #[.string nm] 9)))
                        go_simp
                        refine hK _ _ (hSW.next ((Below.refl _ _).alloc hSW.le _)) ?_
                        clear hK K hSW
                        intro hSW
                        try simp only [Act.put, List.setIfInBounds_toArray, List.set_cons_zero, List.set_cons_succ]
                        refine ht_sole (by rfl) (fun K hK => ?_) -- 7
                        refine wp_append_any _ _ _ 35 rfl L 9 i0 _ 1 16 Tryd.underlying35 hi0 hz0 hz1 hz2 rfl (by omega) _ j _ rfl ho4 _ _ 1 _ _ rfl (Reads.of_own h6) (by intro u hu; have := List.mem_singleton.1 hu; subst this; rfl) (by simp only [maxLen]; omega) (by omega) hSW.le ?_
                        intro v7 w7 ho7 hg7 _
                        have hb7 := Below.grown (Below.refl L _) hg7 hSW.le (fun k hk => (own_base_le ho4 k hk).1)
                        refine hK _ _ (hSW.next hb7) ?_
                        clear hK K hSW
                        intro hSW
                        clear hg7 hb7 h6 ho4
                        try simp only [Act.put, List.setIfInBounds_toArray, List.set_cons_zero, List.set_cons_succ]
                        refine ht_nil ?_
                        skip
                        go_wp2_with (at_builtin; go_must (refine wpList_append_any _ rfl _ _ 35 rfl L 9 i0 _ 1 16 Tryd.underlying35 hi0 hz0 hz1 hz2 rfl (by omega) _ (j + 1) _ rfl ho7 _ _ (out.length - j) _ _ rfl (hr2 _ hSW.n) (fun u hu => str_one out u (List.mem_of_mem_drop hu)) (by simp only [maxLen]; omega) (by omega) hSW.le ?_; intro v9 w9 ho9 hg9 _))
                        refine NoPanic.normal ?_
                        have hb9 := Below.grown (Below.refl L _) hg9 hSW.le (fun k hk => (own_base_le ho7 k hk).1)
                        have hN9 := hSW.fin hb9 ho9 HIN.out.2 HIL.out hj
                        clear hb9 ho9 hg9 ho7 hSW hs1 hs2 hr1 hr2 hQ
                        go_wp2_with fail
                        go_roundw
                        case rel => exact ⟨k + 1, _, by omega, by go_num, by rw [HIL.out]; omega, hN9, HI2⟩
                        case measure => simp [intOf]; omega
                      ·
                        refine ht_sole (by rfl) (fun K hK => ?_) -- 6
                        have h6 := World.ownsRow_lit (base := L) (e := 9) (size := 1) _ #[.string nm] 1 hSW.le (by simp only [maxLen]; omega) rfl
                        try simp only [World.size_alloc] at h6
                        try (replace h1 := own_below h1 ((Below.refl _ _).alloc (Nat.le_refl _) (.cells #[.string nm] 9)))
                        try (replace ho4 := own_below ho4 ((Below.refl _ _).alloc (Nat.le_refl _) (.cells #[.string nm] 9)))
                        go_simp
                        refine hK _ _ (hSW.next ((Below.refl _ _).alloc hSW.le _)) ?_
                        clear hK K hSW
                        intro hSW
                        try simp only [Act.put, List.setIfInBounds_toArray, List.set_cons_zero, List.set_cons_succ]
                        refine ht_sole (by rfl) (fun K hK => ?_) -- 4
                        refine wp_append_any _ _ _ 35 rfl L 9 i0 _ 1 16 Tryd.underlying35 hi0 hz0 hz1 hz2 rfl (by omega) _ 0 _ rfl h1 _ _ j _ _ rfl (hr1 _ hSW.n) (fun u hu => str_one out u (List.mem_of_mem_take hu)) (by simp only [maxLen]; omega) (by omega) hSW.le ?_
                        intro v4 w4 ho4 hg4 _
                        rw [Nat.zero_add, List.nil_append] at ho4
                        have hb4 := Below.grown (Below.refl L _) hg4 hSW.le (fun k hk => (own_base_le h1 k hk).1)
                        try (replace h6 := own_grown h6 hg4 (fun k hk e => by have e1 := Option.some.inj hk; have e2 := Option.some.inj e; simp [World.size_alloc] at e1 e2; omega))
                        refine hK _ _ (hSW.next hb4) ?_
                        clear hK K hSW
                        intro hSW
                        clear hg4 hb4 h1
                        try simp only [Act.put, List.setIfInBounds_toArray, List.set_cons_zero, List.set_cons_succ]
                        refine ht_sole (by rfl) (fun K hK => ?_) -- 7
                        refine wp_append_any _ _ _ 35 rfl L 9 i0 _ 1 16 Tryd.underlying35 hi0 hz0 hz1 hz2 rfl (by omega) _ j _ rfl ho4 _ _ 1 _ _ rfl (Reads.of_own h6) (by intro u hu; have := List.mem_singleton.1 hu; subst this; rfl) (by simp only [maxLen]; omega) (by omega) hSW.le ?_
                        intro v7 w7 ho7 hg7 _
                        have hb7 := Below.grown (Below.refl L _) hg7 hSW.le (fun k hk => (own_base_le ho4 k hk).1)
                        refine hK _ _ (hSW.next hb7) ?_
                        clear hK K hSW
                        intro hSW
                        clear hg7 hb7 h6 ho4
                        try simp only [Act.put, List.setIfInBounds_toArray, List.set_cons_zero, List.set_cons_succ]
                        refine ht_nil ?_
                        skip
                        go_wp2_with (at_builtin; go_must (refine wpList_append_any _ rfl _ _ 35 rfl L 9 i0 _ 1 16 Tryd.underlying35 hi0 hz0 hz1 hz2 rfl (by omega) _ (j + 1) _ rfl ho7 _ _ (out.length - j) _ _ rfl (hr2 _ hSW.n) (fun u hu => str_one out u (List.mem_of_mem_drop hu)) (by simp only [maxLen]; omega) (by omega) hSW.le ?_; intro v9 w9 ho9 hg9 _))
                        refine NoPanic.normal ?_
                        have hb9 := Below.grown (Below.refl L _) hg9 hSW.le (fun k hk => (own_base_le ho7 k hk).1)
                        have hN9 := hSW.fin hb9 ho9 HIN.out.2 HIL.out hj
                        clear hb9 ho9 hg9 ho7 hSW hs1 hs2 hr1 hr2 hQ
                        go_wp2_with fail
                        go_roundw
                        case rel => exact ⟨k + 1, _, by omega, by go_num, by rw [HIL.out]; omega, hN9, HI2⟩
                        case measure => simp [intOf]; omega
                    ·
                      refine ht_sole (by rfl) (fun K hK => ?_) -- 6
                      have h6 := World.ownsRow_lit (base := L) (e := 9) (size := 1) _ #[.string nm] 1 hSW.le (by simp only [maxLen]; omega) rfl
                      try simp only [World.size_alloc] at h6
                      try (replace h1 := own_below h1 ((Below.refl _ _).alloc (Nat.le_refl _) (.cells #[.string nm] 9)))
                      try (replace ho4 := own_below ho4 ((Below.refl _ _).alloc (Nat.le_refl _) (.cells #[.string nm] 9)))
                      go_simp
                      refine hK _ _ (hSW.next ((Below.refl _ _).alloc hSW.le _)) ?_
                      clear hK K hSW
                      intro hSW
                      try simp only [Act.put, List.setIfInBounds_toArray, List.set_cons_zero, List.set_cons_succ]
                      refine ht_sole (by rfl) (fun K hK => ?_) -- 0
                      have h1 := own_lit0 _ L 9 1 hSW.le
                      try simp only [World.size_alloc] at h1
                      try (replace h6 := own_below h6 ((Below.refl _ _).alloc (Nat.le_refl _) (.cells #[] 9)))
                      go_simp
                      refine hK _ _ (hSW.next ((Below.refl _ _).alloc hSW.le _)) ?_
                      clear hK K hSW
                      intro hSW
                      try simp only [Act.put, List.setIfInBounds_toArray, List.set_cons_zero, List.set_cons_succ]
                      refine ht_sole (by rfl) (fun K hK => ?_) -- 4
                      refine wp_append_any _ _ _ 35 rfl L 9 i0 _ 1 16 Tryd.underlying35 hi0 hz0 hz1 hz2 rfl (by omega) _ 0 _ rfl h1 _ _ j _ _ rfl (hr1 _ hSW.n) (fun u hu => str_one out u (List.mem_of_mem_take hu)) (by simp only [maxLen]; omega) (by omega) hSW.le ?_
                      intro v4 w4 ho4 hg4 _
                      rw [Nat.zero_add, List.nil_append] at ho4
                      have hb4 := Below.grown (Below.refl L _) hg4 hSW.le (fun k hk => (own_base_le h1 k hk).1)
                      try (replace h6 := own_grown h6 hg4 (fun k hk e => by have e1 := Option.some.inj hk; have e2 := Option.some.inj e; simp [World.size_alloc] at e1 e2; omega))
                      refine hK _ _ (hSW.next hb4) ?_
                      clear hK K hSW
                      intro hSW
                      clear hg4 hb4 h1
                      try simp only [Act.put, List.setIfInBounds_toArray, List.set_cons_zero, List.set_cons_succ]
                      refine ht_sole (by rfl) (fun K hK => ?_) -- 7
                      refine wp_append_any _ _ _ 35 rfl L 9 i0 _ 1 16 Tryd.underlying35 hi0 hz0 hz1 hz2 rfl (by omega) _ j _ rfl ho4 _ _ 1 _ _ rfl (Reads.of_own h6) (by intro u hu; have := List.mem_singleton.1 hu; subst this; rfl) (by simp only [maxLen]; omega) (by omega) hSW.le ?_
                      intro v7 w7 ho7 hg7 _
                      have hb7 := Below.grown (Below.refl L _) hg7 hSW.le (fun k hk => (own_base_le ho4 k hk).1)
                      refine hK _ _ (hSW.next hb7) ?_
                      clear hK K hSW
                      intro hSW
                      clear hg7 hb7 h6 ho4
                      try simp only [Act.put, List.setIfInBounds_toArray, List.set_cons_zero, List.set_cons_succ]
                      refine ht_nil ?_
                      skip
                      go_wp2_with (at_builtin; go_must (refine wpList_append_any _ rfl _ _ 35 rfl L 9 i0 _ 1 16 Tryd.underlying35 hi0 hz0 hz1 hz2 rfl (by omega) _ (j + 1) _ rfl ho7 _ _ (out.length - j) _ _ rfl (hr2 _ hSW.n) (fun u hu => str_one out u (List.mem_of_mem_drop hu)) (by simp only [maxLen]; omega) (by omega) hSW.le ?_; intro v9 w9 ho9 hg9 _))
                      refine NoPanic.normal ?_
                      have hb9 := Below.grown (Below.refl L _) hg9 hSW.le (fun k hk => (own_base_le ho7 k hk).1)
                      have hN9 := hSW.fin hb9 ho9 HIN.out.2 HIL.out hj
                      clear hb9 ho9 hg9 ho7 hSW hs1 hs2 hr1 hr2 hQ
                      go_wp2_with fail
                      go_roundw
                      case rel => exact ⟨k + 1, _, by omega, by go_num, by rw [HIL.out]; omega, hN9, HI2⟩
                      case measure => simp [intOf]; omega
              · have hat : atL out nm.data.toList = j := atL_step _ out j hj (fun t ht => HJ.out t ht (by omega)) (fun h => absurd h hjl)
                have hjj : j = out.length := by omega
                have dj : decide (j < out.length) = false := decide_eq_false hjl
                have HJJ := Lib.hid hjj
                clear hjj hjl HJ
                go_upto_region 18 with fail
                have hjl0 : (0 : Int) ≤ (j : Int) := by omega
                cases b
                · have HI2 := Lib.hid (show insAll [] (namesRaw (ls.take (k + 1)) d) = out by rw [HS.out, HA.out, HBR.out]; simp; exact HI.out)
                  clear hs1 hs2
                  go_wp2_with fail
                  go_roundw
                  case rel => exact ⟨k + 1, out, by omega, by go_num, by omega, hN, HI2⟩
                  case measure => simp [intOf]; omega
                · have HI2 := Lib.hid (show insAll [] (namesRaw (ls.take (k + 1)) d) = insL out nm.data.toList by rw [HS.out, HA.out, HBR.out]; simp; rw [insAll_snoc, HI.out])
                  have HIN := Lib.hid (show out.map encStr = (out.map encStr).take j ++ (out.map encStr).drop j ∧ (insL out nm.data.toList).map encStr = (out.map encStr).take j ++ [.string nm] ++ (out.map encStr).drop j from ⟨by rw [List.take_append_drop], by unfold insL; rw [hat]; simp [List.map_take, List.map_drop, encStr]⟩)
                  have hil := insL_len out nm.data.toList
                  have HIL := Lib.hid hil
                  clear hil hat
                  have hQ : NQ w W0.heap.size (.slice Ao out.length co) out W0 := ⟨hN, fun k hk => (own_base_le hN.o k hk).2, Nat.le_refl _, hN.lo.size⟩
                  generalize W0.heap.size = L at hQ
                  clear hN
                  go_upto_region 19 with fail
                  refine reg_sch3 11 (.op true 1 (.op true 2 (.op true 3 (.op true 5 (.op true 8 (.op true 9 (.op true 10 (.fork 0 (.fork 4 (.op false 6 (.op false 7 .nil)) 6 (.op false 4 (.op false 7 .nil))) 6 (.op false 0 (.op false 4 (.op false 7 .nil))))))))))) (by kernel_rfl) (by kernel_rfl) (NQ w L (.slice Ao out.length co) out) (NQ w L (.slice Ao out.length co) out) ?_ ?_ ?_
                  · exact hQ.drew
                  · exact fun _ h => h
                  intro W hSW
                  simp only [Sch.map, List.getD_cons_zero, List.getD_cons_succ, List.drop_succ_cons, List.drop_zero]
                  refine ht_pure (v := ?_) (by rfl) (fun W' hS' => ?_) ?_ -- 1
                  rotate_left
                  · clear hS'; (go_simp; first | with_reducible rfl | rfl)
                  try simp only [Act.put, List.setIfInBounds_toArray, List.set_cons_zero, List.set_cons_succ]
                  refine ht_pure (v := ?_) (by rfl) (fun W' hS' => ?_) ?_ -- 2
                  rotate_left
                  · clear hS'; (go_simp; first | with_reducible rfl | rfl)
                  try simp only [Act.put, List.setIfInBounds_toArray, List.set_cons_zero, List.set_cons_succ]
                  refine ht_pure (v := .slice A1 j co) (by rfl) (fun W' hS' => exec_slice_h _ _ _ (by rfl) (hs1 W')) ?_ -- 3
                  try simp only [Act.put, List.setIfInBounds_toArray, List.set_cons_zero, List.set_cons_succ]
                  refine ht_pure (v := ?_) (by rfl) (fun W' hS' => ?_) ?_ -- 5
                  rotate_left
                  · clear hS'; (go_simp; first | with_reducible rfl | rfl)
                  try simp only [Act.put, List.setIfInBounds_toArray, List.set_cons_zero, List.set_cons_succ]
                  refine ht_pure (v := ?_) (by rfl) (fun W' hS' => ?_) ?_ -- 8
                  rotate_left
                  · clear hS'; (go_simp; first | with_reducible rfl | rfl)
                  try simp only [Act.put, List.setIfInBounds_toArray, List.set_cons_zero, List.set_cons_succ]
                  refine ht_pure (v := ?_) (by rfl) (fun W' hS' => ?_) ?_ -- 9
                  rotate_left
                  · clear hS'; (go_simp; first | with_reducible rfl | rfl)
                  try simp only [Act.put, List.setIfInBounds_toArray, List.set_cons_zero, List.set_cons_succ]
                  refine ht_pure (v := .slice A2 (out.length - j) (co - j)) (by rfl) (fun W' hS' => exec_slice_l _ _ _ (by rfl) (hs2 W')) ?_ -- 10
                  try simp only [Act.put, List.setIfInBounds_toArray, List.set_cons_zero, List.set_cons_succ]
                  refine ht_fork ?_ ?_
                  ·
                    refine ht_sole (by rfl) (fun K hK => ?_) -- 0
                    have h1 := own_lit0 _ L 9 1 hSW.le
                    try simp only [World.size_alloc] at h1
                    try (replace h6 := own_below h6 ((Below.refl _ _).alloc (Nat.le_refl _) (.cells #[] 9)))
                    go_simp
                    refine hK _ _ (hSW.next ((Below.refl _ _).alloc hSW.le _)) ?_
                    clear hK K hSW
                    intro hSW
                    try simp only [Act.put, List.setIfInBounds_toArray, List.set_cons_zero, List.set_cons_succ]
                    refine ht_fork ?_ ?_
                    ·
                      refine ht_sole (by rfl) (fun K hK => ?_) -- 4
                      refine wp_append_any _ _ _ 35 rfl L 9 i0 _ 1 16 Tryd.underlying35 hi0 hz0 hz1 hz2 rfl (by omega) _ 0 _ rfl h1 _ _ j _ _ rfl (hr1 _ hSW.n) (fun u hu => str_one out u (List.mem_of_mem_take hu)) (by simp only [maxLen]; omega) (by omega) hSW.le ?_
                      intro v4 w4 ho4 hg4 _
                      rw [Nat.zero_add, List.nil_append] at ho4
                      have hb4 := Below.grown (Below.refl L _) hg4 hSW.le (fun k hk => (own_base_le h1 k hk).1)
                      try (replace h6 := own_grown h6 hg4 (fun k hk e => by have e1 := Option.some.inj hk; have e2 := Option.some.inj e; simp [World.size_alloc] at e1 e2; omega))
                      refine hK _ _ (hSW.next hb4) ?_
                      clear hK K hSW
                      intro hSW
                      clear hg4 hb4 h1
                      try simp only [Act.put, List.setIfInBounds_toArray, List.set_cons_zero, List.set_cons_succ]
                      refine ht_sole (by rfl) (fun K hK => ?_) -- 6
                      have h6 := World.ownsRow_lit (base := L) (e := 9) (size := 1) _ #[.string nm] 1 hSW.le (by simp only [maxLen]; omega) rfl
                      try simp only [World.size_alloc] at h6
                      try (replace h1 := own_below h1 ((Below.refl _ _).alloc (Nat.le_refl _) (.cells #[.string nm] 9)))
                      try (replace ho4 := own_below ho4 ((Below.refl _ _).alloc (Nat.le_refl _) (.cells #[.string nm] 9)))
                      go_simp
                      refine hK _ _ (hSW.next ((Below.refl _ _).alloc hSW.le _)) ?_
                      clear hK K hSW
                      intro hSW
                      try simp only [Act.put, List.setIfInBounds_toArray, List.set_cons_zero, List.set_cons_succ]
                      refine ht_sole (by rfl) (fun K hK => ?_) -- 7
                      refine wp_append_any _ _ _ 35 rfl L 9 i0 _ 1 16 Tryd.underlying35 hi0 hz0 hz1 hz2 rfl (by omega) _ j _ rfl ho4 _ _ 1 _ _ rfl (Reads.of_own h6) (by intro u hu; have := List.mem_singleton.1 hu; subst this; rfl) (by simp only [maxLen]; omega) (by omega) hSW.le ?_
                      intro v7 w7 ho7 hg7 _
                      have hb7 := Below.grown (Below.refl L _) hg7 hSW.le (fun k hk => (own_base_le ho4 k hk).1)
                      refine hK _ _ (hSW.next hb7) ?_
                      clear hK K hSW
                      intro hSW
                      clear hg7 hb7 h6 ho4
                      try simp only [Act.put, List.setIfInBounds_toArray, List.set_cons_zero, List.set_cons_succ]
                      refine ht_nil ?_
                      skip
                      go_wp2_with (at_builtin; go_must (refine wpList_append_any _ rfl _ _ 35 rfl L 9 i0 _ 1 16 Tryd.underlying35 hi0 hz0 hz1 hz2 rfl (by omega) _ (j + 1) _ rfl ho7 _ _ (out.length - j) _ _ rfl (hr2 _ hSW.n) (fun u hu => str_one out u (List.mem_of_mem_drop hu)) (by simp only [maxLen]; omega) (by omega) hSW.le ?_; intro v9 w9 ho9 hg9 _))
                      refine NoPanic.normal ?_
                      have hb9 := Below.grown (Below.refl L _) hg9 hSW.le (fun k hk => (own_base_le ho7 k hk).1)
                      have hN9 := hSW.fin hb9 ho9 HIN.out.2 HIL.out hj
                      clear hb9 ho9 hg9 ho7 hSW hs1 hs2 hr1 hr2 hQ
                      go_wp2_with fail
                      go_roundw
                      case rel => exact ⟨k + 1, _, by omega, by go_num, by rw [HIL.out]; omega, hN9, HI2⟩
                      case measure => simp [intOf]; omega
                    ·
                      refine ht_sole (by rfl) (fun K hK => ?_) -- 6
                      have h6 := World.ownsRow_lit (base := L) (e := 9) (size := 1) _ #[.string nm] 1 hSW.le (by simp only [maxLen]; omega) rfl
                      try simp only [World.size_alloc] at h6
                      try (replace h1 := own_below h1 ((Below.refl _ _).alloc (Nat.le_refl _) (.cells #[.string nm] 9)))
                      try (replace ho4 := own_below ho4 ((Below.refl _ _).alloc (Nat.le_refl _) (.cells #[.string nm] 9)))
                      go_simp
                      refine hK _ _ (hSW.next ((Below.refl _ _).alloc hSW.le _)) ?_
                      clear hK K hSW
                      intro hSW
                      try simp only [Act.put, List.setIfInBounds_toArray, List.set_cons_zero, List.set_cons_succ]
                      refine ht_sole (by rfl) (fun K hK => ?_) -- 4
                      refine wp_append_any _ _ _ 35 rfl L 9 i0 _ 1 16 Tryd.underlying35 hi0 hz0 hz1 hz2 rfl (by omega) _ 0 _ rfl h1 _ _ j _ _ rfl (hr1 _ hSW.n) (fun u hu => str_one out u (List.mem_of_mem_take hu)) (by simp only [maxLen]; omega) (by omega) hSW.le ?_
                      intro v4 w4 ho4 hg4 _
                      rw [Nat.zero_add, List.nil_append] at ho4
                      have hb4 := Below.grown (Below.refl L _) hg4 hSW.le (fun k hk => (own_base_le h1 k hk).1)
                      try (replace h6 := own_grown h6 hg4 (fun k hk e => by have e1 := Option.some.inj hk; have e2 := Option.some.inj e; simp [World.size_alloc] at e1 e2; omega))
                      refine hK _ _ (hSW.next hb4) ?_
                      clear hK K hSW
                      intro hSW
                      clear hg4 hb4 h1
                      try simp only [Act.put, List.setIfInBounds_toArray, List.set_cons_zero, List.set_cons_succ]
                      refine ht_sole (by rfl) (fun K hK => ?_) -- 7
                      refine wp_append_any _ _ _ 35 rfl L 9 i0 _ 1 16 Tryd.underlying35 hi0 hz0 hz1 hz2 rfl (by omega) _ j _ rfl ho4 _ _ 1 _ _ rfl (Reads.of_own h6) (by intro u hu; have := List.mem_singleton.1 hu; subst this; rfl) (by simp only [maxLen]; omega) (by omega) hSW.le ?_
                      intro v7 w7 ho7 hg7 _
                      have hb7 := Below.grown (Below.refl L _) hg7 hSW.le (fun k hk => (own_base_le ho4 k hk).1)
                      refine hK _ _ (hSW.next hb7) ?_
                      clear hK K hSW
                      intro hSW
                      clear hg7 hb7 h6 ho4
                      try simp only [Act.put, List.setIfInBounds_toArray, List.set_cons_zero, List.set_cons_succ]
                      refine ht_nil ?_
                      skip
                      go_wp2_with (at_builtin; go_must (refine wpList_append_any _ rfl _ _ 35 rfl L 9 i0 _ 1 16 Tryd.underlying35 hi0 hz0 hz1 hz2 rfl (by omega) _ (j + 1) _ rfl ho7 _ _ (out.length - j) _ _ rfl (hr2 _ hSW.n) (fun u hu => str_one out u (List.mem_of_mem_drop hu)) (by simp only [maxLen]; omega) (by omega) hSW.le ?_; intro v9 w9 ho9 hg9 _))
                      refine NoPanic.normal ?_
                      have hb9 := Below.grown (Below.refl L _) hg9 hSW.le (fun k hk => (own_base_le ho7 k hk).1)
                      have hN9 := hSW.fin hb9 ho9 HIN.out.2 HIL.out hj
                      clear hb9 ho9 hg9 ho7 hSW hs1 hs2 hr1 hr2 hQ
                      go_wp2_with fail
                      go_roundw
                      case rel => exact ⟨k + 1, _, by omega, by go_num, by rw [HIL.out]; omega, hN9, HI2⟩
                      case measure => simp [intOf]; omega
                  ·
                    refine ht_sole (by rfl) (fun K hK => ?_) -- 6
                    have h6 := World.ownsRow_lit (base := L) (e := 9) (size := 1) _ #[.string nm] 1 hSW.le (by simp only [maxLen]; omega) rfl
                    try simp only [World.size_alloc] at h6
                    try (replace h1 := own_below h1 ((Below.refl _ _).alloc (Nat.le_refl _) (.cells #[.string nm] 9)))
                    try (replace ho4 := own_below ho4 ((Below.refl _ _).alloc (Nat.le_refl _) (.cells #[.string nm] 9)))
                    go_simp
                    refine hK _ _ (hSW.next ((Below.refl _ _).alloc hSW.le _)) ?_
                    clear hK K hSW
                    intro hSW
                    try simp only [Act.put, List.setIfInBounds_toArray, List.set_cons_zero, List.set_cons_succ]
                    refine ht_sole (by rfl) (fun K hK => ?_) -- 0
                    have h1 := own_lit0 _ L 9 1 hSW.le
                    try simp only [World.size_alloc] at h1
                    try (replace h6 := own_below h6 ((Below.refl _ _).alloc (Nat.le_refl _) (.cells #[] 9)))
                    go_simp
                    refine hK _ _ (hSW.next ((Below.refl _ _).alloc hSW.le _)) ?_
                    clear hK K hSW
                    intro hSW
                    try simp only [Act.put, List.setIfInBounds_toArray, List.set_cons_zero, List.set_cons_succ]
                    refine ht_sole (by rfl) (fun K hK => ?_) -- 4
                    refine wp_append_any _ _ _ 35 rfl L 9 i0 _ 1 16 Tryd.underlying35 hi0 hz0 hz1 hz2 rfl (by omega) _ 0 _ rfl h1 _ _ j _ _ rfl (hr1 _ hSW.n) (fun u hu => str_one out u (List.mem_of_mem_take hu)) (by simp only [maxLen]; omega) (by omega) hSW.le ?_
                    intro v4 w4 ho4 hg4 _
                    rw [Nat.zero_add, List.nil_append] at ho4
                    have hb4 := Below.grown (Below.refl L _) hg4 hSW.le (fun k hk => (own_base_le h1 k hk).1)
                    try (replace h6 := own_grown h6 hg4 (fun k hk e => by have e1 := Option.some.inj hk; have e2 := Option.some.inj e; simp [World.size_alloc] at e1 e2; omega))
                    refine hK _ _ (hSW.next hb4) ?_
                    clear hK K hSW
                    intro hSW
                    clear hg4 hb4 h1
                    try simp only [Act.put, List.setIfInBounds_toArray, List.set_cons_zero, List.set_cons_succ]
                    refine ht_sole (by rfl) (fun K hK => ?_) -- 7
                    refine wp_append_any _ _ _ 35 rfl L 9 i0 _ 1 16 Tryd.underlying35 hi0 hz0 hz1 hz2 rfl (by omega) _ j _ rfl ho4 _ _ 1 _ _ rfl (Reads.of_own h6) (by intro u hu; have := List.mem_singleton.1 hu; subst this; rfl) (by simp only [maxLen]; omega) (by omega) hSW.le ?_
                    intro v7 w7 ho7 hg7 _
                    have hb7 := Below.grown (Below.refl L _) hg7 hSW.le (fun k hk => (own_base_le ho4 k hk).1)
                    refine hK _ _ (hSW.next hb7) ?_
                    clear hK K hSW
                    intro hSW
                    clear hg7 hb7 h6 ho4
                    try simp only [Act.put, List.setIfInBounds_toArray, List.set_cons_zero, List.set_cons_succ]
                    refine ht_nil ?_
                    skip
                    go_wp2_with (at_builtin; go_must (refine wpList_append_any _ rfl _ _ 35 rfl L 9 i0 _ 1 16 Tryd.underlying35 hi0 hz0 hz1 hz2 rfl (by omega) _ (j + 1) _ rfl ho7 _ _ (out.length - j) _ _ rfl (hr2 _ hSW.n) (fun u hu => str_one out u (List.mem_of_mem_drop hu)) (by simp only [maxLen]; omega) (by omega) hSW.le ?_; intro v9 w9 ho9 hg9 _))
                    refine NoPanic.normal ?_
                    have hb9 := Below.grown (Below.refl L _) hg9 hSW.le (fun k hk => (own_base_le ho7 k hk).1)
                    have hN9 := hSW.fin hb9 ho9 HIN.out.2 HIL.out hj
                    clear hb9 ho9 hg9 ho7 hSW hs1 hs2 hr1 hr2 hQ
                    go_wp2_with fail
                    go_roundw
                    case rel => exact ⟨k + 1, _, by omega, by go_num, by rw [HIL.out]; omega, hN9, HI2⟩
                    case measure => simp [intOf]; omega
      · have be : ((u.extract 0 d.size).toList == d.toList) = false := by rw [eqS']; exact decide_eq_false hpx
        have HI2 := Lib.hid (show insAll [] (namesRaw (ls.take (k + 1)) d) = out by rw [HS.out, nameIn_far d u hpx, List.append_nil]; exact HI.out)
        clear hsz hpx
        go_wp2_with fail
        go_roundw
        case rel => exact ⟨k + 1, out, by omega, by go_num, by omega, hN, HI2⟩
        case measure => simp [intOf]; omega
    · have hkk : k = ls.length := by omega
      subst hkk
      have ho := hN.o
      obtain ⟨Ao, co, rfl⟩ := own_slice' ho
      have HE := Lib.hid (show namesOf ls d = out by rw [← HI.out, List.take_length, namesIns])
      go_wp2_with fail
      go_ret
      refine ⟨?_, hN.lo⟩
      unfold Names21Post
      rw [HD.out, HE.out]
      exact ⟨Ao, co, rfl, ho⟩
end Go.Proofs.YtmoldmnhijcckaaDoor
