/- The contract of lanyardref25.All. Condition: a length that memory allows. -/
import Derived.Test.YtmoldmnhijcckaaAlll
import Derived.Test.YtmoldmnhijcckaaRefRd
set_option linter.unusedVariables false
set_option linter.unusedSectionVars false
set_option linter.unusedSimpArgs false
namespace Go.Proofs.Ytmoldmnhijcckaa
open Go.RowKit
set_option maxRecDepth 100000 in
set_option maxHeartbeats 4000000 in
theorem rall_any (bs : List UInt8) (A : Option Addr) (c B : Nat) (hc : bs.length ≤ c) (hlen : bs.length ≤ 1000000) (w : World) (hB : B ≤ w.heap.size) (hr : Reads w B 1 A bs.length (bs.map bv)) :
    Calls Try.prog 19 #[.slice A bs.length c] w (AllPost w bs) := by
  have hst : AllRel w bs B (.slice A bs.length c) (.slice none 0 0) w := ⟨[], bs, A, _, c, rfl, rfl, hc, hr, World.ownsRow_nil _ _ _ _, Below.refl _ _, hB, by simp, by simp⟩
  obtain ⟨i0, hi0, hz0, hz1, hz2⟩ := info_parts info29b
  clear hr
  go_enter Try.func19, Try.ntmps19
  go_wp2_with fail
  go_loopw [0, 6] (fun s0 s2 wr => AllRel w bs B s0 s2 wr) (fun s0 _ _ => lenV s0)
  case atStart => exact hst
  case round =>
    clear hst
    obtain ⟨ps, rest, A', n', c', rfl, hAt⟩ := hrel
    have hnr : rest.length ≤ n' := Nat.le_of_eq hAt.len.symm
    have hnr2 : n' ≤ rest.length := Nat.le_of_eq hAt.len
    rcases readOf_cases rest with R | R | R | R | ⟨q, l, R, hq1, hq2, hl8, hl⟩
    · obtain ⟨q, hz⟩ : ∃ q, q = bareP 0 := ⟨_, rfl⟩
      have R := Lib.hid (show readOf rest = (q, 0, 0, 3) by rw [hz]; exact R)
      have RA := Lib.hid (show allOf rest = ([], rest, 0, 0) from by first | exact all_short R.out | exact all_bad R.out (by decide) (by decide))
      clear hz
      have HN := Lib.hid hAt.len
      have hcp := hAt.cap
      have hf := hAt.few
      have hsz := hAt.b.size
      have hle := hAt.le
      go_upto_region 3 with (first | (go_at_call 17; go_must (refine (rread_n rest n' HN.out.symm (by omega) q _ _ _ R.out A' c' B hcp _ (by omega) hAt.rd).mono ?_; rintro e w3 ⟨rfl, hb3⟩)) | (refine wpList_store_at rfl 29 _ _ rfl _ 0 26 29 q.cells (bareL 0) rfl rfl (blk_new' _ _ _ _ rfl) (Pdu.cells_length _) (by decide) info_pdu (Pdu.one _) ?_))
      refine wp_gen (fun W => AllAt w bs ps rest A' n' c' B u6 W ∧ Blk W w3.heap.size 29 q.cells) ⟨(hAt.next hb3).next (put_new w3 q).2, (put_new w3 q).1⟩ ?_
      clear hAt hb3 hsz
      generalize w3.heap.size = g3
      rintro W ⟨hAt, hq⟩
      go_wp2
      exact bodyPost_ret (v := .tuple #[u6, .slice A' n' c', .int .i64 0, .int .i64 0]) (by simp [results, Try.results19, go_sem]) rfl (hAt.done RA.out A' c' hcp (hAt.rd.more (by have := hAt.b.size; omega)) (Below.refl _ _))
    · obtain ⟨q, hz⟩ : ∃ q, q = bareP 0 := ⟨_, rfl⟩
      have R := Lib.hid (show readOf rest = (q, 0, 4, 2) by rw [hz]; exact R)
      have RA := Lib.hid (show allOf rest = ([], rest, 4, 2) from by first | exact all_short R.out | exact all_bad R.out (by decide) (by decide))
      clear hz
      have HN := Lib.hid hAt.len
      have hcp := hAt.cap
      have hf := hAt.few
      have hsz := hAt.b.size
      have hle := hAt.le
      go_upto_region 3 with (first | (go_at_call 17; go_must (refine (rread_n rest n' HN.out.symm (by omega) q _ _ _ R.out A' c' B hcp _ (by omega) hAt.rd).mono ?_; rintro e w3 ⟨rfl, hb3⟩)) | (refine wpList_store_at rfl 29 _ _ rfl _ 0 26 29 q.cells (bareL 0) rfl rfl (blk_new' _ _ _ _ rfl) (Pdu.cells_length _) (by decide) info_pdu (Pdu.one _) ?_))
      refine wp_gen (fun W => AllAt w bs ps rest A' n' c' B u6 W ∧ Blk W w3.heap.size 29 q.cells) ⟨(hAt.next hb3).next (put_new w3 q).2, (put_new w3 q).1⟩ ?_
      clear hAt hb3 hsz
      generalize w3.heap.size = g3
      rintro W ⟨hAt, hq⟩
      go_wp2
      exact bodyPost_ret (v := .tuple #[u6, .slice A' n' c', .int .i64 4, .int .i64 2]) (by simp [results, Try.results19, go_sem]) rfl (hAt.done RA.out A' c' hcp (hAt.rd.more (by have := hAt.b.size; omega)) (Below.refl _ _))
    · obtain ⟨q, hz⟩ : ∃ q, q = bareP 0 := ⟨_, rfl⟩
      have R := Lib.hid (show readOf rest = (q, 0, 5, 2) by rw [hz]; exact R)
      have RA := Lib.hid (show allOf rest = ([], rest, 5, 2) from by first | exact all_short R.out | exact all_bad R.out (by decide) (by decide))
      clear hz
      have HN := Lib.hid hAt.len
      have hcp := hAt.cap
      have hf := hAt.few
      have hsz := hAt.b.size
      have hle := hAt.le
      go_upto_region 3 with (first | (go_at_call 17; go_must (refine (rread_n rest n' HN.out.symm (by omega) q _ _ _ R.out A' c' B hcp _ (by omega) hAt.rd).mono ?_; rintro e w3 ⟨rfl, hb3⟩)) | (refine wpList_store_at rfl 29 _ _ rfl _ 0 26 29 q.cells (bareL 0) rfl rfl (blk_new' _ _ _ _ rfl) (Pdu.cells_length _) (by decide) info_pdu (Pdu.one _) ?_))
      refine wp_gen (fun W => AllAt w bs ps rest A' n' c' B u6 W ∧ Blk W w3.heap.size 29 q.cells) ⟨(hAt.next hb3).next (put_new w3 q).2, (put_new w3 q).1⟩ ?_
      clear hAt hb3 hsz
      generalize w3.heap.size = g3
      rintro W ⟨hAt, hq⟩
      go_wp2
      exact bodyPost_ret (v := .tuple #[u6, .slice A' n' c', .int .i64 5, .int .i64 2]) (by simp [results, Try.results19, go_sem]) rfl (hAt.done RA.out A' c' hcp (hAt.rd.more (by have := hAt.b.size; omega)) (Below.refl _ _))
    · obtain ⟨q, hz⟩ : ∃ q, q = bareP 0 := ⟨_, rfl⟩
      have R := Lib.hid (show readOf rest = (q, 0, 0, 2) by rw [hz]; exact R)
      have RA := Lib.hid (show allOf rest = ([], rest, 0, 2) from by first | exact all_short R.out | exact all_bad R.out (by decide) (by decide))
      clear hz
      have HN := Lib.hid hAt.len
      have hcp := hAt.cap
      have hf := hAt.few
      have hsz := hAt.b.size
      have hle := hAt.le
      go_upto_region 3 with (first | (go_at_call 17; go_must (refine (rread_n rest n' HN.out.symm (by omega) q _ _ _ R.out A' c' B hcp _ (by omega) hAt.rd).mono ?_; rintro e w3 ⟨rfl, hb3⟩)) | (refine wpList_store_at rfl 29 _ _ rfl _ 0 26 29 q.cells (bareL 0) rfl rfl (blk_new' _ _ _ _ rfl) (Pdu.cells_length _) (by decide) info_pdu (Pdu.one _) ?_))
      refine wp_gen (fun W => AllAt w bs ps rest A' n' c' B u6 W ∧ Blk W w3.heap.size 29 q.cells) ⟨(hAt.next hb3).next (put_new w3 q).2, (put_new w3 q).1⟩ ?_
      clear hAt hb3 hsz
      generalize w3.heap.size = g3
      rintro W ⟨hAt, hq⟩
      go_wp2
      exact bodyPost_ret (v := .tuple #[u6, .slice A' n' c', .int .i64 0, .int .i64 2]) (by simp [results, Try.results19, go_sem]) rfl (hAt.done RA.out A' c' hcp (hAt.rd.more (by have := hAt.b.size; omega)) (Below.refl _ _))
    · have R := Lib.hid R
      clear hq1 hq2
      have HN := Lib.hid hAt.len
      have hcp := hAt.cap
      have hf := hAt.few
      have hsz := hAt.b.size
      have hle := hAt.le
      go_upto_region 3 with (first | (go_at_call 17; go_must (refine (rread_n rest n' HN.out.symm (by omega) q _ _ _ R.out A' c' B hcp _ (by omega) hAt.rd).mono ?_; rintro e w3 ⟨rfl, hb3⟩)) | (refine wpList_store_at rfl 29 _ _ rfl _ 0 26 29 q.cells (bareL 0) rfl rfl (blk_new' _ _ _ _ rfl) (Pdu.cells_length _) (by decide) info_pdu (Pdu.one _) ?_))
      refine wp_gen (fun W => AllAt w bs ps rest A' n' c' B u6 W ∧ Blk W w3.heap.size 29 q.cells) ⟨(hAt.next hb3).next (put_new w3 q).2, (put_new w3 q).1⟩ ?_
      clear hAt hb3 hsz
      generalize w3.heap.size = g3
      rintro W ⟨hAt, hq⟩
      obtain ⟨ad, rfl, _, _⟩ := hAt.rd.2 (by omega)
      have fl : (l : Int) ≤ (n' : Int) := by omega
      have fl' : l ≤ n' := by omega
      have flc : (l : Int) ≤ (c' : Int) := by omega
      have hql := Pdu.cells_length q
      have fl0 : (0 : Int) ≤ (l : Int) := by omega
      go_wp2_with (first | (refine wpList_load_at rfl 29 _ rfl g3 0 26 rfl _ _ hq.range (Pdu.cells_length _) Try.underlying29 rfl info_pdu ?_) | (refine wpList_build1 rfl 40 29 _ rfl q.cells 26 rfl hql Try.underlying40 (by kernel_rfl) (by kernel_rfl) (by omega) (by omega) ?_) | (at_builtin; go_must (refine wpList_append_any _ rfl _ _ 40 rfl w.heap.size 29 i0 _ 26 96 Try.underlying40 hi0 hz0 hz1 hz2 rfl (by omega) _ ps.length _ rfl (own_below hAt.own ((Below.refl _ _).alloc (Nat.le_refl _) _)) (W.heap.size + 1) (some ⟨W.heap.size, 0, none⟩) 1 1 _ rfl (reads_new26 q _ rfl) (Pdu.one _) (by simp only [maxLen]; omega) (by omega) (by have := hAt.b.size; simp; omega) ?_; intro v4 w4 ho4 hg4 _; have hbW := ((Below.refl w.heap.size W).alloc hAt.b.size _).grown hg4 (by have := hAt.b.size; simp; omega) (fun k hk => (own_base_le hAt.own k hk).1); clear hg4)))
      all_goals
        go_roundw
        case rel => exact hAt.more R.out hl8 fl' (hAt.b.trans hbW) (hAt.rd.below hbW hle) ho4 _ rfl
        case measure => simp only [lenV_slice]; omega
end Go.Proofs.Ytmoldmnhijcckaa
