import Derived.Test.YtbnelajjadhcgaaDoorNum
import Derived.Test.YtbnelajjadhcgaaDoorSign
import Derived.Deep.RegionWith
namespace Go.Proofs.YtbnelajjadhcgaaDoor.G
open Go.RowKit Go.Proofs.YtbnelajjadhcgaaDoorW.PrintWords Go.Proofs.YtbnelajjadhcgaaDoorW.PrintLast Go.Proofs.YtbnelajjadhcgaaDoorW.PrintMore
set_option linter.unusedVariables false
set_option linter.unusedSimpArgs false

theorem ofK_small (c : Int) : (ofK c == 1) = isL c := by
  unfold ofK
  cases h1 : isL c with
  | true => rfl
  | false =>
    cases h2 : isD c with
    | true => rfl
    | false =>
      cases h3 : (c == 95) with
      | true => rfl
      | false => rfl
theorem ofK_fig (c : Int) (h : isL c = false) : (ofK c == 2) = isD c := by
  unfold ofK
  rw [h]
  cases h2 : isD c with
  | true => rfl
  | false =>
    cases h3 : (c == 95) with
    | true => rfl
    | false => rfl
theorem wordB_head (l : List Int) (h : isL (l.headD 0) = false) : wordB l = false := by
  unfold wordB; rw [h]; simp
theorem wordB_run (l : List Int) (h : runL 7 l ≠ l.length) : wordB l = false := by
  rw [runL_word] at h
  have : l.all isI = false := by
    cases ha : l.all isI with
    | false => rfl
    | true => exact absurd ((takeWhile_all l).2 ha) h
  unfold wordB; rw [this]; simp
theorem wordB_len (l : List Int) (hne : l ≠ []) (h : isL (l.headD 0) = true) (hr : runL 7 l = l.length) : wordB l = decide (l.length ≤ 64) := by
  rw [runL_word] at hr
  have ha := (takeWhile_all l).1 hr
  have he : l.isEmpty = false := by simpa using hne
  unfold wordB; rw [he, h, ha]; rfl

set_option maxHeartbeats 2000000 in
set_option maxRecDepth 100000 in
theorem word_calls (A0 : Option Addr) (c0 : Nat) (l0 : List Int) (w : World) (hr0 : Kd.C (Kd.int .u8) w A0 l0.length l0) (hc0 : l0.length ≤ c0) :
    Calls Tryd.prog 29 #[.slice A0 l0.length c0] w fun e w' => e = .returned (.bool (wordB l0)) ∧ Below w.heap.size w w' := by
  have hm : l0.length ≤ 9223372036854775807 := hr0.2.1
  by_cases hne : l0 = []
  · subst hne
    clear hr0 hc0
    go_enter Tryd.func29, Tryd.ntmps29
    go_wp2
    go_ret
    exact ⟨rfl, by repeat (first | exact Below.refl _ _ | apply below_alloc | apply pw_below_drewN)⟩
  · have hpos : 0 < l0.length := by cases l0 with | nil => exact absurd rfl hne | cons _ _ => simp
    have z1 : decide (0 < (l0.length : Int)) = true := decide_eq_true (by omega)
    obtain ⟨ad, e, hx⟩ := head_cell hr0 hpos
    cases e
    have HR := Lib.hid hr0; clear hr0
    have HC := Lib.hid hc0; clear hc0
    have HN := Lib.hid hne; clear hne
    cases hL : isL (l0.headD 0) with
    | false =>
      rw [wordB_head l0 hL]
      have hk := ofK_small (l0.headD 0)
      rw [hL] at hk
      clear hL
      generalize l0.headD 0 = c at hx hk
      go_enter Tryd.func29, Tryd.ntmps29
      go_wp2_with (go_at_call 27; refine (of_calls _ _).mono ?_; rintro e w1 ⟨rfl, rfl⟩)
      go_ret
      exact ⟨rfl, by repeat (first | exact Below.refl _ _ | apply below_alloc | apply pw_below_drewN)⟩
    | true =>
      have HL := Lib.hid hL
      have hk := ofK_small (l0.headD 0)
      rw [hL] at hk
      clear hL
      by_cases hrun : runL 7 l0 = l0.length
      · have HW := Lib.hid (wordB_len l0 HN.out HL.out hrun)
        have n1 : ((runL 7 l0 : Int) == (l0.length : Int)) = true := beq_iff_eq.2 (by omega)
        have n2 : (runL 7 l0 == l0.length) = true := beq_iff_eq.2 hrun
        clear hrun HL
        generalize l0.headD 0 = c at hx hk
        rw [HW.out]
        go_enter Tryd.func29, Tryd.ntmps29
        go_wp2_with (first | (go_at_call 27; refine (of_calls _ _).mono ?_; rintro e w1 ⟨rfl, rfl⟩) | (go_at_call 28; refine (lex_run.calls _ _ l0 7 _ _ HR.out HC.out rfl).mono ?_; rintro e w1 ⟨rfl, hb⟩))
        go_ret
        refine ⟨?_, hb⟩
        show Ending.returned (.bool (decide _)) = _
        congr 2
        simp
        omega
      · rw [wordB_run l0 hrun]
        have n1 : ((runL 7 l0 : Int) == (l0.length : Int)) = false := beq_eq_false_iff_ne.2 (by omega)
        have n2 : (runL 7 l0 == l0.length) = false := beq_eq_false_iff_ne.2 hrun
        clear hrun HL
        generalize l0.headD 0 = c at hx hk
        go_enter Tryd.func29, Tryd.ntmps29
        go_wp2_with (first | (go_at_call 27; refine (of_calls _ _).mono ?_; rintro e w1 ⟨rfl, rfl⟩) | (go_at_call 28; refine (lex_run.calls _ _ l0 7 _ _ HR.out HC.out rfl).mono ?_; rintro e w1 ⟨rfl, hb⟩))
        go_ret
        exact ⟨rfl, hb⟩

theorem block_cell {w : World} {b : Nat} {cs : Array Value} {t : Nat} (h : w.heap[b]? = some (.cells cs t (0, 0))) (j : Nat) (hj : j < cs.size) : w.cell? ⟨b, j, none⟩ = some cs[j] := by
  simp [World.cell?, h, Array.getElem?_eq_getElem hj]
theorem block_free {w : World} {b : Nat} {cs : Array Value} {t : Nat} (h : w.heap[b]? = some (.cells cs t (0, 0))) (j : Nat) : w.frozen? ⟨b, j, none⟩ = false := by
  simp [World.frozen?, h]

theorem blk3 {w : World} {b t : Nat} {a0 a1 a2 x y z : Value} (h : w.heap[b]? = some (.cells #[a0, a1, a2] t (0, 0))) : (((w.setCell ⟨b, 0, none⟩ x).setCell ⟨b, 1, none⟩ y).setCell ⟨b, 2, none⟩ z).heap[b]? = some (.cells #[x, y, z] t (0, 0)) := by
  refine blk_put (cs := #[x, y, a2]) ?_ 2 _ rfl
  refine blk_put (cs := #[x, a1, a2]) ?_ 1 _ rfl
  exact blk_put (cs := #[a0, a1, a2]) h 0 _ rfl
theorem below3 {B b : Nat} {w w1 : World} {x y z : Value} (h : Below B w w1) (hb : B ≤ b) : Below B w (((w1.setCell ⟨b, 0, none⟩ x).setCell ⟨b, 1, none⟩ y).setCell ⟨b, 2, none⟩ z) := ((h.setCell hb _).setCell hb _).setCell hb _

/-- lex.next: kind, text, ok. -/
def nextR (t : List Int) : Int × ByteArray × Bool :=
  if isL (t.headD 0) then (1, strOfNums (t.takeWhile isI), wordB (t.takeWhile isI))
  else if isD (t.headD 0) then (2, strOfNums (t.takeWhile isD), numB (t.takeWhile isD))
  else (3, (signOf ((t.take 2).map fun n => UInt8.ofNat n.toNat)).getD ⟨#[]⟩, ((signOf ((t.take 2).map fun n => UInt8.ofNat n.toNat)).getD ⟨#[]⟩).toList != [])

theorem take_run_word (l : List Int) : l.take (runL 7 l) = l.takeWhile isI := by
  rw [runL_word]
  exact (List.prefix_iff_eq_take.1 (List.takeWhile_prefix _)).symm
theorem take_run_fig (l : List Int) : l.take (runL 2 l) = l.takeWhile isD := by
  rw [runL_fig]
  exact (List.prefix_iff_eq_take.1 (List.takeWhile_prefix _)).symm

theorem num_calls (A0 : Option Addr) (c0 : Nat) (l0 : List Int) (w : World) (hG : Laid w) (hr0 : Kd.C (Kd.int .u8) w A0 l0.length l0) (hc0 : l0.length ≤ c0) (hbig : l0.length ≤ 281474976710656) :
    Calls Tryd.prog 30 #[.slice A0 l0.length c0] w fun e w' => e = .returned (.bool (numB l0)) ∧ Below w.heap.size w w' :=
  lex_numeral.calls A0 c0 l0 _ w hG hr0 hc0 (by unfold lex_numeral.f; rw [if_pos hbig])

set_option maxHeartbeats 4000000 in
set_option maxRecDepth 100000 in
theorem next_calls (A0 : Option Addr) (c0 : Nat) (l0 : List Int) (w : World) (hG : Laid w) (hr0 : Kd.C (Kd.int .u8) w A0 l0.length l0) (hc0 : l0.length ≤ c0) (hpos : 0 < l0.length) (hbig : l0.length ≤ 281474976710656) :
    Calls Tryd.prog 19 #[.slice A0 l0.length c0] w fun e w' => e = .returned (.tuple #[.agg #[.int .i64 (nextR l0).1, .string (nextR l0).2.1, .int .i64 0], .bool (nextR l0).2.2]) ∧ Below w.heap.size w w' := by
  have hm : l0.length ≤ 9223372036854775807 := hr0.2.1
  have z1 : decide (0 < (l0.length : Int)) = true := decide_eq_true (by omega)
  obtain ⟨ad, e, hx⟩ := head_cell hr0 hpos
  cases e
  have HR := Lib.hid hr0; clear hr0
  have HC := Lib.hid hc0; clear hc0
  have HG := Lib.hid hG; clear hG
  cases hL : isL (l0.headD 0) with
  | true =>
    have hE : nextR l0 = (1, strOfNums (l0.takeWhile isI), wordB (l0.takeWhile isI)) := by unfold nextR; rw [if_pos hL]
    have hk := ofK_small (l0.headD 0)
    rw [hL] at hk
    clear hL
    rw [hE]; clear hE
    obtain ⟨n, hn⟩ : ∃ n, runL 7 l0 = n := ⟨_, rfl⟩
    have hnl : n ≤ l0.length := by rw [← hn]; exact (List.takeWhile_sublist _).length_le
    have hrun := fun (A1 : Option Addr) (W : World) h1 h2 => lex_run.calls A1 c0 l0 7 _ W h1 h2 rfl
    obtain ⟨hcut, hrt⟩ := cut_to HR.out HC.out n hnl
    have hw7 : l0.take n = l0.takeWhile isI := by rw [← hn]; exact take_run_word l0
    rw [hn] at hrun
    have HRT := Lib.hid hrt; clear hrt
    have hs := fun (W : World) (h : Kd.C (Kd.int .u8) W (some ad) n (l0.take n)) => Kd.C_string (P := Tryd.prog) (w := W) (c := c0) Tryd.underlying22 Tryd.underlying5 Tryd.underlying9 h
    have HS := Lib.hid hs; clear hs
    rw [← hw7]; clear hw7
    have hlt : (l0.take n).length = n := by rw [List.length_take]; omega
    have HWC := Lib.hid (fun (W : World) (h : Kd.C (Kd.int .u8) W (some ad) n (l0.take n)) => by
      have := word_calls (some ad) c0 (l0.take n) W (by rw [hlt]; exact h) (by rw [hlt]; have := HC.out; omega)
      rw [hlt] at this
      exact this)
    have HN := Lib.hid hn; clear hn
    have HT := Lib.hid hlt; clear hlt
    have HRUN := Lib.hid hrun; clear hrun
    clear hcut
    generalize l0.take n = x at HRT HS HWC HT
    generalize l0.headD 0 = c at hx hk
    have hx1 : (w.alloc (.cells #[.int .i64 0, .string ⟨#[]⟩, .int .i64 0] 34)).cell? ad = some (.int .u8 c) := pw_cell_below (below_alloc (Below.refl _ _) _) hx
    have hcap : ¬ ((c0 : Int) < (n : Int)) := by have := HC.out; omega
    go_enter Tryd.func19, Tryd.ntmps19
    go_wp2_with (first | (go_at_call 27; refine (of_calls _ _).mono ?_; rintro e w1 ⟨rfl, rfl⟩) | (go_at_call 28; refine (HRUN.out _ _ (Kd.C_alloc HR.out _) HC.out).mono ?_; rintro e w1 ⟨rfl, hb⟩))
    have hblk : w1.heap[w.heap.size]? = some (.cells #[.int .i64 0, .string ⟨#[]⟩, .int .i64 0] 34 (0, 0)) := (hb.block _ (by simp)).trans (heap_alloc_new w _)
    have HR1 := Lib.hid (Kd.C_below (Kd.C_alloc HRT.out _) hb)
    have hs1 := HS.out w1.drew (Kd.C_drew HR1.out)
    have c0' := block_cell hblk 0 (by decide)
    have c1' := block_cell hblk 1 (by decide)
    have c2' := block_cell hblk 2 (by decide)
    have f' := block_free hblk
    go_region_with (first | (go_at_call 29; refine (HWC.out _ (by first | exact Kd.C_drew HR1.out | exact HR1.out)).mono ?_; rintro e w2 ⟨rfl, hb2⟩; have hblk2 := (hb2.block w.heap.size (by have := hb.size; simp at this ⊢; omega)).trans hblk; have d0 := block_cell hblk2 0 (by decide); have d1 := block_cell hblk2 1 (by decide); have d2 := block_cell hblk2 2 (by decide); have df := block_free hblk2; have hs2 := HS.out w2 (Kd.C_below (Kd.C_drew HR1.out) hb2)))
    all_goals
      go_wp2
      refine bodyPost_ret (results_ct rfl _ _ w.heap.size 34 #[.int .i64 1, .string (strOfNums x), .int .i64 0] (0, 0) _ rfl (blk3 hblk2) Tryd.underlying34 rfl (by kernel_rfl)) rfl ⟨rfl, ?_⟩
      exact below3 (below_step (below_drew (below_step (below_alloc (Below.refl _ _) _) hb)) hb2) (Nat.le_refl _)
  | false =>
    cases hD : isD (l0.headD 0) with
    | true =>
      have hE : nextR l0 = (2, strOfNums (l0.takeWhile isD), numB (l0.takeWhile isD)) := by unfold nextR; rw [if_neg (by rw [hL]; decide), if_pos hD]
      have hk := ofK_small (l0.headD 0)
      have hk2 := ofK_fig (l0.headD 0) hL
      rw [hL] at hk
      rw [hD] at hk2
      clear hL hD
      rw [hE]; clear hE
      obtain ⟨n, hn⟩ : ∃ n, runL 2 l0 = n := ⟨_, rfl⟩
      have hnl : n ≤ l0.length := by rw [← hn]; exact (List.takeWhile_sublist _).length_le
      have hrun := fun (A1 : Option Addr) (W : World) h1 h2 => lex_run.calls A1 c0 l0 2 _ W h1 h2 rfl
      obtain ⟨hcut, hrt⟩ := cut_to HR.out HC.out n hnl
      have hw2 : l0.take n = l0.takeWhile isD := by rw [← hn]; exact take_run_fig l0
      rw [hn] at hrun
      have HRT := Lib.hid hrt; clear hrt
      have hs := fun (W : World) (h : Kd.C (Kd.int .u8) W (some ad) n (l0.take n)) => Kd.C_string (P := Tryd.prog) (w := W) (c := c0) Tryd.underlying22 Tryd.underlying5 Tryd.underlying9 h
      have HS := Lib.hid hs; clear hs
      rw [← hw2]; clear hw2
      have hlt : (l0.take n).length = n := by rw [List.length_take]; omega
      have HWC := Lib.hid (fun (W : World) (hW : Laid W) (h : Kd.C (Kd.int .u8) W (some ad) n (l0.take n)) => by
        have := num_calls (some ad) c0 (l0.take n) W hW (by rw [hlt]; exact h) (by rw [hlt]; have := HC.out; omega) (by rw [hlt]; omega)
        rw [hlt] at this
        exact this)
      have HN := Lib.hid hn; clear hn
      have HT := Lib.hid hlt; clear hlt
      have HRUN := Lib.hid hrun; clear hrun
      clear hcut
      generalize l0.take n = x at HRT HS HWC HT
      generalize l0.headD 0 = c at hx hk hk2
      have hx1 : (w.alloc (.cells #[.int .i64 0, .string ⟨#[]⟩, .int .i64 0] 34)).cell? ad = some (.int .u8 c) := pw_cell_below (below_alloc (Below.refl _ _) _) hx
      have hcap : ¬ ((c0 : Int) < (n : Int)) := by have := HC.out; omega
      go_enter Tryd.func19, Tryd.ntmps19
      go_wp2_with (first | (go_at_call 27; refine (of_calls _ _).mono ?_; rintro e w1 ⟨rfl, rfl⟩) | (go_at_call 28; refine (HRUN.out _ _ (Kd.C_alloc HR.out _) HC.out).mono ?_; rintro e w1 ⟨rfl, hb⟩))
      have hblk : w1.heap[w.heap.size]? = some (.cells #[.int .i64 0, .string ⟨#[]⟩, .int .i64 0] 34 (0, 0)) := (hb.block _ (by simp)).trans (heap_alloc_new w _)
      have HG1 := Lib.hid (Laid.drew (Laid.below (Laid.alloc HG.out _) hb))
      have HR1 := Lib.hid (Kd.C_below (Kd.C_alloc HRT.out _) hb)
      have hs1 := HS.out w1.drew (Kd.C_drew HR1.out)
      have c0' := block_cell hblk 0 (by decide)
      have c1' := block_cell hblk 1 (by decide)
      have c2' := block_cell hblk 2 (by decide)
      have f' := block_free hblk
      go_region_with (first | (go_at_call 30; refine (HWC.out _ (by first | exact HG1.out | exact HG1.out) (by first | exact Kd.C_drew HR1.out | exact HR1.out)).mono ?_; rintro e w2 ⟨rfl, hb2⟩; have hblk2 := (hb2.block w.heap.size (by have := hb.size; simp at this ⊢; omega)).trans hblk; have d0 := block_cell hblk2 0 (by decide); have d1 := block_cell hblk2 1 (by decide); have d2 := block_cell hblk2 2 (by decide); have df := block_free hblk2; have hs2 := HS.out w2 (Kd.C_below (Kd.C_drew HR1.out) hb2)))
      all_goals
        go_wp2
        refine bodyPost_ret (results_ct rfl _ _ w.heap.size 34 #[.int .i64 2, .string (strOfNums x), .int .i64 0] (0, 0) _ rfl (blk3 hblk2) Tryd.underlying34 rfl (by kernel_rfl)) rfl ⟨rfl, ?_⟩
        exact below3 (below_step (below_drew (below_step (below_alloc (Below.refl _ _) _) hb)) hb2) (Nat.le_refl _)
    | false =>
      have hE : nextR l0 = (3, (signOf ((l0.take 2).map fun n => UInt8.ofNat n.toNat)).getD ⟨#[]⟩, ((signOf ((l0.take 2).map fun n => UInt8.ofNat n.toNat)).getD ⟨#[]⟩).toList != []) := by unfold nextR; rw [if_neg (by rw [hL]; decide), if_neg (by rw [hD]; decide)]
      have hk := ofK_small (l0.headD 0)
      have hk2 := ofK_fig (l0.headD 0) hL
      rw [hL] at hk
      rw [hD] at hk2
      clear hL hD
      rw [hE]; clear hE
      have HS := Lib.hid (fun (W : World) (h : Laid W) (h2 : Kd.C (Kd.int .u8) W (some ad) l0.length l0) => lex_sign.calls (some ad) c0 l0 _ W h h2 HC.out rfl)
      generalize (signOf ((l0.take 2).map fun n => UInt8.ofNat n.toNat)).getD ⟨#[]⟩ = s at HS ⊢
      generalize l0.headD 0 = c at hx hk hk2
      have hx1 : (w.alloc (.cells #[.int .i64 0, .string ⟨#[]⟩, .int .i64 0] 34)).cell? ad = some (.int .u8 c) := pw_cell_below (below_alloc (Below.refl _ _) _) hx
      go_enter Tryd.func19, Tryd.ntmps19
      go_wp2_with (first | (go_at_call 27; refine (of_calls _ _).mono ?_; rintro e w1 ⟨rfl, rfl⟩) | (go_at_call 31; refine (HS.out _ (Laid.alloc HG.out _) (Kd.C_alloc HR.out _)).mono ?_; rintro e w1 ⟨rfl, hb⟩; have hblk2 := (hb.block w.heap.size (by simp)).trans (heap_alloc_new w _); have d0 := block_cell hblk2 0 (by decide); have d1 := block_cell hblk2 1 (by decide); have d2 := block_cell hblk2 2 (by decide); have df := block_free hblk2))
      refine bodyPost_ret (results_ct rfl _ _ w.heap.size 34 #[.int .i64 3, .string s, .int .i64 0] (0, 0) _ rfl (blk3 hblk2) Tryd.underlying34 rfl (by kernel_rfl)) rfl ⟨?_, ?_⟩
      · simp
        cases s.toList <;> rfl
      · exact below3 (below_step (below_alloc (Below.refl _ _) _) hb) (Nat.le_refl _)
end Go.Proofs.YtbnelajjadhcgaaDoor.G
