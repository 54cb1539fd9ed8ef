import Derived.Test.YtbnelajjadhcgaaDoorLxn
import Derived.Deep.LoopGhost
import Derived.Deep.RegionHeld3
import Derived.Shelf.Abstract
import Derived.Deep.QuietTactic
import Derived.BigQuiet
namespace Go.Proofs.YtbnelajjadhcgaaDoor.G
open Go.Shelf Go.RowKit Go.Proofs.YtbnelajjadhcgaaDoorW.PrintWords Go.Proofs.YtbnelajjadhcgaaDoorW.PrintLast Go.Proofs.YtbnelajjadhcgaaDoorW.PrintMore
set_option linter.unusedVariables false
set_option linter.unusedSimpArgs false

/-- lex.right: is a text a word, a numeral or a sign, by its kind? -/
def signR (s : ByteArray) : ByteArray := (signOf (((bytesOf s).take 2).map fun n => UInt8.ofNat n.toNat)).getD ⟨#[]⟩
def rightB (kd : Int) (s : ByteArray) : Bool :=
  if kd = 1 then wordB (bytesOf s) else if kd = 2 then numB (bytesOf s) else if kd = 3 then !s.toList.isEmpty && (signR s).toList == s.toList else false

theorem bytes_C (W : World) (s : ByteArray) (hs : s.size ≤ 9223372036854775807) : Kd.C (Kd.int .u8) (Lib.bytesWorld W 5 s) (some ⟨W.heap.size, 0, none⟩) (bytesOf s).length (bytesOf s) := by
  rw [bytesOf_length]
  exact Kd.C_of_reads (h1 := fun _ => rfl) (bytes_reads W 5 s hs)

set_option maxHeartbeats 4000000 in
set_option maxRecDepth 100000 in
theorem right_calls (kd at_ : Int) (s : ByteArray) (hsz : s.size ≤ 281474976710656) (w : World) (hG : Laid w) :
    Calls Tryd.prog 24 #[.agg #[.int .i64 kd, .string s, .int .i64 at_]] w fun e w' => e = .returned (.bool (rightB kd s)) ∧ Below w.heap.size w w' := by
  have hcv := fun W => print_bytes (P := Tryd.prog) 9 22 5 Tryd.underlying9 Tryd.underlying22 Tryd.underlying5 s W
  obtain ⟨W0, hW0⟩ : ∃ W0, W0 = w.alloc (.cells #[.int .i64 kd, .string s, .int .i64 at_] 34) := ⟨_, rfl⟩
  obtain ⟨W1, hW1⟩ : ∃ W1, W1 = Lib.bytesWorld W0 5 s := ⟨_, rfl⟩
  have hbl : Below w.heap.size w W1 := by rw [hW1, hW0]; exact bytes_below (below_alloc (Below.refl _ _) _) (by simp) _ _
  have hC : Kd.C (Kd.int .u8) W1 (some ⟨W0.heap.size, 0, none⟩) (bytesOf s).length (bytesOf s) := by rw [hW1]; exact bytes_C W0 s (by omega)
  have hcap : (bytesOf s).length ≤ grownCap W0 s.size 0 5 := by rw [bytesOf_length]; exact grownCap_ge _ _ _ _
  have hcv0 := hcv W0
  rw [← hW1] at hcv0
  have hblk : W1.heap[w.heap.size]? = some (.cells #[.int .i64 kd, .string s, .int .i64 at_] 34 (0, 0)) := by
    rw [hW1, Lib.bytesWorld_at_old _ _ _ _ (by rw [hW0]; simp), hW0]
    exact heap_alloc_new w _
  have d0 := block_cell hblk 0 (by simp)
  have d1 := block_cell hblk 1 (by simp)
  have HBLK := Lib.hid hblk
  have hGW := Lib.hid (Laid.below hG hbl)
  have HB := Lib.hid hbl
  have HC := Lib.hid hC
  have HCP := Lib.hid hcap
  have hbn : (bytesOf s).length = s.size := bytesOf_length s
  have HN := Lib.hid hbn
  have hbig : (bytesOf s).length ≤ 281474976710656 := by omega
  clear hcv hblk hbl hC hcap hbn hG
  generalize hcq : grownCap W0 s.size 0 5 = cq at hcv0 HCP
  clear hcq
  have hb : W0.heap.size = w.heap.size + 1 := by rw [hW0]; simp
  rw [hb] at hcv0 HC
  rw [hW0] at hcv0
  clear hb hW1 hW0
  by_cases k1 : kd = 1
  · subst k1
    have hcc := word_calls (some ⟨w.heap.size + 1, 0, none⟩) cq (bytesOf s) W1 HC.out HCP.out
    rw [HN.out] at hcc
    have HCC := Lib.hid hcc; clear hcc
    go_enter Tryd.func24, Tryd.ntmps24
    go_wp2_with (go_at_call 29; refine HCC.out.mono ?_; rintro e w2 ⟨rfl, hb⟩)
    go_ret
    exact ⟨rfl, below_step HB.out hb⟩
  · have z1 : (kd == 1) = false := beq_eq_false_iff_ne.2 k1
    by_cases k2 : kd = 2
    · subst k2
      have hcc := num_calls (some ⟨w.heap.size + 1, 0, none⟩) cq (bytesOf s) W1 hGW.out HC.out HCP.out hbig
      rw [HN.out] at hcc
      have HCC := Lib.hid hcc; clear hcc
      go_enter Tryd.func24, Tryd.ntmps24
      go_wp2_with (go_at_call 30; refine HCC.out.mono ?_; rintro e w2 ⟨rfl, hb⟩)
      go_ret
      exact ⟨rfl, below_step HB.out hb⟩
    · have z2 : (kd == 2) = false := beq_eq_false_iff_ne.2 k2
      by_cases k3 : kd = 3
      · subst k3
        by_cases he : s.size = 0
        · have hE : rightB 3 s = false := by
            have : s.toList = [] := by rw [Lib.toList_data]; exact List.eq_nil_of_length_eq_zero (by rw [data_length]; exact he)
            unfold rightB
            rw [if_neg (by decide), if_neg (by decide), if_pos rfl, this]; rfl
          rw [hE]
          have hz : decide (0 < (s.size : Int)) = false := decide_eq_false (by omega)
          have hz2 : decide (0 < s.size) = false := decide_eq_false (by omega)
          have HE := Lib.hid he; clear he
          go_enter Tryd.func24, Tryd.ntmps24
          go_wp2_with fail
          go_quiet (fail)
          go_wp2
          go_ret
          exact ⟨rfl, by repeat (first | exact HB.out | apply below_drew | apply pw_below_drewN)⟩
        · have hE : rightB 3 s = ((signR s).toList == s.toList) := by
            have : s.toList.isEmpty = false := by
              rw [Lib.toList_data]
              cases hd : s.data.toList with
              | nil => exact absurd (by rw [← data_length, hd]; rfl) he
              | cons _ _ => rfl
            unfold rightB
            rw [if_neg (by decide), if_neg (by decide), if_pos rfl, this]; simp
          rw [hE]; clear hE
          have hz : decide (0 < (s.size : Int)) = true := decide_eq_true (by omega)
          have hz2 : decide (0 < s.size) = true := decide_eq_true (by omega)
          have HE := Lib.hid he; clear he
          have hcc := fun (W : World) (h1 : Laid W) (h2 : Kd.C (Kd.int .u8) W (some ⟨w.heap.size + 1, 0, none⟩) (bytesOf s).length (bytesOf s)) => lex_sign.calls (some ⟨w.heap.size + 1, 0, none⟩) cq (bytesOf s) (signR s) W h1 h2 HCP.out rfl
          rw [HN.out] at hcc
          have HCC := Lib.hid hcc; clear hcc
          generalize signR s = sg at HCC ⊢
          have hCd := HC.out
          rw [HN.out] at hCd
          have HCD := Lib.hid hCd; clear hCd
          have hlt : w.heap.size < W1.heap.size := World.block_lt_of_cell? _ _ d0
          go_enter Tryd.func24, Tryd.ntmps24
          go_wp2_with fail
          go_region_held3 (fun W => W.cell? ⟨w.heap.size, 1, none⟩ = some (.string s)) (first | go_keep | (rw [hb.cell (by simpa using hlt)]; simpa using d1))
            (first | (go_at_call 31; refine (HCC.out _ (Laid.drew hGW.out) (Kd.C_drew HCD.out)).mono ?_; rintro e w2 ⟨rfl, hb⟩))
          go_wp2
          go_ret
          exact ⟨rfl, below_step (below_drew HB.out) hb⟩
      · have z3 : (kd == 3) = false := beq_eq_false_iff_ne.2 k3
        have hE : rightB kd s = false := by unfold rightB; rw [if_neg k1, if_neg k2, if_neg k3]
        rw [hE]
        clear k1 k2 k3
        go_enter Tryd.func24, Tryd.ntmps24
        go_wp2
        go_ret
        exact ⟨rfl, HB.out⟩

/-- lex.Join's closure. -/
def badT (t : Tok) : Bool := !rightB t.f0 t.f1
set_option maxHeartbeats 4000000 in
theorem bad_calls (t : Tok) (hsz : t.f1.size ≤ 281474976710656) (w : World) (hG : Laid w) :
    Calls Tryd.prog 23 #[.agg #[.int .i64 t.f0, .string t.f1, .int .i64 t.f2]] w fun e w' => e = .returned (.bool (badT t)) ∧ Below w.heap.size w w' := by
  obtain ⟨kd, s, a⟩ := t
  have hcc := fun (W : World) (h : Laid W) => right_calls kd a s hsz W h
  have HCC := Lib.hid hcc; clear hcc
  have HE := Lib.hid (show badT ⟨kd, s, a⟩ = !rightB kd s from rfl)
  rw [HE.out]
  show Calls Tryd.prog 23 #[.agg #[.int .i64 kd, .string s, .int .i64 a]] w _
  have HG := Lib.hid hG; clear hG
  generalize rightB kd s = r at HCC ⊢
  go_enter Tryd.func23, Tryd.ntmps23
  go_wp2_with (go_at_call 24; refine (HCC.out _ (Laid.alloc HG.out _)).mono ?_; rintro e w2 ⟨rfl, hb⟩)
  go_ret
  exact ⟨rfl, below_step (below_alloc (Below.refl _ _) _) hb⟩
end Go.Proofs.YtbnelajjadhcgaaDoor.G
