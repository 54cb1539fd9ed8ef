-- The reference's one token: its walk, by hand.
import Derived.Test.YtbnelajjadhcgaaDoorRefP
import Derived.Test.YtbnelajjadhcgaaDoorTkn
import Derived.Test.YtbnelajjadhcgaaDoorWCut
namespace Go.Proofs.YtbnelajjadhcgaaDoor.G
open Go.RowKit Go.Proofs.YtbnelajjadhcgaaDoorW.PrintWords Go.Proofs.YtbnelajjadhcgaaDoorW.PrintLast Go.Proofs.YtbnelajjadhcgaaDoorW.PrintMore
set_option linter.unusedVariables false
set_option linter.unusedSimpArgs false

/-- What the reference tells of the token at the head of t, which lies at place a. -/
def oneR (t : List Int) (a : Int) : Int × ByteArray × Int × Bool :=
  if isL (t.headD 0) then (1, strOfNums (t.takeWhile isI), a, wordB (t.takeWhile isI))
  else if isD (t.headD 0) then (2, strOfNums (t.takeWhile isD), a, numB (t.takeWhile isD))
  else match sgn t with
    | some s => (3, strOfNums s, a, true)
    | none => (0, ⟨#[]⟩, 0, false)

theorem bytesOf_str (l : List Int) (h : l.all isB = true) : bytesOf (strOfNums l) = l := by
  unfold bytesOf
  rw [strOfNums_data]
  rw [List.map_map]
  have : ∀ x ∈ l, ((fun b : UInt8 => (b.toNat : Int)) ∘ fun n : Int => UInt8.ofNat n.toNat) x = x := fun x hx => u8_toNat (List.all_eq_true.1 h x hx)
  rw [List.map_congr_left this, List.map_id']
theorem isL_I {c : Int} (h : isL c = true) : isI c = true := by unfold isI; rw [h]; rfl
theorem takeW_take (p : Int → Bool) (t : List Int) : t.take (t.takeWhile p).length = t.takeWhile p := (List.prefix_iff_eq_take.1 (List.takeWhile_prefix _)).symm
theorem takeW_all (p q : Int → Bool) : ∀ t : List Int, t.all q = true → (t.takeWhile p).all q = true
  | [], _ => rfl
  | c :: r, h => by
    simp only [List.all_cons, Bool.and_eq_true] at h
    cases hp : p c with
    | true => rw [List.takeWhile_cons_of_pos hp, List.all_cons, h.1, Bool.true_and]; exact takeW_all p q r h.2
    | false => rw [List.takeWhile_cons_of_neg (by rw [hp]; decide)]; rfl
/-- One more byte of a run. -/
theorem run_at (p : Int → Bool) (l0 : List Int) (a j : Nat) (h : j ≤ ((l0.drop a).takeWhile p).length) (hj : a + j < l0.length) :
    (p (rd l0 ((a + j : Nat) : Int)) = true → j + 1 ≤ ((l0.drop a).takeWhile p).length) ∧ (p (rd l0 ((a + j : Nat) : Int)) = false → ((l0.drop a).takeWhile p).length = j) := by
  have h2 := takeWhile_at (p := p) (l0.drop a) j h (by rw [List.length_drop]; omega)
  have e : (l0.drop a).getD j 0 = rd l0 ((a + j : Nat) : Int) := by
    unfold rd
    rw [Int.toNat_natCast]
    simp [List.getD_eq_getElem?_getD]
  rw [e] at h2
  exact h2

theorem run_to (p : Int → Bool) (l0 : List Int) (a n : Nat) (hn : ((l0.drop a).takeWhile p).length = n) : ∀ q : Nat, a ≤ q → q ≤ a + n → q < l0.length → (p (rd l0 (q : Int)) = true → q + 1 ≤ a + n) ∧ (p (rd l0 (q : Int)) = false → a + n = q) := by
  intro q h1 h2 h3
  obtain ⟨j, rfl⟩ : ∃ j, q = a + j := ⟨q - a, by omega⟩
  have := run_at p l0 a j (by rw [hn]; omega) h3
  rw [hn] at this
  exact ⟨fun h => by have := this.1 h; omega, fun h => by have := this.2 h; omega⟩


set_option maxHeartbeats 8000000 in
set_option maxRecDepth 100000 in
theorem one_word (A0 : Option Addr) (c0 : Nat) (l0 : List Int) (a : Nat) (w : World) (hr0 : Kd.C (Kd.int .u8) w A0 l0.length l0) (hc0 : l0.length ≤ c0) (hs : l0.length ≤ 16384) (ha : a < l0.length) (hB : l0.all isB = true)
    (hL : isL (rd l0 (a : Int)) = true) :
    Calls Tryd.prog 21 #[.slice A0 l0.length c0, .int .i64 (a : Int)] w fun e w' => e = .returned (.tuple #[.agg #[.int .i64 1, .string (strOfNums ((l0.drop a).takeWhile isI)), .int .i64 (a : Int)], .bool (wordB ((l0.drop a).takeWhile isI))]) ∧ Below w.heap.size w w' := by
  obtain ⟨n, hn⟩ : ∃ n, ((l0.drop a).takeWhile isI).length = n := ⟨_, rfl⟩
  have hnl : a + n ≤ l0.length := by have := (List.takeWhile_sublist isI (l := l0.drop a)).length_le; rw [List.length_drop] at this; omega
  have hall : ((l0.drop a).takeWhile isI).all isB = true := takeW_all _ _ _ (all_drop l0 a hB)
  have hx : (l0.take (a + n)).drop a = (l0.drop a).takeWhile isI := by
    rw [List.drop_take, show a + n - a = n by omega, ← hn, takeW_take]
  obtain ⟨A5, hcA, hcB, hcC⟩ := cut_mid (A := A0) hc0 a (a + n) (by omega) hnl
  rw [hx] at hcA hcB hcC
  rw [hn] at hcA hcB hcC
  have HCS := Lib.hid (fun (W : World) (h : Kd.C (Kd.int .u8) W A0 l0.length l0) => Kd.C_string (P := Tryd.prog) (c := c0 - a) Tryd.underlying22 Tryd.underlying5 Tryd.underlying9 (hcB W h))
  have HW := Lib.hid (Word_f (strOfNums ((l0.drop a).takeWhile isI)) (by rw [strOfNums_size, hn]; omega) (n + 1) (by rw [strOfNums_size, hn]; exact Nat.le_refl _))
  rw [bytesOf_str _ hall] at HW
  have HRUN := Lib.hid (run_to isI l0 a n hn)
  clear hcB hcC hx hall
  have HNN := Lib.hid hn; clear hn
  have haN : a ≤ a + n := by omega
  generalize strOfNums ((l0.drop a).takeWhile isI) = s at HCS HW ⊢
  generalize wordB ((l0.drop a).takeWhile isI) = ok at HW ⊢
  have HR := Lib.hid hr0; clear hr0
  have HC := Lib.hid hc0; clear hc0
  have HBY := Lib.hid hB; clear hB
  have haz : (a : Int) < (l0.length : Int) := by omega
  obtain ⟨ad, e0, hx0⟩ := Kd.at_int HR.out (a : Int) (by omega) haz
  subst e0
  rw [Int.toNat_natCast] at hx0
  have HX0 := Lib.hid hx0
  have hx1 : (w.alloc (.cells #[.int .i64 0, .string ⟨#[]⟩, .int .i64 0] 34)).cell? (ad.add a) = some (.int .u8 (rd l0 (a : Int))) := pw_cell_below (below_alloc (Below.refl _ _) _) hx0
  have HLT := Lib.hid (letter_f (rd l0 (a : Int)))
  rw [hL] at HLT
  clear hL
  clear hx0
  go_enter Tryd.func21, Tryd.ntmps21
  go_wp2_with (first | (go_at_call 32; refine (chalklineref05_letter.calls _ true _ HLT.out).mono ?_; rintro e w1 ⟨rfl, hd⟩; have hb := hd.below; have HB1 := Lib.hid (below_step (below_alloc (Below.refl _ _) _) hb); have HBK := Lib.hid ((hb.block _ (by simp)).trans (heap_alloc_new w _)); clear hd hb hx1))
  have HR1 := Lib.hid (Kd.C_below HR.out HB1.out)
  have hlt1 := Lib.hid (blk_lt HBK.out)
  generalize a + n = N at hnl haN hcA HRUN
  go_loopg [6] (N - a) (fun kq v6 wr => ∃ q : Nat, a ≤ q ∧ q ≤ N ∧ kq = N - q ∧ v6 = .int .i64 (q : Int) ∧ Hid (Below w1.heap.size w1 wr))
  case atStart => exact ⟨a, Nat.le_refl _, haN, by omega, rfl, Lib.hid (Below.refl _ _)⟩
  case round =>
    obtain ⟨q, haq, hqN, hgk, rfl, HB⟩ := hrel
    have HRr := Lib.hid (Kd.C_below HR1.out HB.out)
    have HCS2 := Lib.hid (fun (W : World) (hW : Below w1.heap.size w1 W) => HCS.out W (Kd.C_below HR1.out hW))
    by_cases hend : q < l0.length
    · have hendz : (q : Int) < (l0.length : Int) := by omega
      obtain ⟨ad2, e1, hx2⟩ := Kd.at_int HRr.out (q : Int) (by omega) hendz
      cases e1
      rw [Int.toNat_natCast] at hx2
      have z1 : decide ((q : Int) < (l0.length : Int)) = true := decide_eq_true hendz
      have z2 : decide (q < l0.length) = true := decide_eq_true hend
      have HI := Lib.hid (inner_f (rd l0 (q : Int)))
      obtain ⟨g1, g2⟩ := HRUN.out q haq hqN hend
      cases hin : isI (rd l0 (q : Int)) with
      | true =>
        have hj1 := g1 hin
        rw [hin] at HI
        have hval : ∀ [Inhabited Nat], IntKind.i64.wrap ((q : Int) + 1) = ((q + 1 : Nat) : Int) := by intro _; rw [i64_w]; unfold wrap64; omega
        clear g1 g2 hin
        go_wp2_with (first | (go_at_call 33; refine (chalklineref05_inner.calls _ true _ HI.out).mono ?_; rintro e w2 ⟨rfl, hd⟩; have HB2 := Lib.hid (below_step HB.out hd.below); clear hd))
        go_roundg (N - (q + 1))
        case measure => omega
        case rel => exact ⟨q + 1, by omega, hj1, rfl, by first | rfl | (rw [hval]) | (go_num; done), HB2⟩
      | false =>
        have hjn := g2 hin
        subst hjn
        rw [hin] at HI
        clear g1 g2 hin
        go_wp2_with (first | (go_at_call 33; refine (chalklineref05_inner.calls _ false _ HI.out).mono ?_; rintro e w2 ⟨rfl, hd⟩; have HB2 := Lib.hid (below_step HB.out hd.below); have hcs := HCS2.out w2 HB2.out; clear hd) | (go_at_call 34; refine (chalklineref05_Word.calls _ _ ok _ HW.out).mono ?_; rintro e w3 ⟨rfl, hd⟩; have HB3 := Lib.hid (below_step HB2.out hd.below); have hblk : w3.heap[w.heap.size]? = some (.cells #[.int .i64 0, .string ⟨#[]⟩, .int .i64 0] 34 (0, 0)) := (HB3.out.block _ hlt1.out).trans HBK.out; have d0 := block_cell hblk 0 (by decide); have d1 := block_cell hblk 1 (by decide); have d2 := block_cell hblk 2 (by decide); have df := block_free hblk; clear hd))
        refine bodyPost_ret (results_ct rfl _ _ w.heap.size 34 #[.int .i64 1, .string s, .int .i64 (a : Int)] (0, 0) _ rfl (blk3 hblk) Tryd.underlying34 rfl (by kernel_rfl)) rfl ⟨rfl, ?_⟩
        exact below3 (below_step HB1.out HB3.out) (Nat.le_refl _)
    · have hjn : N = q := by omega
      subst hjn
      have z1 : decide ((N : Int) < (l0.length : Int)) = false := decide_eq_false (by omega)
      have z2 : decide (N < l0.length) = false := decide_eq_false hend
      have hcs := HCS2.out wr HB.out
      go_wp2_with (first | (go_at_call 34; refine (chalklineref05_Word.calls _ _ ok _ HW.out).mono ?_; rintro e w3 ⟨rfl, hd⟩; have HB3 := Lib.hid (below_step HB.out hd.below); have hblk : w3.heap[w.heap.size]? = some (.cells #[.int .i64 0, .string ⟨#[]⟩, .int .i64 0] 34 (0, 0)) := (HB3.out.block _ hlt1.out).trans HBK.out; have d0 := block_cell hblk 0 (by decide); have d1 := block_cell hblk 1 (by decide); have d2 := block_cell hblk 2 (by decide); have df := block_free hblk; clear hd))
      refine bodyPost_ret (results_ct rfl _ _ w.heap.size 34 #[.int .i64 1, .string s, .int .i64 (a : Int)] (0, 0) _ rfl (blk3 hblk) Tryd.underlying34 rfl (by kernel_rfl)) rfl ⟨rfl, ?_⟩
      exact below3 (below_step HB1.out HB3.out) (Nat.le_refl _)

set_option maxHeartbeats 8000000 in
set_option maxRecDepth 100000 in
theorem one_num (A0 : Option Addr) (c0 : Nat) (l0 : List Int) (a : Nat) (w : World) (hr0 : Kd.C (Kd.int .u8) w A0 l0.length l0) (hc0 : l0.length ≤ c0) (hs : l0.length ≤ 16384) (ha : a < l0.length) (hB : l0.all isB = true)
    (hL : isL (rd l0 (a : Int)) = false) (hD : isD (rd l0 (a : Int)) = true) :
    Calls Tryd.prog 21 #[.slice A0 l0.length c0, .int .i64 (a : Int)] w fun e w' => e = .returned (.tuple #[.agg #[.int .i64 2, .string (strOfNums ((l0.drop a).takeWhile isD)), .int .i64 (a : Int)], .bool (numB ((l0.drop a).takeWhile isD))]) ∧ Below w.heap.size w w' := by
  obtain ⟨n, hn⟩ : ∃ n, ((l0.drop a).takeWhile isD).length = n := ⟨_, rfl⟩
  have hnl : a + n ≤ l0.length := by have := (List.takeWhile_sublist isD (l := l0.drop a)).length_le; rw [List.length_drop] at this; omega
  have hall : ((l0.drop a).takeWhile isD).all isB = true := takeW_all _ _ _ (all_drop l0 a hB)
  have hx : (l0.take (a + n)).drop a = (l0.drop a).takeWhile isD := by
    rw [List.drop_take, show a + n - a = n by omega, ← hn, takeW_take]
  obtain ⟨A5, hcA, hcB, hcC⟩ := cut_mid (A := A0) hc0 a (a + n) (by omega) hnl
  rw [hx] at hcA hcB hcC
  rw [hn] at hcA hcB hcC
  have HCS := Lib.hid (fun (W : World) (h : Kd.C (Kd.int .u8) W A0 l0.length l0) => Kd.C_string (P := Tryd.prog) (c := c0 - a) Tryd.underlying22 Tryd.underlying5 Tryd.underlying9 (hcB W h))
  have HW := Lib.hid (Numeral_f (strOfNums ((l0.drop a).takeWhile isD)) (by rw [strOfNums_size, hn]; omega) (n + 2) (by rw [strOfNums_size, hn]; exact Nat.le_refl _))
  rw [bytesOf_str _ hall] at HW
  have HRUN := Lib.hid (run_to isD l0 a n hn)
  clear hcB hcC hx hall
  have HNN := Lib.hid hn; clear hn
  have haN : a ≤ a + n := by omega
  generalize strOfNums ((l0.drop a).takeWhile isD) = s at HCS HW ⊢
  generalize numB ((l0.drop a).takeWhile isD) = ok at HW ⊢
  have HR := Lib.hid hr0; clear hr0
  have HC := Lib.hid hc0; clear hc0
  have HBY := Lib.hid hB; clear hB
  have haz : (a : Int) < (l0.length : Int) := by omega
  obtain ⟨ad, e0, hx0⟩ := Kd.at_int HR.out (a : Int) (by omega) haz
  subst e0
  rw [Int.toNat_natCast] at hx0
  have HX0 := Lib.hid hx0
  have hx1 : (w.alloc (.cells #[.int .i64 0, .string ⟨#[]⟩, .int .i64 0] 34)).cell? (ad.add a) = some (.int .u8 (rd l0 (a : Int))) := pw_cell_below (below_alloc (Below.refl _ _) _) hx0
  have HLT := Lib.hid (letter_f (rd l0 (a : Int)))
  rw [hL] at HLT
  clear hL
  have HDG := Lib.hid (digit_f (rd l0 (a : Int)))
  rw [hD] at HDG
  clear hD
  clear hx0
  go_enter Tryd.func21, Tryd.ntmps21
  go_wp2_with (first | (go_at_call 32; refine (chalklineref05_letter.calls _ false _ HLT.out).mono ?_; rintro e w0 ⟨rfl, hd⟩; have hb := hd.below; have HB0 := Lib.hid (below_step (below_alloc (Below.refl _ _) _) hb); have HBK0 := Lib.hid ((hb.block _ (by simp)).trans (heap_alloc_new w _)); have hx3 := pw_cell_below HB0.out HX0.out; clear hd hb hx1) | (go_at_call 35; refine (chalklineref05_digit.calls _ true _ HDG.out).mono ?_; rintro e w1 ⟨rfl, hd⟩; have hb := hd.below; have HB1 := Lib.hid (below_step HB0.out hb); have HBK := Lib.hid ((hb.block _ (blk_lt HBK0.out)).trans HBK0.out); clear hd hb hx3))
  have HR1 := Lib.hid (Kd.C_below HR.out HB1.out)
  have hlt1 := Lib.hid (blk_lt HBK.out)
  generalize a + n = N at hnl haN hcA HRUN
  go_loopg [6] (N - a) (fun kq v6 wr => ∃ q : Nat, a ≤ q ∧ q ≤ N ∧ kq = N - q ∧ v6 = .int .i64 (q : Int) ∧ Hid (Below w1.heap.size w1 wr))
  case atStart => exact ⟨a, Nat.le_refl _, haN, by omega, rfl, Lib.hid (Below.refl _ _)⟩
  case round =>
    obtain ⟨q, haq, hqN, hgk, rfl, HB⟩ := hrel
    have HRr := Lib.hid (Kd.C_below HR1.out HB.out)
    have HCS2 := Lib.hid (fun (W : World) (hW : Below w1.heap.size w1 W) => HCS.out W (Kd.C_below HR1.out hW))
    by_cases hend : q < l0.length
    · have hendz : (q : Int) < (l0.length : Int) := by omega
      obtain ⟨ad2, e1, hx2⟩ := Kd.at_int HRr.out (q : Int) (by omega) hendz
      cases e1
      rw [Int.toNat_natCast] at hx2
      have z1 : decide ((q : Int) < (l0.length : Int)) = true := decide_eq_true hendz
      have z2 : decide (q < l0.length) = true := decide_eq_true hend
      have HI := Lib.hid (digit_f (rd l0 (q : Int)))
      obtain ⟨g1, g2⟩ := HRUN.out q haq hqN hend
      cases hin : isD (rd l0 (q : Int)) with
      | true =>
        have hj1 := g1 hin
        rw [hin] at HI
        have hval : ∀ [Inhabited Nat], IntKind.i64.wrap ((q : Int) + 1) = ((q + 1 : Nat) : Int) := by intro _; rw [i64_w]; unfold wrap64; omega
        clear g1 g2 hin
        go_wp2_with (first | (go_at_call 35; refine (chalklineref05_digit.calls _ true _ HI.out).mono ?_; rintro e w2 ⟨rfl, hd⟩; have HB2 := Lib.hid (below_step HB.out hd.below); clear hd))
        go_roundg (N - (q + 1))
        case measure => omega
        case rel => exact ⟨q + 1, by omega, hj1, rfl, by first | rfl | (rw [hval]) | (go_num; done), HB2⟩
      | false =>
        have hjn := g2 hin
        subst hjn
        rw [hin] at HI
        clear g1 g2 hin
        go_wp2_with (first | (go_at_call 35; refine (chalklineref05_digit.calls _ false _ HI.out).mono ?_; rintro e w2 ⟨rfl, hd⟩; have HB2 := Lib.hid (below_step HB.out hd.below); have hcs := HCS2.out w2 HB2.out; clear hd) | (go_at_call 36; refine (chalklineref05_Numeral.calls _ _ ok _ HW.out).mono ?_; rintro e w3 ⟨rfl, hd⟩; have HB3 := Lib.hid (below_step HB2.out hd.below); have hblk : w3.heap[w.heap.size]? = some (.cells #[.int .i64 0, .string ⟨#[]⟩, .int .i64 0] 34 (0, 0)) := (HB3.out.block _ hlt1.out).trans HBK.out; have d0 := block_cell hblk 0 (by decide); have d1 := block_cell hblk 1 (by decide); have d2 := block_cell hblk 2 (by decide); have df := block_free hblk; clear hd))
        refine bodyPost_ret (results_ct rfl _ _ w.heap.size 34 #[.int .i64 2, .string s, .int .i64 (a : Int)] (0, 0) _ rfl (blk3 hblk) Tryd.underlying34 rfl (by kernel_rfl)) rfl ⟨rfl, ?_⟩
        exact below3 (below_step HB1.out HB3.out) (Nat.le_refl _)
    · have hjn : N = q := by omega
      subst hjn
      have z1 : decide ((N : Int) < (l0.length : Int)) = false := decide_eq_false (by omega)
      have z2 : decide (N < l0.length) = false := decide_eq_false hend
      have hcs := HCS2.out wr HB.out
      go_wp2_with (first | (go_at_call 36; refine (chalklineref05_Numeral.calls _ _ ok _ HW.out).mono ?_; rintro e w3 ⟨rfl, hd⟩; have HB3 := Lib.hid (below_step HB.out hd.below); have hblk : w3.heap[w.heap.size]? = some (.cells #[.int .i64 0, .string ⟨#[]⟩, .int .i64 0] 34 (0, 0)) := (HB3.out.block _ hlt1.out).trans HBK.out; have d0 := block_cell hblk 0 (by decide); have d1 := block_cell hblk 1 (by decide); have d2 := block_cell hblk 2 (by decide); have df := block_free hblk; clear hd))
      refine bodyPost_ret (results_ct rfl _ _ w.heap.size 34 #[.int .i64 2, .string s, .int .i64 (a : Int)] (0, 0) _ rfl (blk3 hblk) Tryd.underlying34 rfl (by kernel_rfl)) rfl ⟨rfl, ?_⟩
      exact below3 (below_step HB1.out HB3.out) (Nat.le_refl _)

def sgnF (i : Nat) (t : List Int) : Option (List Int) := (signs.drop i).find? fun s => s.isPrefixOf t
def sgR (o : Option (List Int)) (a : Int) : Int × ByteArray × Int × Bool := match o with
  | some s => (3, strOfNums s, a, true)
  | none => (0, ⟨#[]⟩, 0, false)
theorem signs_len : signs.length = 18 := rfl
theorem signsA_len : signsA.length = 18 := rfl
theorem sgnF_at (i : Nat) (h : i < 18) (t : List Int) : ∃ s : List Int, s ∈ signs ∧ rdOf ByteArray.empty signsA (i : Int) = strOfNums s ∧ sgnF i t = if s.isPrefixOf t then some s else sgnF (i + 1) t := by
  have hl : i < signs.length := h
  refine ⟨signs[i], List.getElem_mem hl, ?_, ?_⟩
  · unfold rdOf signsA
    rw [Int.toNat_natCast]
    simp [List.getD_eq_getElem?_getD, hl]
  · unfold sgnF
    rw [List.drop_eq_getElem_cons hl, List.find?_cons]
    cases signs[i].isPrefixOf t with
    | true => rfl
    | false => rfl
theorem isPrefix_take {s t : List Int} (h : s.isPrefixOf t = true) : t.take s.length = s ∧ s.length ≤ t.length := by
  rw [List.isPrefixOf_iff_prefix] at h
  exact ⟨(List.prefix_iff_eq_take.1 h).symm, h.length_le⟩
theorem isPrefix_not {s t : List Int} (h : s.isPrefixOf t = false) : t.take s.length ≠ s := by
  intro e
  have : s.isPrefixOf t = true := by rw [List.isPrefixOf_iff_prefix]; exact List.prefix_iff_eq_take.2 e.symm
  rw [h] at this
  exact absurd this (by decide)
theorem str_ne {y s : List Int} (hy : y.all isB = true) (hs : s.all isB = true) (h : y ≠ s) : ((strOfNums y).toList == (strOfNums s).toList) = false := by
  rw [strOfNums_toList, strOfNums_toList]
  rw [beq_eq_false_iff_ne]
  intro e
  apply h
  have e2 : strOfNums y = strOfNums s := by
    unfold strOfNums
    have : (y.map fun n => UInt8.ofNat n.toNat) = (s.map fun n => UInt8.ofNat n.toNat) := e
    first | rw [this] | (congr 1; first | exact congrArg _ this | simpa using this)
  rw [← bytesOf_str y hy, ← bytesOf_str s hs, e2]

set_option maxHeartbeats 8000000 in
set_option maxRecDepth 100000 in
theorem one_sign (A0 : Option Addr) (c0 : Nat) (l0 : List Int) (a : Nat) (w : World) (hr0 : Kd.C (Kd.int .u8) w A0 l0.length l0) (hc0 : l0.length ≤ c0) (hs : l0.length ≤ 16384) (ha : a < l0.length) (hB : l0.all isB = true)
    (hL : isL (rd l0 (a : Int)) = false) (hD : isD (rd l0 (a : Int)) = false) (R : Int × ByteArray × Int × Bool) (hR : sgR (sgn (l0.drop a)) (a : Int) = R) :
    Calls Tryd.prog 21 #[.slice A0 l0.length c0, .int .i64 (a : Int)] w fun e w' => e = .returned (.tuple #[.agg #[.int .i64 R.1, .string R.2.1, .int .i64 R.2.2.1], .bool R.2.2.2]) ∧ Below w.heap.size w w' := by
  have HRR := Lib.hid hR; clear hR
  have HR := Lib.hid hr0; clear hr0
  have HC := Lib.hid hc0; clear hc0
  have HBY := Lib.hid hB; clear hB
  have haz : (a : Int) < (l0.length : Int) := by omega
  obtain ⟨ad, e0, hx0⟩ := Kd.at_int HR.out (a : Int) (by omega) haz
  subst e0
  rw [Int.toNat_natCast] at hx0
  have HX0 := Lib.hid hx0
  have hx1 : (w.alloc (.cells #[.int .i64 0, .string ⟨#[]⟩, .int .i64 0] 34)).cell? (ad.add a) = some (.int .u8 (rd l0 (a : Int))) := pw_cell_below (below_alloc (Below.refl _ _) _) hx0
  have HLT := Lib.hid (letter_f (rd l0 (a : Int)))
  rw [hL] at HLT
  have HDG := Lib.hid (digit_f (rd l0 (a : Int)))
  rw [hD] at HDG
  clear hL hD hx0
  have hsl := signsA_len
  have HSL := Lib.hid hsl
  go_enter Tryd.func21, Tryd.ntmps21
  go_wp2_with (first | (go_at_call 32; refine (chalklineref05_letter.calls _ false _ HLT.out).mono ?_; rintro e w0 ⟨rfl, hd⟩; have hb := hd.below; have HB0 := Lib.hid (below_step (below_alloc (Below.refl _ _) _) hb); have HBK0 := Lib.hid ((hb.block _ (by simp)).trans (heap_alloc_new w _)); have hx3 := pw_cell_below HB0.out HX0.out; clear hd hb hx1) | (go_at_call 35; refine (chalklineref05_digit.calls _ false _ HDG.out).mono ?_; rintro e w1 ⟨rfl, hd⟩; have hb := hd.below; have HB1 := Lib.hid (below_step HB0.out hb); have HBK := Lib.hid ((hb.block _ (blk_lt HBK0.out)).trans HBK0.out); clear hd hb hx3) | (go_at_call 37; refine (chalklineref05_Signs.calls signsA w1 Signs_f).mono ?_; rintro e w2 ⟨v2, rfl, ho, hb⟩; have HB2 := Lib.hid (below_step HB1.out hb); have HBK2 := Lib.hid ((hb.block _ (blk_lt HBK.out)).trans HBK.out); have HO := Lib.hid ho; clear ho hb; obtain ⟨A2, c2, e2⟩ := Kd.R_slice HO.out; subst e2))
  have HR1 := Lib.hid (Kd.C_below HR.out HB2.out)
  have hlt1 := Lib.hid (blk_lt HBK2.out)
  have HL2 := Lib.hid (Kd.R_reads' HO.out).2
  have H0 := Lib.hid (show sgnF 0 (l0.drop a) = sgn (l0.drop a) from rfl)
  clear HO HB1 HBK hsl
  rw [HSL.out] at HL2
  go_loopg [10, 70] 18 (fun kq v10 v70 wr => ∃ i : Nat, i ≤ 18 ∧ kq = 18 - i ∧ v70 = .int .i64 (i : Int) ∧ Hid (sgnF i (l0.drop a) = sgn (l0.drop a)) ∧ Hid (Below w2.heap.size w2 wr))
  case atStart => exact ⟨0, Nat.zero_le _, by omega, rfl, H0, Lib.hid (Below.refl _ _)⟩
  case round =>
    clear H0
    obtain ⟨i, hi, hgk, rfl, HF, HB⟩ := hrel
    have HRr := Lib.hid (Kd.C_below HR1.out HB.out)
    have hblk : wr.heap[w.heap.size]? = some (.cells #[.int .i64 0, .string ⟨#[]⟩, .int .i64 0] 34 (0, 0)) := (HB.out.block _ hlt1.out).trans HBK2.out
    have d0 := block_cell hblk 0 (by decide)
    have d1 := block_cell hblk 1 (by decide)
    have d2 := block_cell hblk 2 (by decide)
    have df := block_free hblk
    have HBLK := Lib.hid hblk; clear hblk
    by_cases hlt : i < 18
    · have hltz : (i : Int) < ((18 : Nat) : Int) := by omega
      have hltd : decide ((i : Int) < 18) = true := decide_eq_true (by omega)
      obtain ⟨ad3, e3, hx3⟩ := Kd.at_string (Kd.C_below HL2.out.2 HB.out) (i : Int) (by omega) hltz
      subst e3
      rw [Int.toNat_natCast] at hx3
      obtain ⟨s, hmem, hsa, hst⟩ := sgnF_at i hlt (l0.drop a)
      rw [hsa] at hx3
      obtain ⟨hs2, hsb⟩ := signs_small s hmem
      obtain ⟨m, hm⟩ : ∃ m, s.length = m := ⟨_, rfl⟩
      have hsz : (strOfNums s).size = m := by rw [strOfNums_size, hm]
      have hval : ∀ [Inhabited Nat], IntKind.i64.wrap ((a : Int) + ((strOfNums s).size : Int)) = ((a + m : Nat) : Int) := by intro _; rw [hsz, i64_w]; unfold wrap64; omega
      have hval3 : ∀ [Inhabited Nat], ((a : Int) + ((strOfNums s).size : Int)) = ((a + m : Nat) : Int) := by intro _; rw [hsz]; omega
      have hval2 : ∀ [Inhabited Nat], wrap64 ((a : Int) + ((strOfNums s).size : Int)) = ((a + m : Nat) : Int) := by intro _; rw [hsz]; unfold wrap64; omega
      have HSZ := Lib.hid hsz; clear hsz
      have hnext : ∀ [Inhabited Nat], IntKind.i64.wrap ((i : Int) + 1) = ((i + 1 : Nat) : Int) := by intro _; rw [i64_w]; unfold wrap64; omega
      by_cases hfit : a + m ≤ l0.length
      · have f1 : decide (((a + m : Nat) : Int) ≤ (l0.length : Int)) = true := decide_eq_true (by omega)
        have f2 : decide (a + m ≤ l0.length) = true := decide_eq_true hfit
        obtain ⟨A5, hcA, hcB, hcC⟩ := cut_mid (A := some ad) HC.out a (a + m) (by omega) hfit
        have hy : (l0.take (a + m)).drop a = (l0.drop a).take m := by rw [List.drop_take, show a + m - a = m by omega]
        rw [hy] at hcA hcB hcC
        have hyl : ((l0.drop a).take m).length = m := by rw [List.length_take, List.length_drop]; omega
        rw [hyl] at hcA hcB hcC
        have hcs := Kd.C_string (P := Tryd.prog) (c := c0 - a) Tryd.underlying22 Tryd.underlying5 Tryd.underlying9 (hcB wr HRr.out)
        have hyb : ((l0.drop a).take m).all isB = true := all_take _ _ (all_drop _ _ HBY.out)
        cases hp : s.isPrefixOf (l0.drop a) with
        | true =>
          have hE : sgn (l0.drop a) = some s := by rw [← HF.out, hst, hp]; rfl
          have HE := Lib.hid (show R = (3, strOfNums s, (a : Int), true) by rw [← HRR.out, hE]; rfl)
          have hys : (l0.drop a).take m = s := by rw [← hm]; exact (isPrefix_take hp).1
          rw [hys] at hcs
          clear hp hst hE hys hcB hcC hy hyl hyb hsa hsb hmem hm hs2
          generalize strOfNums s = S at hx3 hcs HSZ hval hval2 hval3 HE ⊢
          generalize a + m = p at *
          go_wp2
          refine bodyPost_ret (results_ct rfl _ _ w.heap.size 34 #[.int .i64 3, .string S, .int .i64 (a : Int)] (0, 0) _ rfl (blk3 HBLK.out) Tryd.underlying34 rfl (by kernel_rfl)) rfl ⟨by rw [HE.out]; rfl, ?_⟩
          exact below3 (below_step HB2.out HB.out) (Nat.le_refl _)
        | false =>
          have HN := Lib.hid (show sgnF (i + 1) (l0.drop a) = sgn (l0.drop a) by rw [← HF.out, hst, hp]; rfl)
          have hne : ((strOfNums ((l0.drop a).take m)).toList == (strOfNums s).toList) = false := str_ne hyb hsb (by rw [← hm]; exact isPrefix_not hp)
          clear hp hst hcB hcC hy hyl hyb hsa hsb hmem hm hs2
          generalize strOfNums s = S at hx3 HSZ hval hval2 hval3 hne
          generalize strOfNums ((l0.drop a).take m) = Y at hcs hne
          generalize a + m = p at *
          go_wp2
          go_roundg (18 - (i + 1))
          case measure => omega
          case rel => exact ⟨i + 1, by omega, by omega, by first | rfl | (rw [hnext]) | (go_num; done), HN, HB⟩
      · have f1 : decide (((a + m : Nat) : Int) ≤ (l0.length : Int)) = false := decide_eq_false (by omega)
        have f2 : decide (a + m ≤ l0.length) = false := decide_eq_false hfit
        have hp : s.isPrefixOf (l0.drop a) = false := by
          cases hp : s.isPrefixOf (l0.drop a) with
          | false => rfl
          | true => have := (isPrefix_take hp).2; rw [List.length_drop] at this; omega
        have HN := Lib.hid (show sgnF (i + 1) (l0.drop a) = sgn (l0.drop a) by rw [← HF.out, hst, hp]; rfl)
        clear hp hst hsa hsb hmem hm hs2
        generalize strOfNums s = S at hx3 HSZ hval hval2 hval3
        generalize a + m = p at *
        clear hval3
        go_wp2
        go_roundg (18 - (i + 1))
        case measure => omega
        case rel => exact ⟨i + 1, by omega, by omega, by first | rfl | (rw [hnext]) | (go_num; done), HN, HB⟩
    · have hi18 : i = 18 := by omega
      subst hi18
      have hE : sgn (l0.drop a) = none := by rw [← HF.out]; rfl
      have HE := Lib.hid (show R = (0, ⟨#[]⟩, 0, false) by rw [← HRR.out, hE]; rfl)
      clear hE
      go_wp2
      refine bodyPost_ret (results_ct rfl _ _ w.heap.size 34 #[.int .i64 0, .string ⟨#[]⟩, .int .i64 0] (0, 0) _ rfl (blk3 HBLK.out) Tryd.underlying34 rfl (by kernel_rfl)) rfl ⟨by rw [HE.out]; rfl, ?_⟩
      exact below3 (below_step HB2.out HB.out) (Nat.le_refl _)

def chalklineref05_one.f (l0 : List Int) (a : Int) : Option (Int × ByteArray × Int × Bool) :=
  if 0 ≤ a ∧ a < l0.length ∧ l0.length ≤ 16384 ∧ l0.all isB = true then some (oneR (l0.drop a.toNat) a) else none
theorem drop_head (l0 : List Int) (a : Nat) (h : a < l0.length) : (l0.drop a).headD 0 = rd l0 (a : Int) := by
  rw [List.drop_eq_getElem_cons h]
  simp [rd, List.getElem?_eq_getElem h]
theorem chalklineref05_one.calls (A0 : Option Addr) (c0 : Nat) (l0 : List Int) (a : Int) (r1 : Int) (r2 : ByteArray) (r3 : Int) (r4 : Bool) (w : World) (hr0 : Kd.C (Kd.int .u8) w A0 l0.length l0) (hc0 : l0.length ≤ c0) (h : chalklineref05_one.f l0 a = some (r1, r2, r3, r4)) :
    Calls Tryd.prog 21 #[.slice A0 l0.length c0, .int .i64 a] w fun e w' => e = .returned (.tuple #[.agg #[.int .i64 r1, .string r2, .int .i64 r3], .bool r4]) ∧ Below w.heap.size w w' := by
  unfold chalklineref05_one.f at h
  by_cases hc : 0 ≤ a ∧ a < l0.length ∧ l0.length ≤ 16384 ∧ l0.all isB = true
  · rw [if_pos hc] at h
    obtain ⟨h0, h1, h2, hB⟩ := hc
    obtain ⟨n, rfl⟩ : ∃ n : Nat, a = (n : Int) := ⟨a.toNat, by omega⟩
    rw [Int.toNat_natCast] at h
    have hn : n < l0.length := by omega
    have h := Option.some.inj h
    unfold oneR at h
    rw [drop_head l0 n hn] at h
    cases hL : isL (rd l0 (n : Int)) with
    | true =>
      rw [hL, if_pos rfl] at h
      cases h
      exact one_word A0 c0 l0 n w hr0 hc0 h2 hn hB hL
    | false =>
      rw [hL, if_neg (by decide)] at h
      cases hD : isD (rd l0 (n : Int)) with
      | true =>
        rw [hD, if_pos rfl] at h
        cases h
        exact one_num A0 c0 l0 n w hr0 hc0 h2 hn hB hL hD
      | false =>
        rw [hD, if_neg (by decide)] at h
        exact one_sign A0 c0 l0 n w hr0 hc0 h2 hn hB hL hD (r1, r2, r3, r4) h
  · rw [if_neg hc] at h
    exact absurd h (by simp)
end Go.Proofs.YtbnelajjadhcgaaDoor.G
