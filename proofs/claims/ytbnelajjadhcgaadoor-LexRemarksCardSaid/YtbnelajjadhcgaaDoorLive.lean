import Derived.Test.YtbnelajjadhcgaaDoorJoin
import Derived.Test.YtbnelajjadhcgaaDoorTkn
import Derived.Test.YtbnelajjadhcgaaDoorGx3
import Derived.Lib.SlBytesConst
namespace Go.Proofs.YtbnelajjadhcgaaDoor.G
open Go.RowKit Go.Proofs.YtbnelajjadhcgaaDoorW.PrintWords Go.Proofs.YtbnelajjadhcgaaDoorW.PrintLast Go.Proofs.YtbnelajjadhcgaaDoorW.PrintMore
set_option linter.unusedVariables false
set_option linter.unusedSimpArgs false

def lvA : List Int := [97, 116, 40, 108, 44, 32, 115, 41, 35]
def lvB : List Int := [97, 45, 62, 33, 61]
def lvC : List Int := [48, 55]
def lvD : List Int := [45]
def lvW : List Tok := [⟨1, ⟨#[97, 116]⟩, 0⟩, ⟨3, ⟨#[40]⟩, 2⟩, ⟨1, ⟨#[108]⟩, 3⟩, ⟨3, ⟨#[44]⟩, 4⟩, ⟨1, ⟨#[115]⟩, 6⟩, ⟨3, ⟨#[41]⟩, 7⟩, ⟨4, ⟨#[]⟩, 9⟩]
def lvM : List Tok := [⟨1, ⟨#[97]⟩, 0⟩, ⟨3, ⟨#[45, 62]⟩, 1⟩, ⟨3, ⟨#[33, 61]⟩, 3⟩, ⟨4, ⟨#[]⟩, 5⟩]
def lvJ : List Int := [97, 116, 32, 40, 32, 108, 32, 44, 32, 115, 32, 41]
theorem lvA_tok : lex_Tokens.f lvA = some (lvW, 0, 0) := by kernel_rfl
theorem lvB_tok : lex_Tokens.f lvB = some (lvM, 0, 0) := by kernel_rfl
theorem lvC_tok : lex_Tokens.f lvC = some ([], 0, 50) := by kernel_rfl
theorem lvD_tok : lex_Tokens.f lvD = some ([], 0, 50) := by kernel_rfl
theorem lvW_join : lex_Join.f lvW = some (lvJ, 0) := by kernel_rfl
theorem lvW_same : chalklineref05_Same.f 8 lvW lvW = some true := by kernel_rfl
theorem lvJ_str : strOfNums lvJ = (⟨#[97, 116, 32, 40, 32, 108, 32, 44, 32, 115, 32, 41]⟩ : ByteArray) := by kernel_rfl
theorem lvM_1 : (rd_T34 lvM 1).f1 = ⟨#[45, 62]⟩ := by kernel_rfl

theorem reps_u8 (W : World) (base : Nat) (ok : Nat → Prop) : (xs : List Int) → Reps ((Kd.int .u8).M W base ok) (Kd.int .u8).sz xs (xs.map (Value.int .u8))
  | [] => Reps.none _ _
  | x :: xs => Reps.one rfl (reps_u8 W base ok xs)
theorem mark_C (W : World) (xs : List Int) (fr : Nat × Nat) (hm : xs.length ≤ 9223372036854775807) : Kd.C (Kd.int .u8) (W.alloc (.cells (xs.map (Value.int .u8)).toArray 5 fr)) (some ⟨W.heap.size, 0, none⟩) xs.length xs := by
  refine Kd.C_of_reads (h1 := fun _ => rfl) (enc := Value.int .u8) (d := (0 : Int)) ⟨rfl, hm, fun _ => ⟨_, rfl, fun j hj => ?_⟩⟩
  rw [add_plain]
  rw [World.cell?_alloc_mark]
  simp [List.getD_eq_getElem?_getD, hj]
def tokCells : List Tok → List Value
  | [] => []
  | x :: xs => .int .i64 x.f0 :: .string x.f1 :: .int .i64 x.f2 :: tokCells xs
theorem reps_tok (W : World) (base : Nat) (ok : Nat → Prop) : (xs : List Tok) → Reps (k34.M W base ok) k34.sz xs (tokCells xs)
  | [] => Reps.none _ _
  | x :: xs => Reps.c3 (k34_mkM W base ok x) (reps_tok W base ok xs)

theorem reps_lvW (W : World) (base : Nat) (ok : Nat → Prop) : Reps (k34.M W base ok) k34.sz lvW [.int .i64 1, .string ⟨#[97, 116]⟩, .int .i64 0, .int .i64 3, .string ⟨#[40]⟩, .int .i64 2, .int .i64 1, .string ⟨#[108]⟩, .int .i64 3, .int .i64 3, .string ⟨#[44]⟩, .int .i64 4, .int .i64 1, .string ⟨#[115]⟩, .int .i64 6, .int .i64 3, .string ⟨#[41]⟩, .int .i64 7, .int .i64 4, .string ⟨#[]⟩, .int .i64 9] := reps_tok W base ok lvW
set_option maxHeartbeats 8000000 in
set_option maxRecDepth 100000 in
theorem live_calls (w : World) (hG : Laid w) : Calls Tryd.prog 9 #[] w fun e w' => e = .returned (.bool true) ∧ Below w.heap.size w w' := by
  have HG := Lib.hid hG; clear hG
  have HB := Lib.hid (Below.refl w.heap.size w)
  have HTA := Lib.hid lvA_tok
  have HTB := Lib.hid lvB_tok
  have HTC := Lib.hid lvC_tok
  have HTD := Lib.hid lvD_tok
  have HTJ := Lib.hid lvW_join
  have HTS := Lib.hid lvW_same
  have hm1 := lvM_1
  go_enter Tryd.func9, Tryd.ntmps9
  have hln : lvM.length = 4 := rfl
  have hcvA := fun W => Lib.run_convert_bytes_const (P := Tryd.prog) W 22 5 #[.int .u8 97, .int .u8 116, .int .u8 40, .int .u8 108, .int .u8 44, .int .u8 32, .int .u8 115, .int .u8 41, .int .u8 35] 9 9 Tryd.underlying22 Tryd.underlying5
  have hcvB := fun W => Lib.run_convert_bytes_const (P := Tryd.prog) W 22 5 #[.int .u8 97, .int .u8 45, .int .u8 62, .int .u8 33, .int .u8 61] 5 5 Tryd.underlying22 Tryd.underlying5
  have hcvC := fun W => Lib.run_convert_bytes_const (P := Tryd.prog) W 22 5 #[.int .u8 48, .int .u8 55] 2 2 Tryd.underlying22 Tryd.underlying5
  have hcvD := fun W => Lib.run_convert_bytes_const (P := Tryd.prog) W 22 5 #[.int .u8 45] 1 1 Tryd.underlying22 Tryd.underlying5
  simp only [List.size_toArray, List.length_cons, List.length_nil, Nat.zero_add, Nat.reduceAdd] at hcvA hcvB hcvC hcvD
  go_wp2_with (first
      | (go_at_call 10; have HQ := HTA; clear HTA; refine (lex_Tokens.calls (some ⟨w.heap.size, 0, none⟩) 9 lvA lvW 0 0 (w.alloc (.cells #[.int .u8 97, .int .u8 116, .int .u8 40, .int .u8 108, .int .u8 44, .int .u8 32, .int .u8 115, .int .u8 41, .int .u8 35] 5 (9, 10))) (Laid.below HG.out (below_step HB.out (below_alloc (Below.refl _ _) _))) (mark_C w lvA _ (by decide)) (Nat.le_refl _) HQ.out).mono ?_; rintro e w2 ⟨v2, rfl, ho, hb0⟩; obtain ⟨A2, c2, rfl⟩ := Kd.R_slice ho; have HL := Lib.hid (Kd.R_reads' ho).2; have hb : Below w.heap.size w w2 := below_step (below_alloc (Below.refl _ _) _) hb0; have HBx := Lib.hid (below_step HB.out hb); clear ho hb0 hb HB; have HB := HBx; clear HBx)
      | ((with_reducible refine gate_dst (N := 30) rfl ?_); refine Kd.R_lit k34 _ 34 ?hg (N := 30) ?hd (xs := ([⟨1, ⟨#[97, 116]⟩, 0⟩, ⟨3, ⟨#[40]⟩, 2⟩, ⟨1, ⟨#[108]⟩, 3⟩, ⟨3, ⟨#[44]⟩, 4⟩, ⟨1, ⟨#[115]⟩, 6⟩, ⟨3, ⟨#[41]⟩, 7⟩, ⟨4, ⟨#[]⟩, 9⟩] : List Tok)) (inner := [.int .i64 1, .string ⟨#[97, 116]⟩, .int .i64 0, .int .i64 3, .string ⟨#[40]⟩, .int .i64 2, .int .i64 1, .string ⟨#[108]⟩, .int .i64 3, .int .i64 3, .string ⟨#[44]⟩, .int .i64 4, .int .i64 1, .string ⟨#[115]⟩, .int .i64 6, .int .i64 3, .string ⟨#[41]⟩, .int .i64 7, .int .i64 4, .string ⟨#[]⟩, .int .i64 9]) (ok := fun _ => True) (okp := fun _ => True) ?hr ?hp (fun _ hk => hk) trivial (Below.refl _ _) (Nat.le_refl _) (by simp) ?_; (case hd => rfl); (case hg => rfl); (case hr => first | (go_simp; done) | (go_simp; rfl)); (case hp => exact reps_lvW _ _ _); intro v3 w3 ho hb _ _; obtain ⟨A3, c3, rfl⟩ := Kd.R_slice ho; have HW := Lib.hid (show 7 ≤ c3 ∧ Kd.C k34 w3 A3 7 lvW from (Kd.R_reads' ho).2); have HLx := Lib.hid (And.intro HL.out.1 (Kd.C_below HL.out.2 hb)); clear HL; have HL := HLx; clear HLx; have HBx := Lib.hid (below_step HB.out hb); clear ho hb HB; have HB := HBx; clear HBx)
      | (go_at_call 10; have HQ := HTB; clear HTB; refine (lex_Tokens.calls (some ⟨w3.heap.size, 0, none⟩) 5 lvB lvM 0 0 (w3.alloc (.cells #[.int .u8 97, .int .u8 45, .int .u8 62, .int .u8 33, .int .u8 61] 5 (5, 6))) (Laid.below HG.out (below_step HB.out (below_alloc (Below.refl _ _) _))) (mark_C w3 lvB _ (by decide)) (Nat.le_refl _) HQ.out).mono ?_; rintro e w5 ⟨v5, rfl, ho, hb0⟩; obtain ⟨A5, c5, rfl⟩ := Kd.R_slice ho; have HM := Lib.hid (Kd.R_reads' ho).2; have hb : Below w3.heap.size w3 w5 := below_step (below_alloc (Below.refl _ _) _) hb0; have HLx := Lib.hid (And.intro HL.out.1 (Kd.C_below HL.out.2 hb)); clear HL; have HL := HLx; clear HLx; have HWx := Lib.hid (And.intro HW.out.1 (Kd.C_below HW.out.2 hb)); clear HW; have HW := HWx; clear HWx; have HBx := Lib.hid (below_step HB.out hb); clear ho hb0 hb HB; have HB := HBx; clear HBx)
      | (go_at_call 10; have HQ := HTC; clear HTC; refine (lex_Tokens.calls (some ⟨w5.heap.size, 0, none⟩) 2 lvC [] 0 50 (w5.alloc (.cells #[.int .u8 48, .int .u8 55] 5 (2, 3))) (Laid.below HG.out (below_step HB.out (below_alloc (Below.refl _ _) _))) (mark_C w5 lvC _ (by decide)) (Nat.le_refl _) HQ.out).mono ?_; rintro e w7 ⟨v7, rfl, ho, hb0⟩; have hb : Below w5.heap.size w5 w7 := below_step (below_alloc (Below.refl _ _) _) hb0; have HLx := Lib.hid (And.intro HL.out.1 (Kd.C_below HL.out.2 hb)); clear HL; have HL := HLx; clear HLx; have HWx := Lib.hid (And.intro HW.out.1 (Kd.C_below HW.out.2 hb)); clear HW; have HW := HWx; clear HWx; have HMx := Lib.hid (And.intro HM.out.1 (Kd.C_below HM.out.2 hb)); clear HM; have HM := HMx; clear HMx; have HBx := Lib.hid (below_step HB.out hb); clear ho hb0 hb HB; have HB := HBx; clear HBx)
      | (go_at_call 10; have HQ := HTD; clear HTD; refine (lex_Tokens.calls (some ⟨w7.heap.size, 0, none⟩) 1 lvD [] 0 50 (w7.alloc (.cells #[.int .u8 45] 5 (1, 2))) (Laid.below HG.out (below_step HB.out (below_alloc (Below.refl _ _) _))) (mark_C w7 lvD _ (by decide)) (Nat.le_refl _) HQ.out).mono ?_; rintro e w9 ⟨v9, rfl, ho, hb0⟩; have hb : Below w7.heap.size w7 w9 := below_step (below_alloc (Below.refl _ _) _) hb0; have HLx := Lib.hid (And.intro HL.out.1 (Kd.C_below HL.out.2 hb)); clear HL; have HL := HLx; clear HLx; have HWx := Lib.hid (And.intro HW.out.1 (Kd.C_below HW.out.2 hb)); clear HW; have HW := HWx; clear HWx; have HMx := Lib.hid (And.intro HM.out.1 (Kd.C_below HM.out.2 hb)); clear HM; have HM := HMx; clear HMx; have HBx := Lib.hid (below_step HB.out hb); clear ho hb0 hb HB; have HB := HBx; clear HBx)
      | (go_at_call 14; have HQ := HTJ; clear HTJ; refine (lex_Join.calls A2 c2 lvW lvJ 0 w9 (Laid.below HG.out HB.out) HL.out.2 HL.out.1 HQ.out).mono ?_; rintro e w10 ⟨v10, rfl, ho, hb⟩; obtain ⟨A10, c10, rfl⟩ := Kd.V_slice ho; have HJ := Lib.hid (Kd.V_reads' ho).2; have HLx := Lib.hid (And.intro HL.out.1 (Kd.C_below HL.out.2 hb)); clear HL; have HL := HLx; clear HLx; have HWx := Lib.hid (And.intro HW.out.1 (Kd.C_below HW.out.2 hb)); clear HW; have HW := HWx; clear HWx; have HMx := Lib.hid (And.intro HM.out.1 (Kd.C_below HM.out.2 hb)); clear HM; have HM := HMx; clear HMx; have HBx := Lib.hid (below_step HB.out hb); clear ho hb HB; have HB := HBx; clear HBx)
      | (go_at_call 12; have HQ := HTS; clear HTS; refine (chalklineref05_Same.calls 8 A2 c2 lvW A3 c3 lvW true w10 HL.out.2 HL.out.1 HW.out.2 HW.out.1 HQ.out).mono ?_; rintro e w11 ⟨rfl, hd⟩; have hb : Below w10.heap.size w10 w11 := (by obtain ⟨m, rfl⟩ := hd; exact pw_below_drewN (Below.refl _ _) m); clear hd; have HMx := Lib.hid (And.intro HM.out.1 (Kd.C_below HM.out.2 hb)); clear HM; have HM := HMx; clear HMx; have HJx := Lib.hid (And.intro HJ.out.1 (Kd.C_below HJ.out.2 hb)); clear HJ; have HJ := HJx; clear HJx; have HBx := Lib.hid (below_step HB.out hb); clear hb HB; have HB := HBx; clear HBx; have hs := Kd.C_string (P := Tryd.prog) (w := w11) (c := c10) Tryd.underlying22 Tryd.underlying5 Tryd.underlying9 HJ.out.2; rw [lvJ_str] at hs; obtain ⟨ad, e, h0, h1, h2⟩ := at_T34 HM.out.2 1 (by decide) (by decide); cases e; rw [hm1] at h1; have h1b : w11.cell? ⟨ad.block, ad.off + 3 + 1, none⟩ = some (.string ⟨#[45, 62]⟩) := h1))
  go_ret
  exact ⟨rfl, HB.out⟩

def chalklinelaw05_live.f : Option Bool := some true
theorem chalklinelaw05_live.calls (r : Bool) (w : World) (hG : Laid w) (h : chalklinelaw05_live.f = some r) : Calls Tryd.prog 9 #[] w fun e w' => e = .returned (.bool r) ∧ Below w.heap.size w w' := by
  obtain rfl := Option.some.inj h
  exact live_calls w hG
end Go.Proofs.YtbnelajjadhcgaaDoor.G
