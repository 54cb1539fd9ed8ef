import Derived.Test.YtbnelajjadhcgaaDoorLxn
import Derived.Test.YtbnelajjadhcgaaDoorGx2
import Derived.ScopeJumps
import Derived.WalkMore
import Derived.Deep.RegionHeld3
namespace Go.Proofs.YtbnelajjadhcgaaDoor.G
open Go.RowKit Go.Proofs.YtbnelajjadhcgaaDoorW.PrintWords Go.Proofs.YtbnelajjadhcgaaDoorW.PrintLast Go.Proofs.YtbnelajjadhcgaaDoorW.PrintMore
set_option linter.unusedVariables false
set_option linter.unusedSimpArgs false

def preL (l : List Tok) : Except Int (List Tok) → Except Int (List Tok)
  | .ok m => .ok (l ++ m)
  | .error e => .error e
def resOf : Except Int (List Tok) → List Tok × Int × Int
  | .ok l => (l, 0, 0)
  | .error a => ([], a, 50)
theorem preL_nil (r : Except Int (List Tok)) : preL [] r = r := by cases r <;> rfl
theorem preL_app (l m : List Tok) (r : Except Int (List Tok)) : preL l (preL m r) = preL (l ++ m) r := by cases r <;> simp [preL]

/-- What the loop's head is told. -/
def TokAt (l0 : List Int) (R : Except Int (List Tok)) (at_ : Nat) (l : List Tok) : Prop := ∃ k, l0.length < at_ + k ∧ preL l (lx k (l0.drop at_) at_) = R
theorem TokAt.done {l0 : List Int} {R : Except Int (List Tok)} {l : List Tok} (h : TokAt l0 R l0.length l) : R = .ok (l ++ [⟨4, ⟨#[]⟩, (l0.length : Int)⟩]) := by
  obtain ⟨k, hk, h⟩ := h
  obtain ⟨k, rfl⟩ : ∃ m, k = m + 1 := ⟨k - 1, by omega⟩
  rw [List.drop_length] at h
  rw [← h]; rfl
theorem drop_cons (l0 : List Int) (i : Nat) (h : i < l0.length) : l0.drop i = rd l0 i :: l0.drop (i + 1) := by
  rw [List.drop_eq_getElem_cons h]
  simp [rd, List.getElem?_eq_getElem h]
theorem TokAt.blank {l0 : List Int} {R : Except Int (List Tok)} {i : Nat} {l : List Tok} (h : TokAt l0 R i l) (hi : i < l0.length) (hw : isW (rd l0 i) = true) : TokAt l0 R (i + 1) l := by
  obtain ⟨k, hk, h⟩ := h
  obtain ⟨k, rfl⟩ : ∃ m, k = m + 1 := ⟨k - 1, by omega⟩
  rw [drop_cons l0 i hi, lx, if_pos hw] at h
  exact ⟨k, by omega, by rw [← h]; simp⟩
/-- How far a remark goes. -/
def remL (t : List Int) : Nat := (t.takeWhile (· != 10)).length
theorem drop_rem (t : List Int) : t.dropWhile (· != 10) = t.drop (remL t) := by
  unfold remL
  induction t with
  | nil => rfl
  | cons c r ih =>
    cases h : (c != 10) with
    | true => simp [List.dropWhile_cons, List.takeWhile_cons, h, ih]
    | false => simp [List.dropWhile_cons, List.takeWhile_cons, h]
theorem TokAt.remark {l0 : List Int} {R : Except Int (List Tok)} {i : Nat} {l : List Tok} (h : TokAt l0 R i l) (hi : i < l0.length) (hw : isW (rd l0 i) = false) (hc : rd l0 i = 35) : TokAt l0 R (i + remL (l0.drop i)) l ∧ i < i + remL (l0.drop i) ∧ i + remL (l0.drop i) ≤ l0.length := by
  obtain ⟨k, hk, h⟩ := h
  obtain ⟨k, rfl⟩ : ∃ m, k = m + 1 := ⟨k - 1, by omega⟩
  have hpos : 0 < remL (l0.drop i) := by
    rw [drop_cons l0 i hi, hc]; simp [remL]
  have hle : remL (l0.drop i) ≤ (l0.drop i).length := (List.takeWhile_sublist _).length_le
  rw [List.length_drop] at hle
  rw [drop_cons l0 i hi, lx, if_neg (by rw [hw]; decide), if_pos (by rw [hc]; rfl), ← drop_cons l0 i hi, drop_rem, List.drop_drop] at h
  refine ⟨⟨k, by omega, ?_⟩, by omega, by omega⟩
  rw [← h]
  show _ = preL l (lx k _ ((i : Int) + (remL (l0.drop i) : Int)))
  rw [Int.natCast_add]
theorem TokAt.word {l0 : List Int} {R : Except Int (List Tok)} {i : Nat} {l : List Tok} (h : TokAt l0 R i l) (hi : i < l0.length) (hw : isW (rd l0 i) = false) (hc : ¬ rd l0 i = 35) :
    (oneT (l0.drop i) = none → R = .error i) ∧ (∀ x, oneT (l0.drop i) = some x → TokAt l0 R (i + x.2.length) (l ++ [⟨x.1, strOfNums x.2, i⟩]) ∧ i < i + x.2.length ∧ i + x.2.length ≤ l0.length) := by
  obtain ⟨k, hk, h⟩ := h
  obtain ⟨k, rfl⟩ : ∃ m, k = m + 1 := ⟨k - 1, by omega⟩
  rw [drop_cons l0 i hi, lx, if_neg (by rw [hw]; decide), if_neg (by simpa using hc), ← drop_cons l0 i hi] at h
  constructor
  · intro ho
    rw [ho] at h
    rw [← h]; rfl
  · intro x ho
    obtain ⟨hne, hp⟩ := oneT_prefix _ _ ho
    have hle := hp.length_le
    rw [List.length_drop] at hle
    have hpos : 0 < x.2.length := List.length_pos_iff.2 hne
    rw [ho] at h
    simp only [List.drop_drop] at h
    refine ⟨⟨k, by omega, ?_⟩, by omega, by omega⟩
    rw [← h, ← preL_app, Int.natCast_add]
    cases lx k (l0.drop (i + x.2.length)) ((i : Int) + (x.2.length : Int)) <;> rfl

theorem scope_jumps' {P : Program} {c rest : Code} {Q : Exit → Act → World → Prop} {a : Act} {w : World} (l : Nat) (J : Act → World → Prop) (μ : Act → World → Nat) (hf : findLabel c l = some (Code.skip.seq rest))
    (first : (∀ a w, J a w → rest.wp P (Exit.jump l J Q) a w) → c.wp P (Exit.jump l J Q) a w)
    (pass : ∀ a w, J a w → rest.wp P (Exit.jump l (fun a' w' => J a' w' ∧ μ a' w' < μ a w) Q) a w) : (Code.scope c).wp P Q a w :=
  wp_scope_jumps l J μ hf
    (first fun a w h => Code.wp_mono (fun e a' w' hq => by
      cases e with
      | goto l' => exact ⟨hq.1, hq.2.1⟩
      | _ => exact hq) (pass a w h))
    (fun a w h => wp_seq (wp_skip (pass a w h)))

/-- b[m:], read. -/
theorem cut_from {A : Option Addr} {c : Nat} {l : List Int} (hc : l.length ≤ c) (m : Nat) (hm : m ≤ l.length) :
    ∃ A1 : Option Addr, (∀ W : World, (Instr.slice 22 (.slice A l.length c) (some (.int .i64 (m : Int))) none none).run Tryd.prog W = .ok (.slice A1 (l.drop m).length (c - m)) W) ∧
      (∀ W : World, Kd.C (Kd.int .u8) W A l.length l → Kd.C (Kd.int .u8) W A1 (l.drop m).length (l.drop m)) ∧ (l.drop m).length ≤ c - m := by
  obtain ⟨i0, hi, _, hsz, _⟩ := info_parts info5
  obtain ⟨A1, h1, h2, h3⟩ := print_drop_of (P := Tryd.prog) (Value.int .u8) 0 22 5 .i64 Tryd.underlying22 hi hsz A c l (m : Int) (by omega) (by omega) hc
  rw [Int.toNat_natCast] at h1 h2 h3
  exact ⟨A1, h1, fun W h => Kd.C_of_reads (h1 := fun _ => rfl) (h2 W (Kd.reads_of_C h)), h3⟩

/-- slices.Index of the newline. -/
def nlX (t : List Int) : Int := if remL t = t.length then -1 else (remL t : Int)
theorem rem_at (t : List Int) (j : Nat) (h : j ≤ remL t) (hj : j < t.length) : (¬ 10 = rd t j → j + 1 ≤ remL t) ∧ (10 = rd t j → remL t = j) := by
  have := takeWhile_at (p := (· != 10)) t j h hj
  have e : rd t j = t.getD j 0 := rfl
  rw [e]
  constructor
  · intro hne
    exact this.1 (bne_iff_ne.2 (Ne.symm hne))
  · intro he
    exact this.2 (by rw [← he]; rfl)
theorem index_nl (t : List Int) (ht : t.length ≤ 16384) (d : Nat) : ∀ (k j : Nat), t.length - j = d → d < k → j ≤ t.length → j ≤ remL t → slices_Index_byte_byte.l0 k t 10 (t.length : Int) (j : Int) = some (nlX t) := by
  induction d with
  | zero =>
    intro k j h1 h2 h3 h4
    obtain ⟨k, rfl⟩ : ∃ m, k = m + 1 := ⟨k - 1, by omega⟩
    have hle : remL t ≤ t.length := (List.takeWhile_sublist _).length_le
    simp only [slices_Index_byte_byte.l0]
    rw [if_neg (by omega)]
    unfold nlX
    rw [if_pos (by omega)]
  | succ d ih =>
    intro k j h1 h2 h3 h4
    obtain ⟨k, rfl⟩ : ∃ m, k = m + 1 := ⟨k - 1, by omega⟩
    simp only [slices_Index_byte_byte.l0]
    rw [if_pos (by omega), if_pos (by omega), if_pos (by omega)]
    obtain ⟨r1, r2⟩ := rem_at t j h4 (by omega)
    by_cases he : (10 : Int) = rd t j
    · rw [if_pos he]
      unfold nlX
      rw [r2 he, if_neg (by omega)]
    · rw [if_neg he]
      have hw : wrap64 ((j : Int) + 1) = ((j + 1 : Nat) : Int) := by unfold wrap64; omega
      rw [hw]
      exact ih k (j + 1) (by omega) (by omega) (by omega) (r1 he)
theorem index_f (t : List Int) (ht : t.length ≤ 16384) : slices_Index_byte_byte.f (t.length + 1) t 10 = some (nlX t) := index_nl t ht t.length (t.length + 1) 0 (by omega) (by omega) (by omega) (by omega)

def tokMu (n : Nat) (a : Act) : Nat := n - (intOf (a.tmps.getD 3 undef)).toNat

def TokPost (r : List Tok × Int × Int) (w : World) (e : Ending) (w' : World) : Prop :=
  ∃ v0 : Value, e = .returned (.tuple #[v0, .int .i64 r.2.1, .int .i64 r.2.2]) ∧ Kd.R k34 34 w' w.heap.size (fun _ => True) v0 r.1 ∧ Below w.heap.size w w'
theorem TokPost.mk {r : List Tok × Int × Int} {w w' : World} {v0 : Value} (h1 : Kd.R k34 34 w' w.heap.size (fun _ => True) v0 r.1) (h2 : Below w.heap.size w w') : TokPost r w (.returned (.tuple #[v0, .int .i64 r.2.1, .int .i64 r.2.2])) w' := ⟨v0, rfl, h1, h2⟩

set_option maxHeartbeats 8000000 in
set_option maxRecDepth 100000 in
theorem tokens_calls (A0 : Option Addr) (c0 : Nat) (l0 : List Int) (w : World) (hG : Laid w) (hr0 : Kd.C (Kd.int .u8) w A0 l0.length l0) (hc0 : l0.length ≤ c0) (hs : l0.length ≤ 16384) (hB : l0.all isB = true) :
    Calls Tryd.prog 10 #[.slice A0 l0.length c0] w (TokPost (resOf (lx (l0.length + 1) l0 0)) w) := by
  have HR := Lib.hid hr0; clear hr0
  have HC := Lib.hid hc0; clear hc0
  have HG := Lib.hid hG; clear hG
  have HBY := Lib.hid hB; clear hB
  have H0 := Lib.hid (show TokAt l0 (lx (l0.length + 1) l0 0) 0 [] from ⟨l0.length + 1, by omega, by rw [preL_nil]; rfl⟩)
  generalize lx (l0.length + 1) l0 0 = R at H0 ⊢
  have z0 : decide (16384 < (l0.length : Int)) = false := decide_eq_false (by omega)
  have z1 : decide (16384 < l0.length) = false := decide_eq_false (by omega)
  go_enter Tryd.func10, Tryd.ntmps10
  go_wp2
  refine scope_jumps' 0 (fun a' w' => ∃ (at_ : Nat) (l : List Tok) (v2 u5 u6 u7 u8 u9 u10 u11 u12 u13 u14 u15 u16 u17 u18 u19 u20 u21 u22 u23 u24 u25 u26 u27 u28 u29 u30 u31 u32 u33 u34 u35 u36 u37 u38 u39 u40 u41 u42 u43 u44 u45 u46 u47 u48 u49 u50 u51 u52 u53 u54 u55 u56 u57 u58 u59 u60 u61 u62 u63 u64 u65 : Value), a' = { tmps := #[.slice A0 l0.length c0, undef, v2, .int .i64 (at_ : Int), .int .i64 0, u5, u6, u7, u8, u9, u10, u11, u12, u13, u14, u15, u16, u17, u18, u19, u20, u21, u22, u23, u24, u25, u26, u27, u28, u29, u30, u31, u32, u33, u34, u35, u36, u37, u38, u39, u40, u41, u42, u43, u44, u45, u46, u47, u48, u49, u50, u51, u52, u53, u54, u55, u56, u57, u58, u59, u60, u61, u62, u63, u64, u65], defers := [] } ∧ at_ ≤ l0.length ∧ Hid (TokAt l0 R at_ l) ∧ Hid (Kd.R k34 34 w' w.heap.size (fun _ => True) v2 l) ∧ Hid (Below w.heap.size w w') ∧ Hid (l.length ≤ at_)) (fun a' _ => tokMu l0.length a') rfl ?first ?pass
  case first =>
    intro hp
    go_wp2
    go_step3
    go_simp
    rename_i K hK
    apply hK
    exact hp _ _ ⟨0, [], _, _, _, _, _, _, _, _, _, _, _, _, _, _, _, _, _, _, _, _, _, _, _, _, _, _, _, _, _, _, _, _, _, _, _, _, _, _, _, _, _, _, _, _, _, _, _, _, _, _, _, _, _, _, _, _, _, _, _, _, _, _, rfl, Nat.zero_le _, H0, Lib.hid (Kd.R_nil _ _ _ _ _), Lib.hid (Below.refl _ _), Lib.hid (Nat.le_refl _)⟩
  case pass =>
    clear H0
    rintro a' w' ⟨at_, l, v2, u5, u6, u7, u8, u9, u10, u11, u12, u13, u14, u15, u16, u17, u18, u19, u20, u21, u22, u23, u24, u25, u26, u27, u28, u29, u30, u31, u32, u33, u34, u35, u36, u37, u38, u39, u40, u41, u42, u43, u44, u45, u46, u47, u48, u49, u50, u51, u52, u53, u54, u55, u56, u57, u58, u59, u60, u61, u62, u63, u64, u65, rfl, hle, HT, HO, HB, HL⟩
    generalize hM : tokMu l0.length _ = M
    have hM' : M = l0.length - at_ := by rw [← hM]; simp [tokMu, intOf]
    clear hM
    by_cases hend : at_ = l0.length
    · have e1 : ((at_ : Int) == (l0.length : Int)) = true := beq_iff_eq.2 (by omega)
      have e2 : (at_ == l0.length) = true := beq_iff_eq.2 hend
      subst hend
      have HD := Lib.hid (HT.out.done)
      clear hM'
      go_wp2_with (first | (at_builtin; refine Kd.R_append k34 (w0 := w) w.heap.size rfl (.tmp 15) (.tmp 18) 24 34 (.agg #[(.int .i64 0), (.string ⟨#[]⟩), (.int .i64 0)]) 32 rfl Tryd.underlying24 info34 rfl (by decide) (by omega) v2 l (⟨4, (⟨#[]⟩ : ByteArray), (l0.length : Int)⟩ : Tok) [.int .i64 4, .string (⟨#[]⟩ : ByteArray), .int .i64 (l0.length : Int)] (fun _ => True) (fun _ => False) rfl rfl ?aP (fun _ hk => hk.elim) ?aF ?aO ?aB ?aS ?aL ?_; (case aP => exact k34_mkM _ _ _ (⟨4, (⟨#[]⟩ : ByteArray), (l0.length : Int)⟩ : Tok)); (case aB => exact HB.out); (case aF => exact (fun _ _ => trivial)); (case aO => exact HO.out); (case aS => exact below_size HB.out); (case aL => have := HL.out; omega); intro v1 w1 ho hb hg hat; have HO1 := Lib.hid ho; have HB1 := Lib.hid hb; clear ho hb hg hat))
      simp only [Exit.jump]
      rw [HD.out]
      go_ret3
      exact TokPost.mk (r := resOf (.ok (l ++ [_]))) HO1.out HB1.out
    · have e1 : ((at_ : Int) == (l0.length : Int)) = false := beq_eq_false_iff_ne.2 (by omega)
      have e2 : (at_ == l0.length) = false := beq_eq_false_iff_ne.2 hend
      have hlt : at_ < l0.length := by omega
      have hltz : (at_ : Int) < (l0.length : Int) := by omega
      obtain ⟨ad, e, hx⟩ := Kd.at_int (Kd.C_below HR.out HB.out) (at_ : Int) (by omega) hltz
      cases e
      rw [Int.toNat_natCast] at hx
      clear hend
      by_cases hw : isW (rd l0 (at_ : Int)) = true
      · have HT1 := Lib.hid (HT.out.blank hlt hw)
        generalize rd l0 (at_ : Int) = c at hx hw
        by_cases b1 : c = 32
        · subst b1
          go_wp2
          go_step3
          exact ⟨rfl, ⟨at_ + 1, l, v2, _, _, _, _, _, _, _, _, _, _, _, _, _, _, _, _, _, _, _, _, _, _, _, _, _, _, _, _, _, _, _, _, _, _, _, _, _, _, _, _, _, _, _, _, _, _, _, _, _, _, _, _, _, _, _, _, _, _, _, _, _, by first | rfl | (simp; rfl), by omega, HT1, HO, HB, Lib.hid (by have := HL.out; omega)⟩, by simp [tokMu, intOf]; omega⟩
        · have b1' : (c == 32) = false := beq_eq_false_iff_ne.2 b1
          by_cases b2 : c = 9
          · subst b2
            go_wp2
            go_step3
            exact ⟨rfl, ⟨at_ + 1, l, v2, _, _, _, _, _, _, _, _, _, _, _, _, _, _, _, _, _, _, _, _, _, _, _, _, _, _, _, _, _, _, _, _, _, _, _, _, _, _, _, _, _, _, _, _, _, _, _, _, _, _, _, _, _, _, _, _, _, _, _, _, _, by first | rfl | (simp; rfl), by omega, HT1, HO, HB, Lib.hid (by have := HL.out; omega)⟩, by simp [tokMu, intOf]; omega⟩
          · obtain rfl : c = 10 := by simpa [isW, b1, b2] using hw
            go_wp2
            go_step3
            exact ⟨rfl, ⟨at_ + 1, l, v2, _, _, _, _, _, _, _, _, _, _, _, _, _, _, _, _, _, _, _, _, _, _, _, _, _, _, _, _, _, _, _, _, _, _, _, _, _, _, _, _, _, _, _, _, _, _, _, _, _, _, _, _, _, _, _, _, _, _, _, _, _, by first | rfl | (simp; rfl), by omega, HT1, HO, HB, Lib.hid (by have := HL.out; omega)⟩, by simp [tokMu, intOf]; omega⟩
      · have hwf : isW (rd l0 (at_ : Int)) = false := Bool.eq_false_iff.mpr hw
        obtain ⟨A1, hcut, hrd, hcc⟩ := cut_from (A := some ad) HC.out at_ hle
        have hdl : (l0.drop at_).length = l0.length - at_ := List.length_drop
        by_cases h35 : rd l0 (at_ : Int) = 35
        · obtain ⟨ht1, ht2, ht3⟩ := HT.out.remark hlt hwf h35
          rw [h35] at hx
          clear hw hwf h35 HT
          have HT1 := Lib.hid ht1; clear ht1
          generalize l0.drop at_ = t at hcut hrd hcc hdl ht2 ht3 HT1
          have HIX := Lib.hid (index_f t (by omega))
          have HDL := Lib.hid hdl
          have HM := Lib.hid hM'
          have HRD := Lib.hid hrd; clear hrd
          by_cases hnl : remL t = t.length
          · have hv : nlX t = -1 := if_pos hnl
            have hn2 : remL t = l0.length - at_ := by omega
            have HV := Lib.hid hv; clear hv
            have HN := Lib.hid hn2
            clear hnl hn2 hdl hM'
            go_wp2_with (first | (go_at_call 18; refine (slices_Index_byte_byte.calls _ A1 (c0 - at_) t 10 (nlX t) _ ?s1 ?s2 HIX.out).mono ?_; (case s1 => exact HRD.out _ (Kd.C_below HR.out HB.out)); (case s2 => exact hcc); rw [HV.out]; rintro e w2 ⟨rfl, ⟨nd, rfl⟩⟩))
            have hM' := HM.out
            go_step3
            have hval : (at_ : Int) + ((l0.length : Int) - (at_ : Int)) = ((at_ + remL t : Nat) : Int) := by have := HN.out; omega
            rw [hval]
            exact ⟨rfl, ⟨at_ + remL t, l, v2, _, _, _, _, _, _, _, _, _, _, _, _, _, _, _, _, _, _, _, _, _, _, _, _, _, _, _, _, _, _, _, _, _, _, _, _, _, _, _, _, _, _, _, _, _, _, _, _, _, _, _, _, _, _, _, _, _, _, _, _, _, rfl, by omega, HT1, Lib.hid (Kd.R_drewN HO.out _), Lib.hid (pw_below_drewN HB.out _), Lib.hid (by have := HL.out; omega)⟩, by simp [tokMu, intOf]; omega⟩
          · have hv : nlX t = (remL t : Int) := if_neg hnl
            have HV := Lib.hid hv; clear hv
            clear hnl hdl hM'
            go_wp2_with (first | (go_at_call 18; refine (slices_Index_byte_byte.calls _ A1 (c0 - at_) t 10 (nlX t) _ ?s1 ?s2 HIX.out).mono ?_; (case s1 => exact HRD.out _ (Kd.C_below HR.out HB.out)); (case s2 => exact hcc); rw [HV.out]; rintro e w2 ⟨rfl, ⟨nd, rfl⟩⟩))
            have hM' := HM.out
            go_step3
            have hval : (at_ : Int) + (remL t : Int) = ((at_ + remL t : Nat) : Int) := by omega
            rw [hval]
            exact ⟨rfl, ⟨at_ + remL t, l, v2, _, _, _, _, _, _, _, _, _, _, _, _, _, _, _, _, _, _, _, _, _, _, _, _, _, _, _, _, _, _, _, _, _, _, _, _, _, _, _, _, _, _, _, _, _, _, _, _, _, _, _, _, _, _, _, _, _, _, _, _, _, rfl, by omega, HT1, Lib.hid (Kd.R_drewN HO.out _), Lib.hid (pw_below_drewN HB.out _), Lib.hid (by have := HL.out; omega)⟩, by simp [tokMu, intOf]; omega⟩
        · obtain ⟨hn0, hs0⟩ := HT.out.word hlt hwf h35
          have HTB := Lib.hid (all_drop l0 at_ HBY.out)
          generalize hc : rd l0 (at_ : Int) = c at hx hw hwf h35
          have k1 : (c == 32) = false := by simp only [isW, Bool.or_eq_false_iff] at hwf; exact hwf.1
          have k2 : (c == 9) = false := by simp only [isW, Bool.or_eq_false_iff] at hwf; exact hwf.2.1
          have k3 : (c == 10) = false := by simp only [isW, Bool.or_eq_false_iff] at hwf; exact hwf.2.2
          have k4 : (c == 35) = false := beq_eq_false_iff_ne.2 h35
          clear hw hwf h35 HT hc
          generalize l0.drop at_ = t at hcut hrd hcc hdl hn0 hs0 HTB
          have HRD := Lib.hid hrd; clear hrd
          have HDL := Lib.hid hdl
          have HM := Lib.hid hM'
          have HNX := Lib.hid (fun (W : World) (h1 : Laid W) (h2 : Kd.C (Kd.int .u8) W A1 t.length t) => next_calls A1 (c0 - at_) t W h1 h2 hcc (by omega) (by omega))
          cases ho : oneT t with
          | none =>
            have HN0 := Lib.hid (hn0 ho)
            have hf := nextR_none t HTB.out ho
            clear hn0 hs0 ho hdl hM'
            generalize nextR t = nx at HNX hf
            obtain ⟨kd, tx, ok⟩ := nx
            obtain rfl : ok = false := hf
            have hHG := Lib.hid (Laid.below HG.out HB.out)
            have hHR := Lib.hid (HRD.out w' (Kd.C_below HR.out HB.out))
            go_wp2_with (first | (go_at_call 19; refine (HNX.out w' hHG.out hHR.out).mono ?_; rintro e w2 ⟨rfl, hb⟩))
            simp only [Exit.jump]
            rw [HN0.out]
            go_ret3
            exact TokPost.mk (r := resOf (.error (at_ : Int))) (Kd.R_nil _ _ _ _ _) (below_alloc (below_step HB.out hb) _)
          | some x =>
            have HS0 := Lib.hid (hs0 x ho)
            have hf := nextR_some t HTB.out x ho
            clear hn0 hs0 ho hdl hM'
            rw [hf] at HNX
            clear hf
            obtain ⟨kd, xs⟩ := x
            have hHG := Lib.hid (Laid.below HG.out HB.out)
            have hHR := Lib.hid (HRD.out w' (Kd.C_below HR.out HB.out))
            have HSZ := Lib.hid (strOfNums_size xs)
            generalize strOfNums xs = tx at HNX HSZ HS0
            have hszb : tx.size ≤ 16384 := by have h1 := HSZ.out; have h2 := HS0.out.2.2; simp only at h2; omega
            go_wp2_with (first | (go_at_call 19; refine (HNX.out w' hHG.out hHR.out).mono ?_; rintro e w2 ⟨rfl, hb⟩))
            have HB2 := Lib.hid (below_alloc (below_step HB.out hb) (.cells #[.int .i64 kd, .string tx, .int .i64 (at_ : Int)] 34))
            have HO2 := Lib.hid (Kd.R_alloc (Kd.R_below HO.out hb) (.cells #[.int .i64 kd, .string tx, .int .i64 (at_ : Int)] 34))
            have hvb : v2.ownBlock ≠ some w2.heap.size := by
              intro h
              obtain ⟨inner, hown⟩ := Kd.R_own (Kd.R_below HO.out hb)
              exact absurd (own_lt hown _ h) (by omega)
            have HVB := Lib.hid hvb; clear hvb
            have hbs := Lib.hid (below_size (below_step HB.out hb))
            clear hb
            go_region_held3 (fun W => W.cell? ⟨w2.heap.size, 0, none⟩ = some (.int .i64 kd) ∧ W.cell? ⟨w2.heap.size, 1, none⟩ = some (.string tx) ∧ W.cell? ⟨w2.heap.size, 2, none⟩ = some (.int .i64 (at_ : Int)))
              (first
                | go_keep
                | (go_split_ands
                   refine ⟨?_, ?_, ?_⟩
                   · (rw [hgrow.cell_far _ (by simp) (Ne.symm HVB.out)]; first | assumption | simp)
                   · (rw [hgrow.cell_far _ (by simp) (Ne.symm HVB.out)]; first | assumption | simp)
                   · (rw [hgrow.cell_far _ (by simp) (Ne.symm HVB.out)]; first | assumption | simp)))
              ((refine Kd.R_append_step k34 (w0 := w) (W := (w2.alloc (.cells #[.int .i64 kd, .string tx, .int .i64 (at_ : Int)] 34)).drew) w.heap.size (by rfl) (.tmp 57) (.tmp 59) 24 34 (.agg #[(.int .i64 0), (.string ⟨#[]⟩), (.int .i64 0)]) 32 (by rfl) Tryd.underlying24 info34 rfl (by decide) (by omega) v2 l (⟨kd, tx, (at_ : Int)⟩ : Tok) [.int .i64 kd, .string tx, .int .i64 (at_ : Int)] (fun _ => True) (fun _ => False) (by rfl) (by first | (go_simp; done) | (go_simp; rfl) | (go_simp; simp)) (k34_mkM _ _ _ (⟨kd, tx, (at_ : Int)⟩ : Tok)) (fun _ hk => hk.elim) (fun _ _ => trivial) (Kd.R_drew HO2.out) (below_drew HB2.out) (by have := hbs.out; simp; omega) (by have := HL.out; omega) ?_; intro v1 w1 ho hb1 hgrow hat; have HO1 := Lib.hid ho; have HB1 := Lib.hid hb1; clear ho hb1 hat))
            have hM' := HM.out
            obtain ⟨ht1, ht2, ht3⟩ := HS0.out
            have ht2' : at_ < at_ + xs.length := ht2
            have ht3' : at_ + xs.length ≤ l0.length := ht3
            have hval : IntKind.i64.wrap ((at_ : Int) + (tx.size : Int)) = ((at_ + xs.length : Nat) : Int) := by have := HSZ.out; rw [i64_w]; unfold wrap64; omega
            go_wp2
            go_step3
            rw [hval]
            exact ⟨rfl, ⟨at_ + xs.length, _, v1, _, _, _, _, _, _, _, _, _, _, _, _, _, _, _, _, _, _, _, _, _, _, _, _, _, _, _, _, _, _, _, _, _, _, _, _, _, _, _, _, _, _, _, _, _, _, _, _, _, _, _, _, _, _, _, _, _, _, _, _, _, rfl, ht3, Lib.hid ht1, HO1, HB1, Lib.hid (by have := HL.out; rw [List.length_append]; simp only [List.length_singleton]; omega)⟩, by simp [tokMu, intOf]; omega⟩

def lex_Tokens.f (l0 : List Int) : Option (List Tok × Int × Int) := if l0.length > 16384 then some ([], 0, 2) else if l0.all isB then some (resOf (lx (l0.length + 1) l0 0)) else none
theorem lex_Tokens.calls (A0 : Option Addr) (c0 : Nat) (l0 : List Int) (r1 : List Tok) (r2 : Int) (r3 : Int) (w : World) (hG : Laid w) (hr0 : Kd.C (Kd.int .u8) w A0 l0.length l0) (hc0 : l0.length ≤ c0) (h : lex_Tokens.f l0 = some (r1, r2, r3)) :
    Calls Tryd.prog 10 #[.slice A0 l0.length c0] w fun e w' => ∃ v0_ : Value, e = .returned (.tuple #[v0_, .int .i64 r2, .int .i64 r3]) ∧ Kd.R k34 34 w' w.heap.size (fun _ => True) v0_ r1 ∧ Below w.heap.size w w' := by
  unfold lex_Tokens.f at h
  by_cases hs : l0.length > 16384
  · rw [if_pos hs] at h
    simp only [Option.some.injEq, Prod.mk.injEq] at h
    obtain ⟨rfl, rfl, rfl⟩ := h
    have hm := hr0.2.1
    have z0 : decide (16384 < (l0.length : Int)) = true := decide_eq_true (by omega)
    have z1 : decide (16384 < l0.length) = true := decide_eq_true (by omega)
    clear hr0 hc0 hG
    go_enter Tryd.func10, Tryd.ntmps10
    go_wp2
    go_step3
    go_wp2
    rw [Exit.noGoto_ret]
    go_ret3
    exact ⟨_, rfl, Kd.R_nil _ _ _ _ _, Below.refl _ _⟩
  · rw [if_neg hs] at h
    cases hB : l0.all isB with
    | false => rw [hB] at h; cases h
    | true =>
      rw [hB, if_pos rfl] at h
      have h := Option.some.inj h
      refine (tokens_calls A0 c0 l0 w hG hr0 hc0 (by omega) hB).mono fun e w' hp => ?_
      rw [h] at hp
      obtain ⟨v0, h1, h2, h3⟩ := hp
      exact ⟨v0, h1, h2, h3⟩
end Go.Proofs.YtbnelajjadhcgaaDoor.G
