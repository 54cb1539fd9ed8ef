-- The walk of LexJoins: true for every list of tokens.
import Derived.Test.YtbnelajjadhcgaaDoorLive
import Derived.Test.YtbnelajjadhcgaaDoorRefJ
namespace Go.Proofs.YtbnelajjadhcgaaDoor.G
set_option linter.unusedVariables false
set_option linter.unusedSimpArgs false
open Go.RowKit Go.Proofs.YtbnelajjadhcgaaDoorW.PrintWords Go.Proofs.YtbnelajjadhcgaaDoorW.PrintLast Go.Proofs.YtbnelajjadhcgaaDoorW.PrintMore

set_option maxHeartbeats 8000000 in
set_option maxRecDepth 100000 in
theorem joins_big (A0 : Option Addr) (c0 : Nat) (l0 : List Tok) (w : World) (hG : Laid w) (hr0 : Kd.C k34 w A0 l0.length l0) (hc0 : l0.length ≤ c0) (k : Nat) (hf : chalklineref05_Few.f k l0 = some false) :
    Calls Tryd.prog 4 #[.slice A0 l0.length c0] w fun e w' => e = .returned (.bool true) ∧ Below w.heap.size w w' := by
  have HG := Lib.hid hG; clear hG
  have HR := Lib.hid hr0; clear hr0
  have HC := Lib.hid hc0; clear hc0
  have HF := Lib.hid hf; clear hf
  go_enter Tryd.func4, Tryd.ntmps4
  go_wp2_with (first
    | (go_at_call 9; refine (live_calls w HG.out).mono ?_; rintro e w1 ⟨rfl, hb⟩; have HB1 := Lib.hid hb; clear hb)
    | (go_at_call 13; refine (chalklineref05_Few.calls k A0 c0 l0 false w1 (Kd.C_below HR.out HB1.out) HC.out HF.out).mono ?_; rintro e w2 ⟨rfl, hd⟩; have HB2 := Lib.hid (below_step HB1.out hd.below); clear hd))
  go_ret
  exact ⟨rfl, HB2.out⟩

set_option maxHeartbeats 8000000 in
set_option maxRecDepth 100000 in
theorem joins_few (A0 : Option Addr) (c0 : Nat) (l0 : List Tok) (w : World) (hG : Laid w) (hr0 : Kd.C k34 w A0 l0.length l0) (hc0 : l0.length ≤ c0) (k : Nat) (hf : chalklineref05_Few.f k l0 = some true)
    (r1 : List Int) (r2 : Int) (h1 : lex_Join.f l0 = some (r1, r2)) (h2 : chalklineref05_Join.f 1000 l0 = some (r1, r2)) :
    Calls Tryd.prog 4 #[.slice A0 l0.length c0] w fun e w' => e = .returned (.bool true) ∧ Below w.heap.size w w' := by
  have HG := Lib.hid hG; clear hG
  have HR := Lib.hid hr0; clear hr0
  have HC := Lib.hid hc0; clear hc0
  have HF := Lib.hid hf; clear hf
  have H1 := Lib.hid h1; clear h1
  have H2 := Lib.hid h2; clear h2
  go_enter Tryd.func4, Tryd.ntmps4
  go_wp2_with (first
    | (go_at_call 9; refine (live_calls w HG.out).mono ?_; rintro e w1 ⟨rfl, hb⟩; have HB1 := Lib.hid hb; clear hb)
    | (go_at_call 13; refine (chalklineref05_Few.calls k A0 c0 l0 true w1 (Kd.C_below HR.out HB1.out) HC.out HF.out).mono ?_; rintro e w2 ⟨rfl, hd⟩; have HB2 := Lib.hid (below_step HB1.out hd.below); clear hd)
    | (go_at_call 14; refine (lex_Join.calls A0 c0 l0 r1 r2 w2 (Laid.below HG.out HB2.out) (Kd.C_below HR.out HB2.out) HC.out H1.out).mono ?_; rintro e w3 ⟨v3, rfl, ho, hb⟩; obtain ⟨A3, c3, rfl⟩ := Kd.V_slice ho; have HJ := Lib.hid (Kd.V_reads' ho).2.2; have HB3 := Lib.hid (below_step HB2.out hb); clear ho hb)
    | (go_at_call 15; refine (chalklineref05_Join.calls 1000 A0 c0 l0 r1 r2 w3 (Kd.C_below HR.out HB3.out) HC.out H2.out).mono ?_; rintro e w4 ⟨v4, rfl, ho, hb⟩; obtain ⟨A4, c4, rfl⟩ := Kd.R_slice ho; have HK := Lib.hid (Kd.R_reads' ho).2.2; have HB4 := Lib.hid (below_step HB3.out hb); have hs3 := Kd.C_string (P := Tryd.prog) (w := w4) (c := c3) Tryd.underlying22 Tryd.underlying5 Tryd.underlying9 (Kd.C_below HJ.out hb); have hs4 := Kd.C_string (P := Tryd.prog) (w := w4) (c := c4) Tryd.underlying22 Tryd.underlying5 Tryd.underlying9 HK.out; clear ho hb))
  go_ret
  exact ⟨rfl, HB4.out⟩

theorem lexJoins_walk (A0 : Option Addr) (c0 : Nat) (l0 : List Tok) (w : World) (hG : Laid w) (hr0 : Kd.C k34 w A0 l0.length l0) (hc0 : l0.length ≤ c0) :
    Calls Tryd.prog 4 #[.slice A0 l0.length c0] w fun e w' => e = .returned (.bool true) ∧ Below w.heap.size w w' := by
  obtain ⟨k, b, hf, hb⟩ := few_f l0
  cases b with
  | false => exact joins_big A0 c0 l0 w hG hr0 hc0 k hf
  | true =>
    obtain ⟨hn, hs⟩ := hb rfl
    obtain ⟨⟨r1, r2⟩, h1, h2⟩ := refJoin_f l0 hn hs
    exact joins_few A0 c0 l0 w hG hr0 hc0 k hf r1 r2 h1 h2
end Go.Proofs.YtbnelajjadhcgaaDoor.G
