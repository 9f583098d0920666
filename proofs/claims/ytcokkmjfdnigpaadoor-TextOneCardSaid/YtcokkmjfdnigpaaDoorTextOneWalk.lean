/- TextOne is true of every input: the walk, where the tables of unicode/utf8 stand. -/
import Derived.Test.YtcokkmjfdnigpaaDoorTextOneLo
import Derived.Test.YtcokkmjfdnigpaaDoorTextOneHi
namespace Go.Proofs.YtcokkmjfdnigpaaDoor
open Go.ChangeShapes Go.WideShapes Go.ChangeAt Go.RowKit Go.Lib

theorem walk_TextOne (c b : Int) (_w0 : (Lit.int .i64 c).wf = true) (w1 : (Lit.int .u8 b).wf = true) (w : World) (hT : TabsU w) :
    Calls Tryd.prog 4 #[.int .i64 c, .int .u8 b] w fun e w' => e = .returned (.bool true) ∧ Below w.heap.size w w' := by
  have hb : 0 ≤ b ∧ b < 256 := by
    simp [Lit.wf, IntKind.min, IntKind.max, IntKind.signed, IntKind.bits] at w1
    omega
  obtain ⟨bb, hbb⟩ : ∃ bb : UInt8, (bb.toNat : Int) = b := ⟨UInt8.ofNat b.toNat, by simp; omega⟩
  by_cases h : b < 128
  · by_cases h1 : c < 0
    · exact one_b1_lo c b bb hbb h1 hb.1 h w hT
    by_cases h2 : c < 128
    · exact one_g1_lo c b bb hbb (by omega) h2 hb.1 h w hT
    by_cases h3 : c < 2048
    · exact one_g2_lo c b bb hbb (by omega) h3 hb.1 h w hT
    by_cases h4 : c < 55296
    · exact one_g3_lo c b bb hbb (by omega) h4 hb.1 h w hT
    by_cases h5 : c ≤ 57343
    · exact one_b2_lo c b bb hbb (by omega) h5 hb.1 h w hT
    by_cases h6 : c < 65536
    · exact one_g4_lo c b bb hbb (by omega) h6 hb.1 h w hT
    by_cases h7 : c ≤ 1114111
    · exact one_g5_lo c b bb hbb (by omega) h7 hb.1 h w hT
    by_cases h8 : c < 1114240
    · exact one_b3_lo c b bb hbb (by omega) h8 hb.1 h w hT
    by_cases h9 : c ≤ 1114367
    · exact one_r_lo c b bb hbb (by omega) h9 hb.1 h w hT
    exact one_b4_lo c b bb hbb (by omega) hb.1 h w hT
  · by_cases h1 : c < 0
    · exact one_b1_hi c b bb hbb h1 (by omega) hb.2 w hT
    by_cases h2 : c < 128
    · exact one_g1_hi c b bb hbb (by omega) h2 (by omega) hb.2 w hT
    by_cases h3 : c < 2048
    · exact one_g2_hi c b bb hbb (by omega) h3 (by omega) hb.2 w hT
    by_cases h4 : c < 55296
    · exact one_g3_hi c b bb hbb (by omega) h4 (by omega) hb.2 w hT
    by_cases h5 : c ≤ 57343
    · exact one_b2_hi c b bb hbb (by omega) h5 (by omega) hb.2 w hT
    by_cases h6 : c < 65536
    · exact one_g4_hi c b bb hbb (by omega) h6 (by omega) hb.2 w hT
    by_cases h7 : c ≤ 1114111
    · exact one_g5_hi c b bb hbb (by omega) h7 (by omega) hb.2 w hT
    by_cases h8 : c < 1114240
    · exact one_b3_hi c b bb hbb (by omega) h8 (by omega) hb.2 w hT
    by_cases h9 : c ≤ 1114367
    · exact one_r_hi c b bb hbb (by omega) h9 (by omega) hb.2 w hT
    exact one_b4_hi c b bb hbb (by omega) (by omega) hb.2 w hT
end Go.Proofs.YtcokkmjfdnigpaaDoor
