
/- elem.Make of weights that fit: their word. -/
import Derived.Test.YtbghbfgbpdppeaaDoorElemK
namespace Go.Proofs.YtbghbfgbpdppeaaDoor
open Go.ChangeShapes Go.WideShapes Go.ChangeAt Go.RowKit
set_option linter.unusedVariables false

theorem make_ok (p s t : Nat) (v : Bool) (w : World) (hp : p < 65536) (hs : s < 256) (ht : t < 128) :
    Calls Tryd.prog 23 #[.int .i64 p, .int .i64 s, .int .i64 t, .bool v] w fun e w' => e = .returned (.tuple #[.int .u32 (mkW p s t v : Nat), .int .i64 0]) ∧ w = w' := by
  have e1 : mkW (((p : Int) % 65536).toNat) (wS 0) (wT 0) (wV 0) = mkW p 0 0 false := by
    rw [show ((p : Int) % 65536).toNat = p by omega]; rfl
  have q1 := mkW_parts (p := p) (s := 0) (t := 0) (v := false) (by decide) (by decide)
  have q2 := mkW_parts (p := p) (s := s) (t := 0) (v := false) hs (by decide)
  have e2 : mkW (wP (mkW p 0 0 false)) (((s : Int) % 256).toNat) (wT (mkW p 0 0 false)) (wV (mkW p 0 0 false)) = mkW p s 0 false := by
    rw [show ((s : Int) % 256).toNat = s by omega, q1.1, q1.2.2.1, q1.2.2.2]
  have e3 : mkW (wP (mkW p s 0 false)) (wS (mkW p s 0 false)) (((t : Int) % 128).toNat) (wV (mkW p s 0 false)) = mkW p s t false := by
    rw [show ((t : Int) % 128).toNat = t by omega, q2.1, q2.2.1, q2.2.2.2]
  have U1 := Lib.hid (fun W => by have h := with_1 0 (p : Int) W (by decide); rw [e1] at h; exact h)
  have U2 := Lib.hid (fun W => by have h := with_2 (mkW p 0 0 false) (s : Int) W (mkW_lt hp (by decide) (by decide)); rw [e2] at h; exact h)
  have U3 := Lib.hid (fun W => by have h := with_3 (mkW p s 0 false) (t : Int) W (mkW_lt hp hs (by decide)); rw [e3] at h; exact h)
  cases v
  · exact makeI_f p s t _ _ _ w (by omega) (by omega) (by omega) (by omega) (by omega) (by omega) U1 U2 U3
  · exact makeI_t p s t _ _ _ w (by omega) (by omega) (by omega) (by omega) (by omega) (by omega) _ (or1 p s t hp hs ht) U1 U2 U3
end Go.Proofs.YtbghbfgbpdppeaaDoor
