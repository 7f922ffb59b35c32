/-
  Package machine: New of a script that is none (told).
-/
import Derived.Test.YtfddmbafjniflaaGreatDoorTold1
import Derived.Test.YtfddmbafjniflaaGreatDoorDecode2
namespace Go.Proofs.YtfddmbafjniflaaGreatDoor
open Go Go.RowKit
set_option maxRecDepth 100000 in
set_option maxHeartbeats 2000000 in
theorem new99 (w : World) (R : List HP) (sb : Nat) (hS : Sw w (ptc sb (script 99) 5 :: R)) :
    Calls Tryz.prog 5 #[conf0, .slice (some ⟨sb, 0, none⟩) 7 7] w fun e w' => e = .returned (.tuple #[.pointer none, .int .i64 6, .int .i64 3]) ∧ Sw w' R := by
  have h0 := hS.allocc [num 2, num 256, .float .f64 0, .float .f64 0] 24
  have H0 := hid h0
  clear hS h0
  unfold conf0
  go_enter Tryz.func5, Tryz.ntmps5
  repeat' (first | (go_big_may; (first | (go_at_call 22; refine (conf_may0 _).mono ?_; rintro e w1 ⟨rfl, hb⟩; have h1 := H0.out.of_below hb; have k2 := hid (decode_bad _ _ sb (h1 |>.front 1 rfl)); clear h1 hb H0) | (go_at_call 23; refine k2.out.mono ?_; rintro e w2 ⟨rfl, h2⟩; have H2 := hid h2; clear h2 k2))) | go_values | go_skip | go_guarded | go_step | go_upon | dsimp only)
  go_ret3
  exact ⟨rfl, ((H2.out.allocc _ _).tail.tail).tail⟩
end Go.Proofs.YtfddmbafjniflaaGreatDoor
