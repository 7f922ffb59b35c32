/-
  MachineNobody: the walk.
-/
import Derived.Test.YtnpeaedjkkdfaaaGreatDoorTold3
import Derived.Test.YtnpeaedjkkdfaaaGreatDoorNil3
namespace Go.Proofs.YtnpeaedjkkdfaaaGreatDoor
open Go Go.RowKit
set_option maxRecDepth 100000 in
set_option maxHeartbeats 4000000 in
theorem nobody (m64 : Mul64Said) (p v t g : Int) (pr : Bool) (hg : inI g) (w : World) :
    Calls Tryz.prog 3 #[.agg #[.int .i64 p, .int .i64 v, .bool pr, .int .i64 t], .int .i64 g] w fun e w' => e = .returned (.bool true) ∧ Below w.heap.size w w' := by
  have h0 := (Sw.old w).allocc [.int .i64 p, .int .i64 v, .bool pr, .int .i64 t] 23
  have H0 := hid h0
  have hto := hid (told_true m64)
  have hro := hid (nil_room g hg)
  clear h0 m64 hg
  go_enter Tryz.func3, Tryz.ntmps3
  repeat' (first | go_values | go_skip | go_guarded | go_step | go_upon | dsimp only)
  refine (nil_view _).mono ?_
  rintro e w1 ⟨rfl, hb⟩
  have h1 := (H0.out.of_below hb).allocc [.int .i64 0, .int .i64 0, .int .i64 0, .slice none 0 0, .slice none 0 0, .slice none 0 0, .int .i64 0, .int .i64 0, .int .i64 0] 29
  have H1 := hid h1
  clear h1 hb H0
  repeat' (first | (go_big_may; (first | (go_at_call 5; refine (nil_credit _ _).mono ?_; rintro e w2 ⟨rfl, rfl⟩))) | go_values | go_skip | go_guarded | go_step | go_upon | dsimp only)
  refine (nil_commit _ _).mono ?_
  rintro e w3 ⟨rfl, hb⟩
  have h2 := H1.out.of_below hb
  have H2 := hid h2
  clear h2 hb H1
  repeat' (first | go_values | go_skip | go_guarded | go_step | go_upon | dsimp only)
  have hfi : ∀ w, (Instr.field 39 (.agg #[.int .i64 0, .int .i64 (-1), .int .i64 0]) 0).run Tryz.prog w = .ok (.int .i64 0) w := fun w => by kernel_rfl
  have heq : ∀ w, (binOp .eql 46 (.agg #[.int .i64 0, .int .i64 0, .int .i64 0]) (.agg #[.int .i64 0, .int .i64 0, .int .i64 0])).run Tryz.prog w = .ok (.bool true) w := fun w => by kernel_rfl
  have h3 := hid (H2.out.allocc [.int .i64 0, .int .i64 0, .int .i64 0, .int .i64 0, .int .i64 0, .bool false] 34)
  clear H2
  repeat' (first | (go_big_may; (first | (go_at_call 7; refine (hto.out _).mono ?_; rintro e w4 ⟨rfl, hb⟩; have h4 := h3.out.of_below hb; have q0 := (h4 |>.front 2 rfl).cell 0 rfl; have q1 := (h4 |>.front 2 rfl).cell 1 rfl; have q2 := (h4 |>.front 2 rfl).cell 2 rfl; have q3 := (h4 |>.front 2 rfl).cell 3 rfl; have H4 := hid h4; clear h3 h4 hb hto) | (go_at_call 8; refine (nil_step p v t pr _).mono ?_; rintro e w5 ⟨rfl, hb⟩; have H5 := hid (H4.out.of_below hb); clear hb H4 q0 q1 q2 q3) | (go_at_call 9; refine (nil_commits _).mono ?_; rintro e w6 ⟨rfl, rfl⟩) | (go_at_call 10; refine (nil_freed _).mono ?_; rintro e w6 ⟨rfl, rfl⟩) | (go_at_call 11; refine (nil_live _).mono ?_; rintro e w6 ⟨rfl, rfl⟩) | (go_at_call 13; refine (nil_steps _).mono ?_; rintro e w6 ⟨rfl, rfl⟩) | (go_at_call 14; refine (nil_enabled _ _).mono ?_; rintro e w6 ⟨rfl, rfl⟩) | (go_at_call 12; refine (hro.out _).mono ?_; rintro e w7 ⟨rfl, hb⟩; have h6 := H5.out.of_below hb; have r4 := (h6 |>.front 1 rfl).cell 4 rfl; have r5 := (h6 |>.front 1 rfl).cell 5 rfl; have H6 := hid h6; clear h6 hb H5 hro) | (go_at_call 15; refine (nil_goal _).mono ?_; rintro e w8 ⟨rfl, hb⟩; have H7 := hid (H6.out.of_below hb); clear H6 hb r4 r5))) | go_values | go_skip | go_guarded | go_step | go_upon | dsimp only)
  go_ret
  exact ⟨rfl, (H7.out |>.front 3 rfl).below⟩
end Go.Proofs.YtnpeaedjkkdfaaaGreatDoor
