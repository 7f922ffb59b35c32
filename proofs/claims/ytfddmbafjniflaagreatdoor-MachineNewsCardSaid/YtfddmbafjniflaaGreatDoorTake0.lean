/-
  Package machine: take, of the one goroutine that there is (told).
-/
import Derived.Test.YtfddmbafjniflaaGreatDoorStatus
namespace Go.Proofs.YtfddmbafjniflaaGreatDoor
open Go Go.RowKit
/-- A P. -/
def procC (g : Int) (row : Nat) (last : Int) (picks passed : Nat) (scan notes : Value) (said : Bool) (due worked all : Nat) : List Value :=
  [.int .i64 g, num row, .int .i64 last, num picks, num passed, scan, notes, .bool said, num due, num worked, num all]
set_option maxRecDepth 100000 in
set_option maxHeartbeats 2000000 in
theorem take0 (w : World) (R : List HP) (m pb po pcap x ph sc st gb go gcap g : Nat) (victim : Int) (c ps gl : List Value) (scan notes : Value) (said : List Bool) (cnt rst : Nat)
    (h7 : c[7]? = some (ptr st)) (h8 : c[8]? = some (.slice (some ⟨gb, go, none⟩) 1 gcap)) (h9 : c[9]? = some (.slice (some ⟨pb, po, none⟩) 2 pcap)) (h10 : c[10]? = some (ptr sc)) (h15 : c[15]? = some (ptr ph))
    (hx : ps[po]? = some (ptr x)) (hg : gl[go]? = some (ptr g))
    (hS : Sw w (ptc x (procC (-1) 0 (-1) 0 0 scan notes false 0 0 1) 108 :: SchedR sc [[0], []] [] :: StatesR st [1] :: ptc m c 93 :: ptc pb ps 103 :: PhaseR ph 0 0 said cnt rst :: ptc gb gl 116 :: ptc g (gorC 0 0 0 (stack0 (num 0)) 0 0) 120 :: R)) :
    Calls Tryz.prog 71 #[ptr m, num 0, .int .i64 victim] w fun e w' => e = .returned (.tuple #[]) ∧
      Sw w' (ptc x (procC 0 0 0 1 0 scan notes false 0 0 1) 108 :: SchedR sc [[], []] [] :: StatesR st [2] :: ptc m c 93 :: ptc pb ps 103 :: PhaseR ph 0 0 said cnt rst :: ptc gb gl 116 :: ptc g (gorC 0 0 0 (stack0 (num 0)) 0 0) 120 :: R) := by
  have c9 := (hS |>.front 2 rfl |>.front 2 rfl |>.front 2 rfl |>.front 3 rfl).cell 9 h9
  have c15 := (hS |>.front 2 rfl |>.front 2 rfl |>.front 2 rfl |>.front 3 rfl).cell 15 h15
  have c10 := (hS |>.front 2 rfl |>.front 2 rfl |>.front 2 rfl |>.front 3 rfl).cell 10 h10
  have r0 := (hS |>.front 3 rfl |>.front 3 rfl |>.front 3 rfl |>.front 3 rfl |>.front 4 rfl).cell po hx
  have x3 := hS.cell 3 rfl
  have x4 := hS.cell 4 rfl
  have f3 := hS.frozen 3
  have f4 := hS.frozen 4
  have n1 := (hS |>.front 2 rfl |>.front 2 rfl |>.front 3 rfl |>.front 3 rfl).ne
  have n2 := (hS |>.front 3 rfl |>.front 3 rfl |>.front 3 rfl |>.front 4 rfl |>.front 4 rfl).ne
  have n3 : ¬ m = x := fun e => n1 e.symm
  have n4 : ¬ pb = x := fun e => n2 e.symm
  have h1 := hS.set 3 (.int .i64 1)
  obtain ⟨pv, hP1⟩ := PhaseR.open_ (h1 |>.front 4 rfl |>.front 4 rfl |>.front 4 rfl |>.front 4 rfl |>.front 4 rfl |>.front 5 rfl)
  have hph := phase_phase _ ph 0 (hP1.cell 0 rfl)
  have h2 := h1.set 4 (.int .i64 1)
  have Hph := hid hph
  have H2 := hid h2
  have HC := hid (And.intro h7 (And.intro h8 (And.intro h9 (And.intro h10 (And.intro hx hg)))))
  clear hS h1 hP1 hph h2 h7 h8 h9 h10 h15 hx hg
  go_enter Tryz.func71, Tryz.ntmps71
  go_wp2_with (first | (go_at_call 37; refine Hph.out.mono ?_; rintro e v1 ⟨rfl, rfl⟩))
  clear c9 c15 c10 r0 x3 x4 f3 f4 n1 n2 n3 n4 Hph
  have h2 := H2.out
  revert h2
  clear H2
  generalize World.setCell _ _ _ = w2
  intro h2
  have hlo := sched_local w2 _ sc 0 [[0], []] [] [0] rfl (by decide) (h2 |>.front 1 rfl)
  clear h2
  refine hlo.mono ?_
  clear hlo
  rintro e w3 ⟨v3, rfl, h3⟩
  obtain ⟨a3, cap3, rfl⟩ := h3.sl_val
  have h3 := h3.tail
  have c10 := (h3 |>.front 2 rfl |>.front 2 rfl |>.front 2 rfl |>.front 3 rfl).cell 10 HC.out.2.2.2.1
  have hco := sched_common w3 _ sc [[0], []] [] (by decide) h3
  have Hco := hid hco
  clear h3 hco
  go_wp2_with (first | (go_at_call 125; refine Hco.out.mono ?_; rintro e w4 ⟨v4, rfl, h4⟩; obtain ⟨a4, cap4, rfl⟩ := h4.sl_val; have h4' := h4.tail; have x4 := (h4' |>.front 1 rfl).cell 4 rfl; have f4 := (h4' |>.front 1 rfl).frozen 4; have d10 := (h4' |>.front 2 rfl |>.front 2 rfl |>.front 2 rfl |>.front 3 rfl).cell 10 HC.out.2.2.2.1; have n1 := (h4' |>.front 2 rfl |>.front 1 rfl |>.front 3 rfl |>.front 3 rfl).ne; have n3 : ¬ m = x := fun e => n1 e.symm; have H4 := hid h4'; clear h4 h4' c10))
  have h5 := (H4.out |>.front 1 rfl).set 4 (.int .i64 0)
  clear x4 f4 d10 n1 n3 H4
  revert h5
  generalize World.setCell _ _ _ = w5
  intro h5
  have hpk := pick_own w5 _ sc 0 61 0 victim [[0], []] [] rfl (by decide) (.inr rfl) (h5 |>.front 1 rfl)
  clear h5
  refine hpk.mono ?_
  clear hpk
  rintro e w6 ⟨rfl, h6⟩
  have c7 := (h6 |>.front 2 rfl |>.front 2 rfl |>.front 2 rfl |>.front 3 rfl).cell 7 HC.out.1
  have hmv := states_move w6 _ st [1] 0 1 2 (by decide) (by decide) rfl rfl (h6 |>.front 1 rfl |>.front 1 rfl |>.front 2 rfl)
  have Hmv := hid hmv
  clear h6 hmv
  go_wp2_with fail
  refine Hmv.out.mono ?_
  rintro e w7 ⟨rfl, h7⟩
  have hx7 := h7 |>.front 1 rfl |>.front 2 rfl
  have x2 := hx7.cell 2 rfl
  have x0 := hx7.cell 0 rfl
  have x1 := hx7.cell 1 rfl
  have f0 := hx7.frozen 0
  have f1 := hx7.frozen 1
  have f2 := hx7.frozen 2
  have c8 := (h7 |>.front 2 rfl |>.front 2 rfl |>.front 2 rfl |>.front 3 rfl).cell 8 HC.out.2.1
  have g0 := (h7 |>.front 5 rfl |>.front 5 rfl |>.front 5 rfl |>.front 5 rfl |>.front 5 rfl |>.front 5 rfl |>.front 6 rfl).cell go HC.out.2.2.2.2.2
  have g19 := (h7 |>.front 6 rfl |>.front 6 rfl |>.front 6 rfl |>.front 6 rfl |>.front 6 rfl |>.front 6 rfl |>.front 6 rfl |>.front 7 rfl).cell 19 rfl
  have fg := (h7 |>.front 6 rfl |>.front 6 rfl |>.front 6 rfl |>.front 6 rfl |>.front 6 rfl |>.front 6 rfl |>.front 6 rfl |>.front 7 rfl).frozen 19
  have n1 := (h7 |>.front 1 rfl |>.front 1 rfl |>.front 2 rfl |>.front 3 rfl).ne
  have n2 := (h7 |>.front 5 rfl |>.front 5 rfl |>.front 5 rfl |>.front 4 rfl |>.front 4 rfl |>.front 5 rfl |>.front 6 rfl).ne
  have n3 := (h7 |>.front 6 rfl |>.front 6 rfl |>.front 6 rfl |>.front 6 rfl |>.front 5 rfl |>.front 5 rfl |>.front 6 rfl |>.front 7 rfl).ne
  have h8 := (((((hx7.set 1 (.int .i64 0)).set 0 (.int .i64 0)).set 2 (.int .i64 0)) |>.front 6 rfl |>.front 6 rfl |>.front 6 rfl |>.front 6 rfl |>.front 6 rfl |>.front 6 rfl |>.front 6 rfl |>.front 7 rfl).set 19 (.int .i64 0))
  have H8 := hid h8
  clear Hmv hx7 h7 h8
  go_wp2_with fail
  go_end0
  exact ⟨rfl, H8.out |>.front 7 rfl |>.front 7 rfl |>.front 7 rfl |>.front 7 rfl |>.front 7 rfl |>.front 7 rfl |>.front 7 rfl⟩
end Go.Proofs.YtfddmbafjniflaaGreatDoor
