/-
  Package code: Decode on the told script that is none.
-/
import Derived.Test.YtfddmbafjniflaaGreatDoorDecode
namespace Go.Proofs.YtfddmbafjniflaaGreatDoor
open Go Go.RowKit
set_option maxRecDepth 100000 in
set_option maxHeartbeats 4000000 in
theorem decode_bad (w : World) (R : List HP) (sb : Nat) (hS : Sw w (ptc sb (script 99) 5 :: R)) :
    Calls Tryz.prog 23 #[.slice (some ⟨sb, 0, none⟩) 7 7] w fun e w' => e = .returned (.tuple #[.agg #[num 0, .slice none 0 0], num 6, num 3]) ∧ Sw w' (ptc sb (script 99) 5 :: R) := by
  have hmf : ∀ (fn : Fn) (first cap : Array Value) (w : World), (Instr.makeFunc fn first cap).run Tryz.prog w = .ok (.func fn first cap) w := fun _ _ _ _ => rfl
  have h0 := ((hS.allocc [.int .i64 0, .slice none 0 0] 32).allocc [.int .i64 0] 3).allocc [.int .i64 0] 3
  have h1 := h0.allocc [.slice (some ⟨sb, 0, none⟩) 7 7, num 0] 147
  simp only [World.size_alloc] at h1
  have H1 := hid h1
  clear h0 h1 hS
  go_enter_defers Tryz.func23, Tryz.ntmps23
  go_wp2_with fail
  revert H1
  generalize World.alloc _ _ = w1
  intro H1
  refine (next_ok _ _ _ sb 0 7 1 1 16 (script 99) (by omega) (by omega) rfl (by omega) (by omega) (by omega) (H1.out |>.front 3 rfl |>.front 3 rfl |>.front 3 rfl |>.front 4 rfl |>.front 4 rfl)).mono ?_
  rintro e w2 ⟨rfl, h2⟩
  have H2 := hid h2
  clear h2
  go_wp2_with fail
  refine (next_ok _ _ _ sb 1 7 0 0 32 (script 99) (by omega) (by omega) rfl (by omega) (by omega) (by omega) H2.out).mono ?_
  rintro e w3 ⟨rfl, h3⟩
  have h4 := h3 |>.front 3 rfl |>.front 3 rfl |>.front 3 rfl |>.front 3 rfl |>.front 4 rfl
  have c0 := h4.cell 0 rfl
  have f0 := h4.frozen 0
  have h5 := h4.set 0 (num 0)
  have H5 := hid h5
  clear h3 h4 h5 H1 H2
  go_wp2_with fail
  revert H5
  generalize World.setCell _ _ _ = w5
  intro H5
  clear c0 f0
  generalize w.heap.size = n0 at *
  have c0 := H5.out.cell 0 rfl
  refine wp_loop_rounds 2 ?_
  rw [rounds_succ]
  go_wp2_with fail
  have lp := H5.out.lt'
  have HA := hid ((Sw.drew H5.out) |>.front 4 rfl |>.front 4 rfl |>.front 2 rfl |>.front 4 rfl |>.front 4 rfl)
  have HB := hid ((Sw.drew (H5.out.allocc [.int .i64 0, .int .i64 0, .int .i64 0] 149)) |>.front 5 rfl |>.front 5 rfl |>.front 2 rfl |>.front 3 rfl |>.front 5 rfl |>.front 5 rfl)
  go_cut [7] from 21 to 26 (fun v7 wx => ∃ n7, v7 = .pointer (some ⟨n7, 0, none⟩) ∧ Sw wx (ptc n7 [num 0, num 1, num 1] 149 :: ptc (n0 + 1 + 1 + 1) [.slice (some ⟨sb, 0, none⟩) 7 7, num 3] 147 :: ptc sb (script 99) 5 :: ptc n0 [num 0, .slice none 0 0] 32 :: ptc (n0 + 1 + 1) [.int .i64 0] 3 :: ptc (n0 + 1) [.int .i64 0] 3 :: R))
  case first =>
    refine wp_only ?_
    go_region_with ((go_at_call 75; first | (refine (next_ok _ _ _ sb 2 7 1 1 64 (script 99) (by omega) (by omega) rfl (by omega) (by omega) (by omega) HA.out).mono ?_; rintro e w6 ⟨rfl, h6⟩; have g0 := (h6 |>.front 1 rfl |>.front 1 rfl |>.front 2 rfl).cell 0 rfl; have lp6 := (h6 |>.front 1 rfl |>.front 1 rfl |>.front 2 rfl).lt'; have H6 := hid h6; clear h6) | (refine (next_ok _ _ _ sb 2 7 1 1 64 (script 99) (by omega) (by omega) rfl (by omega) (by omega) (by omega) HB.out).mono ?_; rintro e w6 ⟨rfl, h6⟩; have g0 := (h6 |>.front 1 rfl |>.front 1 rfl |>.front 2 rfl).cell 0 rfl; have g1 := (h6 |>.front 2 rfl |>.front 2 rfl |>.front 2 rfl |>.front 3 rfl).cell 0 rfl; have g2 := (h6 |>.front 2 rfl |>.front 2 rfl |>.front 2 rfl |>.front 3 rfl).cell 1 rfl; have g3 := (h6 |>.front 2 rfl |>.front 2 rfl |>.front 2 rfl |>.front 3 rfl).cell 2 rfl; have e1 := (h6 |>.front 2 rfl |>.front 2 rfl |>.front 2 rfl |>.front 3 rfl).frozen 0; have e2 := (h6 |>.front 2 rfl |>.front 2 rfl |>.front 2 rfl |>.front 3 rfl).frozen 1; have e3 := (h6 |>.front 2 rfl |>.front 2 rfl |>.front 2 rfl |>.front 3 rfl).frozen 2; have H6 := hid h6; clear h6)))
    all_goals (simp only [onlyNormal]; go_wp2; go_meet)
    all_goals first | exact ⟨_, rfl, H6.out.allocc [num 0, num 1, num 1] 149⟩ | exact ⟨_, rfl, (((H6.out |>.front 2 rfl |>.front 2 rfl |>.front 2 rfl |>.front 3 rfl).set 0 (num 0)).set 1 (num 1)).set 2 (num 1)⟩
  case rest =>
    obtain ⟨n7, rfl, hI⟩ := hcut
    clear c0 lp HA HB H5
    have c0 := hI.cell 0 rfl
    have c1 := hI.cell 1 rfl
    have c2 := hI.cell 2 rfl
    have hin := inst99 wc _ (n0 + 1 + 1 + 1) sb 0 1 1 (script 99) rfl (hI |>.front 3 rfl |>.front 1 rfl |>.front 3 rfl |>.front 3 rfl)
    have Hin := hid hin
    clear hI hin
    go_wp2_with fail
    refine wp_loop_rounds 2 ?_
    rw [rounds_succ]
    go_wp2_with (first | (go_at_call 76; refine Hin.out.mono ?_; rintro e w7 ⟨rfl, h7⟩; have H7 := hid h7; clear h7))
    refine leaves_cons (f := 74) (args := #[.pointer (some ⟨n0, 0, none⟩), .pointer (some ⟨n0 + 1, 0, none⟩), .pointer (some ⟨n0 + 1 + 1, 0, none⟩)]) (by simp) (by simp [go_sem]) ?_
    refine (dec_bad n0 (n0 + 1) (n0 + 1 + 1) w7 _ _ _ _ rfl rfl rfl (H7.out |>.front 1 rfl |>.front 1 rfl |>.front 3 rfl |>.front 4 rfl |>.front 4 rfl)).mono ?_
    rintro e u' w12 ⟨rfl, rfl, h12⟩
    have x1 := (h12 |>.front 1 rfl |>.front 1 rfl |>.front 2 rfl).cell 0 rfl
    have y1 := (h12 |>.front 1 rfl).cell 0 rfl
    have p0 := h12.cell 0 rfl
    have p1 := h12.cell 1 rfl
    have H12 := hid h12
    clear h12 H7
    simp [Leaves, settle, results, Tryz.results23, go_sem, x1, y1, p0, p1]
    exact (H12.out |>.front 3 rfl |>.front 4 rfl |>.front 4 rfl |>.front 4 rfl |>.front 4 rfl).tail.tail.tail.tail
end Go.Proofs.YtfddmbafjniflaaGreatDoor
