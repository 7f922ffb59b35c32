/-
  Package code: an instruction that may be.
-/
import Derived.Test.YtfddmbafjniflaaGreatDoorCode
import Derived.Test.YtfddmbafjniflaaGreatDoorSegQ
namespace Go.Proofs.YtfddmbafjniflaaGreatDoor
open Go Go.RowKit
theorem parts_at0 (w : World) : (Instr.index 316 (.agg partsC) (num 0)).run Tryz.prog w = .ok (.agg #[.int .i64 0, .int .i64 0, .int .i64 0]) w := by kernel_rfl
theorem part_at (k : Nat) (hk : k < 3) (w : World) : (Instr.index 315 (.agg #[.int .i64 0, .int .i64 0, .int .i64 0]) (.int .i64 k)).run Tryz.prog w = .ok (.int .i64 0) w := by
  obtain rfl | rfl | rfl : k = 0 ∨ k = 1 ∨ k = 2 := by omega
  all_goals kernel_rfl
def SW (n0 a b c : Nat) (w' : World) : Prop :=
  w'.cell? ⟨n0, 0, none⟩ = some (num a) ∧ w'.cell? ⟨n0, 1, none⟩ = some (num b) ∧ w'.cell? ⟨n0, 2, none⟩ = some (num c) ∧
  w'.cell? ⟨n0 + 1, 0, none⟩ = some (num 0) ∧ w'.cell? ⟨n0 + 1, 1, none⟩ = some (num 0) ∧ w'.cell? ⟨n0 + 1, 2, none⟩ = some (num 0) ∧ w'.cell? ⟨n0 + 1, 3, none⟩ = some (num 0)
theorem SW.of {n0 a b c : Nat} {w : World} {R : List HP} (h : Sw w (ptc (n0 + 1) [num 0, num 0, num 0, num 0] 113 :: ptc n0 [num a, num b, num c] 149 :: R)) : SW n0 a b c w :=
  ⟨(h.front 1 rfl).cell 0 rfl, (h.front 1 rfl).cell 1 rfl, (h.front 1 rfl).cell 2 rfl, h.cell 0 rfl, h.cell 1 rfl, h.cell 2 rfl, h.cell 3 rfl⟩
set_option maxRecDepth 100000 in
set_option maxHeartbeats 4000000 in
theorem wrong0 (w : World) (a b c : Nat) : Calls Tryz.prog 134 #[.agg #[num a, num b, num c], .agg #[num 0, num 0, num 0, num 0]] w fun e w' => e = .returned (.int .i64 (-1)) ∧ Below w.heap.size w w' := by
  have h0 := ((Sw.old w).allocc [num a, num b, num c] 149).allocc [num 0, num 0, num 0, num 0] 113
  simp only [World.size_alloc] at h0
  have H0 := hid h0
  obtain ⟨c0, c1, c2, c3, c4, c5, c6⟩ := SW.of (Sw.drew h0)
  have C := hid (SW.of (Sw.drew h0))
  have hix := parts_at0
  clear h0
  go_enter Tryz.func134, Tryz.ntmps134
  go_wp2_with (first | (refine wp_region_segS (SW w.heap.size a b c) mixed (by decide +kernel) C.out ?_) | (apply segS_call (by rfl) (by rfl); focus (go_simp; first | exact rfl | exact ⟨rfl, rfl⟩)) | (apply segS_look (by rfl) (by rfl); focus (intro wq hq; obtain ⟨q0, q1, q2, q3, q4, q5, q6⟩ := hq; go_simp; first | exact rfl | exact ⟨rfl, rfl⟩)))
  refine (parts0 _).mono ?_
  rintro e w1 ⟨rfl, hb⟩
  have h1 := (Sw.drew H0.out).of_below hb
  refine ⟨_, rfl, SW.of h1, ?_⟩
  have H1 := hid h1
  clear h1 hb c0 c1 c2 c3 c4 c5 c6 C
  go_wp2_with (first | (apply segS_look (by rfl) (by rfl); focus (intro wq hq; obtain ⟨q0, q1, q2, q3, q4, q5, q6⟩ := hq; go_simp; first | exact rfl | exact ⟨rfl, rfl⟩)))
  refine segS_nil ?_
  go_wp2
  go_loopw [19] (fun v19 wr => ∃ k : Nat, k ≤ 3 ∧ v19 = num k ∧ Sw wr [ptc (w.heap.size + 1) [num 0, num 0, num 0, num 0] 113, ptc w.heap.size [num a, num b, num c] 149, old w]) (fun v19 wr => below_ 3 v19)
  case atStart => exact ⟨0, by omega, rfl, H1.out⟩
  obtain ⟨k, hk, rfl, hI⟩ := hrel
  clear hix H0 H1
  have HI := hid hI
  have C0 := hid (SW.of (Sw.drew hI))
  obtain ⟨d0, d1, d2, d3, d4, d5, d6⟩ := SW.of (Sw.drew hI)
  clear hI
  have hb1 := HI.out.tail.tail.below
  rcases Nat.lt_or_ge k 3 with hlt | hge
  · have hix := part_at k hlt
    have h2 := Sw.drew (HI.out.allocc [num 0, num 0, num 0] 3)
    have C2 := hid (SW.of h2.tail)
    have e0 : (wr.alloc (.cells #[num 0, num 0, num 0] 3)).drew.cell? ⟨wr.heap.size, k, none⟩ = some (num 0) := h2.cell k (by obtain rfl | rfl | rfl : k = 0 ∨ k = 1 ∨ k = 2 := by omega
                                                                                                                              all_goals rfl)
    have i1 : (k : Int) < 3 := by omega
    have H2 := hid h2
    have Hlt := hid hlt
    clear h2 hk hlt
    go_wp2_with (first | (refine wp_region_segQ [23] (SW w.heap.size a b c) mixed (by decide +kernel) C0.out ?_) | (apply segQ_still (by rfl) (by rfl) (by rfl) C0.out; focus (intro wq hq; obtain ⟨q0, q1, q2, q3, q4, q5, q6⟩ := hq; go_simp; first | exact rfl | exact ⟨rfl, rfl⟩)) | (apply segQ_pure (by rfl) (by rfl); focus (intro wq; go_simp; first | exact rfl | exact ⟨rfl, rfl⟩)) | (apply segQ_look (by rfl) (by rfl) (by rfl) (by rfl); focus (go_simp; first | exact rfl | exact ⟨rfl, rfl⟩)) | (apply segQ_call (by rfl) (by rfl) (by rfl); focus (go_simp; first | exact rfl | exact ⟨rfl, rfl⟩)) | (refine segQ_nil ?_))
    apply segQ_act (by rfl) (by rfl) (by rfl)
    focus (go_simp; first | exact rfl | exact ⟨rfl, rfl⟩)
    focus exact C2.out
    go_wp2_with (first | (apply segQ_pure (by rfl) (by rfl); focus (intro wq; go_simp; first | exact rfl | exact ⟨rfl, rfl⟩)) | (apply segQ_look (by rfl) (by rfl) (by rfl) (by rfl); focus (go_simp; first | exact rfl | exact ⟨rfl, rfl⟩)) | (apply segQ_call (by rfl) (by rfl) (by rfl); focus (go_simp; first | exact rfl | exact ⟨rfl, rfl⟩)) | (refine segQ_nil ?_))
    refine (fits0 _ a b c).mono ?_
    rintro e w5 ⟨rfl, hb⟩
    have h5 := H2.out.tail.of_below (w' := w5) hb
    refine ⟨_, rfl, SW.of h5, ?_⟩
    have H5 := hid h5
    clear h5 hb hix e0 d0 d1 d2 d3 d4 d5 d6 C0 C2
    go_wp2_with (first | (apply segQ_pure (by rfl) (by rfl); focus (intro wq; go_simp; first | exact rfl | exact ⟨rfl, rfl⟩)) | (apply segQ_look (by rfl) (by rfl) (by rfl) (by rfl); focus (go_simp; first | exact rfl | exact ⟨rfl, rfl⟩)) | (apply segQ_call (by rfl) (by rfl) (by rfl); focus (go_simp; first | exact rfl | exact ⟨rfl, rfl⟩)) | (refine segQ_nil ?_))
    go_roundw
    case rel => exact ⟨k + 1, Hlt.out, rfl, H5.out⟩
    case measure => have := Hlt.out; simp [below_]; omega
  · have : k = 3 := by omega
    subst this
    clear d0 d1 d2 d3 d4 d5 d6 C0 hk hge
    go_wp2
    go_ret
    exact ⟨rfl, hb1⟩
set_option maxRecDepth 100000 in
set_option maxHeartbeats 4000000 in
theorem wrong99 (w : World) (a b c x y z : Nat) : Calls Tryz.prog 134 #[.agg #[num a, num b, num c], .agg #[num 99, num x, num y, num z]] w fun e w' => e = .returned (num 0) ∧ Below w.heap.size w w' := by
  go_enter Tryz.func134, Tryz.ntmps134
  go_wp2
  go_ret
  exact ⟨rfl, Below.alloc (Below.alloc (Below.refl _ _) (Nat.le_refl _) _) (by simp) _⟩
end Go.Proofs.YtfddmbafjniflaaGreatDoor
