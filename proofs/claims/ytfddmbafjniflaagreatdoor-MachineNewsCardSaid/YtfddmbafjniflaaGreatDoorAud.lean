/-
  The document's audit of a first view: nothing is wrong.
-/
import Derived.Test.YtfddmbafjniflaaGreatDoorView
namespace Go.Proofs.YtfddmbafjniflaaGreatDoor
open Go Go.RowKit
/-- The view's slices, as a first machine has them: g zeros, one goroutine that may run, sixteen zeros. -/
structure ViewAt (g : Nat) (g1a : Option Addr) (gsb gso sb so sc : Nat) (w : World) : Prop where
  gl : ∀ i, i < g → ∃ b o, g1a = some ⟨b, o, none⟩ ∧ w.cell? ⟨b, o + i, none⟩ = some (.int .i64 0)
  g0 : w.cell? ⟨gsb, gso, none⟩ = some (num 1)
  g1 : w.cell? ⟨gsb, gso + 1, none⟩ = some (num 0)
  g2 : w.cell? ⟨gsb, gso + 2, none⟩ = some (.slice (some ⟨sb, so, none⟩) 16 sc)
  st : ∀ i, i < 16 → w.cell? ⟨sb, so + i, none⟩ = some (.int .i64 0)
theorem cell_below {w w' : World} {a : Addr} {v : Value} (h : w.cell? a = some v) (hb : Below w.heap.size w w') : w'.cell? a = some v :=
  (hb.cell (World.block_lt_of_cell? w _ h)).trans h
theorem ViewAt.below {g : Nat} {g1a : Option Addr} {gsb gso sb so sc : Nat} {w w' : World} (h : ViewAt g g1a gsb gso sb so sc w) (hb : Below w.heap.size w w') : ViewAt g g1a gsb gso sb so sc w' :=
  ⟨fun i hi => by obtain ⟨b, o, h1, h2⟩ := h.gl i hi; exact ⟨b, o, h1, cell_below h2 hb⟩, cell_below h.g0 hb, cell_below h.g1 hb, cell_below h.g2 hb, fun i hi => cell_below (h.st i hi) hb⟩
def viewV (g : Nat) (g1a : Option Addr) (g1c gsb gso gsc : Nat) : List Value := [num 0, num 0, num 0, .slice g1a g g1c, .slice (some ⟨gsb, gso, none⟩) 1 gsc, .slice none 0 0, num 0, num 0, num 0]
section
variable {g g1c gsb gso gsc sb so sc : Nat} {g1a : Option Addr} {w : World}
set_option maxRecDepth 100000 in
set_option maxHeartbeats 1000000 in
theorem once_0 (w : World) (v : Value) : Calls Tryz.prog 243 #[v, .int .i64 0] w fun e w' => e = .returned v ∧ w' = w := by
  go_enter Tryz.func243, Tryz.ntmps243
  repeat' (first | go_values | go_skip | go_guarded | go_step | go_upon | dsimp only)
  go_ret
  exact ⟨rfl, rfl⟩
theorem viewAt_box (hV : ViewAt g g1a gsb gso sb so sc w) (o : Obj) : ViewAt g g1a gsb gso sb so sc (w.alloc o) := hV.below (Below.alloc (Below.refl _ _) (Nat.le_refl _) o)
theorem box_below (o : Obj) : Below w.heap.size w (w.alloc o) := Below.alloc (Below.refl _ _) (Nat.le_refl _) o
set_option maxRecDepth 100000 in
set_option maxHeartbeats 4000000 in
theorem roots_0 (hg : g ≤ 32) (hV : ViewAt g g1a gsb gso sb so sc w) : Calls Tryz.prog 155 #[.agg (viewV g g1a g1c gsb gso gsc).toArray] w fun e w' => e = .returned (.slice none 0 0) ∧ Below w.heap.size w w' := by
  unfold viewV
  have HV := hid (viewAt_box hV (.cells (viewV g g1a g1c gsb gso gsc).toArray 40))
  have hB := hid (box_below (w := w) (.cells (viewV g g1a g1c gsb gso gsc).toArray 40))
  have h0 := (Sw.old w).allocc (viewV g g1a g1c gsb gso gsc) 40
  have x3 := h0.cell 3 rfl
  have x4 := h0.cell 4 rfl
  have ig : (g : Int) ≤ 32 := by omega
  clear hV h0 hg
  unfold viewV at HV hB x3 x4
  go_enter Tryz.func155, Tryz.ntmps155
  repeat' (first | go_values | go_skip | go_guarded | go_step | go_upon | dsimp only)
  revert HV hB x3 x4
  generalize World.alloc _ _ = w1
  intro HV hB x3 x4
  go_loopw [3, 4] (fun v3 v4 wr => ∃ i : Nat, i ≤ g ∧ v4 = num i ∧ v3 = .slice none 0 0 ∧ wr = w1) (fun v3 v4 wr => below_ g v4)
  case atStart => exact ⟨0, by omega, rfl, rfl, by first | trivial | rfl⟩
  obtain ⟨i, hi, rfl, rfl, hw⟩ := hrel
  subst hw
  rcases Nat.lt_or_ge i g with hlt | hge
  · have i1 : (i : Int) < g := by omega
    obtain ⟨b, o, hga, hc⟩ := HV.out.gl i hlt
    subst hga
    have Hlt := hid hlt
    clear hi hlt
    repeat' (first | (go_big_may; (first | (go_at_call 243; refine (once_0 _ _).mono ?_; rintro e w2 ⟨rfl, rfl⟩))) | go_values | go_skip | go_guarded | go_step | go_upon | dsimp only)
    go_roundw
    case rel => exact ⟨i + 1, Hlt.out, rfl, by first | trivial | rfl, by first | trivial | rfl⟩
    case measure => have := Hlt.out; simp [below_]; omega
  · obtain rfl : i = g := by omega
    have i1 : ¬ (i : Int) < i := by omega
    have g0 := HV.out.g0
    have g2 := HV.out.g2
    clear hi hge
    repeat' (first | go_values | go_skip | go_guarded | go_step | go_upon | dsimp only)
    refine wp_loop_rounds 2 ?_
    rw [rounds_succ]
    repeat' (first | go_values | go_skip | go_guarded | go_step | go_upon | dsimp only)
    go_loopw [3, 6] (fun v3 v6 wx => ∃ j : Nat, j ≤ 16 ∧ v6 = num j ∧ v3 = .slice none 0 0 ∧ wx = wr) (fun v3 v6 wx => below_ 16 v6)
    case atStart => exact ⟨0, by omega, rfl, rfl, by first | trivial | rfl⟩
    obtain ⟨j, hj, rfl, rfl, hw⟩ := hrel
    subst hw
    rcases Nat.lt_or_ge j 16 with hlt | hge
    · have j1 : (j : Int) < 16 := by omega
      have hc := HV.out.st j hlt
      have Hlt := hid hlt
      clear hj hlt
      repeat' (first | (go_big_may; (first | (go_at_call 243; refine (once_0 _ _).mono ?_; rintro e w2 ⟨rfl, rfl⟩))) | go_values | go_skip | go_guarded | go_step | go_upon | dsimp only)
      go_roundw
      case rel => exact ⟨j + 1, Hlt.out, rfl, by first | trivial | rfl, by first | trivial | rfl⟩
      case measure => have := Hlt.out; simp [below_]; omega
    · obtain rfl : j = 16 := by omega
      clear hj hge
      repeat' (first | go_values | go_skip | go_guarded | go_step | go_upon | dsimp only)
      rw [rounds_succ]
      repeat' (first | go_values | go_skip | go_guarded | go_step | go_upon | dsimp only)
      go_ret
      exact ⟨rfl, hB.out⟩
set_option maxRecDepth 100000 in
set_option maxHeartbeats 4000000 in
theorem walk_0 (hg : g ≤ 32) (hV : ViewAt g g1a gsb gso sb so sc w) : Calls Tryz.prog 99 #[.agg (viewV g g1a g1c gsb gso gsc).toArray] w fun e w' => e = .returned (.tuple #[.slice none 0 0, .slice none 0 0]) ∧ Below w.heap.size w w' := by
  have HV := hid hV
  have Hr := hid (fun (w : World) (hV : ViewAt g g1a gsb gso sb so sc w) => roots_0 (g1c := g1c) (gsc := gsc) hg hV)
  have h0 := (Sw.old w).allocc (viewV g g1a g1c gsb gso gsc) 40
  have H0 := hid h0
  have hmm := @run_makeMap Tryz.prog
  clear hV h0 hg
  unfold viewV at H0 Hr ⊢
  go_enter Tryz.func99, Tryz.ntmps99
  repeat' (first | go_values | go_skip | go_guarded | go_step | go_upon | dsimp only)
  refine wp_loop_rounds 1 ?_
  rw [rounds_succ]
  have hmk : ∀ w, (Instr.makeSlice 132 (.int .i64 0) (.int .i64 0)).run Tryz.prog w = .ok (.slice (some ⟨w.heap.size, 0, none⟩) 0 0) (w.alloc (.cells #[] 4)) := fun w => by kernel_rfl
  repeat' (first | (go_big_may; (first | (go_at_call 155; refine (Hr.out _ (HV.out.below (((H0.out.after_alloc _).after_alloc _).tail.below))).mono ?_; rintro e w2 ⟨rfl, hb⟩; have H2 := hid (((H0.out.after_alloc _).after_alloc _).of_below hb); clear hb))) | go_values | go_skip | go_guarded | go_step | go_upon | dsimp only)
  refine wp_loop_rounds 1 ?_
  rw [rounds_succ]
  repeat' (first | go_values | go_skip | go_guarded | go_step | go_upon | dsimp only)
  refine wp_loop_rounds 1 ?_
  rw [rounds_succ]
  repeat' (first | go_values | go_skip | go_guarded | go_step | go_upon | dsimp only)
  go_ret2
  exact ⟨rfl, H2.out.tail.below⟩
set_option maxRecDepth 100000 in
set_option maxHeartbeats 1000000 in
theorem lost_0 (hg : g ≤ 32) (hV : ViewAt g g1a gsb gso sb so sc w) : Calls Tryz.prog 55 #[.agg (viewV g g1a g1c gsb gso gsc).toArray] w fun e w' => e = .returned (.slice none 0 0) ∧ Below w.heap.size w w' := by
  have Hr := hid (walk_0 (g1c := g1c) (gsc := gsc) hg (viewAt_box hV (.cells (viewV g g1a g1c gsb gso gsc).toArray 40)))
  have h0 := (Sw.old w).allocc (viewV g g1a g1c gsb gso gsc) 40
  have H0 := hid h0
  clear hV h0 hg
  unfold viewV at H0 Hr ⊢
  go_enter Tryz.func55, Tryz.ntmps55
  repeat' (first | (go_big_may; (first | (go_at_call 99; refine Hr.out.mono ?_; rintro e w2 ⟨rfl, hb⟩; have H2 := hid (H0.out.of_below hb); clear hb))) | go_values | go_skip | go_guarded | go_step | go_upon | dsimp only)
  go_ret
  exact ⟨rfl, H2.out.tail.below⟩
set_option maxRecDepth 100000 in
set_option maxHeartbeats 4000000 in
theorem apart_0 (w : World) : Calls Tryz.prog 56 #[.agg (viewV g g1a g1c gsb gso gsc).toArray] w fun e w' => e = .returned (.bool true) ∧ Below w.heap.size w w' := by
  have hB := hid (box_below (w := w) (.cells (viewV g g1a g1c gsb gso gsc).toArray 40))
  unfold viewV at hB ⊢
  go_enter Tryz.func56, Tryz.ntmps56
  repeat' (first | go_values | go_skip | go_guarded | go_step | go_upon | dsimp only)
  refine wp_loop_rounds 1 ?_
  rw [rounds_succ]
  repeat' (first | go_values | go_skip | go_guarded | go_step | go_upon | dsimp only)
  go_ret
  exact ⟨rfl, hB.out⟩
set_option maxRecDepth 100000 in
set_option maxHeartbeats 4000000 in
theorem clean_0 (w : World) : Calls Tryz.prog 61 #[.agg (viewV g g1a g1c gsb gso gsc).toArray] w fun e w' => e = .returned (.bool true) ∧ Below w.heap.size w w' := by
  have hB := hid (box_below (w := w) (.cells (viewV g g1a g1c gsb gso gsc).toArray 40))
  unfold viewV at hB ⊢
  go_enter Tryz.func61, Tryz.ntmps61
  repeat' (first | go_values | go_skip | go_guarded | go_step | go_upon | dsimp only)
  refine wp_loop_rounds 1 ?_
  rw [rounds_succ]
  repeat' (first | go_values | go_skip | go_guarded | go_step | go_upon | dsimp only)
  go_ret
  exact ⟨rfl, hB.out⟩
set_option maxRecDepth 100000 in
set_option maxHeartbeats 4000000 in
theorem twice_0 (w : World) : Calls Tryz.prog 57 #[.agg (viewV g g1a g1c gsb gso gsc).toArray] w fun e w' => e = .returned (.bool false) ∧ Below w.heap.size w w' := by
  have hB := hid (box_below (w := w) (.cells (viewV g g1a g1c gsb gso gsc).toArray 40))
  unfold viewV at hB ⊢
  go_enter Tryz.func57, Tryz.ntmps57
  repeat' (first | go_values | go_skip | go_guarded | go_step | go_upon | dsimp only)
  refine wp_loop_rounds 2 ?_
  rw [rounds_succ]
  repeat' (first | go_values | go_skip | go_guarded | go_step | go_upon | dsimp only)
  refine wp_loop_rounds 1 ?_
  rw [rounds_succ]
  repeat' (first | go_values | go_skip | go_guarded | go_step | go_upon | dsimp only)
  rw [rounds_succ]
  repeat' (first | go_values | go_skip | go_guarded | go_step | go_upon | dsimp only)
  go_ret
  exact ⟨rfl, hB.out⟩
set_option maxRecDepth 100000 in
set_option maxHeartbeats 4000000 in
theorem placed_0 (np : Nat) (hp : 1 ≤ np) (hV : ViewAt g g1a gsb gso sb so sc w) : Calls Tryz.prog 58 #[.agg (viewV g g1a g1c gsb gso gsc).toArray, num np] w fun e w' => e = .returned (.bool true) ∧ Below w.heap.size w w' := by
  have hB := hid (box_below (w := w) (.cells (viewV g g1a g1c gsb gso gsc).toArray 40))
  have hv := viewAt_box hV (.cells (viewV g g1a g1c gsb gso gsc).toArray 40)
  have g0 := hv.g0
  have g1 := hv.g1
  have i1 : ¬ (np : Int) ≤ 0 := by omega
  clear hv hV hp
  unfold viewV at hB g0 g1 ⊢
  go_enter Tryz.func58, Tryz.ntmps58
  repeat' (first | go_values | go_skip | go_guarded | go_step | go_upon | dsimp only)
  refine wp_loop_rounds 2 ?_
  rw [rounds_succ]
  repeat' (first | go_values | go_skip | go_guarded | go_step | go_upon | dsimp only)
  rw [rounds_succ]
  repeat' (first | go_values | go_skip | go_guarded | go_step | go_upon | dsimp only)
  go_ret
  exact ⟨rfl, hB.out⟩
set_option maxRecDepth 100000 in
set_option maxHeartbeats 4000000 in
theorem numbers_0 (hV : ViewAt g g1a gsb gso sb so sc w) : Calls Tryz.prog 60 #[.agg (viewV g g1a g1c gsb gso gsc).toArray] w fun e w' => e = .returned (.bool true) ∧ Below w.heap.size w w' := by
  have hB := hid (box_below (w := w) (.cells (viewV g g1a g1c gsb gso gsc).toArray 40))
  have hv := viewAt_box hV (.cells (viewV g g1a g1c gsb gso gsc).toArray 40)
  have g2 := hv.g2
  clear hv hV
  unfold viewV at hB g2 ⊢
  go_enter Tryz.func60, Tryz.ntmps60
  repeat' (first | go_values | go_skip | go_guarded | go_step | go_upon | dsimp only)
  refine wp_loop_rounds 2 ?_
  rw [rounds_succ]
  repeat' (first | go_values | go_skip | go_guarded | go_step | go_upon | dsimp only)
  rw [rounds_succ]
  repeat' (first | go_values | go_skip | go_guarded | go_step | go_upon | dsimp only)
  go_ret
  exact ⟨rfl, hB.out⟩
def S9 (n0 g : Nat) (g1a : Option Addr) (g1c gsb gso gsc : Nat) (w' : World) : Prop :=
  w'.cell? ⟨n0, 0, none⟩ = some (num 0) ∧ w'.cell? ⟨n0, 1, none⟩ = some (num 0) ∧ w'.cell? ⟨n0, 2, none⟩ = some (num 0) ∧ w'.cell? ⟨n0, 3, none⟩ = some (.slice g1a g g1c) ∧ w'.cell? ⟨n0, 4, none⟩ = some (.slice (some ⟨gsb, gso, none⟩) 1 gsc) ∧
    w'.cell? ⟨n0, 5, none⟩ = some (.slice none 0 0) ∧ w'.cell? ⟨n0, 6, none⟩ = some (num 0) ∧ w'.cell? ⟨n0, 7, none⟩ = some (num 0) ∧ w'.cell? ⟨n0, 8, none⟩ = some (num 0)
theorem S9.of {n0 : Nat} {R : List HP} {w : World} (h : Sw w (ptc n0 (viewV g g1a g1c gsb gso gsc) 40 :: R)) : S9 n0 g g1a g1c gsb gso gsc w :=
  ⟨h.cell 0 rfl, h.cell 1 rfl, h.cell 2 rfl, h.cell 3 rfl, h.cell 4 rfl, h.cell 5 rfl, h.cell 6 rfl, h.cell 7 rfl, h.cell 8 rfl⟩
set_option maxRecDepth 100000 in
set_option maxHeartbeats 8000000 in
theorem all_0 (np : Nat) (hp : 1 ≤ np) (hg : g ≤ 32) (hV : ViewAt g g1a gsb gso sb so sc w) : Calls Tryz.prog 17 #[.agg (viewV g g1a g1c gsb gso gsc).toArray, num np] w fun e w' => e = .returned (.slice none 0 0) ∧ Below w.heap.size w w' := by
  have HV := hid (show ViewAt g g1a gsb gso sb so sc (w.alloc (.cells (viewV g g1a g1c gsb gso gsc).toArray 40)).drew from (by have h := viewAt_box hV (.cells (viewV g g1a g1c gsb gso gsc).toArray 40); exact ⟨h.gl, h.g0, h.g1, h.g2, h.st⟩))
  have h0 := Sw.drew ((Sw.old w).allocc (viewV g g1a g1c gsb gso gsc) 40)
  have x0 := h0.cell 0 rfl
  have x6 := h0.cell 6 rfl
  have x7 := h0.cell 7 rfl
  have x8 := h0.cell 8 rfl
  have C0 := hid (S9.of h0)
  have H0 := hid h0
  have L1 := hid (lost_0 (g1c := g1c) (gsc := gsc) hg HV.out)
  have Hp := hid hp
  clear hV h0 hg hp
  unfold viewV at H0 L1 HV ⊢
  go_enter Tryz.func17, Tryz.ntmps17
  repeat' (first | (go_big_may; (first | ((with_reducible refine wp_region_segS (S9 w.heap.size g g1a g1c gsb gso gsc) mixed (by decide +kernel) ?_ ?_); (focus (exact C0.out))) | ((with_reducible apply segS_lookN); (focus (rfl)); (focus (first | (go_simp; done) | (go_simp; exact rfl) | exact rfl)); (focus (rfl)); (focus (intro wq hq; obtain ⟨q0, q1, q2, q3, q4, q5, q6, q7, q8⟩ := hq; go_simp; first | exact rfl | exact ⟨rfl, rfl⟩))) | ((with_reducible apply segS_callN); (focus (rfl)); (focus (first | (go_simp; done) | (go_simp; exact rfl) | exact rfl)); (focus (rfl)); (focus (go_simp; first | exact rfl | exact ⟨rfl, rfl⟩))) | (with_reducible refine segS_nil ?_) | (go_at_call 55; refine L1.out.mono ?_; rintro e w2 ⟨rfl, hb⟩; have h2 := H0.out.of_below hb; have C2 := hid (S9.of (g := g) (g1a := g1a) (g1c := g1c) (gsb := gsb) (gso := gso) (gsc := gsc) h2); have HV2 := hid (HV.out.below hb); have H2 := hid h2; clear h2 hb; refine ⟨_, rfl, .inl C2.out, ?_⟩) | (go_at_call 56; refine (apart_0 (g := g) (g1a := g1a) (g1c := g1c) (gsb := gsb) (gso := gso) (gsc := gsc) _).mono ?_; rintro e w3 ⟨rfl, hb⟩; have h2 := H2.out.of_below hb; have C3 := hid (S9.of (g := g) (g1a := g1a) (g1c := g1c) (gsb := gsb) (gso := gso) (gsc := gsc) h2); have HV3 := hid (HV2.out.below hb); have H3 := hid h2; clear h2 hb; refine ⟨_, rfl, .inl C3.out, ?_⟩) | (go_at_call 57; refine (twice_0 (g := g) (g1a := g1a) (g1c := g1c) (gsb := gsb) (gso := gso) (gsc := gsc) _).mono ?_; rintro e w4 ⟨rfl, hb⟩; have h2 := H3.out.of_below hb; have C4 := hid (S9.of (g := g) (g1a := g1a) (g1c := g1c) (gsb := gsb) (gso := gso) (gsc := gsc) h2); have HV4 := hid (HV3.out.below hb); have H4 := hid h2; clear h2 hb; refine ⟨_, rfl, .inl C4.out, ?_⟩) | (go_at_call 58; refine (placed_0 (g := g) (g1a := g1a) (g1c := g1c) (gsb := gsb) (gso := gso) (gsc := gsc) np Hp.out HV4.out).mono ?_; rintro e w5 ⟨rfl, hb⟩; have h2 := H4.out.of_below hb; have C5 := hid (S9.of (g := g) (g1a := g1a) (g1c := g1c) (gsb := gsb) (gso := gso) (gsc := gsc) h2); have HV5 := hid (HV4.out.below hb); have H5 := hid h2; clear h2 hb; refine ⟨_, rfl, .inl C5.out, ?_⟩) | (go_at_call 60; refine (numbers_0 (g := g) (g1a := g1a) (g1c := g1c) (gsb := gsb) (gso := gso) (gsc := gsc) HV5.out).mono ?_; rintro e w6 ⟨rfl, hb⟩; have h2 := H5.out.of_below hb; have C6 := hid (S9.of (g := g) (g1a := g1a) (g1c := g1c) (gsb := gsb) (gso := gso) (gsc := gsc) h2); have HV6 := hid (HV5.out.below hb); have H6 := hid h2; clear h2 hb; refine ⟨_, rfl, .inl C6.out, ?_⟩) | (go_at_call 61; refine (clean_0 (g := g) (g1a := g1a) (g1c := g1c) (gsb := gsb) (gso := gso) (gsc := gsc) _).mono ?_; rintro e w7 ⟨rfl, hb⟩; have h2 := H6.out.of_below hb; have C7 := hid (S9.of (g := g) (g1a := g1a) (g1c := g1c) (gsb := gsb) (gso := gso) (gsc := gsc) h2); have HV7 := hid (HV6.out.below hb); have H7 := hid h2; have k8 := h2.allocc [.bool false, .bool false, .bool false, .bool false, .bool false, .bool false, .bool false, .bool false] 4; have C8 := hid (S9.of (g := g) (g1a := g1a) (g1c := g1c) (gsb := gsb) (gso := gso) (gsc := gsc) (k8 |>.front 1 rfl)); have H8 := hid k8; clear k8; clear h2 hb; refine ⟨_, rfl, .inl C7.out, ?_⟩) | ((with_reducible apply segS_skipN); (focus (first | (go_simp; done) | (go_simp; exact rfl) | exact rfl)); (focus (rfl)); (focus (exact C5.out))) | (((with_reducible apply segS_actN); (focus (rfl)); (focus (first | (go_simp; done) | (go_simp; exact rfl) | exact rfl)); (focus (rfl)); (focus (go_simp; first | exact rfl | exact ⟨rfl, rfl⟩))); (focus (exact .inl C8.out))))) | go_values | go_skip | go_guarded | go_step | go_upon | dsimp only)
  refine wp_loop_rounds 9 ?_
  iterate 9 (rw [rounds_succ]; repeat' (first | go_values | go_skip | go_guarded | go_step | go_upon | dsimp only))
  go_ret
  exact ⟨rfl, (H8.out |>.front 2 rfl).below⟩
end
end Go.Proofs.YtfddmbafjniflaaGreatDoor
/-
  The document's May, Ints, and its model's New.
-/
namespace Go.Proofs.YtfddmbafjniflaaGreatDoor
open Go Go.RowKit
set_option maxRecDepth 100000 in
set_option maxHeartbeats 1000000 in
theorem ref_may (w : World) (ps words : Int) (x y : Value) : Calls Tryz.prog 7 #[.agg #[.int .i64 ps, .int .i64 words, x, y]] w fun e w' => e = .returned (.bool (mayC ps words)) ∧ Below w.heap.size w w' := by
  have h0 := (Sw.old w).allocc [.int .i64 ps, .int .i64 words, x, y] 24
  have c0 := h0.cell 0 rfl
  have c1 := h0.cell 1 rfl
  have H0 := hid h0
  clear h0
  unfold mayC
  by_cases h1 : 1 ≤ ps
  · by_cases h2 : ps ≤ 64
    · by_cases h3 : 256 ≤ words
      · by_cases h4 : words ≤ 16777216
        · have h5 : words.tmod 64 = words % 64 := Int.tmod_eq_emod_of_nonneg (by omega)
          go_enter Tryz.func7, Tryz.ntmps7
          repeat' (first | go_values | go_skip | go_guarded | go_step | go_upon | dsimp only)
          go_ret
          exact ⟨by simp [h1, h2, h3, h4]; try rfl, H0.out.tail.below⟩
        · go_enter Tryz.func7, Tryz.ntmps7
          repeat' (first | go_values | go_skip | go_guarded | go_step | go_upon | dsimp only)
          go_ret
          exact ⟨by simp [h1, h2, h3, h4], H0.out.tail.below⟩
      · go_enter Tryz.func7, Tryz.ntmps7
        repeat' (first | go_values | go_skip | go_guarded | go_step | go_upon | dsimp only)
        go_ret
        exact ⟨by simp [h1, h2, h3], H0.out.tail.below⟩
    · go_enter Tryz.func7, Tryz.ntmps7
      repeat' (first | go_values | go_skip | go_guarded | go_step | go_upon | dsimp only)
      go_ret
      exact ⟨by simp [h1, h2], H0.out.tail.below⟩
  · go_enter Tryz.func7, Tryz.ntmps7
    repeat' (first | go_values | go_skip | go_guarded | go_step | go_upon | dsimp only)
    go_ret
    exact ⟨by simp [h1], H0.out.tail.below⟩
/-- A slice of n zeros. -/
def ZeroAt (v : Value) (n : Nat) (w : World) : Prop := ∃ a c, v = .slice a n c ∧ ∀ i, i < n → ∃ b o, a = some ⟨b, o, none⟩ ∧ w.cell? ⟨b, o + i, none⟩ = some (.int .i64 0)
theorem ZeroAt.of {w : World} {R : List HP} {v : Value} {n : Nat} (h : Sw w (sl 3 1 v n (zs n) :: R)) : ZeroAt v n w := by
  rcases h.sl_open with ⟨rfl, _, ⟨a, rfl⟩, _⟩ | ⟨b, o, cap, c, rfl, _, _, _, h4, h5⟩
  · exact ⟨a, 0, rfl, fun i hi => absurd hi (by omega)⟩
  · refine ⟨_, cap, rfl, fun i hi => ⟨b, o, rfl, h5.cell (o + i) ?_⟩⟩
    have h6 := take_drop_get (c := c) (o := o) (m := n * 1) (i := i) (by omega)
    rw [h4] at h6
    rw [← h6]
    simp [zs, hi]
theorem ZeroAt.below {v : Value} {n : Nat} {w w' : World} (h : ZeroAt v n w) (hb : Below w.heap.size w w') : ZeroAt v n w' := by
  obtain ⟨a, c, rfl, h⟩ := h
  exact ⟨a, c, rfl, fun i hi => by obtain ⟨b, o, h1, h2⟩ := h i hi; exact ⟨b, o, h1, (hb.cell (World.block_lt_of_cell? w _ h2)).trans h2⟩⟩
set_option maxRecDepth 100000 in
set_option maxHeartbeats 2000000 in
theorem ints_0 (w : World) (n : Nat) (x y : Value) (hn : n ≤ 64) (hx : ZeroAt x n w) (hy : ZeroAt y n w) : Calls Tryz.prog 16 #[x, y] w fun e w' => e = .returned (.bool true) ∧ ∃ k, w' = w.drewN k := by
  obtain ⟨a, ca, rfl, hx⟩ := hx
  obtain ⟨b, cb, rfl, hy⟩ := hy
  have Hx := hid hx
  have Hy := hid hy
  have i0 : (n : Int) ≤ 64 := by omega
  clear hx hy hn
  go_enter Tryz.func16, Tryz.ntmps16
  repeat' (first | go_values | go_skip | go_guarded | go_step | go_upon | dsimp only)
  go_loopw [5] (fun v5 wr => ∃ i k : Nat, i ≤ n ∧ v5 = num i ∧ wr = w.drewN k) (fun v5 wr => below_ n v5)
  case atStart => exact ⟨0, 0, by omega, rfl, rfl⟩
  obtain ⟨i, k, hi, rfl, rfl⟩ := hrel
  rcases Nat.lt_or_ge i n with hlt | hge
  · have i1 : (i : Int) < n := by omega
    obtain ⟨b1, o1, rfl, c1⟩ := Hx.out i hlt
    obtain ⟨b2, o2, rfl, c2⟩ := Hy.out i hlt
    have Hlt := hid hlt
    have d1 : (w.drewN k).cell? ⟨b1, o1 + i, none⟩ = some (.int .i64 0) := c1
    have d2 : (w.drewN k).cell? ⟨b2, o2 + i, none⟩ = some (.int .i64 0) := c2
    clear hi hlt
    repeat' (first | (go_big_may; (first | (with_reducible refine wp_region_seg mixed (by decide +kernel) ?_) | (refine seg_look (by rfl) (fun K hK => ?_); go_simp; refine hK _ ?_; clear hK K) | (refine seg_act (by rfl) (fun K hK => ?_); go_simp) | (refine seg_nil ?_))) | go_values | go_skip | go_guarded | go_step | go_upon | dsimp only)
    go_roundw
    case rel => exact ⟨i + 1, _, Hlt.out, rfl, rfl⟩
    case measure => have := Hlt.out; simp [below_]; omega
  · obtain rfl : i = n := by omega
    have i1 : ¬ (i : Int) < i := by omega
    clear hi hge
    repeat' (first | go_values | go_skip | go_guarded | go_step | go_upon | dsimp only)
    go_ret
    exact ⟨rfl, k, rfl⟩
theorem info_rg : (Tryz.prog.info? 63).map (fun i => (i.zero, i.size, i.bytes)) = some (some (.pointer none), 1, 8) := by kernel_rfl
set_option maxRecDepth 100000 in
set_option maxHeartbeats 2000000 in
theorem ref_spawn (w : World) (R : List HP) (m : Nat) (c : List Value) (h2 : c[2]? = some (.slice none 0 0)) (hS : Sw w (ptc m c 58 :: R)) :
    Calls Tryz.prog 49 #[ptr m, .int .i64 0, .int .i64 0] w fun e w' => ∃ gs gg sb, e = .returned (.int .i64 0) ∧
      Sw w' (ptc m (c.set 2 gs) 58 :: sl 63 1 gs 1 [ptr gg] :: ptc gg [.int .i64 1, .int .i64 0, .int .i64 0, .int .i64 0, .slice (some ⟨sb, 0, none⟩) 16 16] 62 :: ptc sb (zs 16) 3 :: R) := by
  have hmk := make16
  have hs1 := (hS.allocc (zero16.set 0 (.int .i64 0)) 3).allocc [.int .i64 1, .int .i64 0, .int .i64 0, .int .i64 0, .slice (some ⟨w.heap.size, 0, none⟩) 16 16] 62
  simp only [World.size_alloc] at hs1
  have c2 := (hs1 |>.front 2 rfl).cell 2 h2
  have q4 := hs1.cell 4 rfl
  have hs9 := (hS.allocc zero16 3).allocc [.int .i64 1, .int .i64 0, .int .i64 0, .int .i64 0, .slice (some ⟨w.heap.size, 0, none⟩) 16 16] 62
  have p0 := (hs9 |>.front 1 rfl).cell 0 rfl
  have f0 := (hs9 |>.front 1 rfl).frozen 0
  have q9 := hs9.cell 4 rfl
  simp only [World.size_alloc] at q9
  clear hs9
  have H2 := hid hs1
  have Hc := hid h2
  have lm := hS.lt'
  clear hs1 hS h2
  go_enter Tryz.func49, Tryz.ntmps49
  repeat' (first | (go_big_may; (first | (at_builtin; refine append_any 63 49 (.pointer none) 8 (by decide) Tryz.underlying49 info_rg rfl rfl (.tmp 22) (.tmp 24) rfl (.slice none 0 0) 0 [] _ rfl ((H2.out.after_alloc _).sl_nil none) _ 1 [ptr (w.heap.size + 1)] rfl (Src.fresh1n _ _ rfl (by simp)) (by omega) ?_; intro v8 w8 h8; obtain ⟨ga, gc, rfl⟩ := h8.sl_val; have h8 := h8 |>.front 3 rfl; simp only [List.eraseIdx_cons_zero, List.eraseIdx_cons_succ] at h8; have s4 := h8.cell 2 Hc.out; have t4 := h8.frozen 2; have H8 := hid (h8.set 2 (.slice ga 1 gc)); clear h8))) | go_values | go_skip | go_guarded | go_step | go_upon | dsimp only)
  go_ret
  exact ⟨.slice ga 1 gc, w.heap.size + 1, w.heap.size, rfl, H8.out |>.front 3 rfl |>.front 3 rfl |>.front 3 rfl |>.front 3 rfl⟩
set_option maxRecDepth 100000 in
set_option maxHeartbeats 2000000 in
theorem ref_new (w : World) (R : List HP) (g fn fc : Nat) (fa : Option Addr) (hg : g ≤ 32) (hS : Sw w R) : Calls Tryz.prog 9 #[.agg #[num g, .slice fa fn fc]] w fun e w' => ∃ mb gs gg sb gb c, e = .returned (ptr mb) ∧ c[2]? = some gs ∧ c[3]? = some (.slice (some ⟨gb, 0, none⟩) g g) ∧
      Sw w' (ptc mb c 58 :: sl 63 1 gs 1 [ptr gg] :: ptc gg [.int .i64 1, .int .i64 0, .int .i64 0, .int .i64 0, .slice (some ⟨sb, 0, none⟩) 16 16] 62 :: ptc sb (zs 16) 3 :: sl 3 1 (.slice (some ⟨gb, 0, none⟩) g g) g (zs g) :: R) := by
  have h0 := hS.allocc [num g, .slice fa fn fc] 32
  have hmk := fun w => run_make_row' (P := Tryz.prog) 36 3 (.int .i64 0) 8 Tryz.underlying36 (by kernel_rfl) rfl .i64 .i64 g (by omega) (by omega) w
  simp only [made_one] at hmk
  have SV := hid (show ∀ (w' : World) (R' : List HP), Sw w' (ptc w.heap.size [num g, .slice fa fn fc] 32 :: R') → w'.cell? ⟨w.heap.size, 0, none⟩ = some (num g) ∧ w'.cell? ⟨w.heap.size, 1, none⟩ = some (.slice fa fn fc) from fun w' R' h => ⟨h.cell 0 rfl, h.cell 1 rfl⟩)
  have Hg := hid hg
  have C0 := hid (SV.out _ _ (Sw.drew h0))
  have h1 := Sw.drew (h0.allocc (List.replicate g (.int .i64 0)) 3)
  simp only [List.toArray_replicate] at h1
  have C1 := hid (SV.out _ _ (h1 |>.front 1 rfl))
  have H1 := hid h1
  have h3 := Sw.drew ((h0.allocc (List.replicate g (.int .i64 0)) 3).allocc ([num g, .slice fa fn fc, .slice none 0 0, .slice (some ⟨w.heap.size + 1, 0, none⟩) g g] ++ List.replicate 34 (.slice none 0 0) ++ [.int .i64 0]) 58)
  simp only [World.size_alloc, List.toArray_replicate] at h3
  have C2 := hid (SV.out _ _ (h3 |>.front 2 rfl))
  have Hs := hid (ref_spawn _ _ (w.heap.size + 1 + 1) _ rfl h3)
  clear h0 h1 hS hg
  go_enter Tryz.func9, Tryz.ntmps9
  repeat' (first | (go_big_may; (first | ((with_reducible refine wp_region_segS (fun w' => w'.cell? ⟨w.heap.size, 0, none⟩ = some (num g) ∧ w'.cell? ⟨w.heap.size, 1, none⟩ = some (.slice fa fn fc)) mixed (by decide +kernel) ?_ ?_); (focus (exact C0.out))) | ((with_reducible apply segS_lookN); (focus (rfl)); (focus (first | (go_simp; done) | (go_simp; exact rfl) | exact rfl)); (focus (rfl)); (focus (intro wq hq; obtain ⟨q0, q1⟩ := hq; go_simp; first | exact rfl | exact ⟨rfl, rfl⟩))) | ((with_reducible apply segS_callN); (focus (rfl)); (focus (first | (go_simp; done) | (go_simp; exact rfl) | exact rfl)); (focus (rfl)); (focus (go_simp; first | exact rfl | exact ⟨rfl, rfl⟩))) | (with_reducible refine segS_nil ?_) | (((with_reducible apply segS_actN); (focus (rfl)); (focus (first | (go_simp; done) | (go_simp; exact rfl) | exact rfl)); (focus (rfl)); (focus (go_simp; first | exact rfl | exact ⟨rfl, rfl⟩))); (focus (first | exact .inl C1.out | exact .inl C2.out))) | (go_at_call 49; refine Hs.out.mono ?_; rintro e w5 ⟨gs, gg, sb, rfl, h5⟩; have H5 := hid h5; clear h5))) | go_values | go_skip | go_guarded | go_step | go_upon | dsimp only)
  go_ret
  have h6 := H5.out |>.front 4 rfl
  simp only [List.eraseIdx_cons_zero, List.eraseIdx_cons_succ] at h6
  have h6 := Sw.sl_close (E := 3) (sz := 1) (n := g) (cap := g) (o := 0) (Nat.le_refl _) (by have := Hg.out; simp only [maxLen]; omega) (by simp) (c := List.replicate g (.int .i64 0)) h6
  simp only [List.drop_zero, Nat.mul_one, List.take_replicate, Nat.min_self] at h6
  have h7 := (h6 |>.front 5 rfl).tail
  simp only [List.eraseIdx_cons_zero, List.eraseIdx_cons_succ] at h7
  exact ⟨w.heap.size + 1 + 1, gs, gg, sb, w.heap.size + 1, _, rfl, rfl, rfl, h7 |>.front 4 rfl |>.front 4 rfl |>.front 4 rfl |>.front 4 rfl⟩
end Go.Proofs.YtfddmbafjniflaaGreatDoor
