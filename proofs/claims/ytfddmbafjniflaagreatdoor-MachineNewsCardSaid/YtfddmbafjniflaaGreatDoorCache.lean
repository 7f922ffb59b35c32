/-
  Packages page, arena, central, cache: what is new.
-/
import Derived.Test.YtfddmbafjniflaaGreatDoorSmall
import Derived.Test.YtfddmbafjniflaaGreatDoorSched
import Derived.Test.YtfddmbafjniflaaGreatDoorClass
import Derived.WideMake
namespace Go.Proofs.YtfddmbafjniflaaGreatDoor
open Go Go.RowKit
set_option maxRecDepth 100000 in
set_option maxHeartbeats 400000 in
theorem page_new (w : World) (R : List HP) (n : Nat) (h2 : 2 ≤ n) (h3 : n ≤ 262144) (hS : Sw w R) :
    Calls Tryz.prog 138 #[.int .i64 n] w fun e w' => ∃ b v, e = .returned (ptr b) ∧ Sw w' (ptc b [num n, v] 325 :: sl 327 2 v 1 [num 1, num (n - 1)] :: R) := by
  have i1 : (2 : Int) ≤ n := by omega
  have i2 : (n : Int) ≤ 262144 := by omega
  have HS := hid hS
  clear hS h2 h3
  have e1 : (n : Int) - 1 = ((n - 1 : Nat) : Int) := by omega
  go_enter Tryz.func138, Tryz.ntmps138
  go_wp2
  go_ret
  refine ⟨_, .slice (some ⟨w.heap.size + 1, 0, none⟩) 1 1, rfl, ?_⟩
  have h1 := HS.out.allocc [num n, .slice (some ⟨w.heap.size + 1, 0, none⟩) 1 1] 325
  have h2 := Sw.sl_close (E := 327) (sz := 2) (n := 1) (cap := 1) (o := 0) (Nat.le_refl _) (by simp only [maxLen]; omega) (by simp) (h1.allocc [num 1, num (n - 1)] 327)
  simp only [World.size_alloc] at h2
  exact h2.front 1 rfl
set_option maxRecDepth 100000 in
set_option maxHeartbeats 400000 in
theorem arena_new (w : World) (R : List HP) (n : Nat) (h2 : 4 ≤ n) (h3 : n ≤ 262144) (hS : Sw w R) :
    Calls Tryz.prog 80 #[.int .i64 (n * 64 : Nat)] w fun e w' => ∃ b p v m, e = .returned (.tuple #[ptr b, .int .i64 0]) ∧
      Sw w' (ptc b [ptr p, .map (some m), .map (some (m + 1)), .map (some (m + 1 + 1)), num 0] 196 :: pt (m + 1 + 1) (.map #[] 0) :: pt (m + 1) (.map #[] 0) :: pt m (.map #[] 0) :: ptc p [num n, v] 325 :: sl 327 2 v 1 [num 1, num (n - 1)] :: R) := by
  have hp := page_new w R n (by omega) h3 hS
  have e1 : ((n * 64 : Nat) : Int).tmod 64 = 0 := by have : ((n * 64 : Nat) : Int).tmod 64 = ((n * 64 % 64 : Nat) : Int) := rfl; rw [this]; omega
  have e2 : ((n * 64 : Nat) : Int).tdiv 64 = (n : Int) := by have : ((n * 64 : Nat) : Int).tdiv 64 = ((n * 64 / 64 : Nat) : Int) := rfl; rw [this]; omega
  have i1 : ¬ ((n * 64 : Nat) : Int) < 256 := by omega
  have i2 : ¬ 16777216 < ((n * 64 : Nat) : Int) := by omega
  have i3 : ((n * 64 : Nat) : Int) ≤ 16777216 := by omega
  have Hp := hid hp
  clear hS hp
  generalize ((n * 64 : Nat) : Int) = m at *
  have hmm := fun t w => run_makeMap_plain (P := Tryz.prog) (w := w) t
  go_enter Tryz.func80, Tryz.ntmps80
  go_wp2_with (first | (go_at_call 138; refine Hp.out.mono ?_; rintro e w1 ⟨b, v, rfl, h1⟩; have H1 := hid h1; clear h1) | (with_reducible refine wp_region_segP mixed (by decide +kernel) ?_) | (apply segP_pure (by rfl) (by rfl); focus (intro w1; go_simp; first | exact rfl | exact ⟨rfl, rfl⟩)) | (apply segP_look (by rfl) (by rfl) (by rfl); focus (go_simp; first | exact rfl | exact ⟨rfl, rfl⟩)) | (apply segP_act (by rfl) (by rfl) (by rfl); focus (go_simp; first | exact rfl | exact ⟨rfl, rfl⟩)) | (apply segP_unit (by rfl) (by rfl) (by rfl); focus (go_simp; first | exact rfl | exact ⟨rfl, rfl⟩)) | (refine segP_nil ?_))
  go_ret2
  have h := (((H1.out.alloc (.map #[] 0)).alloc (.map #[] 0)).alloc (.map #[] 0)).allocc [ptr b, .map (some w1.heap.size), .map (some (w1.heap.size + 1)), .map (some (w1.heap.size + 1 + 1)), num 0] 196
  simp only [World.size_alloc] at h
  exact ⟨_, b, v, w1.heap.size, rfl, h⟩
def centralZ : Array Value := Array.replicate 64 (.slice none 0 0)
set_option maxRecDepth 100000 in
set_option maxHeartbeats 400000 in
theorem central_new (w : World) (R : List HP) (hS : Sw w R) :
    Calls Tryz.prog 81 #[] w fun e w' => ∃ b c, e = .returned (ptr b) ∧ Sw w' (ptc b [.slice (some ⟨c, 0, none⟩) 16 16] 240 :: ptc c centralZ.toList 345 :: R) := by
  have hc := count_any w
  have Hc := hid hc
  have HS := hid hS
  clear hS hc
  have hmk : ∀ w, (Instr.makeSlice 238 (.int .i64 16) (.int .i64 16)).run Tryz.prog w = .ok (.slice (some ⟨w.heap.size, 0, none⟩) 16 16) (w.alloc (.cells centralZ 345)) := fun w => by kernel_rfl
  go_enter Tryz.func81, Tryz.ntmps81
  go_wp2_with (first | (go_at_call 82; refine Hc.out.mono ?_; rintro e w1 ⟨rfl, hb⟩; have H1 := hid (HS.out.of_below hb); clear hb) | (with_reducible refine wp_region_segP mixed (by decide +kernel) ?_) | (apply segP_pure (by rfl) (by rfl); focus (intro w1; go_simp; first | exact rfl | exact ⟨rfl, rfl⟩)) | (apply segP_look (by rfl) (by rfl) (by rfl); focus (go_simp; first | exact rfl | exact ⟨rfl, rfl⟩)) | (apply segP_act (by rfl) (by rfl) (by rfl); focus (go_simp; first | exact rfl | exact ⟨rfl, rfl⟩)) | (apply segP_unit (by rfl) (by rfl) (by rfl); focus (go_simp; first | exact rfl | exact ⟨rfl, rfl⟩)) | (refine segP_nil ?_))
  go_ret
  have h := (H1.out.allocc centralZ.toList 345).allocc [.slice (some ⟨w1.heap.size, 0, none⟩) 16 16] 240
  simp only [World.size_alloc] at h
  exact ⟨_, _, rfl, h⟩
def zero16 : List Value := List.replicate 16 (.int .i64 0)
theorem make16 : ∀ w, (Instr.makeSlice 36 (.int .i64 16) (.int .i64 16)).run Tryz.prog w = .ok (.slice (some ⟨w.heap.size, 0, none⟩) 16 16) (w.alloc (.cells zero16.toArray 3)) := by
  intro w
  have h := run_make_row' (P := Tryz.prog) 36 3 (.int .i64 0) 8 Tryz.underlying36 (by kernel_rfl) rfl .i64 .i64 16 (by omega) (by omega) w
  rw [made_one] at h
  exact h
def none16 : List Value := List.replicate 16 (.int .i64 (-1))
def owns (vs : List Value) : HP := star (vs.map fun v => sl 3 1 v 16 none16)
theorem owns_more {w : World} {R : List HP} {vs : List Value} {v : Value} (h : Sw w (sl 3 1 v 16 none16 :: owns vs :: R)) : Sw w (owns (vs ++ [v]) :: R) := by
  unfold owns
  rw [List.map_append]
  have h2 : Sw w (sl 3 1 v 16 none16 :: (List.map (fun v => sl 3 1 v 16 none16) vs ++ R)) := h.cons fun _ h => h.open_star
  refine Sw.close_star (h2.perm ?_)
  simp only [List.map_cons, List.map_nil, List.append_assoc, List.singleton_append]
  exact List.perm_middle.symm
set_option maxRecDepth 100000 in
set_option maxHeartbeats 1000000 in
theorem cache_new (w : World) (R : List HP) (n ps : Nat) (h2 : 4 ≤ n) (h3 : n ≤ 262144) (h4 : 1 ≤ ps) (h5 : ps ≤ 64) (hS : Sw w R) :
    Calls Tryz.prog 26 #[.int .i64 (n * 64 : Nat), .int .i64 ps] w fun e w' => ∃ h a c v vs p pv m cc, vs.length = ps ∧ e = .returned (.tuple #[ptr h, .int .i64 0]) ∧
      Sw w' (ptc h [ptr a, ptr c, v] 158 :: sl 36 1 v ps vs :: owns vs ::
        ptc c [.slice (some ⟨cc, 0, none⟩) 16 16] 240 :: ptc cc centralZ.toList 345 ::
        ptc a [ptr p, .map (some m), .map (some (m + 1)), .map (some (m + 1 + 1)), num 0] 196 :: pt (m + 1 + 1) (.map #[] 0) :: pt (m + 1) (.map #[] 0) :: pt m (.map #[] 0) :: ptc p [num n, pv] 325 :: sl 327 2 pv 1 [num 1, num (n - 1)] :: R) := by
  have ha := arena_new w R n h2 h3 hS
  have Ha := hid ha
  have i1 : ¬ (ps : Int) < 1 := by omega
  have i2 : ¬ 64 < (ps : Int) := by omega
  have i3 : (ps : Int) ≤ 64 := by omega
  have hc := central_new
  have Hc := hid hc
  clear hS ha hc h2 h3 h4
  generalize ((n * 64 : Nat) : Int) = words at *
  go_enter Tryz.func26, Tryz.ntmps26
  go_wp2_with (first | (go_at_call 80; refine Ha.out.mono ?_; rintro e w1 ⟨a, p, pv, m, rfl, h1⟩; have H1 := hid h1; clear h1) | (go_at_call 81; refine (Hc.out _ _ H1.out).mono ?_; rintro e w2 ⟨c, cc, rfl, h2⟩; have H2 := hid h2; clear h2) | (with_reducible refine wp_region_segP mixed (by decide +kernel) ?_) | (apply segP_pure (by rfl) (by rfl); focus (intro w1; go_simp; first | exact rfl | exact ⟨rfl, rfl⟩)) | (apply segP_look (by rfl) (by rfl) (by rfl); focus (go_simp; first | exact rfl | exact ⟨rfl, rfl⟩)) | (apply segP_act (by rfl) (by rfl) (by rfl); focus (go_simp; first | exact rfl | exact ⟨rfl, rfl⟩)) | (apply segP_unit (by rfl) (by rfl) (by rfl); focus (go_simp; first | exact rfl | exact ⟨rfl, rfl⟩)) | (refine segP_nil ?_))
  have hb := H2.out.allocc [ptr a, ptr c, .slice none 0 0] 158
  have Hb := hid hb
  clear hb Ha Hc H1 H2
  revert Hb
  generalize w2.heap.size = h
  generalize World.alloc _ _ = w3
  intro Hb
  generalize hrest : (ptc c _ _ :: _ : List HP) = Rest at Hb
  go_loopw [31] (fun v31 wr => ∃ i vs v, i ≤ ps ∧ v31 = num i ∧ vs.length = i ∧ Sw wr (ptc h [ptr a, ptr c, v] 158 :: sl 36 1 v i vs :: owns vs :: Rest)) (fun v31 wr => below_ ps v31)
  case atStart =>
    refine ⟨0, [], .slice none 0 0, Nat.zero_le _, rfl, rfl, ?_⟩
    have h2 : Sw w3 (owns [] :: ptc h [ptr a, ptr c, .slice none 0 0] 158 :: Rest) := Sw.close_star (ps := []) Hb.out
    exact (h2.sl_nil none) |>.front 1 rfl |>.front 1 rfl |>.front 2 rfl
  obtain ⟨i, vs, v, hi, rfl, hvs, hI⟩ := hrel
  rcases Nat.lt_or_ge i ps with hlt | hge
  · have hlt' : (i : Int) < ps := by omega
    have Hlt := hid hlt
    have Hvs := hid hvs
    have HI := hid hI
    have hmk := make16
    clear hI hi hlt hvs
    go_wp2_with (first | (go_at_call 82; refine (count_any _).mono ?_; rintro e w4 ⟨rfl, hb⟩; have H4 := hid (HI.out.of_below hb); clear hb) | (with_reducible refine wp_region_segP mixed (by decide +kernel) ?_) | (apply segP_pure (by rfl) (by rfl); focus (intro w1; go_simp; first | exact rfl | exact ⟨rfl, rfl⟩)) | (apply segP_look (by rfl) (by rfl) (by rfl); focus (go_simp; first | exact rfl | exact ⟨rfl, rfl⟩)) | (apply segP_act (by rfl) (by rfl) (by rfl); focus (go_simp; first | exact rfl | exact ⟨rfl, rfl⟩)) | (apply segP_unit (by rfl) (by rfl) (by rfl); focus (go_simp; first | exact rfl | exact ⟨rfl, rfl⟩)) | (refine segP_nil ?_))
    have h5 := H4.out.allocc zero16 3
    have Hb5 := hid h5
    clear h5 H4 HI hmk
    revert Hb5
    generalize w4.heap.size = n9
    generalize World.alloc _ _ = w5
    intro Hb5
    go_loopw [37] (fun v37 wr => ∃ k xs, k ≤ 16 ∧ v37 = num k ∧ xs.length = 16 ∧ xs.take k = List.replicate k (.int .i64 (-1)) ∧ Sw wr (ptc n9 xs 3 :: ptc h [ptr a, ptr c, v] 158 :: sl 36 1 v i vs :: owns vs :: Rest)) (fun v37 wr => below_ 16 v37)
    case atStart => exact ⟨0, zero16, by omega, rfl, rfl, rfl, Hb5.out⟩
    obtain ⟨k, xs, hk, rfl, hxs, htk, hI⟩ := hrel
    rcases Nat.lt_or_ge k 16 with hlt2 | hge2
    · have hlt2' : (k : Int) < 16 := by omega
      obtain ⟨x, hx⟩ : ∃ x, xs[k]? = some x := ⟨_, List.getElem?_eq_getElem (by omega)⟩
      have c0 := hI.cell k hx
      have f0 := hI.frozen k
      have HI := hid hI
      have hnew : (xs.set k (.int .i64 (-1))).take (k + 1) = List.replicate (k + 1) (.int .i64 (-1)) := by
        rw [List.take_succ_eq_append_getElem (by simp; omega), List.take_set_of_le (Nat.le_refl _), htk, List.replicate_succ']
        simp
      have Hnew := hid hnew
      have Hlt2 := hid hlt2
      have Hxs := hid hxs
      clear hI hk hlt2 hx hnew htk hxs
      go_wp2
      go_roundw
      case rel => exact ⟨k + 1, xs.set k (.int .i64 (-1)), Hlt2.out, rfl, by rw [List.length_set]; exact Hxs.out, Hnew.out, HI.out.set k _⟩
      case measure => have := Hlt2.out; simp [below_]; omega
    · have hk16 : k = 16 := by omega
      subst hk16
      have hx16 : xs = none16 := by rw [List.take_of_length_le (by omega)] at htk; exact htk
      subst hx16
      have h6 := Sw.sl_close (E := 3) (sz := 1) (n := 16) (cap := 16) (o := 0) (Nat.le_refl _) (by simp only [maxLen]; omega) (by rw [hxs]; omega) hI
      have e6 : (none16.drop 0).take (16 * 1) = none16 := rfl
      rw [e6] at h6
      have c0 := (h6.front 1 rfl).cell 2 rfl
      have f0 := (h6.front 1 rfl).frozen 2
      obtain ⟨a7, cap7, rfl⟩ := (h6 |>.front 1 rfl |>.front 1 rfl |>.front 2 rfl).sl_val
      have H6 := hid h6
      have Z1 := hid (show (Tryz.prog.info? 36).map (fun i => (i.zero, i.size, i.bytes)) = some (some (.slice none 0 0), 1, 24) from by kernel_rfl)
      have hle : i + 1 ≤ 16777216 := by have := Hlt.out; omega
      clear h6 hI htk hxs hge2 hk e6
      go_wp2_with (first | (at_builtin; refine append_any 36 50 (.slice none 0 0) 24 (by decide) Tryz.underlying50 Z1.out rfl rfl (.tmp 48) (.tmp 50) rfl _ _ _ _ rfl (Sw.after_alloc (H6.out |>.front 1 rfl |>.front 1 rfl |>.front 2 rfl) _) _ 1 _ rfl (Src.fresh1 _ _ _ rfl) hle ?_; intro v7 w7 h7; obtain ⟨a8, cap8, rfl⟩ := h7.sl_val; have d0 := (h7 |>.front 1 rfl |>.front 1 rfl |>.front 2 rfl).cell 2 rfl; have g0 := (h7 |>.front 1 rfl |>.front 1 rfl |>.front 2 rfl).frozen 2; have H7 := hid h7; clear h7) | (with_reducible refine wp_region_segP mixed (by decide +kernel) ?_) | (apply segP_pure (by rfl) (by rfl); focus (intro w1; go_simp; first | exact rfl | exact ⟨rfl, rfl⟩)) | (apply segP_look (by rfl) (by rfl) (by rfl); focus (go_simp; first | exact rfl | exact ⟨rfl, rfl⟩)) | (apply segP_act (by rfl) (by rfl) (by rfl); focus (go_simp; first | exact rfl | exact ⟨rfl, rfl⟩)) | (apply segP_unit (by rfl) (by rfl) (by rfl); focus (go_simp; first | exact rfl | exact ⟨rfl, rfl⟩)) | (refine segP_nil ?_))
      go_roundw
      case rel =>
        refine ⟨i + 1, vs ++ [.slice (some ⟨n9, 0, none⟩) 16 16], .slice a8 (i + 1) cap8, Hlt.out, rfl, by rw [List.length_append, Hvs.out]; rfl, ?_⟩
        have h8 := (H7.out |>.front 1 rfl |>.front 1 rfl |>.front 2 rfl).set 2 (.slice a8 (i + 1) cap8)
        exact (owns_more (h8 |>.front 1 rfl |>.front 1 rfl |>.front 3 rfl |>.front 3 rfl)) |>.front 2 rfl |>.front 2 rfl
      case measure => have := Hlt.out; simp [below_]; omega
  · have : i = ps := by omega
    subst this
    have hlt' : ¬ (i : Int) < i := by omega
    have HI := hid hI
    have Hvs := hid hvs
    clear hI hi hge hvs
    go_wp2
    go_ret2
    refine ⟨h, a, c, v, vs, Hvs.out, rfl, p, pv, m, cc, ?_⟩
    have h9 := HI.out
    subst hrest
    exact h9
end Go.Proofs.YtfddmbafjniflaaGreatDoor
