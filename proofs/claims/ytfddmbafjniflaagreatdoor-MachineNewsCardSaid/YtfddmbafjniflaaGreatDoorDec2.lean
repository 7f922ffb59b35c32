/-
  Package code: Decode out of any bytes.
-/
import Derived.Test.YtfddmbafjniflaaGreatDoorKeep
namespace Go.Proofs.YtfddmbafjniflaaGreatDoor
open Go Go.RowKit
set_option maxRecDepth 100000 in
set_option maxHeartbeats 8000000 in
theorem decode_any (w : World) (R : List HP) (B : HP) (b o cap : Nat) (a : Option Addr) (bs : List Nat) (hn : bs.length ≤ 50000) (hbyte : ∀ x ∈ bs, x < 256) (hB : Holds B b o bs)
    (ha : 0 < bs.length → a = some ⟨b, o, none⟩) (hS : Sw w (B :: R)) :
    Calls Tryz.prog 23 #[.slice a bs.length cap] w fun e w' => DecEnds bs B R e w' := by
  have hmf : ∀ (fn : Fn) (first cap : Array Value) (w : World), (Instr.makeFunc fn first cap).run Tryz.prog w = .ok (.func fn first cap) w := fun _ _ _ _ => rfl
  have h0 := ((hS.allocc [.int .i64 0, .slice none 0 0] 32).allocc [.int .i64 0] 3).allocc [.int .i64 0] 3
  have h1 := h0.allocc [.slice a bs.length cap, num 0] 147
  simp only [World.size_alloc] at h1
  have H1 := hid h1
  have Hy := hid hbyte
  have HB := hid hB
  have i4 : (bs.length : Int) ≤ 50000 := by omega
  clear h0 h1 hS hbyte hB
  go_enter_defers Tryz.func23, Tryz.ntmps23
  go_wp2_with fail
  revert H1
  generalize World.alloc _ _ = w1
  intro H1
  have hr1 := (H1.out) |>.front 4 rfl |>.front 1 rfl
  simp only [List.eraseIdx_cons_zero, List.eraseIdx_cons_succ] at hr1
  generalize w.heap.size = n0 at *
  rcases nextE_cases bs 0 1 16 with ⟨hs, he0⟩ | ⟨n, hx, hin, ho⟩
  · have hd : decodeE bs = .error bs.length := by unfold decodeE; rw [he0]
    have Hd := hid hd
    refine (next_short w1 _ B (n0 + 1 + 1 + 1) cap 0 1 16 a bs (by omega) hs (by omega) hr1).mono ?_
    rintro e w2 ⟨he, h2⟩; unfold thrown at he; subst he
    have h3 := h2 |>.front 1 rfl |>.front 2 rfl |>.front 3 rfl
    simp only [List.eraseIdx_cons_zero, List.eraseIdx_cons_succ] at h3
    have H3 := hid h3
    clear h2 h3 hr1 H1 hd
    go_wp2_with fail
    refine leaves_cons (f := 74) (args := #[.pointer (some ⟨n0, 0, none⟩), .pointer (some ⟨n0 + 1, 0, none⟩), .pointer (some ⟨n0 + 1 + 1, 0, none⟩)]) (by simp) (by simp [go_sem]) ?_
    refine (dec_bad_any n0 (n0 + 1) (n0 + 1 + 1) _ _ _ _ _ _ rfl rfl rfl H3.out).mono ?_
    rintro e u' w12 ⟨rfl, rfl, h12⟩
    have x1 := (h12 |>.front 1 rfl |>.front 1 rfl |>.front 2 rfl).cell 0 rfl
    have y1 := (h12 |>.front 1 rfl).cell 0 rfl
    have p0 := h12.cell 0 rfl
    have p1 := h12.cell 1 rfl
    have H12 := hid h12.tail.tail.tail
    clear h12
    simp [Leaves, settle, results, Tryz.results23, go_sem, x1, y1, p0, p1]
    exact DecEnds.bad Hd.out (H12.out)
  · obtain rfl := ha (by omega)
    have hx2 : n < 256 := Hy.out n (List.mem_of_getElem? hx)
    rcases ho with ⟨hbad, he0⟩ | ⟨n1, n2, he0⟩
    · have hd : decodeE bs = .error 0 := by unfold decodeE; rw [he0]
      have Hd := hid hd
      refine (next_out w1 _ B (n0 + 1 + 1 + 1) b o cap 0 1 16 n bs (by omega) HB.out hx hbad hx2 hr1).mono ?_
      rintro e w2 ⟨he, h2⟩; unfold thrown at he; subst he
      have h3 := h2 |>.front 1 rfl |>.front 2 rfl |>.front 3 rfl
      simp only [List.eraseIdx_cons_zero, List.eraseIdx_cons_succ] at h3
      have H3 := hid h3
      clear h2 h3 hr1 H1 hd
      go_wp2_with fail
      refine leaves_cons (f := 74) (args := #[.pointer (some ⟨n0, 0, none⟩), .pointer (some ⟨n0 + 1, 0, none⟩), .pointer (some ⟨n0 + 1 + 1, 0, none⟩)]) (by simp) (by simp [go_sem]) ?_
      refine (dec_bad_any n0 (n0 + 1) (n0 + 1 + 1) _ _ _ _ _ _ rfl rfl rfl H3.out).mono ?_
      rintro e u' w12 ⟨rfl, rfl, h12⟩
      have x1 := (h12 |>.front 1 rfl |>.front 1 rfl |>.front 2 rfl).cell 0 rfl
      have y1 := (h12 |>.front 1 rfl).cell 0 rfl
      have p0 := h12.cell 0 rfl
      have p1 := h12.cell 1 rfl
      have H12 := hid h12.tail.tail.tail
      clear h12
      simp [Leaves, settle, results, Tryz.results23, go_sem, x1, y1, p0, p1]
      exact DecEnds.bad Hd.out (H12.out)
    · refine (next_good w1 _ B (n0 + 1 + 1 + 1) b o cap 0 1 16 n bs (by omega) HB.out hx n1 n2 hx2 hr1).mono ?_
      rintro e w2 ⟨rfl, h2⟩
      have H2 := hid h2
      clear h2 hr1 H1 hx hx2
      go_wp2_with fail
      rcases nextE_cases bs 1 0 32 with ⟨hs, he1⟩ | ⟨g, hx, hin1, ho⟩
      · have hd : decodeE bs = .error bs.length := by unfold decodeE; rw [he0]; dsimp only; rw [he1]
        have Hd := hid hd
        refine (next_short w2 _ B (n0 + 1 + 1 + 1) cap 1 0 32 _ bs (by omega) hs (by omega) H2.out).mono ?_
        rintro e w3 ⟨he, h2⟩; unfold thrown at he; subst he
        have h3 := h2 |>.front 1 rfl |>.front 2 rfl |>.front 3 rfl
        simp only [List.eraseIdx_cons_zero, List.eraseIdx_cons_succ] at h3
        have H3 := hid h3
        clear h2 h3 H2 hd
        go_wp2_with fail
        refine leaves_cons (f := 74) (args := #[.pointer (some ⟨n0, 0, none⟩), .pointer (some ⟨n0 + 1, 0, none⟩), .pointer (some ⟨n0 + 1 + 1, 0, none⟩)]) (by simp) (by simp [go_sem]) ?_
        refine (dec_bad_any n0 (n0 + 1) (n0 + 1 + 1) _ _ _ _ _ _ rfl rfl rfl H3.out).mono ?_
        rintro e u' w12 ⟨rfl, rfl, h12⟩
        have x1 := (h12 |>.front 1 rfl |>.front 1 rfl |>.front 2 rfl).cell 0 rfl
        have y1 := (h12 |>.front 1 rfl).cell 0 rfl
        have p0 := h12.cell 0 rfl
        have p1 := h12.cell 1 rfl
        have H12 := hid h12.tail.tail.tail
        clear h12
        simp [Leaves, settle, results, Tryz.results23, go_sem, x1, y1, p0, p1]
        exact DecEnds.bad Hd.out (H12.out)
      · have hx2 : g < 256 := Hy.out g (List.mem_of_getElem? hx)
        rcases ho with ⟨hbad, he1⟩ | ⟨g1, g2, he1⟩
        · have hd : decodeE bs = .error 1 := by unfold decodeE; rw [he0]; dsimp only; rw [he1]
          have Hd := hid hd
          refine (next_out w2 _ B (n0 + 1 + 1 + 1) b o cap 1 0 32 g bs (by omega) HB.out hx hbad hx2 H2.out).mono ?_
          rintro e w3 ⟨he, h2⟩; unfold thrown at he; subst he
          have h3 := h2 |>.front 1 rfl |>.front 2 rfl |>.front 3 rfl
          simp only [List.eraseIdx_cons_zero, List.eraseIdx_cons_succ] at h3
          have H3 := hid h3
          clear h2 h3 H2 hd
          go_wp2_with fail
          refine leaves_cons (f := 74) (args := #[.pointer (some ⟨n0, 0, none⟩), .pointer (some ⟨n0 + 1, 0, none⟩), .pointer (some ⟨n0 + 1 + 1, 0, none⟩)]) (by simp) (by simp [go_sem]) ?_
          refine (dec_bad_any n0 (n0 + 1) (n0 + 1 + 1) _ _ _ _ _ _ rfl rfl rfl H3.out).mono ?_
          rintro e u' w12 ⟨rfl, rfl, h12⟩
          have x1 := (h12 |>.front 1 rfl |>.front 1 rfl |>.front 2 rfl).cell 0 rfl
          have y1 := (h12 |>.front 1 rfl).cell 0 rfl
          have p0 := h12.cell 0 rfl
          have p1 := h12.cell 1 rfl
          have H12 := hid h12.tail.tail.tail
          clear h12
          simp [Leaves, settle, results, Tryz.results23, go_sem, x1, y1, p0, p1]
          exact DecEnds.bad Hd.out (H12.out)
        · refine (next_good w2 _ B (n0 + 1 + 1 + 1) b o cap 1 0 32 g bs (by omega) HB.out hx g1 g2 hx2 H2.out).mono ?_
          rintro e w3 ⟨rfl, h3⟩
          have h4 := h3 |>.front 4 rfl
          simp only [List.eraseIdx_cons_zero, List.eraseIdx_cons_succ] at h4
          have c0 := h4.cell 0 rfl
          have f0 := h4.frozen 0
          have h5 := h4.set 0 (num g)
          have H5 := hid h5
          clear h3 h4 h5 H2 hx hx2
          have hde : decodeE bs = restE g n bs := by unfold decodeE; rw [he0]; dsimp only; rw [he1]
          have Hde := hid hde
          clear hde he0 he1 ha
          go_wp2_with fail
          revert H5
          generalize World.setCell _ _ _ = w5
          intro H5
          clear c0 f0
          have i6 : (n : Int) ≤ 16 := by omega
          go_loopw [19] (fun v19 wr => ∃ i p fv lvs fs, i ≤ n ∧ v19 = num i ∧ lvs.length = i ∧ fs.length = i ∧ p ≤ 2 + 257 * i ∧ funcsE g n bs i = .ok (p, fs) ∧ Sw wr (sl 111 1 fv i lvs :: ptc n0 [num g, fv] 32 :: ptc (n0 + 1 + 1 + 1) [.slice (some ⟨b, o, none⟩) bs.length cap, num p] 147 :: B :: ptc (n0 + 1 + 1) [.int .i64 0] 3 :: ptc (n0 + 1) [.int .i64 0] 3 :: (fnP lvs fs ++ R))) (fun v19 wr => below_ n v19)
          case atStart => exact ⟨0, 2, .slice none 0 0, [], [], by omega, rfl, rfl, rfl, by omega, rfl, H5.out.sl_nil none⟩
          clear H5
          obtain ⟨i, p, fv, lvs, fs, hi, rfl, hl1, hl2, hp, hf, hI⟩ := hrel
          obtain ⟨af, cf, rfl⟩ := hI.sl_val
          have Hf := hid hf
          have Hl := hid (And.intro hl1 hl2)
          have i7 : (p : Int) ≤ 4114 := by omega
          have hr := hI |>.front 2 rfl
          simp only [List.eraseIdx_cons_zero, List.eraseIdx_cons_succ] at hr
          rcases Nat.lt_or_ge i n with hlt | hge
          · have i8 : (i : Int) < n := by omega
            have hpr := hI |>.front 1 rfl
            simp only [List.eraseIdx_cons_zero, List.eraseIdx_cons_succ] at hpr
            have c0 := hpr.cell 0 rfl
            have lp := hpr.lt'
            have HA := hid ((Sw.drew hI) |>.front 3 rfl |>.front 3 rfl)
            simp only [List.eraseIdx_cons_zero, List.eraseIdx_cons_succ] at HA
            have HB2 := hid ((Sw.drew (hI.allocc [.int .i64 0, .int .i64 0, .int .i64 0] 149)) |>.front 4 rfl |>.front 4 rfl)
            simp only [List.eraseIdx_cons_zero, List.eraseIdx_cons_succ] at HB2
            clear hr hpr
            rcases nextE_cases bs p 1 64 with ⟨hs, he2⟩ | ⟨l, hx, hin2, ho⟩
            · have hd : decodeE bs = .error bs.length := by rw [Hde.out]; exact restE_error (funcsE_next hf he2) (by omega)
              have Hd := hid hd
              clear hd hI
              go_wp2_with fail
              refine wp_region_panics [2, 3, 4] (fun c w' => c = [{ v := badV bs.length, recovered := false }] ∧ Sw w' (ptc n0 [num g, .slice af i cf] 32 :: ptc (n0 + 1) [.int .i64 0] 3 :: ptc (n0 + 1 + 1) [.int .i64 0] 3 :: B :: sl 111 1 (.slice af i cf) i lvs :: (fnP lvs fs ++ R))) (by kernel_rfl) (by decide +kernel) ?_ ?_
              · intro c a' w' hk hdf hc
                obtain ⟨rfl, h3⟩ := hc
                have k2 := hk 2 (by simp)
                have k3 := hk 3 (by simp)
                have k4 := hk 4 (by simp)
                simp at k2 k3 k4
                show Leaves _ _ a'.tmps _ a'.defers (.panicking _) w'
                rw [hdf]
                clear hk hdf HA HB2
                refine leaves_cons (f := 74) (args := #[.pointer (some ⟨n0, 0, none⟩), .pointer (some ⟨n0 + 1, 0, none⟩), .pointer (some ⟨n0 + 1 + 1, 0, none⟩)]) (by simp) (by simp [go_sem]) ?_
                refine (dec_bad_any n0 (n0 + 1) (n0 + 1 + 1) _ _ _ _ _ _ rfl rfl rfl h3).mono ?_
                rintro e u' w12 ⟨rfl, rfl, h12⟩
                have x1 := (h12 |>.front 1 rfl |>.front 1 rfl |>.front 2 rfl).cell 0 rfl
                have y1 := (h12 |>.front 1 rfl).cell 0 rfl
                have p0 := h12.cell 0 rfl
                have p1 := h12.cell 1 rfl
                have H12 := hid h12.tail.tail.tail
                clear h12
                simp [Leaves, settle, results, Tryz.results23, go_sem, x1, y1, p0, p1, k2, k3, k4]
                exact DecEnds.bad Hd.out (Sw.drop_mid (fnP lvs fs) ((H12.out |>.front 1 rfl).tail))
              · change wpAny _ _ _ _ _ _ _ (World.drew _)
                refine wpAny_take (i := 0) (v := ?_) rfl (by kernel_rfl) (by kernel_rfl) (by kernel_rfl) (fun _ _ _ h => h) (Or.inl ⟨by rfl, ?_⟩) ?_
                rotate_left
                focus (intro w; go_simp; try with_reducible rfl)
                refine wpAny_take (i := 2) (v := ?_) rfl (by kernel_rfl) (by kernel_rfl) (by kernel_rfl) (fun _ _ _ h => h) (Or.inl ⟨by rfl, ?_⟩) ?_
                rotate_left
                focus (intro w; go_simp; try with_reducible rfl)
                refine wpAny_take (i := 3) (v := ?_) rfl (by kernel_rfl) (by kernel_rfl) (by kernel_rfl) (fun _ _ _ h => h) (Or.inl ⟨by rfl, ?_⟩) ?_
                rotate_left
                focus (intro w; go_simp; try with_reducible rfl)
                repeat' (first | exact AllReady.nil | (refine wpAny_ready (rs := [1, 4, 6]) (by decide +kernel) (by simp) ?_) | (refine wpAny_ready (rs := [4, 6]) (by decide +kernel) (by simp) ?_) | (refine wpAny_ready (rs := [1, 4]) (by decide +kernel) (by simp) ?_) | (refine wpAny_ready (rs := [4]) (by decide +kernel) (by simp) ?_) | (refine AllReady.cons rfl (fun K hK => ?_) ?_; focus (go_simp; try (refine hK _ _ ?_; clear hK K))))
                all_goals first | (refine (next_short _ _ B (n0 + 1 + 1 + 1) cap p 1 64 _ bs (by omega) hs (by omega) HA.out).mono ?_; rintro e w6 ⟨he, h2⟩; unfold thrown at he; subst he; exact ⟨rfl, rfl, h2 |>.front 3 rfl |>.front 4 rfl |>.front 4 rfl⟩) | (refine (next_short _ _ B (n0 + 1 + 1 + 1) cap p 1 64 _ bs (by omega) hs (by omega) HB2.out).mono ?_; rintro e w6 ⟨he, h2⟩; unfold thrown at he; subst he; exact ⟨rfl, rfl, (h2 |>.front 1 rfl).tail |>.front 3 rfl |>.front 4 rfl |>.front 4 rfl⟩)
            · have hx2 : l < 256 := Hy.out l (List.mem_of_getElem? hx)
              rcases ho with ⟨hbad, he2⟩ | ⟨l1, l2, he2⟩
              · have hd : decodeE bs = .error p := by rw [Hde.out]; exact restE_error (funcsE_next hf he2) (by omega)
                have Hd := hid hd
                clear hd hI
                go_wp2_with fail
                refine wp_region_panics [2, 3, 4] (fun c w' => c = [{ v := badV p, recovered := false }] ∧ Sw w' (ptc n0 [num g, .slice af i cf] 32 :: ptc (n0 + 1) [.int .i64 0] 3 :: ptc (n0 + 1 + 1) [.int .i64 0] 3 :: B :: sl 111 1 (.slice af i cf) i lvs :: (fnP lvs fs ++ R))) (by kernel_rfl) (by decide +kernel) ?_ ?_
                · intro c a' w' hk hdf hc
                  obtain ⟨rfl, h3⟩ := hc
                  have k2 := hk 2 (by simp)
                  have k3 := hk 3 (by simp)
                  have k4 := hk 4 (by simp)
                  simp at k2 k3 k4
                  show Leaves _ _ a'.tmps _ a'.defers (.panicking _) w'
                  rw [hdf]
                  clear hk hdf HA HB2
                  refine leaves_cons (f := 74) (args := #[.pointer (some ⟨n0, 0, none⟩), .pointer (some ⟨n0 + 1, 0, none⟩), .pointer (some ⟨n0 + 1 + 1, 0, none⟩)]) (by simp) (by simp [go_sem]) ?_
                  refine (dec_bad_any n0 (n0 + 1) (n0 + 1 + 1) _ _ _ _ _ _ rfl rfl rfl h3).mono ?_
                  rintro e u' w12 ⟨rfl, rfl, h12⟩
                  have x1 := (h12 |>.front 1 rfl |>.front 1 rfl |>.front 2 rfl).cell 0 rfl
                  have y1 := (h12 |>.front 1 rfl).cell 0 rfl
                  have p0 := h12.cell 0 rfl
                  have p1 := h12.cell 1 rfl
                  have H12 := hid h12.tail.tail.tail
                  clear h12
                  simp [Leaves, settle, results, Tryz.results23, go_sem, x1, y1, p0, p1, k2, k3, k4]
                  exact DecEnds.bad Hd.out (Sw.drop_mid (fnP lvs fs) ((H12.out |>.front 1 rfl).tail))
                · change wpAny _ _ _ _ _ _ _ (World.drew _)
                  refine wpAny_take (i := 0) (v := ?_) rfl (by kernel_rfl) (by kernel_rfl) (by kernel_rfl) (fun _ _ _ h => h) (Or.inl ⟨by rfl, ?_⟩) ?_
                  rotate_left
                  focus (intro w; go_simp; try with_reducible rfl)
                  refine wpAny_take (i := 2) (v := ?_) rfl (by kernel_rfl) (by kernel_rfl) (by kernel_rfl) (fun _ _ _ h => h) (Or.inl ⟨by rfl, ?_⟩) ?_
                  rotate_left
                  focus (intro w; go_simp; try with_reducible rfl)
                  refine wpAny_take (i := 3) (v := ?_) rfl (by kernel_rfl) (by kernel_rfl) (by kernel_rfl) (fun _ _ _ h => h) (Or.inl ⟨by rfl, ?_⟩) ?_
                  rotate_left
                  focus (intro w; go_simp; try with_reducible rfl)
                  repeat' (first | exact AllReady.nil | (refine wpAny_ready (rs := [1, 4, 6]) (by decide +kernel) (by simp) ?_) | (refine wpAny_ready (rs := [4, 6]) (by decide +kernel) (by simp) ?_) | (refine wpAny_ready (rs := [1, 4]) (by decide +kernel) (by simp) ?_) | (refine wpAny_ready (rs := [4]) (by decide +kernel) (by simp) ?_) | (refine AllReady.cons rfl (fun K hK => ?_) ?_; focus (go_simp; try (refine hK _ _ ?_; clear hK K))))
                  all_goals first | (refine (next_out _ _ B (n0 + 1 + 1 + 1) b o cap p 1 64 l bs (by omega) HB.out hx hbad hx2 HA.out).mono ?_; rintro e w6 ⟨he, h2⟩; unfold thrown at he; subst he; exact ⟨rfl, rfl, h2 |>.front 3 rfl |>.front 4 rfl |>.front 4 rfl⟩) | (refine (next_out _ _ B (n0 + 1 + 1 + 1) b o cap p 1 64 l bs (by omega) HB.out hx hbad hx2 HB2.out).mono ?_; rintro e w6 ⟨he, h2⟩; unfold thrown at he; subst he; exact ⟨rfl, rfl, (h2 |>.front 1 rfl).tail |>.front 3 rfl |>.front 4 rfl |>.front 4 rfl⟩)
              · go_wp2_with fail
                have i9 : (l : Int) ≤ 64 := by omega
                go_cut [7] from 21 to 26 (fun v7 wx => ∃ n7, v7 = .pointer (some ⟨n7, 0, none⟩) ∧ Sw wx (ptc n7 [num g, num n, num l] 149 :: ptc (n0 + 1 + 1 + 1) [.slice (some ⟨b, o, none⟩) bs.length cap, num (p + 1)] 147 :: B :: sl 111 1 (.slice af i cf) i lvs :: ptc n0 [num g, .slice af i cf] 32 :: ptc (n0 + 1 + 1) [.int .i64 0] 3 :: ptc (n0 + 1) [.int .i64 0] 3 :: (fnP lvs fs ++ R)))
                case first =>
                  refine wp_only ?_
                  go_region_with ((go_at_call 75; first | (refine (next_good _ _ B (n0 + 1 + 1 + 1) b o cap p 1 64 l bs (by omega) HB.out hx l1 l2 hx2 HA.out).mono ?_; rintro e w6 ⟨rfl, h6⟩; have g0 := (h6 |>.front 3 rfl).cell 0 rfl; have lp6 := (h6 |>.front 3 rfl).lt'; have H6 := hid h6; clear h6) | (refine (next_good _ _ B (n0 + 1 + 1 + 1) b o cap p 1 64 l bs (by omega) HB.out hx l1 l2 hx2 HB2.out).mono ?_; rintro e w6 ⟨rfl, h6⟩; have g0 := (h6 |>.front 4 rfl).cell 0 rfl; have g1 := (h6 |>.front 2 rfl).cell 0 rfl; have g2 := (h6 |>.front 2 rfl).cell 1 rfl; have g3 := (h6 |>.front 2 rfl).cell 2 rfl; have e1 := (h6 |>.front 2 rfl).frozen 0; have e2 := (h6 |>.front 2 rfl).frozen 1; have e3 := (h6 |>.front 2 rfl).frozen 2; have H6 := hid h6; clear h6)))
                  all_goals (simp only [onlyNormal]; go_wp2; go_meet)
                  all_goals first | exact ⟨_, rfl, H6.out.allocc [num g, num n, num l] 149⟩ | exact ⟨_, rfl, (((H6.out |>.front 2 rfl).set 0 (num g)).set 1 (num n)).set 2 (num l)⟩
                case rest =>
                  obtain ⟨n7, rfl, hI⟩ := hcut
                  clear c0 lp HA HB2 hx hx2
                  have c0 := hI.cell 0 rfl
                  have c1 := hI.cell 1 rfl
                  have c2 := hI.cell 2 rfl
                  have HI := hid hI
                  clear hI
                  go_wp2_with fail
                  go_loopw [8, 29] (fun v8 v29 wr => ∃ j f, j ≤ l ∧ v29 = num j ∧ f.length = j ∧ bodyE g n l bs (p + 1) j = .ok f ∧ Sw wr (sl 113 4 v8 j (instCells f) :: ptc n7 [num g, num n, num l] 149 :: ptc (n0 + 1 + 1 + 1) [.slice (some ⟨b, o, none⟩) bs.length cap, num (p + 1 + 4 * j)] 147 :: B :: sl 111 1 (.slice af i cf) i lvs :: ptc n0 [num g, .slice af i cf] 32 :: ptc (n0 + 1 + 1) [.int .i64 0] 3 :: ptc (n0 + 1) [.int .i64 0] 3 :: (fnP lvs fs ++ R))) (fun _ v29 wr => below_ l v29)
                  case atStart => exact ⟨0, [], by omega, rfl, rfl, rfl, HI.out.sl_nil none⟩
                  obtain ⟨j, f, hj, rfl, hfl, hbj, hJ⟩ := hrel
                  obtain ⟨a8, cap8, rfl⟩ := hJ.sl_val
                  clear c0 c1 c2 HI
                  have Hbj := hid hbj
                  have Hfl := hid hfl
                  have hJF := hJ |>.front 1 rfl
                  simp only [List.eraseIdx_cons_zero, List.eraseIdx_cons_succ] at hJF
                  have c0 := hJF.cell 0 rfl
                  have c1 := hJF.cell 1 rfl
                  have c2 := hJF.cell 2 rfl
                  rcases Nat.lt_or_ge j l with hjl | hjl
                  · have i10 : (j : Int) < l := by omega
                    have hin3 := inst_any _ _ B (n0 + 1 + 1 + 1) b o cap (p + 1 + 4 * j) g n l bs (by omega) (by omega) Hy.out HB.out (hJ |>.front 3 rfl |>.front 3 rfl)
                    have Hin := hid hin3
                    have Hjl := hid hjl
                    clear hJ hJF hin3 hjl hbj hfl
                    go_wp2_with fail
                    refine Hin.out.mono ?_
                    rintro e w7 hE
                    rcases hE.cases with ⟨x0, x1, x2, x3, hxx, rfl, h7⟩ | ⟨m, hxx, he, h7⟩
                    · have h8 := h7 |>.front 2 rfl
                      simp only [List.eraseIdx_cons_zero, List.eraseIdx_cons_succ] at h8
                      have H8 := hid h8
                      have Hxx := hid hxx
                      clear h7 h8 hE Hin hxx c0 c1 c2
                      go_wp2_with (first | (at_builtin; refine append_insts rfl (.tmp 31) (.tmp 35) rfl _ j (instCells f) _ rfl ((H8.out).after_alloc _) _ 1 _ rfl (Src.freshN _ [num x0, num x1, num x2, num x3] _ (num4_one x0 x1 x2 x3)) (by omega) ?_; intro v8 w8 h9; have H9 := hid h9; clear h9))
                      go_roundw
                      case rel =>
                        refine ⟨j + 1, f ++ [[x0, x1, x2, x3]], Hjl.out, rfl, by simp [Hfl.out], bodyE_ok Hbj.out Hxx.out, ?_⟩
                        rw [instCells_snoc, show p + 1 + 4 * (j + 1) = p + 1 + 4 * j + 4 by omega]
                        exact H9.out |>.front 3 rfl |>.front 1 rfl
                      case measure => have := Hjl.out; simp [below_]; omega
                    · unfold thrown at he
                      subst he
                      have hd : decodeE bs = .error m := by
                        rw [Hde.out]
                        exact restE_error (funcsE_body Hf.out he2 (bodyE_error (bodyE_bad Hbj.out hxx) l Hjl.out)) hlt
                      have Hd := hid hd
                      have H3 := hid (h7 |>.front 5 rfl |>.front 6 rfl |>.front 6 rfl)
                      simp only [List.eraseIdx_cons_zero, List.eraseIdx_cons_succ] at H3
                      clear h7 hE Hin hxx c0 c1 c2 hd
                      go_wp2_with fail
                      refine leaves_cons (f := 74) (args := #[.pointer (some ⟨n0, 0, none⟩), .pointer (some ⟨n0 + 1, 0, none⟩), .pointer (some ⟨n0 + 1 + 1, 0, none⟩)]) (by simp) (by simp [go_sem]) ?_
                      refine (dec_bad_any n0 (n0 + 1) (n0 + 1 + 1) _ _ _ _ _ _ rfl rfl rfl H3.out).mono ?_
                      rintro e u' w12 ⟨rfl, rfl, h12⟩
                      have x1 := (h12 |>.front 1 rfl |>.front 1 rfl |>.front 2 rfl).cell 0 rfl
                      have y1 := (h12 |>.front 1 rfl).cell 0 rfl
                      have p0 := h12.cell 0 rfl
                      have p1 := h12.cell 1 rfl
                      have H12 := hid h12.tail.tail.tail
                      clear h12
                      simp [Leaves, settle, results, Tryz.results23, go_sem, x1, y1, p0, p1]
                      exact DecEnds.bad Hd.out (Sw.drop_mid (fnP lvs fs) (((H12.out |>.front 1 rfl).tail |>.front 1 rfl).tail |>.front 1 rfl).tail)
                  · have : j = l := by omega
                    subst this
                    have i10 : ¬ (j : Int) < j := by omega
                    have hJ2 := hJ |>.front 4 rfl
                    simp only [List.eraseIdx_cons_zero, List.eraseIdx_cons_succ] at hJ2
                    have HJ2 := hid hJ2
                    have hJ3 := hJ2 |>.front 5 rfl
                    simp only [List.eraseIdx_cons_zero, List.eraseIdx_cons_succ] at hJ3
                    have q0 := hJ3.cell 1 rfl
                    have r0 := hJ3.frozen 1
                    clear hJ hJF hJ2 hJ3 hbj hfl
                    go_wp2_with (first | (at_builtin; refine append_funcs rfl (.tmp 39) (.tmp 41) rfl _ i lvs _ rfl ((HJ2.out).after_alloc _) _ 1 _ rfl (Src.fresh1 _ _ _ rfl) (by omega) ?_; intro v9 w9 h9; obtain ⟨a9, cap9, rfl⟩ := h9.sl_val; have s0 := (h9 |>.front 5 rfl).cell 1 rfl; have t0 := (h9 |>.front 5 rfl).frozen 1; have H9 := hid h9; clear h9))
                    have h10 := (H9.out |>.front 5 rfl).set 1 (.slice a9 (i + 1) cap9)
                    simp only [List.eraseIdx_cons_zero, List.eraseIdx_cons_succ] at h10
                    have h11 := (h10 |>.front 3 rfl).tail |>.front 6 rfl |>.front 6 rfl |>.front 6 rfl |>.front 6 rfl |>.front 4 rfl |>.front 5 rfl
                    simp only [List.eraseIdx_cons_zero, List.eraseIdx_cons_succ] at h11
                    have H11 := hid (Sw.push_mid (fnP lvs fs) h11)
                    clear h10 h11
                    go_roundw
                    case rel =>
                      refine ⟨i + 1, p + 1 + 4 * j, .slice a9 (i + 1) cap9, lvs ++ [.slice a8 j cap8], fs ++ [f], hlt, rfl, by simp [Hl.out.1], by simp [Hl.out.2], by omega, funcsE_ok Hf.out he2 Hbj.out, ?_⟩
                      rw [fnP_snoc _ _ _ _ (Hl.out.1.trans Hl.out.2.symm), Hfl.out]
                      exact H11.out
                    case measure => simp [below_]; omega
          · have : i = n := by omega
            subst this
            have i8 : ¬ (i : Int) < i := by omega
            have c1 := hr.cell 1 rfl
            rcases Nat.lt_or_ge p bs.length with hpl | hpl
            · have i9 : (p : Int) < bs.length := by omega
              have hd : decodeE bs = .error p := by rw [Hde.out]; unfold restE; rw [hf]; exact if_pos hpl
              have Hd := hid hd
              have H3 := hid (hI |>.front 4 rfl |>.front 5 rfl |>.front 3 rfl)
              simp only [List.eraseIdx_cons_zero, List.eraseIdx_cons_succ] at H3
              clear hI hr
              go_wp2_with fail
              refine leaves_cons (f := 74) (args := #[.pointer (some ⟨n0, 0, none⟩), .pointer (some ⟨n0 + 1, 0, none⟩), .pointer (some ⟨n0 + 1 + 1, 0, none⟩)]) (by simp) (by simp [go_sem]) ?_
              refine (dec_bad_any n0 (n0 + 1) (n0 + 1 + 1) _ _ _ _ _ _ rfl rfl rfl H3.out).mono ?_
              rintro e u' w12 ⟨rfl, rfl, h12⟩
              have x1 := (h12 |>.front 1 rfl |>.front 1 rfl |>.front 2 rfl).cell 0 rfl
              have y1 := (h12 |>.front 1 rfl).cell 0 rfl
              have p0 := h12.cell 0 rfl
              have p1 := h12.cell 1 rfl
              have H12 := hid h12.tail.tail.tail
              clear h12
              simp [Leaves, settle, results, Tryz.results23, go_sem, x1, y1, p0, p1]
              exact DecEnds.bad Hd.out (Sw.drop_mid (fnP lvs fs) ((H12.out |>.front 1 rfl).tail.tail))
            · have i9 : ¬ (p : Int) < bs.length := by omega
              have hd : decodeE bs = .ok (g, fs) := by rw [Hde.out]; unfold restE; rw [hf]; exact if_neg (by omega)
              have Hd := hid hd
              have hq := hI |>.front 1 rfl
              simp only [List.eraseIdx_cons_zero, List.eraseIdx_cons_succ] at hq
              have p0 := hq.cell 0 rfl
              have p1 := hq.cell 1 rfl
              have p2 := hq.frozen 0
              have p3 := hq.frozen 1
              have hqe := hq |>.front 5 rfl
              simp only [List.eraseIdx_cons_zero, List.eraseIdx_cons_succ] at hqe
              have x1 := hqe.cell 0 rfl
              have x2 := hqe.frozen 0
              have hqa := hqe |>.front 5 rfl
              simp only [List.eraseIdx_cons_zero, List.eraseIdx_cons_succ] at hqa
              have y1 := hqa.cell 0 rfl
              have y2 := hqa.frozen 0
              have h11 := ((((hq.set 0 (num g)).set 1 (.slice af i cf)) |>.front 5 rfl).set 0 (num 0) |>.front 5 rfl).set 0 (num 0)
              simp only [List.eraseIdx_cons_zero, List.eraseIdx_cons_succ] at h11
              have H11 := hid h11
              clear h11 hq hqe hqa hI hr hd
              go_wp2_with fail
              refine leaves_cons (f := 74) (args := #[.pointer (some ⟨n0, 0, none⟩), .pointer (some ⟨n0 + 1, 0, none⟩), .pointer (some ⟨n0 + 1 + 1, 0, none⟩)]) (by simp) (by simp [go_sem]) ?_
              refine (dec_idle n0 (n0 + 1) (n0 + 1 + 1) _).mono ?_
              rintro e u' w12 ⟨rfl, rfl, hb⟩
              clear p0 p1 p2 p3 x1 x2 y1 y2
              have h12 := H11.out.of_below (w' := w12) hb
              have x1 := h12.cell 0 rfl
              have y1 := (h12 |>.front 1 rfl).cell 0 rfl
              have p0 := (h12 |>.front 2 rfl).cell 0 rfl
              have p1 := (h12 |>.front 2 rfl).cell 1 rfl
              have H12 := hid h12.tail.tail.tail
              clear h12 hb H11
              simp [Leaves, settle, results, Tryz.results23, go_sem, x1, y1, p0, p1]
              refine DecEnds.fine Hd.out (Hl.out.1.trans Hl.out.2.symm) ?_
              rw [Hl.out.2]
              exact (H12.out |>.front 1 rfl).tail
end Go.Proofs.YtfddmbafjniflaaGreatDoor
