/-
  Package code: Decode on the told scripts.
-/
import Derived.Test.YtfddmbafjniflaaGreatDoorInst99
import Derived.Recover
import Derived.Defers
import Derived.Deep.RegionWith
import Derived.Deep.Cut
import Derived.Deep.CutRange
namespace Go.Proofs.YtfddmbafjniflaaGreatDoor
open Go Go.RowKit
set_option maxRecDepth 100000 in
set_option maxHeartbeats 1000000 in
theorem dec_idle (p e a : Nat) (w : World) : CallsD Tryz.prog 74 #[.pointer (some ⟨p, 0, none⟩), .pointer (some ⟨e, 0, none⟩), .pointer (some ⟨a, 0, none⟩)] .returning w fun e u' w' =>
    e = .returned (.tuple #[]) ∧ u' = .returning ∧ Below w.heap.size w w' := by
  refine callsD_of_wpS Tryz.func74 rfl fun c₀ cs hu => ?_
  simp only [Tryz.ntmps74, List.size_toArray, List.length_cons, List.length_nil, Nat.reduceAdd, Nat.reduceSub, Array.replicate_succ, Array.replicate_zero, List.push_toArray, List.append_toArray, List.nil_append, List.cons_append]
  have hta : ∀ w, (Instr.typeAssert .nilIface 20 143 true).run Tryz.prog w = .ok (.tuple #[.agg #[.int .i64 0], .bool false]) w := fun w => by kernel_rfl
  apply wpS_seq
  apply wpS_region
  simp [wpOpsS, go_sem, recoverD, hu, hta, Exit.thenS]
  refine wpS_of_wp ?_
  go_wp2
  cases c₀
  simp_all [bodyPostS, results, Tryz.results74]
  exact Below.alloc (Below.refl _ _) (Nat.le_refl _) _
set_option maxRecDepth 100000 in
set_option maxHeartbeats 1000000 in
theorem dec_bad (p e a : Nat) (w : World) (R : List HP) (x y z : List Value) (hx : x.length = 2) (hy : y.length = 1) (hz : z.length = 1) (hS : Sw w (ptc p x 32 :: ptc e y 3 :: ptc a z 3 :: R)) :
    CallsD Tryz.prog 74 #[.pointer (some ⟨p, 0, none⟩), .pointer (some ⟨e, 0, none⟩), .pointer (some ⟨a, 0, none⟩)] (.panicking [{ v := bad3, recovered := false }]) w fun en u' w' =>
    en = .returned (.tuple #[]) ∧ u' = .panicking [{ v := bad3, recovered := true }] ∧ Sw w' (ptc p [num 0, .slice none 0 0] 32 :: ptc e [num 6] 3 :: ptc a [num 3] 3 :: R) := by
  obtain ⟨x0, x1, rfl⟩ : ∃ x0 x1, x = [x0, x1] := by
    match x, hx with
    | [x0, x1], _ => exact ⟨x0, x1, rfl⟩
  obtain ⟨y0, rfl⟩ : ∃ y0, y = [y0] := by
    match y, hy with
    | [y0], _ => exact ⟨y0, rfl⟩
  obtain ⟨z0, rfl⟩ : ∃ z0, z = [z0] := by
    match z, hz with
    | [z0], _ => exact ⟨z0, rfl⟩
  have HS := hid hS
  refine callsD_of_wpS Tryz.func74 rfl fun c₀ cs hu => ?_
  simp only [Tryz.ntmps74, List.size_toArray, List.length_cons, List.length_nil, Nat.reduceAdd, Nat.reduceSub, Array.replicate_succ, Array.replicate_zero, List.push_toArray, List.append_toArray, List.nil_append, List.cons_append]
  have hta : ∀ w, (Instr.typeAssert bad3 20 143 true).run Tryz.prog w = .ok (.tuple #[.agg #[.int .i64 3], .bool true]) w := fun w => by kernel_rfl
  clear hS
  apply wpS_seq
  apply wpS_region
  simp [wpOpsS, go_sem, recoverD, hu, hta, Exit.thenS]
  have hA := Sw.drew (HS.out.allocc [.int .i64 3] 143)
  have n1 := (hA |>.front 1 rfl |>.front 2 rfl).ne
  have n2 := (hA |>.front 2 rfl |>.front 1 rfl |>.front 2 rfl |>.front 3 rfl).ne
  have n3 := (hA |>.front 1 rfl |>.front 1 rfl |>.front 2 rfl |>.front 3 rfl).ne
  have n4 := HS.out.lt'
  have n5 := (HS.out |>.front 1 rfl).lt'
  have n6 := (HS.out |>.front 1 rfl |>.front 1 rfl |>.front 2 rfl).lt'
  have h1 := (HS.out.set 0 (num 0)).set 1 (.slice none 0 0)
  have h2 := (h1 |>.front 2 rfl |>.front 1 rfl |>.front 2 rfl).set 0 (num 6)
  have h3 := (h2 |>.front 1 rfl |>.front 2 rfl).set 0 (num 3)
  have k1 := Sw.drew (h1.allocc [.int .i64 3] 143)
  have k2 := Sw.drew (h2.allocc [.int .i64 3] 143)
  have k3 := Sw.drew (h3.allocc [.int .i64 3] 143)
  simp only [World.size_setCell] at k1 k2 k3
  have d0 := hA.cell 0 rfl
  have c0 := HS.out.cell 0 rfl
  have c1 := HS.out.cell 1 rfl
  have f0 := HS.out.frozen 0
  have f1 := HS.out.frozen 1
  have c2 := (HS.out |>.front 1 rfl).cell 0 rfl
  have f2 := (HS.out |>.front 1 rfl).frozen 0
  have c3 := (HS.out |>.front 1 rfl |>.front 1 rfl |>.front 2 rfl).cell 0 rfl
  have f3 := (HS.out |>.front 1 rfl |>.front 1 rfl |>.front 2 rfl).frozen 0
  have HA := hid hA
  have K1 := hid k1
  have K2 := hid k2
  have K3 := hid k3
  clear hA h1 h2 h3 k1 k2 k3 HS
  refine wpS_of_wp ?_
  go_wp2_with (first | (refine wp_region_segQ [13] (fun w' => w'.cell? ⟨w.heap.size, 0, none⟩ = some (.int .i64 3)) mixed (by decide +kernel) (HA.out.cell 0 rfl) ?_) | (apply segQ_still (by rfl) (by rfl) (by rfl) (HA.out.cell 0 rfl); focus (intro wq hq; (try dsimp only at hq); go_simp; first | exact rfl | exact ⟨rfl, rfl⟩)) | (apply segQ_pure (by rfl) (by rfl); focus (intro wq; go_simp; first | exact rfl | exact ⟨rfl, rfl⟩)) | (apply segQ_look (by rfl) (by rfl) (by rfl) (by rfl); focus (go_simp; first | exact rfl | exact ⟨rfl, rfl⟩)) | (apply segQ_call (by rfl) (by rfl) (by rfl); focus (go_simp; first | exact rfl | exact ⟨rfl, rfl⟩)) | (refine segQ_nil ?_))
  apply segQ_unit (by rfl) (by rfl) (by rfl)
  focus (go_simp; first | exact rfl | exact ⟨rfl, rfl⟩)
  focus exact K1.out.cell 0 rfl
  apply segQ_unit (by rfl) (by rfl) (by rfl)
  focus (go_simp; first | exact rfl | exact ⟨rfl, rfl⟩)
  focus exact K2.out.cell 0 rfl
  apply segQ_unit (by rfl) (by rfl) (by rfl)
  focus (go_simp; first | exact rfl | exact ⟨rfl, rfl⟩)
  focus exact K3.out.cell 0 rfl
  refine segQ_nil ?_
  go_wp2
  have k3 : Sw _ _ := K3.out.tail |>.front 2 rfl |>.front 2 rfl
  clear K1 K2 K3 HA
  cases c₀
  simp_all [bodyPostS, results, Tryz.results74]
  exact k3
def onlyNormal (N : Act → World → Prop) : Exit → Act → World → Prop
  | .normal, a, w => N a w
  | _, _, _ => False
theorem wp_only {P : Program} {Q : Exit → Act → World → Prop} {c : Code} {a : Act} {w : World} (h : c.wp P (onlyNormal (fun a w => Q .normal a w)) a w) : c.wp P Q a w :=
  Code.wp_mono (fun e _ _ q => by cases e <;> first | exact q | exact q.elim) h
theorem Src.freshN (w : World) (cs : List Value) (T : TypeId) (h : ∀ u ∈ cs, u.oneCell' = true) : Src (w.alloc (.cells cs.toArray T)) cs.length (.slice (some ⟨w.heap.size, 0, none⟩) 1 1) 1 cs := by
  refine ⟨by simp, h, .inr ⟨_, _, rfl, fun j u hu => ?_⟩⟩
  rw [Addr.add_mk, cell_of_row (heap_alloc_new w _)]
  simpa using hu
theorem info_inst : (Tryz.prog.info? 113).map (fun i => (i.zero, i.size, i.bytes)) = some (some (.agg #[.int .i64 0, .int .i64 0, .int .i64 0, .int .i64 0]), 4, 32) := by kernel_rfl
theorem info_insts : (Tryz.prog.info? 111).map (fun i => (i.zero, i.size, i.bytes)) = some (some (.slice none 0 0), 1, 24) := by kernel_rfl
theorem append_insts {ops : Array Oper} {rest : List Oper} {o : Oper} {a : Act} {Q : Exit → Act → World → Prop} {w : World} (hgd : o.guard = none) (s x : Operand)
    (ho : o.op = .call { callee := .builtin .append, args := #[s, x], argTypes := #[111, 111] })
    (v : Value) (n : Nat) (xs : List Value) (R : List HP) (hs : a.eval s = v) (hS : Sw w (sl 113 4 v n xs :: R))
    (xv : Value) (m : Nat) (news : List Value) (hx : a.eval x = xv) (hsrc : Src w 4 xv m news) (hn : n + m ≤ 16777216)
    (h : ∀ v' w', Sw w' (sl 113 4 v' (n + m) (xs ++ news) :: R) → wpList Tryz.prog ops Q rest (a.put o.dst v') w') : wpList Tryz.prog ops Q (o :: rest) a w := by
  obtain ⟨i0, hi, hz0, hz1, hz2⟩ := info_parts info_inst
  exact wpList_append_sl hgd s x 111 ho 113 i0 _ 4 32 Tryz.underlying111 hi hz0 hz1 hz2 rfl v n xs R hs hS xv m news hx hsrc (by simp only [maxLen]; omega) (by omega) h
theorem append_funcs {ops : Array Oper} {rest : List Oper} {o : Oper} {a : Act} {Q : Exit → Act → World → Prop} {w : World} (hgd : o.guard = none) (s x : Operand)
    (ho : o.op = .call { callee := .builtin .append, args := #[s, x], argTypes := #[30, 30] })
    (v : Value) (n : Nat) (xs : List Value) (R : List HP) (hs : a.eval s = v) (hS : Sw w (sl 111 1 v n xs :: R))
    (xv : Value) (m : Nat) (news : List Value) (hx : a.eval x = xv) (hsrc : Src w 1 xv m news) (hn : n + m ≤ 16777216)
    (h : ∀ v' w', Sw w' (sl 111 1 v' (n + m) (xs ++ news) :: R) → wpList Tryz.prog ops Q rest (a.put o.dst v') w') : wpList Tryz.prog ops Q (o :: rest) a w := by
  obtain ⟨i0, hi, hz0, hz1, hz2⟩ := info_parts info_insts
  exact wpList_append_sl hgd s x 30 ho 111 i0 _ 1 24 Tryz.underlying30 hi hz0 hz1 hz2 rfl v n xs R hs hS xv m news hx hsrc (by simp only [maxLen]; omega) (by omega) h
theorem zero4_one : ∀ u ∈ [num 0, num 0, num 0, num 0], u.oneCell' = true := by
  intro u hu
  simp at hu
  rcases hu with rfl | rfl | rfl | rfl <;> rfl
-- The told script.
def script (x : Nat) : List Value := [byt 1, byt 0, byt 1, byt x, byt 0, byt 0, byt 0]
theorem script_zero : ∀ k, k < 4 → (script 0)[3 + k]? = some (byt 0) := by
  intro k hk
  obtain rfl | rfl | rfl | rfl : k = 0 ∨ k = 1 ∨ k = 2 ∨ k = 3 := by omega
  all_goals rfl
set_option maxRecDepth 100000 in
set_option maxHeartbeats 4000000 in
theorem decode_ok (w : World) (R : List HP) (sb : Nat) (hS : Sw w (ptc sb (script 0) 5 :: R)) :
    Calls Tryz.prog 23 #[.slice (some ⟨sb, 0, none⟩) 7 7] w fun e w' => ∃ fv lv, e = .returned (.tuple #[.agg #[num 0, fv], .int .i64 0, .int .i64 0]) ∧
      Sw w' (sl 111 1 fv 1 [lv] :: sl 113 4 lv 1 [num 0, num 0, num 0, num 0] :: ptc sb (script 0) 5 :: R) := by
  have hmf : ∀ (fn : Fn) (first cap : Array Value) (w : World), (Instr.makeFunc fn first cap).run Tryz.prog w = .ok (.func fn first cap) w := fun _ _ _ _ => rfl
  have h0 := ((hS.allocc [.int .i64 0, .slice none 0 0] 32).allocc [.int .i64 0] 3).allocc [.int .i64 0] 3
  have h1 := h0.allocc [.slice (some ⟨sb, 0, none⟩) 7 7, num 0] 147
  simp only [World.size_alloc] at h1
  have H1 := hid h1
  clear h0 h1 hS
  go_enter_defers Tryz.func23, Tryz.ntmps23
  go_wp2_with fail
  revert H1
  generalize World.alloc _ _ = w1
  intro H1
  refine (next_ok _ _ _ sb 0 7 1 1 16 (script 0) (by omega) (by omega) rfl (by omega) (by omega) (by omega) (H1.out |>.front 3 rfl |>.front 3 rfl |>.front 3 rfl |>.front 4 rfl |>.front 4 rfl)).mono ?_
  rintro e w2 ⟨rfl, h2⟩
  have H2 := hid h2
  clear h2
  go_wp2_with fail
  refine (next_ok _ _ _ sb 1 7 0 0 32 (script 0) (by omega) (by omega) rfl (by omega) (by omega) (by omega) H2.out).mono ?_
  rintro e w3 ⟨rfl, h3⟩
  have h4 := h3 |>.front 3 rfl |>.front 3 rfl |>.front 3 rfl |>.front 3 rfl |>.front 4 rfl
  have c0 := h4.cell 0 rfl
  have f0 := h4.frozen 0
  have h5 := h4.set 0 (num 0)
  have H5 := hid h5
  clear h3 h4 h5 H1 H2
  go_wp2_with fail
  revert H5
  generalize World.setCell _ _ _ = w5
  intro H5
  clear c0 f0
  generalize w.heap.size = n0 at *
  have c0 := H5.out.cell 0 rfl
  refine wp_loop_rounds 2 ?_
  rw [rounds_succ]
  go_wp2_with fail
  have lp := H5.out.lt'
  have HA := hid ((Sw.drew H5.out) |>.front 4 rfl |>.front 4 rfl |>.front 2 rfl |>.front 4 rfl |>.front 4 rfl)
  have HB := hid ((Sw.drew (H5.out.allocc [.int .i64 0, .int .i64 0, .int .i64 0] 149)) |>.front 5 rfl |>.front 5 rfl |>.front 2 rfl |>.front 3 rfl |>.front 5 rfl |>.front 5 rfl)
  go_cut [7] from 21 to 26 (fun v7 wx => ∃ n7, v7 = .pointer (some ⟨n7, 0, none⟩) ∧ Sw wx (ptc n7 [num 0, num 1, num 1] 149 :: ptc (n0 + 1 + 1 + 1) [.slice (some ⟨sb, 0, none⟩) 7 7, num 3] 147 :: ptc sb (script 0) 5 :: ptc n0 [num 0, .slice none 0 0] 32 :: ptc (n0 + 1 + 1) [.int .i64 0] 3 :: ptc (n0 + 1) [.int .i64 0] 3 :: R))
  case first =>
    refine wp_only ?_
    go_region_with ((go_at_call 75; first | (refine (next_ok _ _ _ sb 2 7 1 1 64 (script 0) (by omega) (by omega) rfl (by omega) (by omega) (by omega) HA.out).mono ?_; rintro e w6 ⟨rfl, h6⟩; have g0 := (h6 |>.front 1 rfl |>.front 1 rfl |>.front 2 rfl).cell 0 rfl; have lp6 := (h6 |>.front 1 rfl |>.front 1 rfl |>.front 2 rfl).lt'; have H6 := hid h6; clear h6) | (refine (next_ok _ _ _ sb 2 7 1 1 64 (script 0) (by omega) (by omega) rfl (by omega) (by omega) (by omega) HB.out).mono ?_; rintro e w6 ⟨rfl, h6⟩; have g0 := (h6 |>.front 1 rfl |>.front 1 rfl |>.front 2 rfl).cell 0 rfl; have g1 := (h6 |>.front 2 rfl |>.front 2 rfl |>.front 2 rfl |>.front 3 rfl).cell 0 rfl; have g2 := (h6 |>.front 2 rfl |>.front 2 rfl |>.front 2 rfl |>.front 3 rfl).cell 1 rfl; have g3 := (h6 |>.front 2 rfl |>.front 2 rfl |>.front 2 rfl |>.front 3 rfl).cell 2 rfl; have e1 := (h6 |>.front 2 rfl |>.front 2 rfl |>.front 2 rfl |>.front 3 rfl).frozen 0; have e2 := (h6 |>.front 2 rfl |>.front 2 rfl |>.front 2 rfl |>.front 3 rfl).frozen 1; have e3 := (h6 |>.front 2 rfl |>.front 2 rfl |>.front 2 rfl |>.front 3 rfl).frozen 2; have H6 := hid h6; clear h6)))
    all_goals (simp only [onlyNormal]; go_wp2; go_meet)
    all_goals first | exact ⟨_, rfl, H6.out.allocc [num 0, num 1, num 1] 149⟩ | exact ⟨_, rfl, (((H6.out |>.front 2 rfl |>.front 2 rfl |>.front 2 rfl |>.front 3 rfl).set 0 (num 0)).set 1 (num 1)).set 2 (num 1)⟩
  case rest =>
    obtain ⟨n7, rfl, hI⟩ := hcut
    clear c0 lp HA HB H5
    have c0 := hI.cell 0 rfl
    have c1 := hI.cell 1 rfl
    have c2 := hI.cell 2 rfl
    have hin := inst0 wc _ (n0 + 1 + 1 + 1) sb 7 0 1 1 (script 0) rfl script_zero (hI |>.front 3 rfl |>.front 1 rfl |>.front 3 rfl |>.front 3 rfl)
    have Hin := hid hin
    clear hI hin
    go_wp2_with fail
    refine wp_loop_rounds 2 ?_
    rw [rounds_succ]
    go_wp2_with (first | (go_at_call 76; refine Hin.out.mono ?_; rintro e w7 ⟨rfl, h7⟩; have H7 := hid h7; clear h7) | (at_builtin; refine append_insts rfl (.tmp 31) (.tmp 35) rfl _ 0 [] _ rfl (((H7.out).after_alloc _).sl_nil none) _ 1 _ rfl (Src.freshN _ [num 0, num 0, num 0, num 0] _ zero4_one) (by omega) ?_; intro v8 w8 h8; obtain ⟨a8, cap8, rfl⟩ := h8.sl_val; have H8 := hid h8; clear h8))
    rw [rounds_succ]
    have hp := H8.out |>.front 3 rfl |>.front 3 rfl |>.front 3 rfl |>.front 3 rfl |>.front 4 rfl
    have q0 := hp.cell 1 rfl
    have r0 := hp.frozen 1
    clear hp
    go_wp2_with (first | (at_builtin; refine append_funcs rfl (.tmp 39) (.tmp 41) rfl _ 0 [] _ rfl (((H8.out).after_alloc _).sl_nil none) _ 1 _ rfl (Src.fresh1 _ _ _ rfl) (by omega) ?_; intro v9 w9 h9; obtain ⟨a9, cap9, rfl⟩ := h9.sl_val; have s0 := (h9 |>.front 4 rfl |>.front 4 rfl |>.front 4 rfl |>.front 4 rfl |>.front 4 rfl |>.front 5 rfl).cell 1 rfl; have t0 := (h9 |>.front 4 rfl |>.front 4 rfl |>.front 4 rfl |>.front 4 rfl |>.front 4 rfl |>.front 5 rfl).frozen 1; have H9 := hid h9; clear h9))
    have h10 := (H9.out |>.front 4 rfl |>.front 4 rfl |>.front 4 rfl |>.front 4 rfl |>.front 4 rfl |>.front 5 rfl).set 1 (.slice a9 1 cap9)
    clear s0 t0 q0 r0 c0 c1 c2
    revert h10
    generalize World.setCell _ _ _ = w10
    intro h10
    rw [rounds_succ]
    have p0 := h10.cell 0 rfl
    have p1 := h10.cell 1 rfl
    have p2 := h10.frozen 0
    have p3 := h10.frozen 1
    have r1 := (h10 |>.front 2 rfl |>.front 2 rfl |>.front 2 rfl |>.front 3 rfl).cell 1 rfl
    have r0 := (h10 |>.front 2 rfl |>.front 2 rfl |>.front 2 rfl |>.front 3 rfl).cell 0 rfl
    have x1 := (h10 |>.front 5 rfl |>.front 5 rfl |>.front 5 rfl |>.front 5 rfl |>.front 5 rfl |>.front 5 rfl |>.front 6 rfl).cell 0 rfl
    have x2 := (h10 |>.front 5 rfl |>.front 5 rfl |>.front 5 rfl |>.front 5 rfl |>.front 5 rfl |>.front 5 rfl |>.front 6 rfl).frozen 0
    have y1 := (h10 |>.front 6 rfl |>.front 6 rfl |>.front 6 rfl |>.front 6 rfl |>.front 6 rfl |>.front 6 rfl |>.front 6 rfl |>.front 7 rfl).cell 0 rfl
    have y2 := (h10 |>.front 6 rfl |>.front 6 rfl |>.front 6 rfl |>.front 6 rfl |>.front 6 rfl |>.front 6 rfl |>.front 6 rfl |>.front 7 rfl).frozen 0
    have H10 := hid h10
    clear h10
    go_wp2_with fail
    have h11 := ((((((H10.out.set 0 (num 0)).set 1 (.slice a9 1 cap9)) |>.front 6 rfl |>.front 6 rfl |>.front 6 rfl |>.front 6 rfl |>.front 6 rfl |>.front 6 rfl |>.front 6 rfl |>.front 7 rfl).set 0 (num 0)) |>.front 6 rfl |>.front 6 rfl |>.front 6 rfl |>.front 6 rfl |>.front 6 rfl |>.front 6 rfl |>.front 6 rfl |>.front 7 rfl).set 0 (num 0))
    have H11 := hid h11
    clear h11 p0 p1 p2 p3 r1 r0 x1 x2 y1 y2 H10
    refine leaves_cons (f := 74) (args := #[.pointer (some ⟨n0, 0, none⟩), .pointer (some ⟨n0 + 1, 0, none⟩), .pointer (some ⟨n0 + 1 + 1, 0, none⟩)]) (by simp) (by simp [go_sem]) ?_
    refine (dec_idle n0 (n0 + 1) (n0 + 1 + 1) _).mono ?_
    rintro e u' w12 ⟨rfl, rfl, hb⟩
    have h12 := H11.out.of_below (w' := w12) hb
    have x1 := h12.cell 0 rfl
    have y1 := (h12 |>.front 1 rfl).cell 0 rfl
    have p0 := (h12 |>.front 1 rfl |>.front 1 rfl |>.front 2 rfl).cell 0 rfl
    have p1 := (h12 |>.front 1 rfl |>.front 1 rfl |>.front 2 rfl).cell 1 rfl
    have H12 := hid h12
    clear h12 hb H11
    simp [Leaves, settle, results, Tryz.results23, go_sem, x1, y1, p0, p1]
    exact ⟨.slice a8 1 cap8, (H12.out |>.front 6 rfl |>.front 5 rfl |>.front 5 rfl |>.front 7 rfl |>.front 7 rfl |>.front 7 rfl |>.front 7 rfl |>.front 7 rfl).tail.tail.tail.tail.tail⟩
end Go.Proofs.YtfddmbafjniflaaGreatDoor
