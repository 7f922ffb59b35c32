/-
  Package machine: commit of an exit (told).
-/
import Derived.Test.YtfddmbafjniflaaGreatDoorTake0
import Derived.Test.YtfddmbafjniflaaGreatDoorDecode
import Derived.Test.YtfddmbafjniflaaGreatDoorSegN
import Derived.Test.YtfddmbafjniflaaGreatDoorEvent
import Derived.Laws.ResultCell
namespace Go.Proofs.YtfddmbafjniflaaGreatDoor
open Go Go.RowKit
set_option maxRecDepth 100000 in
set_option maxHeartbeats 1000000 in
theorem fault_idle (p e : Nat) (w : World) : CallsD Tryz.prog 207 #[.pointer (some ⟨p, 0, none⟩), .pointer (some ⟨e, 0, none⟩)] .returning w fun e u' w' =>
    e = .returned (.tuple #[]) ∧ u' = .returning ∧ Below w.heap.size w w' := by
  refine callsD_of_wpS Tryz.func207 rfl fun c₀ cs hu => ?_
  simp only [Tryz.ntmps207, List.size_toArray, List.length_cons, List.length_nil, Nat.reduceAdd, Nat.reduceSub, Array.replicate_succ, Array.replicate_zero, List.push_toArray, List.append_toArray, List.nil_append, List.cons_append]
  have hta : ∀ w, (Instr.typeAssert .nilIface 20 294 true).run Tryz.prog w = .ok (.tuple #[.agg #[], .bool false]) w := fun w => by kernel_rfl
  apply wpS_seq
  apply wpS_region
  simp [wpOpsS, go_sem, recoverD, hu, hta, Exit.thenS]
  refine wpS_of_wp ?_
  go_wp2
  cases c₀
  simp_all [bodyPostS, results, Tryz.results207]
  exact Below.alloc (Below.refl _ _) (Nat.le_refl _) _
set_option maxRecDepth 100000 in
set_option maxHeartbeats 2000000 in
theorem commit1_exit (w : World) (R : List HP) (ci t i ad y m p g : Nat) (v : Value) (ic : List Value) (hi : ic[0]? = some (num 0)) (hS : Sw w (ptc t [v] 3 :: ptc i ic 113 :: R)) :
    Calls Tryz.prog 206 #[ptr ci, ptr t, ptr i, ptr ad, ptr y, ptr m, ptr p, ptr g] w fun e w' => e = .returned (.tuple #[]) ∧ Sw w' (ptc t [num 5] 3 :: ptc i ic 113 :: R) := by
  have hmf : ∀ (fn : Fn) (first cap : Array Value) (w : World), (Instr.makeFunc fn first cap).run Tryz.prog w = .ok (.func fn first cap) w := fun _ _ _ _ => rfl
  have i0 := (hS |>.front 1 rfl).cell 0 hi
  have t0 := hS.cell 0 rfl
  have f0 := hS.frozen 0
  have h1 := hS.set 0 (.int .i64 5)
  have H1 := hid h1
  clear hS h1 hi
  go_enter_defers Tryz.func206, Tryz.ntmps206
  repeat' (first | go_values | go_skip | go_guarded | go_step | go_upon | dsimp only)
  refine leaves_cons (f := 207) (args := #[.pointer (some ⟨ci, 0, none⟩), .pointer (some ⟨t, 0, none⟩)]) (by simp) (by simp [go_sem]) ?_
  refine (fault_idle ci t _).mono ?_
  rintro e u' w12 ⟨rfl, rfl, hb⟩
  have h12 := H1.out.of_below (w' := w12) hb
  simp [Leaves, settle, results, Tryz.results206, go_sem]
  exact h12
theorem info_commit : (Tryz.prog.info? 76).map (fun i => (i.zero, i.size, i.bytes)) = some (some (.agg #[.int .i64 0, .int .i64 0, .int .i64 0, .int .i64 0, .int .i64 0, .bool false]), 6, 48) := by kernel_rfl
/-- Appending in a region that draws, elements of any size. -/
theorem segS_append_sl {ops : Array Oper} {rest : List Oper} {o : Oper} {a0 : Act} {Q : Exit → Act → World → Prop} {w : World} {I : World → Prop} (E S : TypeId) (z : Value) (size bytes : Nat) (hby : bytes ≤ 64) (hu : Tryz.prog.underlying S = some (.slice E))
    (hinfo : (Tryz.prog.info? E).map (fun i => (i.zero, i.size, i.bytes)) = some (some z, size, bytes)) (hz : z.cells.size = size) (hgd : o.guard = none) (s x : Operand)
    (ho : o.op = .call { callee := .builtin .append, args := #[s, x], argTypes := #[S, S] })
    (v : Value) (n : Nat) (xs : List Value) (R : List HP) (hs : a0.eval s = v) (hS : Sw w (sl E size v n xs :: R))
    (xv : Value) (m : Nat) (news : List Value) (hx : a0.eval x = xv) (hsrc : Src w size xv m news) (hn : n + m ≤ 16777216)
    (h : ∀ v' w', Sw w' (sl E size v' (n + m) (xs ++ news) :: R) → (I w' ∨ rest = []) ∧ wpSegS Tryz.prog ops I Q rest (a0.put o.dst v') w') : wpSegS Tryz.prog ops I Q (o :: rest) a0 w := by
  obtain ⟨i0, hi, hz0, hz1, hz2⟩ := info_parts hinfo
  obtain ⟨v', w', hr, h2⟩ := run_append_sl (P := Tryz.prog) (w := w) S o.type E i0 z size bytes hu hi hz0 hz1 hz2 hz hS hsrc (by simp only [maxLen]; omega) (by have := Nat.mul_le_mul hn hby; omega)
  refine segS_act (v := v') (w' := w') (by unfold lookB; simp [ho]) (by simp [Region.wanted, hgd]) ?_ (h v' w' h2).1 (h v' w' h2).2
  unfold execOp
  simp only [ho, resolve, invoke, builtin, Sem.run_bind, Sem.run_pure, Result.andThen_ok, List.map_toArray, List.map_cons, List.map_nil, hs, hx, hr]
theorem segS_norm {ops : Array Oper} {l : List Oper} {a a0 : Act} {Q : Exit → Act → World → Prop} {w : World} {I : World → Prop} (hn : a = a0) (h : wpSegS Tryz.prog ops I Q l a0 w) : wpSegS Tryz.prog ops I Q l a w := by subst hn; exact h
def com0 : List Value := [.int .i64 0, num 0, num 0, num 0, .int .i64 0, .bool false]
set_option maxRecDepth 100000 in
set_option maxHeartbeats 4000000 in
theorem commit0 (w : World) (R : List HP) (m pb po pcap x st gb go gcap g pk psd d wk al : Nat) (c ps gl : List Value) (scan notes : Value) (sd : Bool) (iv : Value)
    (h7 : c[7]? = some (ptr st)) (h8 : c[8]? = some (.slice (some ⟨gb, go, none⟩) 1 gcap)) (h9 : c[9]? = some (.slice (some ⟨pb, po, none⟩) 2 pcap)) (h24 : c[24]? = some (.slice none 0 0))
    (hx : ps[po]? = some (ptr x)) (hg : gl[go]? = some (ptr g)) (hiv : iv = .agg #[num 0, num 0, num 0, num 0])
    (hS : Sw w (ptc x (procC 0 0 0 pk psd scan notes sd d wk al) 108 :: StatesR st [2] :: ptc m c 93 :: ptc pb ps 103 :: ptc gb gl 116 :: ptc g (gorC 0 0 0 (stack0 (num 0)) 0 0) 120 :: R)) :
    Calls Tryz.prog 128 #[ptr m, num 0, iv, .int .i64 0] w fun e w' => e = .returned (.agg #[.int .i64 1, .int .i64 0, .int .i64 0]) ∧ ∃ cv,
      Sw w' (ptc x (procC (-1) 1 0 pk psd scan notes sd d wk al) 108 :: StatesR st [5] :: ptc m (c.set 24 cv) 93 :: ptc pb ps 103 :: ptc gb gl 116 :: ptc g (gorC 0 1 0 (stack0 (num 0)) 0 0) 120 :: sl 76 6 cv 1 com0 :: R) := by
  subst hiv
  have h0 := ((((hS.allocc [ptr m] 27).allocc [num 0] 3).allocc [num 0, num 0, num 0, num 0] 113).allocc [.int .i64 0] 3).allocc [.int .i64 0, .int .i64 0, .int .i64 0] 71
  simp only [World.size_alloc] at h0
  have H0 := hid h0
  have HC := hid (And.intro h7 (And.intro h8 (And.intro h9 (And.intro h24 (And.intro hx hg)))))
  clear hS h0 h7 h8 h9 h24 hx hg
  go_enter Tryz.func128, Tryz.ntmps128
  repeat' (first | go_values | go_skip | go_guarded | go_step | go_upon | dsimp only)
  revert H0
  generalize World.alloc _ _ = w1
  generalize w.heap.size = n
  intro H0
  -- 4 m, 3 p, 2 inst, 1 addr, 0 event
  have h1 := H0.out
  -- 0 event, 1 addr, 2 inst, 3 p, 4 m', 5 x, 6 St, 7 m, 8 pb, 9 gb, 10 g
  have d0 := (h1 |>.front 4 rfl).cell 0 rfl
  have d1 := (h1 |>.front 3 rfl).cell 0 rfl
  have c9 := (h1 |>.front 7 rfl).cell 9 HC.out.2.2.1
  have r0 := (h1 |>.front 8 rfl).cell po HC.out.2.2.2.2.1
  have x0 := (h1 |>.front 5 rfl).cell 0 rfl
  have lx := (h1 |>.front 5 rfl).lt'
  have h2 := Sw.drew (h1.allocc [.int .i64 0] 3)
  clear H0 h1
  have H2 := hid h2
  clear h2
  repeat' (first | (go_big_may; (first | (with_reducible refine wp_region_seg mixed (by decide +kernel) ?_) | (refine seg_look (by rfl) (fun K hK => ?_); go_simp; refine hK _ ?_; clear hK K) | (refine seg_act (by rfl) (fun K hK => ?_); go_simp) | (refine seg_nil ?_))) | go_values | go_skip | go_guarded | go_step | go_upon | dsimp only)
  have h2 := H2.out
  clear d0 d1 c9 r0 x0 lx H2
  revert h2
  generalize w1.heap.size = n10
  generalize World.drew _ = w2
  intro h2
  have S3 := hid (show ∀ (w' : World) (R' : List HP), Sw w' (ptc n [ptr m] 27 :: ptc n10 [.int .i64 0] 3 :: ptc m c 93 :: ptc gb gl 116 :: R') → w'.cell? ⟨n, 0, none⟩ = some (ptr m) ∧ w'.cell? ⟨m, 8, none⟩ = some (.slice (some ⟨gb, go, none⟩) 1 gcap) ∧ w'.cell? ⟨n10, 0, none⟩ = some (.int .i64 0) ∧ w'.cell? ⟨gb, go, none⟩ = some (ptr g) from
    fun w' R' h => ⟨h.cell 0 rfl, (h |>.front 2 rfl).cell 8 HC.out.2.1, (h |>.front 1 rfl).cell 0 rfl, (h |>.front 3 rfl).cell go HC.out.2.2.2.2.2⟩)
  have C3 := hid (S3.out _ _ ((Sw.drew h2) |>.front 10 rfl |>.front 9 rfl |>.front 2 rfl |>.front 7 rfl))
  have h3 := Sw.drew (h2.allocc [.pointer none] 116)
  have C4 := hid (S3.out _ _ (h3 |>.front 11 rfl |>.front 10 rfl |>.front 3 rfl |>.front 8 rfl))
  have f3 := h3.frozen 0
  have l3 := h3.cell 0 rfl
  have h4 := Sw.drew (h2.allocc [ptr g] 116)
  have H4 := hid h4
  clear h2 h3 h4 S3
  repeat' (first | (go_big_may; (first | ((with_reducible refine wp_region_segS (fun w' => w'.cell? ⟨n, 0, none⟩ = some (ptr m) ∧ w'.cell? ⟨m, 8, none⟩ = some (.slice (some ⟨gb, go, none⟩) 1 gcap) ∧ w'.cell? ⟨n10, 0, none⟩ = some (.int .i64 0) ∧ w'.cell? ⟨gb, go, none⟩ = some (ptr g)) mixed (by decide +kernel) ?_ ?_); (focus (exact C3.out))) | ((with_reducible apply segS_lookN); (focus (rfl)); (focus (first | (go_simp; done) | (go_simp; exact rfl) | exact rfl)); (focus (rfl)); (focus (intro wq hq; obtain ⟨q0, q1, q2, q3⟩ := hq; go_simp; first | exact rfl | exact ⟨rfl, rfl⟩))) | ((with_reducible apply segS_callN); (focus (rfl)); (focus (first | (go_simp; done) | (go_simp; exact rfl) | exact rfl)); (focus (rfl)); (focus (go_simp; first | exact rfl | exact ⟨rfl, rfl⟩))) | (with_reducible refine segS_nil ?_) | (((with_reducible apply segS_actN); (focus (rfl)); (focus (first | (go_simp; done) | (go_simp; exact rfl) | exact rfl)); (focus (rfl)); (focus (go_simp; first | exact rfl | exact ⟨rfl, rfl⟩))); (focus (exact .inl C4.out))) | (((with_reducible apply segS_unitN); (focus (rfl)); (focus (first | (go_simp; done) | (go_simp; exact rfl) | exact rfl)); (focus (rfl)); (focus (go_simp; first | exact rfl | exact ⟨rfl, rfl⟩))); (focus (exact .inr rfl))))) | go_values | go_skip | go_guarded | go_step | go_upon | dsimp only)
  clear f3 l3 C3 C4
  have h4 := H4.out
  clear H4
  revert h4
  generalize w2.heap.size = n11
  generalize World.drew _ = w3
  intro h4
  -- 0 n11, 1 n10, 2 ev, 3 addr, 4 inst, 5 p, 6 m', 7 x, 8 St, 9 m, 10 pb, 11 gb, 12 g
  have S4 := hid (show ∀ (w' : World) (R' : List HP), Sw w' (ptc n11 [ptr g] 116 :: ptc n10 [.int .i64 0] 3 :: ptc g (gorC 0 0 0 (stack0 (num 0)) 0 0) 120 :: ptc (n + 1 + 1) [num 0, num 0, num 0, num 0] 113 :: R') → w'.cell? ⟨n10, 0, none⟩ = some (.int .i64 0) ∧ w'.cell? ⟨n11, 0, none⟩ = some (ptr g) ∧ w'.cell? ⟨g, 0, none⟩ = some (num 0) ∧ w'.cell? ⟨g, 1, none⟩ = some (num 0) ∧ w'.cell? ⟨n + 1 + 1, 0, none⟩ = some (num 0) from
    fun w' R' h => ⟨(h |>.front 1 rfl).cell 0 rfl, h.cell 0 rfl, (h |>.front 2 rfl).cell 0 rfl, (h |>.front 2 rfl).cell 1 rfl, (h |>.front 3 rfl).cell 0 rfl⟩)
  have C4 := hid (S4.out _ _ ((Sw.drew h4) |>.front 4 rfl |>.front 12 rfl |>.front 3 rfl |>.front 3 rfl))
  have h5 := Sw.drew (h4.allocc [.int .i64 0, .int .i64 0, .int .i64 0, .int .i64 0, .int .i64 0, .bool false] 76)
  have C5 := hid (S4.out _ _ (h5 |>.front 5 rfl |>.front 13 rfl |>.front 4 rfl |>.front 4 rfl))
  have f0 := h5.frozen 0
  have f1 := h5.frozen 1
  have f2 := h5.frozen 2
  have f3 := h5.frozen 3
  have f4 := h5.frozen 4
  have f5 := h5.frozen 5
  have h6 := Sw.drew (h4.allocc [.int .i64 0, num 0, num 0, num 0, .int .i64 0, .bool false] 76)
  have H6 := hid h6
  clear h4 h5 h6 S4
  repeat' (first | (go_big_may; (first | ((with_reducible refine wp_region_segS (fun w' => w'.cell? ⟨n10, 0, none⟩ = some (.int .i64 0) ∧ w'.cell? ⟨n11, 0, none⟩ = some (ptr g) ∧ w'.cell? ⟨g, 0, none⟩ = some (num 0) ∧ w'.cell? ⟨g, 1, none⟩ = some (num 0) ∧ w'.cell? ⟨n + 1 + 1, 0, none⟩ = some (num 0)) mixed (by decide +kernel) ?_ ?_); (focus (exact C4.out))) | ((with_reducible apply segS_lookN); (focus (rfl)); (focus (first | (go_simp; done) | (go_simp; exact rfl) | exact rfl)); (focus (rfl)); (focus (intro wq hq; obtain ⟨q0, q1, q2, q3, q4⟩ := hq; go_simp; first | exact rfl | exact ⟨rfl, rfl⟩))) | ((with_reducible apply segS_callN); (focus (rfl)); (focus (first | (go_simp; done) | (go_simp; exact rfl) | exact rfl)); (focus (rfl)); (focus (go_simp; first | exact rfl | exact ⟨rfl, rfl⟩))) | (((with_reducible apply segS_actN); (focus (rfl)); (focus (first | (go_simp; done) | (go_simp; exact rfl) | exact rfl)); (focus (rfl)); (focus (go_simp; first | exact rfl | exact ⟨rfl, rfl⟩))); (focus (exact .inl C5.out))) | (((with_reducible apply segS_unitN); (focus (rfl)); (focus (first | (go_simp; done) | (go_simp; exact rfl) | exact rfl)); (focus (rfl)); (focus (go_simp; first | exact rfl | exact ⟨rfl, rfl⟩))); (focus (exact .inr rfl))))) | go_values | go_skip | go_guarded | go_step | go_upon | dsimp only)
  refine segS_nil ?_
  clear f0 f1 f2 f3 f4 f5 C4 C5
  have h6 := H6.out
  clear H6
  revert h6
  generalize w3.heap.size = n12
  generalize World.drew _ = w4
  intro h6
  -- 0 n12, 1 n11, 2 n10, 3 ev, 4 addr, 5 inst, 6 p, 7 m', 8 x, 9 St, 10 m, 11 pb, 12 gb, 13 g
  have e11 := (h6 |>.front 1 rfl).cell 0 rfl
  have e10 := (h6 |>.front 2 rfl).cell 0 rfl
  have g1 := (h6 |>.front 13 rfl).cell 1 rfl
  have gf := (h6 |>.front 13 rfl).frozen 1
  have x1 := (h6 |>.front 8 rfl).cell 1 rfl
  have xf := (h6 |>.front 8 rfl).frozen 1
  have nxg := (h6 |>.front 13 rfl |>.front 9 rfl).ne
  have ngx : ¬ g = x := fun e => nxg e.symm
  have h7 := (h6 |>.front 13 rfl).set 1 (.int .i64 1)
  simp only [List.eraseIdx_cons_zero, List.eraseIdx_cons_succ] at h7
  -- 0 g, 1 n12, 2 n11, 3 n10, 4 ev, 5 addr, 6 inst, 7 p, 8 m', 9 x, 10 St, 11 m, 12 pb, 13 gb
  have h7 := ((h7 |>.front 9 rfl).set 1 (.int .i64 1)).allocc [.int .i64 2] 3
  simp only [List.eraseIdx_cons_zero, List.eraseIdx_cons_succ] at h7
  -- 0 n13, 1 x, 2 g, 3 n12, 4 n11, 5 n10, 6 ev, 7 addr, 8 inst, 9 p, 10 m', 11 St, 12 m, 13 pb, 14 gb
  have h7 := h7 |>.front 8 rfl |>.front 1 rfl
  simp only [List.eraseIdx_cons_zero, List.eraseIdx_cons_succ] at h7
  have hcx := commit1_exit _ _ n12 _ (n + 1 + 1) (n + 1 + 1 + 1) n11 n (n + 1) n10 _ _ rfl h7
  simp only [World.size_setCell] at hcx
  have Hcx := hid hcx
  have hmf : ∀ (fn : Fn) (first cap : Array Value) (w : World), (Instr.makeFunc fn first cap).run Tryz.prog w = .ok (.func fn first cap) w := fun _ _ _ _ => rfl
  clear h6 h7 hcx
  repeat' (first | (go_big_may; (first | go_at_call 206; refine Hcx.out.mono ?_; rintro e w5 ⟨rfl, h8⟩; have t0 := h8.cell 0 rfl; have H8 := hid h8; clear h8 g1 gf x1 xf nxg ngx e10 e11 Hcx)) | go_values | go_skip | go_guarded | go_step | go_upon | dsimp only)
  have h8 := H8.out
  clear t0 H8
  -- 0 n13, 1 inst, 2 x, 3 g, 4 n12, 5 n11, 6 n10, 7 ev, 8 addr, 9 p, 10 m', 11 St, 12 m, 13 pb, 14 gb
  have d10 := (h8 |>.front 10 rfl).cell 0 rfl
  have e10 := (h8 |>.front 6 rfl).cell 0 rfl
  have t0 := h8.cell 0 rfl
  have c7 := (h8 |>.front 12 rfl).cell 7 HC.out.1
  have hmv := states_move w5.drew _ st [2] 0 2 5 (by decide) (by decide) rfl rfl ((Sw.drew h8) |>.front 11 rfl)
  simp only [List.eraseIdx_cons_zero, List.eraseIdx_cons_succ] at hmv
  have Hmv := hid hmv
  clear hmv h8 hmf
  generalize w4.heap.size = n13 at *
  repeat' (first | (go_big_may; (first | (with_reducible refine wp_region_seg mixed (by decide +kernel) ?_) | (refine seg_look (by rfl) (fun K hK => ?_); go_simp; refine hK _ ?_; clear hK K) | (refine seg_act (by rfl) (fun K hK => ?_); go_simp) | (refine seg_nil ?_) | (go_at_call 67; refine Hmv.out.mono ?_; rintro e w6 ⟨rfl, h9⟩; have x0 := (h9 |>.front 3 rfl).cell 0 rfl; have xf := (h9 |>.front 3 rfl).frozen 0; have t1 := (h9 |>.front 1 rfl).cell 0 rfl; have nx := (h9 |>.front 3 rfl |>.front 2 rfl).ne; have H9 := hid h9; clear h9 d10 e10 t0 c7 Hmv))) | go_values | go_skip | go_guarded | go_step | go_upon | dsimp only)
  have h10 := (H9.out |>.front 3 rfl).set 0 (.int .i64 (-1))
  simp only [List.eraseIdx_cons_zero, List.eraseIdx_cons_succ] at h10
  clear x0 xf t1 nx H9
  revert h10
  generalize World.setCell _ _ _ = w7
  intro h10
  -- 0 x, 1 St', 2 n13, 3 inst, 4 g, 5 n12, 6 n11, 7 n10, 8 ev, 9 addr, 10 p, 11 m', 12 m, 13 pb, 14 gb
  have S14 := hid (show ∀ (w' : World) (R' : List HP), Sw w' (ptc n [ptr m] 27 :: ptc m c 93 :: ptc n12 com0 76 :: R') → w'.cell? ⟨n, 0, none⟩ = some (ptr m) ∧ w'.cell? ⟨m, 24, none⟩ = some (.slice none 0 0) ∧ w'.cell? ⟨n12, 0, none⟩ = some (.int .i64 0) ∧ w'.cell? ⟨n12, 1, none⟩ = some (num 0) ∧ w'.cell? ⟨n12, 2, none⟩ = some (num 0) ∧ w'.cell? ⟨n12, 3, none⟩ = some (num 0) ∧ w'.cell? ⟨n12, 4, none⟩ = some (.int .i64 0) ∧ w'.cell? ⟨n12, 5, none⟩ = some (.bool false) from
    fun w' R' h => ⟨h.cell 0 rfl, (h |>.front 1 rfl).cell 24 HC.out.2.2.2.1, (h |>.front 2 rfl).cell 0 rfl, (h |>.front 2 rfl).cell 1 rfl, (h |>.front 2 rfl).cell 2 rfl, (h |>.front 2 rfl).cell 3 rfl, (h |>.front 2 rfl).cell 4 rfl, (h |>.front 2 rfl).cell 5 rfl⟩)
  have C14 := hid (S14.out _ _ ((Sw.drew h10) |>.front 5 rfl |>.front 12 rfl |>.front 12 rfl))
  have h11 := Sw.drew (h10.allocc com0 76)
  have C15 := hid (S14.out _ _ (h11 |>.front 6 rfl |>.front 13 rfl |>.front 13 rfl))
  have e10 := (h10 |>.front 7 rfl).cell 0 rfl
  have H11 := hid h11
  clear h10 h11
  repeat' (first | (go_big_may; (first | ((with_reducible refine wp_region_segS (fun w' => w'.cell? ⟨n, 0, none⟩ = some (ptr m) ∧ w'.cell? ⟨m, 24, none⟩ = some (.slice none 0 0) ∧ w'.cell? ⟨n12, 0, none⟩ = some (.int .i64 0) ∧ w'.cell? ⟨n12, 1, none⟩ = some (num 0) ∧ w'.cell? ⟨n12, 2, none⟩ = some (num 0) ∧ w'.cell? ⟨n12, 3, none⟩ = some (num 0) ∧ w'.cell? ⟨n12, 4, none⟩ = some (.int .i64 0) ∧ w'.cell? ⟨n12, 5, none⟩ = some (.bool false)) mixed (by decide +kernel) ?_ ?_); (focus (exact C14.out))) | ((with_reducible apply segS_lookN); (focus (rfl)); (focus (first | (go_simp; done) | (go_simp; exact rfl) | exact rfl)); (focus (rfl)); (focus (intro wq hq; obtain ⟨q0, q1, q2, q3, q4, q5, q6, q7⟩ := hq; go_simp; first | exact rfl | exact ⟨rfl, rfl⟩))) | ((with_reducible apply segS_callN); (focus (rfl)); (focus (first | (go_simp; done) | (go_simp; exact rfl) | exact rfl)); (focus (rfl)); (focus (go_simp; first | exact rfl | exact ⟨rfl, rfl⟩))))) | go_values | go_skip | go_guarded | go_step | go_upon | dsimp only)
  ((with_reducible apply segS_actN); (focus (rfl)); (focus (first | (go_simp; done) | (go_simp; exact rfl) | exact rfl)); (focus (rfl)); (focus (go_simp; first | exact rfl | exact ⟨rfl, rfl⟩)))
  focus exact .inl C15.out
  with_reducible apply segS_norm
  (focus (first | (go_simp; done) | (go_simp; exact rfl) | exact rfl))
  refine segS_append_sl 76 91 _ 6 48 (by decide) Tryz.underlying91 info_commit rfl rfl (.tmp 85) (.tmp 87) rfl (.slice none 0 0) 0 [] _ rfl (H11.out.sl_nil none) _ 1 com0 rfl (Src.drew (Src.freshN w7 com0 76 (by decide))) (by omega) ?_
  intro v8 w8 h12
  simp only [Nat.zero_add, List.nil_append] at h12
  obtain ⟨a8, cap8, rfl⟩ := h12.sl_val
  have C16 := hid (S14.out _ _ (h12 |>.front 7 rfl |>.front 14 rfl |>.front 14 rfl))
  have c24 := (h12 |>.front 14 rfl).cell 24 HC.out.2.2.2.1
  have cf := (h12 |>.front 14 rfl).frozen 24
  have h13 := (h12 |>.front 14 rfl).set 24 (.slice a8 1 cap8)
  simp only [List.eraseIdx_cons_zero, List.eraseIdx_cons_succ] at h13
  have H13 := hid h13
  clear h12 h13 H11 C14 C15 S14
  refine ⟨.inl C16.out, ?_⟩
  repeat' (first | (go_big_may; (first | ((with_reducible apply segS_lookN); (focus (rfl)); (focus (first | (go_simp; done) | (go_simp; exact rfl) | exact rfl)); (focus (rfl)); (focus (intro wq hq; obtain ⟨q0, q1, q2, q3, q4, q5, q6, q7⟩ := hq; go_simp; first | exact rfl | exact ⟨rfl, rfl⟩))) | ((with_reducible apply segS_callN); (focus (rfl)); (focus (first | (go_simp; done) | (go_simp; exact rfl) | exact rfl)); (focus (rfl)); (focus (go_simp; first | exact rfl | exact ⟨rfl, rfl⟩))))) | go_values | go_skip | go_guarded | go_step | go_upon | dsimp only)
  ((with_reducible apply segS_unitN); (focus (rfl)); (focus (first | (go_simp; done) | (go_simp; exact rfl) | exact rfl)); (focus (rfl)); (focus (go_simp; first | exact rfl | exact ⟨rfl, rfl⟩)))
  focus exact .inr rfl
  refine segS_nil ?_
  have h13 := H13.out
  clear e10 c24 cf C16 H13
  revert h13
  generalize World.setCell _ _ _ = w9
  intro h13
  -- 0 m, 1 sl, 2 blk, 3 x, 4 St', 5 n13, 6 inst, 7 g, 8 n12, 9 n11, 10 n10, 11 ev, 12 addr, 13 p, 14 m', 15 pb, 16 gb
  have e10 := (h13 |>.front 10 rfl).cell 0 rfl
  have H13 := hid h13
  clear h13
  repeat' (first | go_values | go_skip | go_guarded | go_step | go_upon | dsimp only)
  refine (event_any 1 0 _).mono ?_
  rintro e w10 ⟨rfl, hb⟩
  have h14 := H13.out.of_below hb
  have he := h14 |>.front 11 rfl
  simp only [List.eraseIdx_cons_zero, List.eraseIdx_cons_succ] at he
  have c0 := he.cell 0 rfl
  have c1 := he.cell 1 rfl
  have c2 := he.cell 2 rfl
  have f0 := he.frozen 0
  have f1 := he.frozen 1
  have f2 := he.frozen 2
  have h15 := ((he.set 0 (.int .i64 1)).set 1 (.int .i64 0)).set 2 (.int .i64 0)
  have H15 := hid h15
  clear h14 he hb h15
  repeat' (first | go_values | go_skip | go_guarded | go_step | go_upon | dsimp only)
  have h15 := H15.out
  -- 0 ev, 1 m, 2 sl, 3 blk, 4 x, 5 St', 6 n13, 7 inst, 8 g, 9 n12, 10 n11, 11 n10, 12 addr, 13 p, 14 m', 15 pb, 16 gb
  have h16 := h15 |>.front 2 rfl |>.front 8 rfl |>.front 16 rfl |>.front 16 rfl |>.front 5 rfl |>.front 8 rfl |>.front 8 rfl |>.front 16 rfl |>.front 16 rfl |>.front 16 rfl |>.front 16 rfl |>.front 16 rfl |>.front 16 rfl |>.front 16 rfl |>.front 16 rfl |>.front 16 rfl |>.front 16 rfl
  simp only [List.eraseIdx_cons_zero, List.eraseIdx_cons_succ] at h16
  exact bodyPost_ret (results_cell_row rfl _ _ (n + 1 + 1 + 1 + 1) 71 _ (0, 0) _ rfl h15.row Tryz.underlying71 rfl (by kernel_rfl)) rfl ⟨rfl, _, h16.tail.tail.tail.tail.tail.tail.tail.tail.tail.tail⟩
end Go.Proofs.YtfddmbafjniflaaGreatDoor
