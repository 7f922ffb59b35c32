/-
  Package sched.
-/
import Derived.Test.YtfddmbafjniflaaGreatDoorRing
namespace Go.Proofs.YtfddmbafjniflaaGreatDoor
open Go Go.RowKit
abbrev ptr (b : Nat) : Value := .pointer (some ⟨b, 0, none⟩)
/-- Appending to a slice of elements of one cell. -/
theorem append_any {ops : Array Oper} {rest : List Oper} {o : Oper} {a : Act} {Q : Exit → Act → World → Prop} {w : World} (E S : TypeId) (z : Value) (bytes : Nat) (hby : bytes ≤ 64) (hu : Tryz.prog.underlying S = some (.slice E))
    (hinfo : (Tryz.prog.info? E).map (fun i => (i.zero, i.size, i.bytes)) = some (some z, 1, bytes)) (hz : z.cells.size = 1) (hgd : o.guard = none) (s x : Operand)
    (ho : o.op = .call { callee := .builtin .append, args := #[s, x], argTypes := #[S, S] })
    (v : Value) (n : Nat) (xs : List Value) (R : List HP) (hs : a.eval s = v) (hS : Sw w (sl E 1 v n xs :: R))
    (xv : Value) (m : Nat) (news : List Value) (hx : a.eval x = xv) (hsrc : Src w 1 xv m news) (hn : n + m ≤ 16777216)
    (h : ∀ v' w', Sw w' (sl E 1 v' (n + m) (xs ++ news) :: R) → wpList Tryz.prog ops Q rest (a.put o.dst v') w') : wpList Tryz.prog ops Q (o :: rest) a w := by
  obtain ⟨i0, hi, hz0, hz1, hz2⟩ := info_parts hinfo
  exact wpList_append_sl hgd s x S ho E i0 z 1 bytes hu hi hz0 hz1 hz2 hz v n xs R hs hS xv m news hx hsrc (by simp only [maxLen]; omega) (by have := Nat.mul_le_mul hn hby; omega) h
/-- The same in a region that draws. -/
theorem segS_append {ops : Array Oper} {rest : List Oper} {o : Oper} {a : Act} {Q : Exit → Act → World → Prop} {w : World} {I : World → Prop} (E S : TypeId) (z : Value) (bytes : Nat) (hby : bytes ≤ 64) (hu : Tryz.prog.underlying S = some (.slice E))
    (hinfo : (Tryz.prog.info? E).map (fun i => (i.zero, i.size, i.bytes)) = some (some z, 1, bytes)) (hz : z.cells.size = 1) (hgd : o.guard = none) (s x : Operand)
    (ho : o.op = .call { callee := .builtin .append, args := #[s, x], argTypes := #[S, S] })
    (v : Value) (n : Nat) (xs : List Value) (R : List HP) (hs : a.eval s = v) (hS : Sw w (sl E 1 v n xs :: R))
    (xv : Value) (m : Nat) (news : List Value) (hx : a.eval x = xv) (hsrc : Src w 1 xv m news) (hn : n + m ≤ 16777216)
    (h : ∀ v' w', Sw w' (sl E 1 v' (n + m) (xs ++ news) :: R) → (I w' ∨ rest = []) ∧ wpSegS Tryz.prog ops I Q rest (a.put o.dst v') w') : wpSegS Tryz.prog ops I Q (o :: rest) a w := by
  obtain ⟨i0, hi, hz0, hz1, hz2⟩ := info_parts hinfo
  obtain ⟨v', w', hr, h2⟩ := run_append_sl (P := Tryz.prog) (w := w) S o.type E i0 z 1 bytes hu hi hz0 hz1 hz2 hz hS hsrc (by simp only [maxLen]; omega) (by have := Nat.mul_le_mul hn hby; omega)
  refine segS_act (v := v') (w' := w') (by unfold lookB; simp [ho]) (by simp [Region.wanted, hgd]) ?_ (h v' w' h2).1 (h v' w' h2).2
  unfold execOp
  simp only [ho, resolve, invoke, builtin, Sem.run_bind, Sem.run_pure, Result.andThen_ok, List.map_toArray, List.map_cons, List.map_nil, hs, hx, hr]
def rings (ps : List Nat) (rs : List (List Nat)) : HP := star (List.zipWith (fun p q => RingR p q none) ps rs)
def SchedR (b : Nat) (rs : List (List Nat)) (cm : List Nat) : HP := ex fun x : Value × List Nat × Nat =>
  star [lift (x.2.1.length = rs.length), ptc b [x.1, ptr x.2.2] 163, sl 164 1 x.1 rs.length (x.2.1.map ptr), QueueR x.2.2 cm, rings x.2.1 rs]
section
variable {w : World} {b : Nat} {rs : List (List Nat)} {cm : List Nat} {R : List HP} {ps : List Nat}
theorem SchedR.open_ (h : Sw w (SchedR b rs cm :: R)) : ∃ v ps c, ps.length = rs.length ∧ Sw w (ptc b [v, ptr c] 163 :: sl 164 1 v rs.length (ps.map ptr) :: QueueR c cm :: rings ps rs :: R) := by
  obtain ⟨⟨v, ps, c⟩, h⟩ := Sw.ex.1 h
  obtain ⟨h3, h4⟩ := Sw.lift.1 h.open_star
  exact ⟨v, ps, c, h3, h4⟩
theorem SchedR.close {v : Value} {c : Nat} (hl : ps.length = rs.length) (h : Sw w (ptc b [v, ptr c] 163 :: sl 164 1 v rs.length (ps.map ptr) :: QueueR c cm :: rings ps rs :: R)) : Sw w (SchedR b rs cm :: R) :=
  Sw.ex.2 ⟨(v, ps, c), Sw.pack (ps := [_, _, _, _, _]) (Sw.lift.2 ⟨hl, h⟩)⟩
theorem Sw.cons {P : HP} {l l' : List HP} (hh : ∀ H, Sat (World.env w) H l → Sat (World.env w) H l') (h : Sw w (P :: l)) : Sw w (P :: l') := Sat.cons hh h
/-- One of them ahead. -/
theorem star_front {l : List HP} {i : Nat} {P : HP} (hi : l[i]? = some P) (h : Sw w (star l :: R)) : Sw w (P :: star (l.eraseIdx i) :: R) := by
  have h2 : Sw w (P :: (l.eraseIdx i ++ R)) := h.open_star.perm (by
    have := (perm_front l i P hi).append_right R
    simpa using this)
  exact h2.cons fun _ h => h.close_star
theorem star_back {l : List HP} {i : Nat} {P : HP} (hi : i < l.length) (h : Sw w (P :: star (l.eraseIdx i) :: R)) : Sw w (star (l.set i P) :: R) := by
  have h2 : Sw w (P :: (l.eraseIdx i ++ R)) := h.cons fun _ h => h.open_star
  have h3 := perm_front (l.set i P) i P (by simp [hi])
  rw [set_eraseIdx] at h3
  exact Sw.close_star (h2.perm (by simpa using (h3.append_right R).symm))
theorem zip_set {α β γ : Type _} (f : α → β → γ) : ∀ (us : List α) (vs : List β) (i : Nat) (a : α) (b : β), us[i]? = some a → (List.zipWith f us vs).set i (f a b) = List.zipWith f us (vs.set i b)
  | [], _, _, _, _, h => by simp at h
  | _ :: _, [], _, _, _, _ => by simp
  | x :: us, y :: vs, 0, a, b, h => by simp at h; subst h; rfl
  | x :: us, y :: vs, i + 1, a, b, h => by
    simp only [List.getElem?_cons_succ] at h
    simp [zip_set f us vs i a b h]
theorem set_same {α : Type _} {l : List α} {i : Nat} {x : α} (h : l[i]? = some x) : l.set i x = l := by
  apply List.ext_getElem?
  intro k
  rw [List.getElem?_set]
  split
  · rename_i e; subst e; rw [h]; simp [(List.getElem?_eq_some_iff.1 h).1]
  · rfl
theorem rings_front {p r : Nat} {q : List Nat} (hp : ps[p]? = some r) (hq : rs[p]? = some q) (h : Sw w (rings ps rs :: R)) : Sw w (RingR r q none :: star ((List.zipWith (fun p q => RingR p q none) ps rs).eraseIdx p) :: R) :=
  star_front (by rw [List.getElem?_zipWith, hp, hq]) h
theorem rings_back {p r : Nat} {q : List Nat} (hp : ps[p]? = some r) (hl : p < rs.length) (h : Sw w (RingR r q none :: star ((List.zipWith (fun p q => RingR p q none) ps rs).eraseIdx p) :: R)) : Sw w (rings ps (rs.set p q) :: R) := by
  have hlp := (List.getElem?_eq_some_iff.1 hp).1
  have := star_back (i := p) (by simp; omega) h
  rw [zip_set (fun p q => RingR p q none) ps rs p r q hp] at this
  exact this
/-- One more at the end. -/
theorem rings_more {r : Nat} {q : List Nat} (hl : ps.length = rs.length) (h : Sw w (RingR r q none :: rings ps rs :: R)) : Sw w (rings (ps ++ [r]) (rs ++ [q]) :: R) := by
  unfold rings
  rw [List.zipWith_append hl]
  have h2 : Sw w (RingR r q none :: (List.zipWith (fun p q => RingR p q none) ps rs ++ R)) := h.cons fun _ h => h.open_star
  refine Sw.close_star (h2.perm ?_)
  simp only [List.zipWith_cons_cons, List.zipWith_nil_left, List.append_assoc, List.singleton_append]
  exact List.perm_middle.symm
end
set_option maxRecDepth 100000 in
set_option maxHeartbeats 1000000 in
theorem sched_new (w : World) (R : List HP) (n : Nat) (h1 : 1 ≤ n) (h2 : n ≤ 64) (hS : Sw w R) :
    Calls Tryz.prog 27 #[.int .i64 n] w fun e w' => ∃ b, e = .returned (.tuple #[ptr b, .int .i64 0]) ∧ Sw w' (SchedR b (List.replicate n []) [] :: R) := by
  have hq := queue_new w R hS
  have Hq := hid hq
  have i1 : ¬ (n : Int) < 1 := by omega
  have i2 : ¬ 64 < (n : Int) := by omega
  have i3 : (n : Int) ≤ 64 := by omega
  clear hS hq h1
  go_enter Tryz.func27, Tryz.ntmps27
  go_wp2_with (first | (go_at_call 83; refine Hq.out.mono ?_; rintro e w1 ⟨c, rfl, h1⟩; have H1 := hid (h1.allocc [.slice none 0 0, ptr c] 163); clear h1) | (with_reducible refine wp_region_segP mixed (by decide +kernel) ?_) | (apply segP_pure (by rfl) (by rfl); focus (intro w1; go_simp; first | exact rfl | exact ⟨rfl, rfl⟩)) | (apply segP_look (by rfl) (by rfl) (by rfl); focus (go_simp; first | exact rfl | exact ⟨rfl, rfl⟩)) | (apply segP_act (by rfl) (by rfl) (by rfl); focus (go_simp; first | exact rfl | exact ⟨rfl, rfl⟩)) | (apply segP_unit (by rfl) (by rfl) (by rfl); focus (go_simp; first | exact rfl | exact ⟨rfl, rfl⟩)) | (refine segP_nil ?_))
  go_loopw [15] (fun v15 wr => ∃ i : Nat, i ≤ n ∧ v15 = num i ∧ Sw wr (SchedR w1.heap.size (List.replicate i []) [] :: R)) (fun v15 wr => below_ n v15)
  case atStart =>
    refine ⟨0, Nat.zero_le _, rfl, SchedR.close (v := .slice none 0 0) (c := c) (ps := []) rfl ?_⟩
    have h := H1.out
    have h2 : Sw _ (rings [] [] :: _) := Sw.close_star (ps := []) h
    exact ((h2.sl_nil none).front 3 rfl |>.front 1 rfl |>.front 3 rfl)
  obtain ⟨i, hi, rfl, hI⟩ := hrel
  rcases Nat.lt_or_ge i n with hlt | hge
  · have hlt' : (i : Int) < n := by omega
    have Hlt := hid hlt
    obtain ⟨v, ps, c', hpl, hI⟩ := SchedR.open_ hI
    rw [List.length_replicate] at hI hpl
    obtain ⟨a, cap, rfl⟩ := hI.tail.sl_val
    have c0 := hI.cell 0 rfl
    have HI := hid hI
    have hr := ring_new wr.drew _ (Sw.drew hI)
    have Hr := hid hr
    have hle : i + 1 ≤ 16777216 := by omega
    have z1 : (Tryz.prog.info? 164).map (fun i => (i.zero, i.size, i.bytes)) = some (some (.pointer none), 1, 8) := by kernel_rfl
    have Z1 := hid z1
    clear hI hi hlt hr z1
    go_wp2_with (first | (refine wp_region_segS (fun w' => w'.cell? ⟨w1.heap.size, 0, none⟩ = some (.slice a i cap)) mixed (by decide +kernel) c0 ?_) | (apply segS_look (by rfl) (by rfl); focus (intro wq hq; (try dsimp only at hq); go_simp; first | exact rfl | exact ⟨rfl, rfl⟩)) | (apply segS_call (by rfl) (by rfl); focus (go_simp; first | exact rfl | exact ⟨rfl, rfl⟩)))
    refine Hr.out.mono ?_
    rintro e w2 ⟨r, rfl, h1⟩
    refine ⟨_, rfl, h1.tail.cell 0 rfl, ?_⟩
    apply segS_act (by rfl) (by rfl)
    focus (go_simp; first | exact rfl | exact ⟨rfl, rfl⟩)
    focus exact .inl ((h1.after_alloc _).tail.cell 0 rfl)
    refine segS_append 164 161 (.pointer none) 8 (by decide) Tryz.underlying161 Z1.out rfl rfl (.tmp 21) (.tmp 23) rfl _ _ _ _ rfl ((h1.after_alloc _).front 2 rfl) _ 1 [ptr r] rfl (Src.fresh1 _ _ _ rfl) hle ?_
    intro v3 w3 h3
    have c3 := h3.front 2 rfl |>.cell 0 rfl
    have f3 := h3.front 2 rfl |>.frozen 0
    refine ⟨.inl c3, ?_⟩
    obtain ⟨a3, cap3, rfl⟩ := h3.sl_val
    have H3 := hid h3
    clear h3 h1
    go_wp2_with (first | (apply segS_look (by rfl) (by rfl); focus (intro wq hq; (try dsimp only at hq); go_simp; first | exact rfl | exact ⟨rfl, rfl⟩)))
    (first | (apply segS_act (by rfl) (by rfl); focus (go_simp; first | exact rfl | exact ⟨rfl, rfl⟩)) | (apply segS_unit (by rfl) (by rfl); focus (go_simp; first | exact rfl | exact ⟨rfl, rfl⟩)))
    focus exact .inr rfl
    refine segS_nil ?_
    go_wp2
    go_roundw
    case rel =>
      refine ⟨i + 1, Hlt.out, rfl, SchedR.close (v := .slice a3 (i + 1) cap3) (c := c') (ps := ps ++ [r]) (by simp [hpl]) ?_⟩
      have h4 := ((H3.out.front 2 rfl).set 0 (.slice a3 (i + 1) cap3))
      have h5 := rings_more (by simp [hpl]) ((h4.front 4 rfl).front 3 rfl)
      rw [← List.replicate_succ'] at h5
      rw [List.length_replicate, List.map_append]
      exact h5.front 3 rfl |>.front 3 rfl |>.front 3 rfl
    case measure => have := Hlt.out; simp [below_]; omega
  · have : i = n := by omega
    subst this
    have hlt' : ¬ (i : Int) < i := by omega
    have HI := hid hI
    clear hI hi hge
    go_wp2
    go_ret2
    exact ⟨_, rfl, HI.out⟩
set_option maxRecDepth 100000 in
set_option maxHeartbeats 400000 in
theorem sched_has (w : World) (b n : Nat) (v _a : Value) (p : Nat) (hp : p < n) (hn : n ≤ 64) (c0 : w.cell? ⟨b, 0, none⟩ = some v) (hv : ∃ a cap, v = .slice a n cap) :
    Calls Tryz.prog 108 #[ptr b, .int .i64 p] w fun e w' => e = .returned (.bool true) ∧ w' = w := by
  obtain ⟨a, cap, rfl⟩ := hv
  have i1 : (p : Int) < n := by omega
  have i2 : (n : Int) ≤ 64 := by omega
  clear hp hn
  go_enter Tryz.func108, Tryz.ntmps108
  go_wp2
  go_ret
  exact ⟨rfl, rfl⟩
set_option maxRecDepth 100000 in
set_option maxHeartbeats 400000 in
theorem sched_has_not (w : World) (b n : Nat) (v _a : Value) (p : Int) (hp : p < 0 ∨ n ≤ p) (hn : n ≤ 64) (c0 : w.cell? ⟨b, 0, none⟩ = some v) (hv : ∃ a cap, v = .slice a n cap) :
    Calls Tryz.prog 108 #[ptr b, .int .i64 p] w fun e w' => e = .returned (.bool false) ∧ w' = w := by
  obtain ⟨a, cap, rfl⟩ := hv
  have i2 : (n : Int) ≤ 64 := by omega
  rcases Int.lt_or_le p 0 with h0 | h0
  · have i3 : ¬ 0 ≤ p := by omega
    clear hp hn
    go_enter Tryz.func108, Tryz.ntmps108
    go_wp2
    go_ret
    exact ⟨rfl, rfl⟩
  · have i1 : ¬ p < (n : Int) := by omega
    clear hp hn
    go_enter Tryz.func108, Tryz.ntmps108
    go_wp2
    go_ret
    exact ⟨rfl, rfl⟩
-- A P's row.
set_option maxRecDepth 100000 in
set_option maxHeartbeats 400000 in
theorem sched_local (w : World) (R : List HP) (b p : Nat) (rs : List (List Nat)) (cm q : List Nat) (hp : rs[p]? = some q) (hn : rs.length ≤ 64) (hS : Sw w (SchedR b rs cm :: R)) :
    Calls Tryz.prog 124 #[ptr b, .int .i64 p] w fun e w' => ∃ v, e = .returned v ∧ Sw w' (ints v q :: SchedR b rs cm :: R) := by
  obtain ⟨hlt, hq⟩ := List.getElem?_eq_some_iff.1 hp
  obtain ⟨v, ps, c, hpl, h⟩ := SchedR.open_ hS
  obtain ⟨r, hr⟩ : ∃ r, ps[p]? = some r := ⟨_, List.getElem?_eq_getElem (by omega)⟩
  have hf := rings_front hr hp (h.front 3 rfl)
  have hall := ring_all w _ r q hf
  obtain ⟨sb, o, cap, cs, rfl, _, _, _, _, h2, hc⟩ := sl_row h.tail (by omega)
  have hhas := sched_has w b rs.length _ (num 0) p hlt hn (h.cell 0 rfl) ⟨_, _, rfl⟩
  have c0 := h.cell 0 rfl
  have c1 : w.cell? ⟨sb, o + p, none⟩ = some (ptr r) := h2.cell (o + p) (by rw [hc p hlt]; simp [hr])
  have i1 : (p : Int) < rs.length := by omega
  have Hall := hid hall
  have Hhas := hid hhas
  have Hp := hid hp
  have Hr := hid hr
  have Hpl := hid hpl
  clear hS h hf hall hhas h2 hc hq hp hr
  go_enter Tryz.func124, Tryz.ntmps124
  go_wp2_with (first | (go_at_call 108; refine Hhas.out.mono ?_; rintro e w1 ⟨rfl, rfl⟩) | (go_at_call 91; refine Hall.out.mono ?_; rintro e w1 ⟨v1, rfl, h1⟩; have H1 := hid h1; clear h1) | (with_reducible refine wp_region_segP mixed (by decide +kernel) ?_) | (apply segP_pure (by rfl) (by rfl); focus (intro w1; go_simp; first | exact rfl | exact ⟨rfl, rfl⟩)) | (apply segP_look (by rfl) (by rfl) (by rfl); focus (go_simp; first | exact rfl | exact ⟨rfl, rfl⟩)) | (apply segP_act (by rfl) (by rfl) (by rfl); focus (go_simp; first | exact rfl | exact ⟨rfl, rfl⟩)) | (apply segP_unit (by rfl) (by rfl) (by rfl); focus (go_simp; first | exact rfl | exact ⟨rfl, rfl⟩)) | (refine segP_nil ?_))
  go_ret
  refine ⟨_, rfl, ?_⟩
  have h4 := rings_back Hr.out hlt (H1.out |>.front 5 rfl |>.front 5 rfl |>.front 5 rfl |>.front 3 rfl |>.front 5 rfl |>.front 5 rfl)
  rw [set_same Hp.out] at h4
  exact (SchedR.close Hpl.out (h4 |>.front 1 rfl |>.front 1 rfl |>.front 4 rfl |>.front 4 rfl |>.front 4 rfl)).front 1 rfl
set_option maxRecDepth 100000 in
set_option maxHeartbeats 400000 in
theorem sched_common (w : World) (R : List HP) (b : Nat) (rs : List (List Nat)) (cm : List Nat) (hn : cm.length ≤ 16777216) (hS : Sw w (SchedR b rs cm :: R)) :
    Calls Tryz.prog 125 #[ptr b] w fun e w' => ∃ v, e = .returned v ∧ Sw w' (ints v cm :: SchedR b rs cm :: R) := by
  obtain ⟨v, ps, c, hpl, h⟩ := SchedR.open_ hS
  have hall := queue_all w _ c cm hn (h.front 2 rfl)
  have c0 := h.cell 1 rfl
  have Hall := hid hall
  clear hS h hall
  go_enter Tryz.func125, Tryz.ntmps125
  go_wp2_with (first | (go_at_call 92; refine Hall.out.mono ?_; rintro e w1 ⟨v1, rfl, h1⟩; have H1 := hid h1; clear h1) | (with_reducible refine wp_region_segP mixed (by decide +kernel) ?_) | (apply segP_pure (by rfl) (by rfl); focus (intro w1; go_simp; first | exact rfl | exact ⟨rfl, rfl⟩)) | (apply segP_look (by rfl) (by rfl) (by rfl); focus (go_simp; first | exact rfl | exact ⟨rfl, rfl⟩)) | (apply segP_act (by rfl) (by rfl) (by rfl); focus (go_simp; first | exact rfl | exact ⟨rfl, rfl⟩)) | (apply segP_unit (by rfl) (by rfl) (by rfl); focus (go_simp; first | exact rfl | exact ⟨rfl, rfl⟩)) | (refine segP_nil ?_))
  go_ret
  refine ⟨_, rfl, ?_⟩
  exact (SchedR.close hpl (H1.out |>.front 4 rfl |>.front 2 rfl |>.front 4 rfl |>.front 4 rfl)).front 1 rfl
-- A goroutine into a P's row.
set_option maxRecDepth 100000 in
set_option maxHeartbeats 1000000 in
theorem sched_ready (w : World) (R : List HP) (b p g : Nat) (rs : List (List Nat)) (cm q : List Nat) (hp : rs[p]? = some q) (hn : rs.length ≤ 64) (hq : q.length < 256) (hcm : cm.length ≤ 1024) (hS : Sw w (SchedR b rs cm :: R)) :
    Calls Tryz.prog 68 #[ptr b, .int .i64 p, .int .i64 g, .bool false] w fun e w' => e = .returned (.int .i64 0) ∧ Sw w' (SchedR b (rs.set p (q ++ [g])) cm :: R) := by
  obtain ⟨hlt, _⟩ := List.getElem?_eq_some_iff.1 hp
  obtain ⟨v, ps, c, hpl, h⟩ := SchedR.open_ hS
  obtain ⟨r, hr⟩ : ∃ r, ps[p]? = some r := ⟨_, List.getElem?_eq_getElem (by omega)⟩
  obtain ⟨sb, o, cap, cs, rfl, k1, k2, k3, k4, h2, hc⟩ := sl_row (h.front 1 rfl) (by omega)
  have hsc : cs[o + p]? = some (ptr r) := by rw [hc p hlt]; simp [hr]
  have hf := rings_front hr hp (h2 |>.front 2 rfl |>.front 2 rfl |>.front 2 rfl |>.front 3 rfl)
  have hput := ring_put w.drew _ r q none g hq (Sw.drew hf)
  have hhas := sched_has w b rs.length _ (num 0) p hlt hn (h.cell 0 rfl) ⟨_, _, rfl⟩
  have c0 := h.cell 0 rfl
  have c1 := h.cell 1 rfl
  have c2 : w.cell? ⟨sb, o + p, none⟩ = some (ptr r) := h2.cell (o + p) hsc
  have i1 : (p : Int) < rs.length := by omega
  have Hput := hid hput
  have Hhas := hid hhas
  have Hp := hid hp
  have Hr := hid hr
  have Hpl := hid hpl
  have C := hid (show _ ∧ _ ∧ _ from ⟨c0, c1, c2⟩)
  have Hsc := hid hsc
  clear hS h hf hput hhas h2 hc hp hr hsc
  go_enter Tryz.func68, Tryz.ntmps68
  go_wp2_with (first | (go_at_call 108; refine Hhas.out.mono ?_; rintro e w1 ⟨rfl, rfl⟩) | (refine wp_region_segS (fun w' => w'.cell? ⟨b, 0, none⟩ = some (.slice (some ⟨sb, o, none⟩) rs.length cap) ∧ w'.cell? ⟨b, 1, none⟩ = some (ptr c) ∧ w'.cell? ⟨sb, o + p, none⟩ = some (ptr r)) mixed (by decide +kernel) C.out ?_) | (apply segS_look (by rfl) (by rfl); focus (intro wq hq; obtain ⟨q0, q1, q2⟩ := hq; go_simp; first | exact rfl | exact ⟨rfl, rfl⟩)) | (apply segS_call (by rfl) (by rfl); focus (go_simp; first | exact rfl | exact ⟨rfl, rfl⟩)))
  refine Hput.out.mono ?_
  rintro e w2 ⟨rfl, h3⟩
  refine ⟨_, rfl, ⟨(h3 |>.front 2 rfl |>.front 2 rfl |>.front 2 rfl |>.front 3 rfl).cell 0 rfl, (h3 |>.front 2 rfl |>.front 2 rfl |>.front 2 rfl |>.front 3 rfl).cell 1 rfl, (h3 |>.front 1 rfl |>.front 1 rfl |>.front 2 rfl).cell (o + p) Hsc.out⟩, ?_⟩
  have hqp := queue_put w2 _ c cm (.slice none 0 0) [] (by simp; omega) (((h3 |>.front 3 rfl |>.front 3 rfl |>.front 3 rfl |>.front 3 rfl |>.front 4 rfl).sl_nil (E := 3) (sz := 1) none).front 1 rfl)
  have Hqp := hid hqp
  clear hqp h3
  apply segS_call (by rfl) (by rfl)
  focus (go_simp; first | exact rfl | exact ⟨rfl, rfl⟩)
  refine Hqp.out.mono ?_
  rintro e w3 ⟨rfl, h4⟩
  refine ⟨_, rfl, .inr rfl, ?_⟩
  have H4 := hid h4
  clear h4
  refine segS_nil ?_
  go_wp2
  go_ret
  refine ⟨rfl, ?_⟩
  have h5 := H4.out |>.front 1 rfl |>.front 1 rfl |>.front 5 rfl |>.front 5 rfl |>.front 5 rfl |>.front 5 rfl
  have h6 := rings_back Hr.out hlt h5
  have h7 := Sw.sl_close (E := 164) (sz := 1) (n := rs.length) k1 k2 k3 (h6 |>.front 1 rfl)
  rw [k4, List.append_nil] at h7
  refine SchedR.close (v := .slice (some ⟨sb, o, none⟩) rs.length cap) (c := c) (ps := ps) (by rw [Hpl.out, List.length_set]) ?_
  rw [List.length_set]
  have h8 := Sw.tail (h7 |>.front 3 rfl |>.front 3 rfl |>.front 3 rfl |>.front 3 rfl |>.front 4 rfl)
  exact h8 |>.front 1 rfl |>.front 3 rfl |>.front 2 rfl |>.front 3 rfl
end Go.Proofs.YtfddmbafjniflaaGreatDoor
