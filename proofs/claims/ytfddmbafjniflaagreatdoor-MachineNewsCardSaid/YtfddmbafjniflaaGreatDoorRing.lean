/-
  Package ring.
-/
import Derived.Test.YtfddmbafjniflaaGreatDoorQueue
namespace Go.Proofs.YtfddmbafjniflaaGreatDoor
open Go Go.RowKit
def ringZ : Array Value := (List.replicate 256 (num 0) ++ [num 0, num 0, num 0, .bool false]).toArray
theorem ring_zero (w : World) : (Instr.build 246 #[]).run Tryz.prog w = .ok (.agg ringZ) w := by kernel_rfl
def ringC (arr : List Value) (start n next : Nat) (has : Bool) : List Value := arr ++ [num start, num n, num next, .bool has]
section
variable {arr : List Value} {s n x : Nat} {h : Bool}
theorem ringC_get (ha : arr.length = 256) (k : Nat) (hk : k < 256) : (ringC arr s n x h)[k]? = arr[k]? := by
  unfold ringC; rw [List.getElem?_append_left (by omega)]
theorem ringC_256 (ha : arr.length = 256) : (ringC arr s n x h)[256]? = some (num s) := by
  unfold ringC; rw [List.getElem?_append_right (by omega), ha]; rfl
theorem ringC_257 (ha : arr.length = 256) : (ringC arr s n x h)[257]? = some (num n) := by
  unfold ringC; rw [List.getElem?_append_right (by omega), ha]; rfl
theorem ringC_258 (ha : arr.length = 256) : (ringC arr s n x h)[258]? = some (num x) := by
  unfold ringC; rw [List.getElem?_append_right (by omega), ha]; rfl
theorem ringC_259 (ha : arr.length = 256) : (ringC arr s n x h)[259]? = some (.bool h) := by
  unfold ringC; rw [List.getElem?_append_right (by omega), ha]; rfl
theorem ringC_set (ha : arr.length = 256) (k : Nat) (hk : k < 256) (v : Value) : (ringC arr s n x h).set k v = ringC (arr.set k v) s n x h := by
  unfold ringC; rw [List.set_append_left _ _ (by omega)]
theorem ringC_set256 (ha : arr.length = 256) (y : Nat) : (ringC arr s n x h).set 256 (num y) = ringC arr y n x h := by
  unfold ringC; rw [List.set_append_right _ _ (by omega), ha]; rfl
theorem ringC_set257 (ha : arr.length = 256) (y : Nat) : (ringC arr s n x h).set 257 (num y) = ringC arr s y x h := by
  unfold ringC; rw [List.set_append_right _ _ (by omega), ha]; rfl
theorem ringC_set258 (ha : arr.length = 256) (y : Nat) : (ringC arr s n x h).set 258 (num y) = ringC arr s n y h := by
  unfold ringC; rw [List.set_append_right _ _ (by omega), ha]; rfl
theorem ringC_set259 (ha : arr.length = 256) (y : Bool) : (ringC arr s n x h).set 259 (.bool y) = ringC arr s n x y := by
  unfold ringC; rw [List.set_append_right _ _ (by omega), ha]; rfl
end
/-- What a ring's row holds. -/
structure RingHolds (arr : List Value) (s : Nat) (q : List Nat) : Prop where
  len : arr.length = 256
  start : s < 256
  most : q.length ≤ 256
  get : ∀ i, i < q.length → arr[(s + i) % 256]? = some (num (q.getD i 0))
/-- A ring: its row, its next one. -/
def RingR (b : Nat) (q : List Nat) (nx : Option Nat) : HP := ex fun x : List Value × Nat × Nat =>
  star [lift (RingHolds x.1 x.2.1 q), ptc b (ringC x.1 x.2.1 q.length (nx.getD x.2.2) nx.isSome) 246]
theorem RingR.open_ {w : World} {b : Nat} {q : List Nat} {nx : Option Nat} {R : List HP} (h : Sw w (RingR b q nx :: R)) :
    ∃ arr s x, RingHolds arr s q ∧ Sw w (ptc b (ringC arr s q.length (nx.getD x) nx.isSome) 246 :: R) := by
  obtain ⟨⟨arr, s, x⟩, h⟩ := Sw.ex.1 h
  have h2 := h.open_star
  obtain ⟨h3, h4⟩ := Sw.lift.1 h2
  exact ⟨arr, s, x, h3, h4⟩
theorem RingR.close {w : World} {b : Nat} {q : List Nat} {nx : Option Nat} {R : List HP} {arr : List Value} {s : Nat} (x : Nat) (h1 : RingHolds arr s q) (h : Sw w (ptc b (ringC arr s q.length (nx.getD x) nx.isSome) 246 :: R)) : Sw w (RingR b q nx :: R) :=
  Sw.ex.2 ⟨(arr, s, x), Sw.pack (ps := [_, _]) (Sw.lift.2 ⟨h1, h⟩)⟩
set_option maxRecDepth 100000 in
set_option maxHeartbeats 400000 in
theorem ring_new (w : World) (R : List HP) (hS : Sw w R) : Calls Tryz.prog 84 #[] w fun e w' => ∃ b, e = .returned (.pointer (some ⟨b, 0, none⟩)) ∧ Sw w' (RingR b [] none :: R) := by
  have HS := hid hS
  clear hS
  have z := ring_zero
  go_enter Tryz.func84, Tryz.ntmps84
  go_wp2
  go_ret
  refine ⟨_, rfl, RingR.close (arr := List.replicate 256 (num 0)) (s := 0) 0 ⟨List.length_replicate, by omega, by simp, fun i hi => by simp at hi⟩ ?_⟩
  exact HS.out.allocc (ringC (List.replicate 256 (num 0)) 0 0 0 false) 246
set_option maxRecDepth 100000 in
set_option maxHeartbeats 400000 in
theorem ring_at (w : World) (b s i : Nat) (hs : s < 256) (hi : i ≤ 256) (c0 : w.cell? ⟨b, 256, none⟩ = some (num s)) :
    Calls Tryz.prog 149 #[.pointer (some ⟨b, 0, none⟩), .int .i64 i] w fun e w' => e = .returned (.pointer (some ⟨b, (s + i) % 256, none⟩)) ∧ ∃ n, w' = w.drewN n := by
  have e1 : ((s : Int) + i).tmod 256 = (((s + i) % 256 : Nat) : Int) := rfl
  have e0 : IntKind.i64.wrap ((s : Int) + i) = (s : Int) + i := by simp only [IntKind.wrap_i64]; omega
  have hm : (s + i) % 256 < 256 := Nat.mod_lt _ (by omega)
  have hm' : (((s + i) % 256 : Nat) : Int) < 256 := by omega
  generalize (s + i) % 256 = m at *
  have hs' : (s : Int) < 256 := by omega
  have hi' : (i : Int) ≤ 256 := by omega
  go_enter Tryz.func149, Tryz.ntmps149
  go_wp2_with (first | (with_reducible refine wp_region_seg mixed (by decide +kernel) ?_) | (refine seg_look (by rfl) (fun K hK => ?_); go_simp; refine hK _ ?_; clear hK K) | (refine seg_act (by rfl) (fun K hK => ?_); go_simp) | (refine seg_nil ?_))
  go_ret
  exact ⟨rfl, _, rfl⟩
theorem holds_put {arr : List Value} {s : Nat} {q : List Nat} (h : RingHolds arr s q) (hn : q.length < 256) (g : Nat) : RingHolds (arr.set ((s + q.length) % 256) (num g)) s (q ++ [g]) := by
  obtain ⟨h1, h2, h3, h4⟩ := h
  refine ⟨by simp [h1], h2, by simp; omega, fun i hi => ?_⟩
  simp at hi
  by_cases he : i = q.length
  · subst he
    rw [List.getElem?_set_self (by omega)]
    simp
  · rw [List.getElem?_set_ne (by omega), h4 i (by omega)]
    simp [List.getD, List.getElem?_append_left (show i < q.length by omega)]
theorem holds_first {arr : List Value} {s : Nat} {q : List Nat} {g : Nat} (h : RingHolds arr s (g :: q)) : RingHolds arr ((s + 1) % 256) q ∧ arr[s]? = some (num g) := by
  obtain ⟨h1, h2, h3, h4⟩ := h
  refine ⟨⟨h1, by omega, by simp at h3; omega, fun i hi => ?_⟩, ?_⟩
  · have := h4 (i + 1) (by simp; omega)
    rw [show ((s + 1) % 256 + i) % 256 = (s + (i + 1)) % 256 by omega, this]
    simp
  · have := h4 0 (by simp)
    rw [show (s + 0) % 256 = s by omega] at this
    rw [this]; simp
-- One more behind the row.
set_option maxRecDepth 100000 in
set_option maxHeartbeats 400000 in
theorem ring_behind (w : World) (R : List HP) (b : Nat) (q : List Nat) (nx : Option Nat) (g : Nat) (hq : q.length < 256) (hS : Sw w (RingR b q nx :: R)) :
    Calls Tryz.prog 163 #[.pointer (some ⟨b, 0, none⟩), .int .i64 g] w fun e w' => e = .returned (.slice none 0 0) ∧ Sw w' (RingR b (q ++ [g]) nx :: R) := by
  obtain ⟨arr, s, x, hh, h⟩ := RingR.open_ hS
  have c0 := h.cell 257 (ringC_257 hh.len)
  have hat := ring_at w b s q.length hh.start (by omega) (h.cell 256 (ringC_256 hh.len))
  have hp := holds_put hh hq g
  have hq' : (q.length : Int) < 256 := by omega
  have hl := hh.len
  have hm : (s + q.length) % 256 < 256 := Nat.mod_lt _ (by omega)
  obtain ⟨v0, hv0⟩ : ∃ v0, arr[(s + q.length) % 256]? = some v0 := ⟨_, List.getElem?_eq_getElem (by omega)⟩
  have c1 := h.cell ((s + q.length) % 256) ((ringC_get hl _ hm).trans hv0)
  have f1 := h.frozen ((s + q.length) % 256)
  have f0 := h.frozen 257
  generalize (s + q.length) % 256 = m at *
  have h2 := h.set m (num g)
  rw [ringC_set hl _ hm] at h2
  have hl2 := hp.len
  have h3 := h2.set 257 (num (q.length + 1))
  rw [ringC_set257 hl2] at h3
  have H3 := hid h3
  have HP_ := hid hp
  have Hat := hid hat
  clear hS h h2 h3 hh hp hat
  go_enter Tryz.func163, Tryz.ntmps163
  go_wp2_with (first | (go_at_call 149; refine Hat.out.mono ?_; rintro e w1 ⟨rfl, n1, rfl⟩) | (with_reducible refine wp_region_seg mixed (by decide +kernel) ?_) | (refine seg_look (by rfl) (fun K hK => ?_); go_simp; refine hK _ ?_; clear hK K) | (refine seg_act (by rfl) (fun K hK => ?_); go_simp) | (refine seg_nil ?_))
  go_ret
  refine ⟨rfl, RingR.close x HP_.out ?_⟩
  rw [List.length_append]
  exact H3.out
-- The row's first one.
set_option maxRecDepth 100000 in
set_option maxHeartbeats 400000 in
theorem ring_first (w : World) (R : List HP) (b : Nat) (g : Nat) (q : List Nat) (nx : Option Nat) (hS : Sw w (RingR b (g :: q) nx :: R)) :
    Calls Tryz.prog 246 #[.pointer (some ⟨b, 0, none⟩)] w fun e w' => e = .returned (num g) ∧ Sw w' (RingR b q nx :: R) := by
  obtain ⟨arr, s, x, hh, h⟩ := RingR.open_ hS
  obtain ⟨hf, hg⟩ := holds_first hh
  have hl := hh.len
  have hs := hh.start
  have hlen : ((g :: q).length : Int) = q.length + 1 := rfl
  have hq : (q.length : Int) ≤ 256 := by have := hh.most; simp at this; omega
  have c6 := h.cell 256 (ringC_256 hl)
  have hat := ring_at w b s 0 hs (by omega) c6
  rw [Nat.add_zero, Nat.mod_eq_of_lt hs] at hat
  have c7 := h.cell 257 (ringC_257 hl)
  have f6 := h.frozen 256
  have f7 := h.frozen 257
  have c1 := h.cell s ((ringC_get hl _ hs).trans hg)
  have e0 : IntKind.i64.wrap ((s : Int) + 1) = (s : Int) + 1 := by simp only [IntKind.wrap_i64]; omega
  have e1 : ((s : Int) + 1).tmod 256 = (((s + 1) % 256 : Nat) : Int) := rfl
  have e2 : IntKind.i64.wrap (((q.length + 1 : Nat) : Int) - 1) = (q.length : Int) := by simp only [IntKind.wrap_i64]; omega
  have h2 := h.set 256 (num ((s + 1) % 256))
  rw [ringC_set256 hl] at h2
  have h3 := h2.set 257 (num q.length)
  rw [ringC_set257 hl] at h3
  generalize (s + 1) % 256 = m at *
  rw [List.length_cons] at c7 h
  have H3 := hid h3
  have HP_ := hid hf
  have Hat := hid hat
  clear hS h h2 h3 hh hf hat hg
  go_enter Tryz.func246, Tryz.ntmps246
  go_wp2_with (first | (go_at_call 149; refine Hat.out.mono ?_; rintro e w1 ⟨rfl, n1, rfl⟩) | (with_reducible refine wp_region_segP mixed (by decide +kernel) ?_) | (apply segP_pure (by rfl) (by rfl); focus (intro w1; go_simp; first | exact rfl | exact ⟨rfl, rfl⟩)) | (apply segP_look (by rfl) (by rfl) (by rfl); focus (go_simp; first | exact rfl | exact ⟨rfl, rfl⟩)) | (apply segP_act (by rfl) (by rfl) (by rfl); focus (go_simp; first | exact rfl | exact ⟨rfl, rfl⟩)) | (apply segP_unit (by rfl) (by rfl) (by rfl); focus (go_simp; first | exact rfl | exact ⟨rfl, rfl⟩)) | (refine segP_nil ?_))

  go_ret
  exact ⟨rfl, RingR.close x HP_.out H3.out⟩
-- Behind the row, or as the next one.
set_option maxRecDepth 100000 in
set_option maxHeartbeats 400000 in
theorem ring_put (w : World) (R : List HP) (b : Nat) (q : List Nat) (nx : Option Nat) (g : Nat) (hq : q.length < 256) (hS : Sw w (RingR b q nx :: R)) :
    Calls Tryz.prog 110 #[.pointer (some ⟨b, 0, none⟩), .int .i64 g, .bool false] w fun e w' => e = .returned (.slice none 0 0) ∧ Sw w' (RingR b (q ++ [g]) nx :: R) := by
  have h := ring_behind w R b q nx g hq hS
  have H := hid h
  clear h hS
  go_enter Tryz.func110, Tryz.ntmps110
  go_wp2_with (first | (go_at_call 163; refine H.out.mono ?_; rintro e w1 ⟨rfl, h1⟩; have H1 := hid h1; clear h1) | (with_reducible refine wp_region_seg mixed (by decide +kernel) ?_) | (refine seg_look (by rfl) (fun K hK => ?_); go_simp; refine hK _ ?_; clear hK K) | (refine seg_act (by rfl) (fun K hK => ?_); go_simp) | (refine seg_nil ?_))
  go_ret
  exact ⟨rfl, H1.out⟩
-- The next one, out.
set_option maxRecDepth 100000 in
set_option maxHeartbeats 400000 in
theorem ring_get_row (w : World) (R : List HP) (b : Nat) (g : Nat) (q : List Nat) (hS : Sw w (RingR b (g :: q) none :: R)) :
    Calls Tryz.prog 196 #[.pointer (some ⟨b, 0, none⟩)] w fun e w' => e = .returned (.tuple #[num g, .bool true]) ∧ Sw w' (RingR b q none :: R) := by
  have h := ring_first w R b g q none hS
  obtain ⟨arr, s, x, hh, h0⟩ := RingR.open_ hS
  have c9 := h0.cell 259 (ringC_259 hh.len)
  have c7 := h0.cell 257 (ringC_257 hh.len)
  have hq : (q.length : Int) ≤ 256 := by have := hh.most; simp at this; omega
  have n0 : (((g :: q).length : Int) == 0) = false := by rw [beq_eq_false_iff_ne]; simp; omega
  have H := hid h
  clear h hS h0 hh
  go_enter Tryz.func196, Tryz.ntmps196
  go_wp2_with (first | (go_at_call 246; refine H.out.mono ?_; rintro e w1 ⟨rfl, h1⟩; have H1 := hid h1; clear h1) | (with_reducible refine wp_region_seg mixed (by decide +kernel) ?_) | (refine seg_look (by rfl) (fun K hK => ?_); go_simp; refine hK _ ?_; clear hK K) | (refine seg_act (by rfl) (fun K hK => ?_); go_simp) | (refine seg_nil ?_))
  go_ret2
  exact ⟨rfl, H1.out⟩
set_option maxRecDepth 100000 in
set_option maxHeartbeats 400000 in
theorem ring_get_none (w : World) (R : List HP) (b : Nat) (hS : Sw w (RingR b [] none :: R)) :
    Calls Tryz.prog 196 #[.pointer (some ⟨b, 0, none⟩)] w fun e w' => e = .returned (.tuple #[num 0, .bool false]) ∧ w' = w := by
  obtain ⟨arr, s, x, hh, h0⟩ := RingR.open_ hS
  have c9 := h0.cell 259 (ringC_259 hh.len)
  have c7 := h0.cell 257 (ringC_257 hh.len)
  clear hS h0 hh
  go_enter Tryz.func196, Tryz.ntmps196
  go_wp2
  go_ret2
  exact ⟨rfl, rfl⟩
theorem take_num {q : List Nat} {i : Nat} (hi : i < q.length) : (q.take i).map num ++ [num (q.getD i 0)] = (q.take (i + 1)).map num := by
  rw [List.take_succ_eq_append_getElem hi, List.map_append]; simp [List.getD, hi]
-- All, without a next one.
set_option maxRecDepth 100000 in
set_option maxHeartbeats 1000000 in
theorem ring_all (w : World) (R : List HP) (b : Nat) (q : List Nat) (hS : Sw w (RingR b q none :: R)) :
    Calls Tryz.prog 91 #[.pointer (some ⟨b, 0, none⟩)] w fun e w' => ∃ v, e = .returned v ∧ Sw w' (ints v q :: RingR b q none :: R) := by
  obtain ⟨arr, s, x, hh, h⟩ := RingR.open_ hS
  have hl := hh.len
  have c9 := h.cell 259 (ringC_259 hl)
  have c7 := h.cell 257 (ringC_257 hl)
  have H := hid h
  have HH := hid hh
  clear hS h hh
  go_enter Tryz.func91, Tryz.ntmps91
  go_wp2
  go_loopw [3, 22] (fun v3 v22 wr => ∃ i : Nat, i ≤ q.length ∧ v22 = num i ∧ Sw wr (sl 3 1 v3 i ((q.take i).map num) :: ptc b (ringC arr s q.length x false) 246 :: R)) (fun v3 v22 wr => below_ q.length v22)
  case atStart =>
    exact ⟨0, Nat.zero_le _, rfl, H.out.sl_nil none⟩
  obtain ⟨i, hi, rfl, hI⟩ := hrel
  have hc := hI.tail.cell 256 (ringC_256 hl)
  obtain ⟨a, cap, rfl⟩ := hI.sl_val
  have HI := hid hI
  have hq : q.length ≤ 256 := HH.out.most
  have hs : s < 256 := HH.out.start
  clear hI
  rcases Nat.lt_or_ge i q.length with hlt | hge
  · have hlt' : (i : Int) < q.length := by omega
    have hq' : (q.length : Int) ≤ 256 := by omega
    have hat := ring_at wr b s i hs (by omega) hc
    have hg := HI.out.tail.cell ((s + i) % 256) ((ringC_get hl _ (Nat.mod_lt _ (by omega))).trans (HH.out.get i hlt))
    have ht := hid (take_num hlt)
    have hle : i + 1 ≤ 16777216 := by omega
    have Hlt := hid hlt
    generalize (s + i) % 256 = m at *
    generalize q.getD i 0 = g at *
    have Hat := hid hat
    clear hat hi hlt hq hs c9 c7 hc
    go_wp2_with (first | (go_at_call 149; refine Hat.out.mono ?_; rintro e w1 ⟨rfl, n1, rfl⟩) | (at_builtin; refine append_ints rfl (.tmp 25) (.tmp 31) rfl _ _ _ _ rfl (Sw.after_alloc (Sw.drewN n1 HI.out) _) _ 1 _ rfl (Src.fresh1 _ _ _ rfl) hle ?_; intro v1 w1 hS1; obtain ⟨a1, cap1, rfl⟩ := hS1.sl_val; have H1 := hid hS1; clear hS1) | (with_reducible refine wp_region_segP mixed (by decide +kernel) ?_) | (apply segP_pure (by rfl) (by rfl); focus (intro w1; go_simp; first | exact rfl | exact ⟨rfl, rfl⟩)) | (apply segP_look (by rfl) (by rfl) (by rfl); focus (go_simp; first | exact rfl | exact ⟨rfl, rfl⟩)) | (apply segP_act (by rfl) (by rfl) (by rfl); focus (go_simp; first | exact rfl | exact ⟨rfl, rfl⟩)) | (apply segP_unit (by rfl) (by rfl) (by rfl); focus (go_simp; first | exact rfl | exact ⟨rfl, rfl⟩)) | (refine segP_nil ?_))
    go_roundw
    case rel => exact ⟨i + 1, Hlt.out, rfl, by have := H1.out; rw [ht.out] at this; exact this⟩
    case measure => have := Hlt.out; simp [below_]; omega
  · have : i = q.length := by omega
    subst this
    have hlt' : ¬ (q.length : Int) < q.length := by omega
    clear hi hq hs c9 c7 hc hge
    go_wp2
    go_ret
    refine ⟨_, rfl, ?_⟩
    have h := HI.out
    rw [List.take_length] at h
    exact (RingR.close (nx := none) x HH.out h.swap).swap
end Go.Proofs.YtfddmbafjniflaaGreatDoor
