/-
  slices.Clone of whole numbers; package queue.
-/
import Derived.Test.YtfddmbafjniflaaGreatDoorWords
import Derived.LoopN
namespace Go.Proofs.YtfddmbafjniflaaGreatDoor
open Go Go.RowKit
abbrev num (n : Nat) : Value := .int .i64 n
theorem ints_not_nil (ad : Addr) (n cap : Nat) (w : World) : (binOp .eql 36 (.slice (some ad) n cap) (.slice none 0 0)).run Tryz.prog w = .ok (.bool false) w := by kernel_rfl
theorem ints_nil (n cap : Nat) (w : World) : (binOp .eql 36 (.slice none n cap) (.slice none 0 0)).run Tryz.prog w = .ok (.bool true) w := by kernel_rfl
abbrev ints (v : Value) (xs : List Nat) : HP := sl 3 1 v xs.length (xs.map num)
def below_ (n : Nat) (v : Value) : Nat := match v with | .int _ i => n - i.toNat | _ => 0
theorem num_one (xs : List Nat) : ∀ u ∈ xs.map num, u.oneCell' = true := by
  intro u hu
  obtain ⟨x, _, rfl⟩ := List.mem_map.1 hu
  rfl
theorem Sw.ints_cong {w : World} {R : List HP} {v : Value} {xs : List Nat} {n : Nat} {l : List Value} (hn : n = xs.length) (hl : l = xs.map num) (h : Sw w (sl 3 1 v n l :: R)) : Sw w (ints v xs :: R) := by
  subst hn hl; exact h
set_option maxRecDepth 100000 in
set_option maxHeartbeats 400000 in
theorem clone_ints (w : World) (R : List HP) (v : Value) (xs : List Nat) (hn : xs.length ≤ 16777216) (hS : Sw w (ints v xs :: R)) :
    Calls Tryz.prog 39 #[v] w fun e w' => ∃ v', e = .returned v' ∧ Sw w' (ints v' xs :: ints v xs :: R) := by
  have key : ∀ ad cap, v = .slice (some ad) xs.length cap → Calls Tryz.prog 39 #[v] w fun e w' => ∃ v', e = .returned v' ∧ Sw w' (ints v' xs :: ints v xs :: R) := by
    rintro ad cap rfl
    have H := hid hS
    clear hS
    have q := ints_not_nil ad xs.length cap
    go_enter Tryz.func39, Tryz.ntmps39
    go_wp2_with (first | (at_builtin; refine append_ints rfl (.tmp 5) (.tmp 6) rfl _ 0 [] _ rfl ((H.out.after_alloc _).sl_nil _) _ _ _ rfl (Src.of_sl (H.out.after_alloc _) (num_one xs)) (by omega) ?_; intro v1 w1 hS1; obtain ⟨a1, cap1, rfl⟩ := hS1.sl_val; rw [Nat.zero_add] at hS1; have H1 := hid (Sw.ints_cong rfl (List.nil_append _) hS1); clear hS1) | (with_reducible refine wp_region_seg mixed (by decide +kernel) ?_) | (refine seg_look (by rfl) (fun K hK => ?_); go_simp; refine hK _ ?_; clear hK K) | (refine seg_act (by rfl) (fun K hK => ?_); go_simp) | (refine seg_nil ?_))
    go_ret
    exact ⟨_, rfl, H1.out⟩
  rcases hS.sl_open with ⟨h0, h1, ⟨a, rfl⟩, h3⟩ | ⟨b, o, cap, c, hv, _⟩
  · have : xs = [] := List.eq_nil_of_length_eq_zero h0
    subst this
    cases a with
    | none =>
      have H := hid hS
      clear hS key
      have q := ints_nil 0 0
      go_enter Tryz.func39, Tryz.ntmps39
      go_wp2
      go_ret
      exact ⟨_, rfl, H.out.sl_nil none⟩
    | some ad => exact key ad 0 rfl
  · exact key _ cap hv
def QueueR (b : Nat) (xs : List Nat) : HP := ex fun v => star [ptc b [v] 243, ints v xs]
theorem QueueR.open_ {w : World} {b : Nat} {l : List Nat} {R : List HP} (h : Sw w (QueueR b l :: R)) : ∃ v, Sw w (ptc b [v] 243 :: ints v l :: R) := by
  obtain ⟨v, h⟩ := Sw.ex.1 h
  exact ⟨v, h.open_star⟩
theorem QueueR.close {w : World} {b : Nat} {l : List Nat} {R : List HP} (v : Value) (h : Sw w (ptc b [v] 243 :: ints v l :: R)) : Sw w (QueueR b l :: R) :=
  Sw.ex.2 ⟨v, Sw.pack (ps := [_, _]) h⟩
set_option maxHeartbeats 400000 in
theorem queue_new (w : World) (R : List HP) (hS : Sw w R) : Calls Tryz.prog 83 #[] w fun e w' => ∃ b, e = .returned (.pointer (some ⟨b, 0, none⟩)) ∧ Sw w' (QueueR b [] :: R) := by
  have HS := hid hS
  clear hS
  go_enter Tryz.func83, Tryz.ntmps83
  go_wp2
  go_ret
  exact ⟨_, rfl, QueueR.close (.slice none 0 0) (((HS.out.allocc [.slice none 0 0] _).sl_nil none).swap)⟩
set_option maxHeartbeats 400000 in
theorem queue_len (w : World) (R : List HP) (b : Nat) (l : List Nat) (hS : Sw w (QueueR b l :: R)) :
    Calls Tryz.prog 191 #[.pointer (some ⟨b, 0, none⟩)] w fun e w' => e = .returned (num l.length) ∧ w' = w := by
  obtain ⟨v, h⟩ := QueueR.open_ hS
  obtain ⟨a, cap, rfl⟩ := h.tail.sl_val
  have c0 := h.cell 0 rfl
  clear h hS
  go_enter Tryz.func191, Tryz.ntmps191
  go_wp2
  go_ret
  exact ⟨rfl, rfl⟩
set_option maxRecDepth 100000 in
set_option maxHeartbeats 400000 in
theorem queue_all (w : World) (R : List HP) (b : Nat) (l : List Nat) (hn : l.length ≤ 16777216) (hS : Sw w (QueueR b l :: R)) :
    Calls Tryz.prog 92 #[.pointer (some ⟨b, 0, none⟩)] w fun e w' => ∃ v, e = .returned v ∧ Sw w' (ints v l :: QueueR b l :: R) := by
  obtain ⟨v, h⟩ := QueueR.open_ hS
  have hc := clone_ints w _ v l hn h.swap
  obtain ⟨a, cap, rfl⟩ := h.tail.sl_val
  have c0 := h.cell 0 rfl
  have HC := hid hc
  clear h hS hc
  go_enter Tryz.func92, Tryz.ntmps92
  go_wp2_with (first | (go_at_call 39; refine HC.out.mono ?_; rintro e w1 ⟨v1, rfl, h1⟩; have H1 := hid h1; clear h1) | (with_reducible refine wp_region_seg mixed (by decide +kernel) ?_) | (refine seg_look (by rfl) (fun K hK => ?_); go_simp; refine hK _ ?_; clear hK K) | (refine seg_act (by rfl) (fun K hK => ?_); go_simp) | (refine seg_nil ?_))
  go_ret
  exact ⟨_, rfl, (QueueR.close (.slice a l.length cap) (Sw.swap (H1.out.perm (List.Perm.refl _)) |> fun h => h.perm (List.Perm.trans (List.Perm.cons _ (List.Perm.swap _ _ _)) (List.Perm.trans (List.Perm.swap _ _ _) (List.Perm.refl _))))).swap⟩
set_option maxRecDepth 100000 in
set_option maxHeartbeats 400000 in
theorem queue_put (w : World) (R : List HP) (b : Nat) (l : List Nat) (x : Value) (xs : List Nat) (hn : l.length + xs.length ≤ 16777216) (hS : Sw w (QueueR b l :: ints x xs :: R)) :
    Calls Tryz.prog 109 #[.pointer (some ⟨b, 0, none⟩), x] w fun e w' => e = .returned (.tuple #[]) ∧ Sw w' (QueueR b (l ++ xs) :: ints x xs :: R) := by
  obtain ⟨v, h⟩ := QueueR.open_ hS
  obtain ⟨a, cap, rfl⟩ := h.tail.sl_val
  obtain ⟨a2, cap2, rfl⟩ := h.tail.tail.sl_val
  have c0 := h.cell 0 rfl
  have f0 := h.frozen 0
  have H := hid h
  clear h hS
  go_enter Tryz.func109, Tryz.ntmps109
  go_wp2_with (first | (at_builtin; refine append_ints rfl (.tmp 10) (.tmp 11) rfl _ _ _ _ rfl H.out.swap _ _ _ rfl (Src.of_sl H.out.tail.tail (num_one xs)) (by omega) ?_; intro v1 w1 hS1; obtain ⟨a1, cap1, rfl⟩ := hS1.sl_val; have d0 := hS1.swap.cell 0 rfl; have e0 := hS1.swap.frozen 0; have H1 := hid hS1; clear hS1) | (with_reducible refine wp_region_seg mixed (by decide +kernel) ?_) | (refine seg_look (by rfl) (fun K hK => ?_); go_simp; refine hK _ ?_; clear hK K) | (refine seg_act (by rfl) (fun K hK => ?_); go_simp) | (refine seg_nil ?_))
  go_end0
  refine ⟨rfl, QueueR.close (.slice a1 (l.length + xs.length) cap1) ?_⟩
  have h2 := H1.out.swap.set 0 (.slice a1 (l.length + xs.length) cap1)
  exact Sw.swap (Sw.ints_cong (by simp) (by simp) h2.swap)
end Go.Proofs.YtfddmbafjniflaaGreatDoor
