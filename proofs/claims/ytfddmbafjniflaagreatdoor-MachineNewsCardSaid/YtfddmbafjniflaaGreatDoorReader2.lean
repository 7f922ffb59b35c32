/-
  Package code: the reader, over any bytes.
-/
import Derived.Test.YtfddmbafjniflaaGreatDoorWrong2
import Derived.Test.YtfddmbafjniflaaGreatDoorInst99
import Derived.Test.YtfddmbafjniflaaGreatDoorSched
namespace Go.Proofs.YtfddmbafjniflaaGreatDoor
open Go Go.RowKit
/-- The bytes that lie from a place on. -/
def BytesAt (b o : Nat) (bs : List Nat) (w : World) : Prop := ∀ (i x : Nat), bs[i]? = some x → w.cell? ⟨b, o + i, none⟩ = some (byt x)
/-- A piece that holds the bytes. -/
def Holds (B : HP) (b o : Nat) (bs : List Nat) : Prop := ∀ w l, Sw w (B :: l) → BytesAt b o bs w
theorem Holds.ptc (b : Nat) (cs : List Value) (bs : List Nat) (T : TypeId) (h : ∀ (i x : Nat), bs[i]? = some x → cs[i]? = some (byt x)) : Holds (ptc b cs T) b 0 bs := by
  intro w l hS i x hx
  rw [Nat.zero_add]
  exact hS.cell i (h i x hx)
theorem Holds.old (W : World) (b o : Nat) (bs : List Nat) (hb : b < W.heap.size) (h : BytesAt b o bs W) : Holds (old W) b o bs := by
  intro w l hS i x hx
  have := hS.below.cell (p := ⟨b, o + i, none⟩) hb
  rw [this]; exact h i x hx
def badV (n : Nat) : Value := .iface 143 (.agg #[num n])
def thrown (n : Nat) : Ending := .panicked [{ v := badV n, recovered := false }]
section
variable (w : World) (R : List HP) (B : HP) (r b o cap p least most x : Nat) (a : Option Addr) (bs : List Nat)
set_option maxRecDepth 100000 in
set_option maxHeartbeats 1000000 in
theorem next_good (hn : bs.length ≤ 65536) (hB : Holds B b o bs) (hx : bs[p]? = some x) (h1 : least ≤ x) (h2 : x ≤ most) (hx2 : x < 256)
    (hS : Sw w (ptc r [.slice (some ⟨b, o, none⟩) bs.length cap, num p] 147 :: B :: R)) :
    Calls Tryz.prog 75 #[ptr r, num least, num most] w fun e w' => e = .returned (num x) ∧ Sw w' (ptc r [.slice (some ⟨b, o, none⟩) bs.length cap, num (p + 1)] 147 :: B :: R) := by
  have hp : p < bs.length := (List.getElem?_eq_some_iff.1 hx).1
  have c0 := hS.cell 0 rfl
  have c1 := hS.cell 1 rfl
  have f1 := hS.frozen 1
  have c2 : w.cell? ⟨b, o + p, none⟩ = some (byt x) := hB _ _ hS.tail p x hx
  have i1 : ¬ (bs.length : Int) ≤ p := by omega
  have i1' : (p : Int) < bs.length := by omega
  have i2 : ¬ (x : Int) < least := by omega
  have i3 : ¬ (most : Int) < x := by omega
  have i4 : (bs.length : Int) ≤ 65536 := by omega
  have i5 : (x : Int) < 256 := by omega
  have HS := hid (hS.set 1 (.int .i64 (p + 1)))
  clear hS h1 h2 hn hx hx2 hp hB
  go_enter Tryz.func75, Tryz.ntmps75
  repeat' (first | (go_big_may; (first | (with_reducible refine wp_region_seg mixed (by decide +kernel) ?_) | (refine seg_look (by rfl) (fun K hK => ?_); go_simp; refine hK _ ?_; clear hK K) | (refine seg_act (by rfl) (fun K hK => ?_); go_simp) | (refine seg_nil ?_))) | go_values | go_skip | go_guarded | go_step | go_upon | dsimp only)
  go_ret
  exact ⟨rfl, Sw.drew (Sw.drew HS.out)⟩
set_option maxRecDepth 100000 in
set_option maxHeartbeats 1000000 in
theorem next_short (hn : bs.length ≤ 65536) (hp : bs.length ≤ p) (hp2 : p ≤ 65536)
    (hS : Sw w (ptc r [.slice a bs.length cap, num p] 147 :: B :: R)) :
    Calls Tryz.prog 75 #[ptr r, num least, num most] w fun e w' => e = thrown bs.length ∧ Sw w' (B :: R) := by
  have c0 := hS.cell 0 rfl
  have c1 := hS.cell 1 rfl
  have i1 : (bs.length : Int) ≤ p := by omega
  have i4 : (bs.length : Int) ≤ 65536 := by omega
  have i6 : (p : Int) ≤ 65536 := by omega
  have HS := hid hS.tail
  clear hS hn hp hp2
  go_enter Tryz.func75, Tryz.ntmps75
  repeat' (first | (go_big_may; (first | (with_reducible refine wp_region_seg mixed (by decide +kernel) ?_) | (refine seg_look (by rfl) (fun K hK => ?_); go_simp; refine hK _ ?_; clear hK K) | (refine seg_act (by rfl) (fun K hK => ?_); go_simp) | (refine seg_nil ?_))) | go_values | go_skip | go_guarded | go_step | go_upon | dsimp only)
  exact ⟨rfl, rfl, Sw.drew HS.out⟩
set_option maxRecDepth 100000 in
set_option maxHeartbeats 1000000 in
theorem next_out (hn : bs.length ≤ 65536) (hB : Holds B b o bs) (hx : bs[p]? = some x) (h1 : x < least ∨ most < x) (hx2 : x < 256)
    (hS : Sw w (ptc r [.slice (some ⟨b, o, none⟩) bs.length cap, num p] 147 :: B :: R)) :
    Calls Tryz.prog 75 #[ptr r, num least, num most] w fun e w' => e = thrown p ∧ Sw w' (B :: R) := by
  have hp : p < bs.length := (List.getElem?_eq_some_iff.1 hx).1
  have c0 := hS.cell 0 rfl
  have c1 := hS.cell 1 rfl
  have c2 : w.cell? ⟨b, o + p, none⟩ = some (byt x) := hB _ _ hS.tail p x hx
  have i1 : ¬ (bs.length : Int) ≤ p := by omega
  have i1' : (p : Int) < bs.length := by omega
  have i4 : (bs.length : Int) ≤ 65536 := by omega
  have i5 : (x : Int) < 256 := by omega
  have HS := hid hS.tail
  by_cases h2 : x < least
  · have i2 : (x : Int) < least := by omega
    clear hS h1 h2 hn hx hx2 hp hB
    go_enter Tryz.func75, Tryz.ntmps75
    repeat' (first | (go_big_may; (first | (with_reducible refine wp_region_seg mixed (by decide +kernel) ?_) | (refine seg_look (by rfl) (fun K hK => ?_); go_simp; refine hK _ ?_; clear hK K) | (refine seg_act (by rfl) (fun K hK => ?_); go_simp) | (refine seg_nil ?_))) | go_values | go_skip | go_guarded | go_step | go_upon | dsimp only)
    exact ⟨rfl, rfl, Sw.drew (Sw.drew HS.out)⟩
  · have i2 : ¬ (x : Int) < least := by omega
    have i3 : (most : Int) < x := by omega
    clear hS h1 h2 hn hx hx2 hp hB
    go_enter Tryz.func75, Tryz.ntmps75
    repeat' (first | (go_big_may; (first | (with_reducible refine wp_region_seg mixed (by decide +kernel) ?_) | (refine seg_look (by rfl) (fun K hK => ?_); go_simp; refine hK _ ?_; clear hK K) | (refine seg_act (by rfl) (fun K hK => ?_); go_simp) | (refine seg_nil ?_))) | go_values | go_skip | go_guarded | go_step | go_upon | dsimp only)
    exact ⟨rfl, rfl, Sw.drew (Sw.drew HS.out)⟩
end
end Go.Proofs.YtfddmbafjniflaaGreatDoor
