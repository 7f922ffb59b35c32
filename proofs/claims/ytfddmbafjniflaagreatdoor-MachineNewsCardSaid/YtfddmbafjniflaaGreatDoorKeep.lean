/-
  A drawn region that ends in a panic, whatever the order: the slots that it does not write stay.
-/
import Derived.Test.YtfddmbafjniflaaGreatDoorDec
namespace Go.Proofs.YtfddmbafjniflaaGreatDoor
open Go

def panicOnly (D : List Deferred) (S : List PanicEntry → World → Prop) : Exit → Act → World → Prop
  | .panic c, a, w => a.defers = D ∧ S c w
  | _, _, _ => False
def keepF (ts : List Nat) (tm : Array Value) (a : Act) : Prop := ∀ t ∈ ts, a.tmps.getD t undef = tm.getD t undef
theorem keepF.put {ts : List Nat} {tm : Array Value} {a : Act} (dst : Option Tmp) (v : Value) (hd : (ts.all fun t => dst != some t) = true) (h : keepF ts tm a) : keepF ts tm (a.put dst v) := by
  intro t ht
  rw [← h t ht]
  cases dst with
  | none => rfl
  | some d =>
    have : d ≠ t := by
      have := List.all_eq_true.1 hd t ht
      intro e; subst e; simp at this
    show (a.tmps.setIfInBounds d v).getD t undef = _
    rw [Array.getD_eq_getD_getElem?, Array.getD_eq_getD_getElem?, Array.getElem?_setIfInBounds_ne this]
section
variable {P : Program} {ops : Array Oper} {Q : Exit → Act → World → Prop} {md : Region.Mode} {ts : List Nat} {tm : Array Value} {D : List Deferred} {S : List PanicEntry → World → Prop}
theorem LetsOut.none : ¬ LetsOut (panicOnly D S) := fun ⟨_, _, h⟩ => h
theorem Oper.wp_keep {o : Oper} {a : Act} {w : World} {K K' : Act → World → Prop} (hd : (ts.all fun t => o.dst != some t) = true) (hF : keepF ts tm a) (hQ : ∀ c a w, keepF ts tm a → a.defers = D → S c w → Q (.panic c) a w)
    (hK : ∀ a w, keepF ts tm a → K a w → K' a w) (hh : o.wp P a w K (panicOnly D S)) : o.wp P a w K' Q := by
  unfold Oper.wp at *
  generalize (execOp a.eval o).run P w = r at *
  cases r with
  | ok n w' =>
    cases n <;> simp only [Oper.upon] at hh ⊢
    case value => exact hK _ _ (hF.put _ _ hd) hh
    case skip => exact hK _ _ (hF.put _ _ hd) hh
    case defer d => exact hK _ _ (keepF.put (a := { a with defers := d :: a.defers }) _ _ hd hF) hh
    case enter =>
      refine Calls.mono hh (fun e w'' he => ?_)
      cases e with
      | returned v => exact hK _ _ (hF.put _ _ hd) he
      | panicked c => exact hQ _ _ _ hF he.1 he.2
      | outgrown => exact (LetsOut.none he).elim
    case row => exact Rows.mono hh (fun _ _ he => hK _ _ (hF.put _ _ hd) he)
    all_goals exact hh
  | halt x w' =>
    cases x <;> simp only [Oper.upon] at hh ⊢
    case panic => exact hQ _ _ _ hF hh.1 hh.2
    all_goals exact hh
theorem wpOp_keep {i : Nat} {a : Act} {w : World} {K K' : Act → World → Prop} (hd : (ops.all fun o => ts.all fun t => o.dst != some t) = true) (hF : keepF ts tm a) (hQ : ∀ c a w, keepF ts tm a → a.defers = D → S c w → Q (.panic c) a w)
    (hK : ∀ a w, keepF ts tm a → K a w → K' a w) (hh : wpOp P ops (panicOnly D S) i K a w) : wpOp P ops Q i K' a w := by
  unfold wpOp at *
  split
  · exact hK _ _ hF (by simpa [*] using hh)
  · rename_i o ho
    have hd' : (ts.all fun t => o.dst != some t) = true := by
      rw [Array.all_eq_true_iff_forall_mem] at hd
      exact hd o (Array.mem_of_getElem? ho)
    simp only [ho] at hh
    split
    · rename_i hw
      simp only [hw, if_true] at hh
      exact .inl (Oper.wp_keep hd' hF hQ hK (hh.resolve_right fun h => LetsOut.none h.2))
    · rename_i hw
      simp only [hw] at hh
      exact hK _ _ (hF.put _ _ hd') hh
theorem wpAny_keep (hd : (ops.all fun o => ts.all fun t => o.dst != some t) = true) (hQ : ∀ c a w, keepF ts tm a → a.defers = D → S c w → Q (.panic c) a w) :
    ∀ (fuel : Nat) (listed : Array Bool) (a : Act) (w : World), keepF ts tm a → wpAny P md ops (panicOnly D S) fuel listed a w → wpAny P md ops Q fuel listed a w
  | 0, _, _, _, _, hh => hh.2.elim
  | fuel + 1, _, _, _, hF, hh => ⟨fun h => (hh.1 h).elim, fun i hi => wpOp_keep hd hF hQ (fun a w hF h => wpAny_keep hd hQ fuel _ a w hF h) (hh.2 i hi)⟩
/-- A drawn region all of whose ways end in a panic. -/
theorem wp_region_panics {id : Nat} {a : Act} {w : World} (ts : List Nat) (S : List PanicEntry → World → Prop) (hm : P.follows .mixedOrders = true) (hd : (ops.all fun o => ts.all fun t => o.dst != some t) = true)
    (hQ : ∀ c a' w', keepF ts a.tmps a' → a'.defers = a.defers → S c w' → Q (.panic c) a' w')
    (h : wpAny P .any ops (panicOnly a.defers S) ops.size (Array.replicate ops.size false) a { w with drawn := w.drawn + 1 }) : (Code.region id ops true).wp P Q a w :=
  wp_region_any hm (wpAny_keep hd hQ _ _ _ _ (fun _ _ => rfl) h)
end
theorem Sw.push_mid {w : World} {a b c d e f x : HP} (L : List HP) {R : List HP} (h : Sw w (a :: b :: c :: d :: e :: f :: x :: (L ++ R))) : Sw w (a :: b :: c :: d :: e :: f :: (L ++ [x] ++ R)) := by
  refine h.perm ?_
  repeat apply List.Perm.cons
  rw [List.append_assoc]
  exact List.perm_middle.symm
theorem DecEnds.fine {bs : List Nat} {B : HP} {R : List HP} {w' : World} {g : Nat} {fs : List (List (List Nat))} {fv : Value} {lvs : List Value} (h : decodeE bs = .ok (g, fs)) (hl : lvs.length = fs.length)
    (hS : Sw w' (sl 111 1 fv fs.length lvs :: B :: (fnP lvs fs ++ R))) : DecEnds bs B R (.returned (.tuple #[.agg #[num g, fv], .int .i64 0, .int .i64 0])) w' := by
  unfold DecEnds; rw [h]; exact ⟨fv, lvs, hl, rfl, hS⟩
end Go.Proofs.YtfddmbafjniflaaGreatDoor
