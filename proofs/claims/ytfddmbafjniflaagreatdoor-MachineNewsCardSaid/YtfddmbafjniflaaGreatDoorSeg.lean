/-
  Regions that draw their order: one walk in the order of the text serves every order.
-/
import Derived.Still
import Derived.Tactics
import Derived.KernelRfl
import Derived.WalkKit
namespace Go.Proofs.YtfddmbafjniflaaGreatDoor
open Go


/-- Does an operation, by its kind, no more than look? -/
def lookB (o : Oper) : Bool :=
  match o.op with
  | .move _ | .assign _ | .pick .. | .load .. | .nilCheck _ | .binOp .. | .unOp .. | .convert .. | .makeInterface .. | .makeFunc .. | .slice .. | .fieldAddr .. | .field .. | .indexAddr .. | .index .. | .lookup .. | .extract .. | .build .. | .typeAssert .. => true
  | .call { callee := .builtin .len, .. } | .call { callee := .builtin .cap, .. } | .call { callee := .builtin .max, .. } | .call { callee := .builtin .min, .. } => true
  | _ => false

def masksOf (ops : Array Oper) (m : Array Nat) (i : Nat) : Nat :=
  ((ops[i]?).map fun o => o.after.foldl (fun s e => if Region.binds .any e then s ||| 2 ^ e.on ||| m.getD e.on 0 else s) 0).getD 0

def segB (ops : Array Oper) : Bool :=
  let m := Region.before ops
  Region.noSelect ops &&
  (List.range ops.size).all fun i =>
    m.getD i 0 == masksOf ops m i &&
    ((ops[i]?).map fun oi =>
      (oi.after.all fun e => !Region.binds .any e || e.on < i) &&
      (List.range i).all fun j => (m.getD i 0).testBit j ||
        ((ops[j]?).map fun oj => lookB oi && lookB oj && oi.apart ops oj && oj.apart ops oi).getD true).getD true

section
variable {P : Program} {ops : Array Oper} {Q : Exit → Act → World → Prop}

def segOp (P : Program) (ops : Array Oper) (Q : Exit → Act → World → Prop) (i : Nat) (K : Act → World → Prop) (a : Act) (w : World) : Prop :=
  if ((ops[i]?).map lookB).getD false then stOp P ops w i (fun a' => K a' w) a else wpOp P ops Q i K a w
def segs (P : Program) (ops : Array Oper) (Q : Exit → Act → World → Prop) : List Nat → Act → World → Prop
  | [], a, w => Q .normal a w
  | i :: r, a, w => segOp P ops Q i (segs P ops Q r) a w

theorem segOp_mono {i : Nat} {a : Act} {w : World} {K K' : Act → World → Prop} (h : ∀ a w, K a w → K' a w) (hh : segOp P ops Q i K a w) : segOp P ops Q i K' a w := by
  unfold segOp at *
  split
  · rename_i hl; simp only [hl, if_true] at hh; exact stOp_mono (fun a' => h a' w) hh
  · rename_i hl; simp only [hl] at hh; exact wpOp_mono h hh

theorem segOp_wpOp {i : Nat} {a : Act} {w : World} {K : Act → World → Prop} (hh : segOp P ops Q i K a w) : wpOp P ops Q i K a w := by
  unfold segOp at hh
  split at hh
  · exact wpOp_of_stOp (fun _ h => h) hh
  · exact hh

theorem swap_still {i j : Nat} {oi oj : Oper} (hi : ops[i]? = some oi) (hj : ops[j]? = some oj) (hsel : Region.noSelect ops = true) (_hap : oi.apart ops oj = true) (hap' : oj.apart ops oi = true)
    {K : Act → Prop} {a : Act} {w : World} (h : stOp P ops w j (stOp P ops w i K) a) : stOp P ops w i (stOp P ops w j K) a := by
  obtain ⟨v, hy, h1⟩ := yieldsAt_of_stOp hj h
  have hsi := Region.noSelect_spec hsel i oi
  have hsj := Region.noSelect_spec hsel j oj
  have h2 := stOp_put hi hap' (fun cs b => hsj cs b hj) (fun cs b => hsi cs b hi) hy h1
  exact stOp_mono (fun a' ⟨hy', hk⟩ => hy'.stOp hj hk) h2

theorem bubble {i : Nat} {oi : Oper} (hi : ops[i]? = some oi) (hsel : Region.noSelect ops = true) (hl : lookB oi = true) : ∀ (pre post : List Nat),
    (∀ j ∈ pre, ∃ oj, ops[j]? = some oj ∧ lookB oj = true ∧ oi.apart ops oj = true ∧ oj.apart ops oi = true) →
    ∀ a w, segs P ops Q (pre ++ i :: post) a w → segOp P ops Q i (segs P ops Q (pre ++ post)) a w
  | [], post, _, a, w, h => h
  | j :: pre, post, hp, a, w, h => by
    obtain ⟨oj, hj, hlj, hap, hap'⟩ := hp j (by simp)
    have ih := bubble hi hsel hl pre post (fun k hk => hp k (by simp [hk]))
    have h1 : segOp P ops Q j (segOp P ops Q i (segs P ops Q (pre ++ post))) a w := segOp_mono ih h
    have fi : ((ops[i]?).map lookB).getD false = true := by simp [hi, hl]
    have fj : ((ops[j]?).map lookB).getD false = true := by simp [hj, hlj]
    unfold segOp at h1 ⊢
    simp only [fi, fj, if_true] at h1 ⊢
    have h2 := swap_still hi hj hsel hap hap' h1
    refine stOp_mono (fun a' h3 => ?_) h2
    show segOp P ops Q j (segs P ops Q (pre ++ post)) a' w
    unfold segOp
    simp only [fj, if_true]
    exact h3

def unl (listed : Array Bool) (n : Nat) : List Nat := (List.range n).filter fun i => !listed.getD i true

theorem masks_bit {m : Array Nat} {i j : Nat} {o : Oper} (hi : ops[i]? = some o) (h : (masksOf ops m i).testBit j = true) :
    ∃ e ∈ o.after, Region.binds .any e = true ∧ (e.on = j ∨ (m.getD e.on 0).testBit j = true) := by
  unfold masksOf at h
  simp only [hi, Option.map_some, Option.getD_some] at h
  rw [← Array.foldl_toList] at h
  have key : ∀ (l : List Edge) (s : Nat), (l.foldl (fun s e => if Region.binds .any e then s ||| 2 ^ e.on ||| m.getD e.on 0 else s) s).testBit j = true →
      s.testBit j = true ∨ ∃ e ∈ l, Region.binds .any e = true ∧ (e.on = j ∨ (m.getD e.on 0).testBit j = true) := by
    intro l
    induction l with
    | nil => intro s h; exact .inl h
    | cons e l ih =>
      intro s h
      simp only [List.foldl_cons] at h
      rcases ih _ h with h1 | ⟨e', he', h2⟩
      · split at h1
        · rename_i hb
          simp only [Nat.testBit_or, Bool.or_eq_true, Nat.testBit_two_pow, decide_eq_true_eq] at h1
          rcases h1 with (h1 | h1) | h1
          · exact .inl h1
          · exact .inr ⟨e, by simp, hb, .inl h1⟩
          · exact .inr ⟨e, by simp, hb, .inr h1⟩
        · exact .inl h1
      · exact .inr ⟨e', by simp [he'], h2⟩
  rcases key _ _ h with h | ⟨e, he, h⟩
  · simp at h
  · exact ⟨e, by simpa using he, h⟩

structure Closed (ops : Array Oper) (listed : Array Bool) : Prop where
  size : listed.size = ops.size
  edges : ∀ (i : Nat) (o : Oper), ops[i]? = some o → listed.getD i true = true → ∀ e ∈ o.after, Region.binds .any e = true → listed.getD e.on false = true

theorem segB_noSelect (h : segB ops = true) : Region.noSelect ops = true := by
  unfold segB at h; simp only [Bool.and_eq_true] at h; exact h.1
theorem segB_at (h : segB ops = true) {i : Nat} {oi : Oper} (hi : ops[i]? = some oi) :
    (Region.before ops).getD i 0 = masksOf ops (Region.before ops) i ∧ (∀ e ∈ oi.after, Region.binds .any e = true → e.on < i) ∧
    ∀ j, j < i → ((Region.before ops).getD i 0).testBit j = true ∨ ∃ oj, ops[j]? = some oj ∧ lookB oi = true ∧ lookB oj = true ∧ oi.apart ops oj = true ∧ oj.apart ops oi = true := by
  unfold segB at h
  simp only [Bool.and_eq_true, List.all_eq_true] at h
  have hlt : i < ops.size := (Array.getElem?_eq_some_iff.1 hi).1
  obtain ⟨h1, h2⟩ := h.2 i (List.mem_range.2 hlt)
  simp only [hi, Option.map_some, Option.getD_some, Bool.and_eq_true, Array.all_eq_true_iff_forall_mem, List.all_eq_true, Bool.or_eq_true] at h2
  refine ⟨by simpa using h1, fun e he hb => ?_, fun j hj => ?_⟩
  · have := h2.1 e he
    simp only [hb, Bool.not_true, Bool.false_eq_true, false_or, decide_eq_true_eq] at this
    exact this
  · rcases h2.2 j (List.mem_range.2 hj) with h3 | h3
    · exact .inl h3
    · have hjl : j < ops.size := by omega
      have hj' : ops[j]? = some ops[j] := by simp [hjl]
      simp only [hj', Option.map_some, Option.getD_some, Bool.and_eq_true] at h3
      exact .inr ⟨_, hj', h3.1.1.1, h3.1.1.2, h3.1.2, h3.2⟩

/-- All that is ahead of what is listed, is listed. -/
theorem anc_listed (h : segB ops = true) {listed : Array Bool} (hc : Closed ops listed) (j : Nat) : ∀ (i : Nat) (o : Oper), ops[i]? = some o →
    (∀ e ∈ o.after, Region.binds .any e = true → listed.getD e.on false = true) → ((Region.before ops).getD i 0).testBit j = true → listed.getD j false = true := by
  intro i
  induction i using Nat.strongRecOn with
  | _ i ih =>
    intro o ho he hb
    obtain ⟨h1, h2, _⟩ := segB_at h ho
    rw [h1] at hb
    obtain ⟨e, hem, hbe, hon | hon⟩ := masks_bit ho hb
    · subst hon; exact he e hem hbe
    · have hlt := h2 e hem hbe
      have hil : i < ops.size := (Array.getElem?_eq_some_iff.1 ho).1
      have hel : e.on < ops.size := by omega
      have ho' : ops[e.on]? = some ops[e.on] := by simp [hel]
      have hle := he e hem hbe
      refine ih e.on hlt _ ho' (fun e' he' hb' => hc.edges e.on _ ho' ?_ e' he' hb') hon
      have : e.on < listed.size := by rw [hc.size]; exact hel
      simp only [Array.getD, this, dif_pos] at hle ⊢
      exact hle

theorem ready_spec {listed : Array Bool} {i : Nat} (h : i ∈ Region.ready .any ops listed) :
    i < ops.size ∧ listed.getD i true = false ∧ ∃ o, ops[i]? = some o ∧ ∀ e ∈ o.after, Region.binds .any e = true → listed.getD e.on false = true := by
  unfold Region.ready at h
  simp only [List.mem_filter, List.mem_range, Bool.and_eq_true, Bool.not_eq_true'] at h
  obtain ⟨h1, h2, h3⟩ := h
  have ho : ops[i]? = some ops[i] := by simp [h1]
  refine ⟨h1, h2, _, ho, fun e he hb => ?_⟩
  simp only [ho, Option.map_some, Option.getD_some, Array.all_eq_true_iff_forall_mem] at h3
  have := h3 e he
  simpa [hb] using this

theorem range_split {n i : Nat} (h : i < n) : List.range n = List.range i ++ i :: (List.range' (i + 1) (n - i - 1)) := by
  rw [List.range_eq_range', List.range_eq_range']
  rw [show n = i + (1 + (n - i - 1)) by omega, ← List.range'_append]
  simp
  rw [show (1 + (n - i - 1)) = (n - i - 1) + 1 by omega, List.range'_succ]

theorem unl_split {listed : Array Bool} {n i : Nat} (hn : i < n) (hi : listed.getD i true = false) (hs : listed.size = n) :
    ∃ pre post, unl listed n = pre ++ i :: post ∧ unl (listed.setIfInBounds i true) n = pre ++ post ∧ (∀ j ∈ pre, j < i ∧ listed.getD j true = false) := by
  refine ⟨(List.range i).filter fun j => !listed.getD j true, (List.range' (i + 1) (n - i - 1)).filter fun j => !listed.getD j true, ?_, ?_, ?_⟩
  · unfold unl; rw [range_split hn, List.filter_append, List.filter_cons]; simp [hi]
  · unfold unl; rw [range_split hn, List.filter_append, List.filter_cons]
    have hself : (listed.setIfInBounds i true).getD i true = true := by
      simp [Array.getD, hs, hn]
    have hoth : ∀ j, j ≠ i → (listed.setIfInBounds i true).getD j true = listed.getD j true := fun j hj => getD_set_ne true (fun h => hj h.symm)
    simp only [hself, Bool.not_true, Bool.false_eq_true, if_false]
    congr 1
    · apply List.filter_congr; intro j hj; rw [hoth j (by have := List.mem_range.1 hj; omega)]
    · apply List.filter_congr; intro j hj; rw [hoth j (by have := List.mem_range'.1 hj; omega)]
  · intro j hj
    simp only [List.mem_filter, List.mem_range, Bool.not_eq_true'] at hj
    exact hj

theorem wpAny_of_segs (h : segB ops = true) : ∀ (fuel : Nat) (listed : Array Bool) (a : Act) (w : World), Closed ops listed → (unl listed ops.size).length = fuel →
    segs P ops Q (unl listed ops.size) a w → wpAny P .any ops Q fuel listed a w
  | 0, listed, a, w, hc, hl, hs => by
    have h0 := List.eq_nil_of_length_eq_zero hl
    rw [h0] at hs
    refine ⟨?_, hs⟩
    rw [List.eq_nil_iff_forall_not_mem]
    intro i hi
    obtain ⟨h1, h2, _⟩ := ready_spec hi
    have : i ∈ unl listed ops.size := by unfold unl; rw [List.mem_filter, List.mem_range]; exact ⟨h1, by simp [h2]⟩
    rw [h0] at this; cases this
  | fuel + 1, listed, a, w, hc, hl, hs => by
    constructor
    · intro hr
      exfalso
      cases hu : unl listed ops.size with
      | nil => rw [hu] at hl; cases hl
      | cons i r =>
        have hi : i ∈ unl listed ops.size := by rw [hu]; simp
        unfold unl at hi
        rw [List.mem_filter, List.mem_range] at hi
        obtain ⟨hi1, hi2⟩ := hi
        have hi2' : listed.getD i true = false := by simpa using hi2
        -- the first that is not listed is ready
        obtain ⟨pre, post, hu1, _, hp⟩ := unl_split hi1 hi2' hc.size
        rw [hu] at hu1
        have hpre : pre = [] := by
          cases pre with
          | nil => rfl
          | cons j pre' => injection hu1 with e1 _; have := (hp j (by simp)).1; omega
        subst hpre
        have : i ∈ Region.ready .any ops listed := by
          unfold Region.ready
          simp only [List.mem_filter, List.mem_range, Bool.and_eq_true, Bool.not_eq_true']
          have ho : ops[i]? = some ops[i] := by simp [hi1]
          refine ⟨hi1, hi2', ?_⟩
          simp only [ho, Option.map_some, Option.getD_some, Array.all_eq_true_iff_forall_mem]
          intro e he
          cases hb : Region.binds .any e with
          | false => simp
          | true =>
            have hlt := (segB_at h ho).2.1 e he hb
            simp only [Bool.not_true, Bool.false_or]
            cases hle : listed.getD e.on true with
            | true =>
              have : e.on < listed.size := by rw [hc.size]; omega
              simp only [Array.getD, this, dif_pos] at hle ⊢
              exact hle
            | false =>
              exfalso
              have hm : e.on ∈ unl listed ops.size := by unfold unl; rw [List.mem_filter, List.mem_range]; exact ⟨by omega, by simp [hle]⟩
              obtain ⟨pre2, post2, hu2, _, hp2⟩ := unl_split (n := ops.size) (i := e.on) (by omega) hle hc.size
              rw [hu] at hu2
              cases pre2 with
              | nil => injection hu2 with e1 _; omega
              | cons j pre' => injection hu2 with e1 _; have := (hp2 j (by simp)).1; omega
        rw [hr] at this; cases this
    · intro i hi
      obtain ⟨h1, h2, o, ho, he⟩ := ready_spec hi
      obtain ⟨pre, post, hu1, hu2, hp⟩ := unl_split h1 h2 hc.size
      rw [hu1] at hs
      have hc' : Closed ops (listed.setIfInBounds i true) := by
        refine ⟨by simp [hc.size], fun k ok hk hlk e hem hb => ?_⟩
        by_cases hki : k = i
        · subst hki
          rw [ho] at hk; cases hk
          exact getD_set_true (he e hem hb)
        · rw [getD_set_ne true (fun h => hki h.symm)] at hlk
          exact getD_set_true (hc.edges k ok hk hlk e hem hb)
      have hlen : (unl (listed.setIfInBounds i true) ops.size).length = fuel := by
        rw [hu2]; rw [hu1] at hl; simp at hl ⊢; omega
      have hstep : segOp P ops Q i (segs P ops Q (pre ++ post)) a w := by
        cases hpre : pre with
        | nil => rw [hpre] at hs; exact hs
        | cons j0 pre' =>
          rw [← hpre]
          have hall : ∀ j ∈ pre, ∃ oj, ops[j]? = some oj ∧ lookB o = true ∧ lookB oj = true ∧ o.apart ops oj = true ∧ oj.apart ops o = true := by
            intro j hj
            obtain ⟨hji, hjl⟩ := hp j hj
            rcases (segB_at h ho).2.2 j hji with hb | hb
            · exfalso
              have := anc_listed h hc j i o ho he hb
              have hjs : j < listed.size := by rw [hc.size]; omega
              simp only [Array.getD, hjs, dif_pos] at this hjl
              rw [this] at hjl; cases hjl
            · exact hb
          have hlo : lookB o = true := by
            obtain ⟨_, _, h5, _⟩ := hall j0 (by rw [hpre]; simp)
            exact h5
          exact bubble ho (segB_noSelect h) hlo pre post (fun j hj => by obtain ⟨oj, q1, _, q2, q3, q4⟩ := hall j hj; exact ⟨oj, q1, q2, q3, q4⟩) a w hs
      refine wpOp_mono (fun a' w' hk => ?_) (segOp_wpOp hstep)
      exact wpAny_of_segs h fuel _ a' w' hc' hlen (by rw [hu2]; exact hk)

/-- The walk in the order of the text. -/
def wpSeg (P : Program) (ops : Array Oper) (Q : Exit → Act → World → Prop) : List Oper → Act → World → Prop
  | [], a, w => Q .normal a w
  | o :: rest, a, w =>
    if lookB o then (if Region.wanted o (yielded ops a.tmps) then o.still P a w (fun a' => wpSeg P ops Q rest a' w) else wpSeg P ops Q rest (a.put o.dst undef) w)
    else (if Region.wanted o (yielded ops a.tmps) then o.wp P a w (wpSeg P ops Q rest) Q ∨ (o.asks P a w ∧ LetsOut Q) else wpSeg P ops Q rest (a.put o.dst undef) w)

theorem segs_eq (l : List Oper) : ∀ k, (∀ j, l[j]? = ops[k + j]?) → segs P ops Q (List.range' k l.length) = wpSeg P ops Q l := by
  induction l with
  | nil => intro k _; funext a w; simp [segs, wpSeg]
  | cons o l ih =>
    intro k h
    have h0 : ops[k]? = some o := by simpa using (h 0).symm
    have ih' := ih (k + 1) (fun j => by have := h (j + 1); simpa [Nat.add_assoc, Nat.add_comm 1 j] using this)
    funext a w
    simp only [List.length_cons, List.range'_succ, segs, wpSeg, segOp, h0, Option.map_some, Option.getD_some, ih', stOp, wpOp]

theorem wp_region_seg {id : Nat} {a : Act} {w : World} {l : List Oper} (hm : P.follows .mixedOrders = true) (hB : segB l.toArray = true)
    (h : wpSeg P l.toArray Q l a w.drew) : (Code.region id l.toArray true).wp P Q a w := by
  refine wp_region_any hm ?_
  have hu : unl (Array.replicate l.toArray.size false) l.toArray.size = List.range l.toArray.size := by
    unfold unl
    rw [List.filter_eq_self]
    intro i hi
    have := List.mem_range.1 hi
    have h2 : (Array.replicate l.toArray.size false).getD i true = false := by
      unfold Array.getD
      rw [dif_pos (by simpa using this)]
      exact Array.getElem_replicate _
    rw [h2]; rfl
  refine wpAny_of_segs hB _ _ _ _ ⟨by simp, fun i o hi hl => ?_⟩ (by rw [hu]; simp) ?_
  · exfalso
    have hlt : i < l.toArray.size := (Array.getElem?_eq_some_iff.1 hi).1
    have h2 : (Array.replicate l.toArray.size false).getD i true = false := by
      unfold Array.getD
      rw [dif_pos (by simpa using hlt)]
      exact Array.getElem_replicate _
    rw [h2] at hl; cases hl
  · rw [hu, List.range_eq_range']
    have := segs_eq (P := P) (ops := l.toArray) (Q := Q) l 0 (by simp)
    simp only [List.size_toArray]
    rw [this]; exact h

theorem seg_nil {a : Act} {w : World} (h : Q .normal a w) : wpSeg P ops Q [] a w := h
theorem seg_look {a : Act} {w : World} {o : Oper} {rest : List Oper} (hl : lookB o = true)
    (h : ∀ K : Act → Prop, (∀ a, wpSeg P ops Q rest a w → K a) → if Region.wanted o (yielded ops a.tmps) then o.still P a w K else K (a.put o.dst undef)) : wpSeg P ops Q (o :: rest) a w := by
  unfold wpSeg
  rw [if_pos hl]
  exact h _ (fun _ h => h)
theorem seg_act {a : Act} {w : World} {o : Oper} {rest : List Oper} (hl : lookB o = false)
    (h : ∀ K : Act → World → Prop, (∀ a w, wpSeg P ops Q rest a w → K a w) → if Region.wanted o (yielded ops a.tmps) then o.wp P a w K Q else K (a.put o.dst undef) w) : wpSeg P ops Q (o :: rest) a w := by
  unfold wpSeg
  rw [if_neg (by simp [hl])]
  have := h _ (fun _ _ h => h)
  split
  · rename_i hw; rw [if_pos hw] at this; exact .inl this
  · rename_i hw; rw [if_neg hw] at this; exact this
/-- An action without a guard, as a list of one. -/
theorem seg_act1 {a : Act} {w : World} {o : Oper} {rest : List Oper} (hl : lookB o = false) (hg : o.guard = none)
    (h : ∀ K : Act → World → Prop, (∀ a w, wpSeg P ops Q rest a w → K a w) → o.wp P a w K Q) : wpSeg P ops Q (o :: rest) a w :=
  seg_act hl fun K hK => by simp only [Region.wanted, hg, if_true]; exact h K hK
end
attribute [irreducible] wpSeg


def segSB (ops : Array Oper) : Bool :=
  let m := Region.before ops
  Region.noSelect ops &&
  (List.range ops.size).all fun i =>
    m.getD i 0 == masksOf ops m i &&
    ((ops[i]?).map fun oi =>
      (oi.after.all fun e => !Region.binds .any e || e.on < i) &&
      (List.range i).all fun j => (m.getD i 0).testBit j ||
        ((ops[j]?).map fun oj => (lookB oi || lookB oj && i + 1 != ops.size) && oi.apart ops oj && oj.apart ops oi).getD true).getD true

section
variable {P : Program} {ops : Array Oper} {Q : Exit → Act → World → Prop} {S : World → Prop}

/-- In every world that meets S the operation tells v, and does nothing else. -/
def Tells (P : Program) (ops : Array Oper) (S : World → Prop) (o : Oper) (a : Act) (v : Value) : Prop :=
  (Region.wanted o (yielded ops a.tmps) = true ∧ ∀ w, S w → (execOp a.eval o).run P w = .ok (.value v) w) ∨ (Region.wanted o (yielded ops a.tmps) = false ∧ v = undef)

theorem Tells.put {o o' : Oper} {a : Act} {v : Value} (hs : ∀ cs b, o.op ≠ .select cs b) (hap : o'.apart ops o = true) (u : Value) : Tells P ops S o (a.put o'.dst u) v ↔ Tells P ops S o a v := by
  obtain ⟨h1, _, _⟩ := Oper.apart_spec hap
  unfold Tells
  rw [execOp_put o hs a o'.dst u h1, wanted_put o a o'.dst u h1]
theorem Tells.unique {o : Oper} {a : Act} {v u : Value} {w : World} (hw : S w) (h : Tells P ops S o a v) (h' : Tells P ops S o a u) : v = u := by
  rcases h with ⟨h1, h2⟩ | ⟨h1, h2⟩ <;> rcases h' with ⟨h3, h4⟩ | ⟨h3, h4⟩
  · have := (h2 w hw).symm.trans (h4 w hw); simpa using this
  · rw [h1] at h3; cases h3
  · rw [h1] at h3; cases h3
  · rw [h2, h4]

/-- An action that is carried out: no defer. -/
def actUpon (P : Program) (o : Oper) (a : Act) (next : Act → World → Prop) : Result Next → Prop
  | .ok (.value v) w' => next (a.put o.dst v) w'
  | .ok .skip w' => next (a.put o.dst undef) w'
  | .ok (.enter f args) w' => Calls P f args w' fun
      | .returned v, w'' => next (a.put o.dst v) w''
      | _, _ => False
  | _ => False
def actS (P : Program) (ops : Array Oper) (o : Oper) (a : Act) (w : World) (next : Act → World → Prop) : Prop :=
  if Region.wanted o (yielded ops a.tmps) then actUpon P o a next ((execOp a.eval o).run P w) else next (a.put o.dst undef) w

theorem actS_mono {o : Oper} {a : Act} {w : World} {K K' : Act → World → Prop} (h : ∀ v w, K (a.put o.dst v) w → K' (a.put o.dst v) w) (hh : actS P ops o a w K) : actS P ops o a w K' := by
  unfold actS at *
  split
  · rename_i hw
    simp only [hw, if_true] at hh
    generalize (execOp a.eval o).run P w = r at *
    cases r with
    | ok n w' =>
      cases n <;> simp only [actUpon] at hh ⊢
      case value v => exact h _ _ hh
      case skip => exact h _ _ hh
      case enter f args =>
        refine hh.mono fun e w'' he => ?_
        cases e with
        | returned v => exact h _ _ he
        | panicked ch => exact he
        | outgrown => exact he
    | halt x w' => simp only [actUpon] at hh
  · rename_i hw; simp only [hw] at hh; exact h _ _ hh

theorem actS_some {o : Oper} {a : Act} {w : World} {K : Act → World → Prop} (hh : actS P ops o a w K) : ∃ v w', K (a.put o.dst v) w' := by
  unfold actS at hh
  split at hh
  · generalize (execOp a.eval o).run P w = r at *
    cases r with
    | ok n w' =>
      cases n <;> simp only [actUpon] at hh
      case value v => exact ⟨_, _, hh⟩
      case skip => exact ⟨_, _, hh⟩
      case enter f args =>
        obtain ⟨e, w'', fr, he, _⟩ := hh []
        cases e with
        | returned v => exact ⟨_, _, he⟩
        | panicked ch => exact he.elim
        | outgrown => exact he.elim
    | halt x w' => simp only [actUpon] at hh
  · exact ⟨_, _, hh⟩

/-- Beside a look that is apart. -/
theorem actS_put {o o' : Oper} {a : Act} {w : World} {K : Act → World → Prop} (hs : ∀ cs b, o.op ≠ .select cs b) (hap : o'.apart ops o = true) (u : Value)
    (hh : actS P ops o (a.put o'.dst u) w K) : actS P ops o a w fun a' w' => K (a'.put o'.dst u) w' := by
  obtain ⟨h1, h2, _⟩ := Oper.apart_spec hap
  unfold actS at *
  rw [execOp_put o hs a o'.dst u h1, wanted_put o a o'.dst u h1] at hh
  split
  · rename_i hw
    simp only [hw, if_true] at hh
    generalize (execOp a.eval o).run P w = r at *
    cases r with
    | ok n w' =>
      cases n <;> simp only [actUpon] at hh ⊢
      case value v => rw [← Act.put_comm a u v h2]; exact hh
      case skip => rw [← Act.put_comm a u undef h2]; exact hh
      case enter f args =>
        refine hh.mono fun e w'' he => ?_
        cases e with
        | returned v => show K _ _; rw [← Act.put_comm a u v h2]; exact he
        | panicked ch => exact he
        | outgrown => exact he
    | halt x w' => simp only [actUpon] at hh
  · rename_i hw; simp only [hw] at hh; rw [← Act.put_comm a u undef h2]; exact hh
theorem actS_put' {o o' : Oper} {a : Act} {w : World} {K : Act → World → Prop} (hs : ∀ cs b, o.op ≠ .select cs b) (hap : o'.apart ops o = true) (u : Value)
    (hh : actS P ops o a w fun a' w' => K (a'.put o'.dst u) w') : actS P ops o (a.put o'.dst u) w K := by
  obtain ⟨h1, h2, _⟩ := Oper.apart_spec hap
  unfold actS at *
  rw [execOp_put o hs a o'.dst u h1, wanted_put o a o'.dst u h1]
  split
  · rename_i hw
    simp only [hw, if_true] at hh
    generalize (execOp a.eval o).run P w = r at *
    cases r with
    | ok n w' =>
      cases n <;> simp only [actUpon] at hh ⊢
      case value v => rw [Act.put_comm a u v h2]; exact hh
      case skip => rw [Act.put_comm a u undef h2]; exact hh
      case enter f args =>
        refine hh.mono fun e w'' he => ?_
        cases e with
        | returned v => show K _ _; rw [Act.put_comm a u v h2]; exact he
        | panicked ch => exact he
        | outgrown => exact he
    | halt x w' => simp only [actUpon] at hh
  · rename_i hw; simp only [hw] at hh; rw [Act.put_comm a u undef h2]; exact hh

def sOp (P : Program) (ops : Array Oper) (S : World → Prop) (L : Prop) (o : Oper) (K : Act → World → Prop) (a : Act) (w : World) : Prop :=
  if lookB o then ∃ v, Tells P ops S o a v ∧ K (a.put o.dst v) w else actS P ops o a w fun a' w' => (S w' ∨ L) ∧ K a' w'
theorem sOp_mono {L : Prop} {o : Oper} {a : Act} {w : World} {K K' : Act → World → Prop} (hL : ¬ L) (hw : S w) (h : ∀ a w, S w → K a w → K' a w) (hh : sOp P ops S L o K a w) : sOp P ops S L o K' a w := by
  unfold sOp at *
  split
  · rename_i hl; simp only [hl, if_true] at hh; obtain ⟨v, h1, h2⟩ := hh; exact ⟨v, h1, h _ _ hw h2⟩
  · rename_i hl; simp only [hl, Bool.false_eq_true, if_false] at hh; exact actS_mono (fun v w' ⟨h1, h2⟩ => ⟨h1, h _ _ (h1.resolve_right hL) h2⟩) hh

theorem sOp_swap {Li Lj : Prop} {oi oj : Oper} {K : Act → World → Prop} {a : Act} {w : World} (hsi : ∀ cs b, oi.op ≠ .select cs b) (hsj : ∀ cs b, oj.op ≠ .select cs b)
    (hl : (lookB oi || lookB oj) = true) (hap : oi.apart ops oj = true) (hap' : oj.apart ops oi = true) (hw : S w)
    (h : sOp P ops S Lj oj (sOp P ops S Li oi K) a w) : sOp P ops S Li oi (sOp P ops S Lj oj K) a w := by
  have h2 := (Oper.apart_spec hap).2.1
  have h2' := (Oper.apart_spec hap').2.1
  unfold sOp at *
  cases hi : lookB oi <;> cases hj : lookB oj <;> simp only [hi, hj, Bool.or_self, Bool.false_eq_true, if_false, if_true] at h hl ⊢
  · -- a look ahead of an action
    obtain ⟨v, h1, h3⟩ := h
    have h4 := actS_put hsi hap' v h3
    refine actS_mono (fun u w' ⟨k1, k2⟩ => ⟨k1, v, (Tells.put hsj hap u).2 h1, k2⟩) h4
  · -- an action ahead of a look
    obtain ⟨u0, w0, h1, v, h3, _⟩ := actS_some h
    have hv := (Tells.put hsi hap' u0).1 h3
    refine ⟨v, hv, actS_put' hsj hap v (actS_mono (fun u w' ⟨k1, v', k2, k3⟩ => ⟨k1, ?_⟩) h)⟩
    have := Tells.unique hw hv ((Tells.put hsi hap' u).1 k2)
    subst this; exact k3
  · obtain ⟨v, h1, u, h3, h4⟩ := h
    refine ⟨u, (Tells.put hsi hap' v).1 h3, v, (Tells.put hsj hap u).2 h1, ?_⟩
    rw [Act.put_comm a u v h2]; exact h4

theorem wp_of_actS {o : Oper} {a : Act} {w : World} {K : Act → World → Prop} (hw : Region.wanted o (yielded ops a.tmps) = true) (h : actS P ops o a w K) : o.wp P a w K Q := by
  unfold actS at h
  rw [if_pos hw] at h
  unfold Oper.wp
  generalize (execOp a.eval o).run P w = r at *
  cases r with
  | ok n w' =>
    cases n <;> simp only [actUpon] at h <;> simp only [Oper.upon]
    case value v => exact h
    case skip => exact h
    case enter f args =>
      refine h.mono fun e w'' he => ?_
      cases e with
      | returned v => exact he
      | panicked ch => exact he.elim
      | outgrown => exact he.elim
  | halt x w' => simp only [actUpon] at h
theorem wpOp_of_sOp {L : Prop} {i : Nat} {o : Oper} {K : Act → World → Prop} {a : Act} {w : World} (hi : ops[i]? = some o) (hS : S w) (h : sOp P ops S L o K a w) : wpOp P ops Q i (fun a' w' => (S w' ∨ L) ∧ K a' w') a w := by
  unfold wpOp
  simp only [hi]
  unfold sOp at h
  split at h
  · obtain ⟨v, ht, hk⟩ := h
    rcases ht with ⟨hw, hr⟩ | ⟨hw, rfl⟩
    · rw [if_pos hw]; left; simp only [Oper.wp, hr w hS, Oper.upon]; exact ⟨.inl hS, hk⟩
    · simp only [hw]; exact ⟨.inl hS, hk⟩
  · cases hw : Region.wanted o (yielded ops a.tmps) with
    | true => rw [if_pos rfl]; exact .inl (wp_of_actS hw h)
    | false => unfold actS at h; rw [hw] at h; exact h

def sOps (P : Program) (ops : Array Oper) (S : World → Prop) (Q : Exit → Act → World → Prop) : List Nat → Act → World → Prop
  | [], a, w => Q .normal a w
  | i :: r, a, w => match ops[i]? with | some o => sOp P ops S (i + 1 = ops.size) o (sOps P ops S Q r) a w | none => sOps P ops S Q r a w

theorem sBubble {i : Nat} {oi : Oper} (hi : ops[i]? = some oi) (hsel : Region.noSelect ops = true) : ∀ (pre post : List Nat),
    (∀ j ∈ pre, j + 1 ≠ ops.size ∧ ∃ oj, ops[j]? = some oj ∧ (lookB oi || lookB oj && i + 1 != ops.size) = true ∧ oi.apart ops oj = true ∧ oj.apart ops oi = true) →
    ∀ a w, S w → sOps P ops S Q (pre ++ i :: post) a w → sOp P ops S (i + 1 = ops.size) oi (sOps P ops S Q (pre ++ post)) a w
  | [], post, _, a, w, _, h => by simpa only [List.nil_append, sOps, hi] using h
  | j :: pre, post, hp, a, w, hS, h => by
    obtain ⟨hjn, oj, hj, hlj, hap, hap'⟩ := hp j (by simp)
    have ih := sBubble hi hsel pre post (fun k hk => hp k (by simp [hk]))
    simp only [List.cons_append, sOps, hj] at h ⊢
    have h1 : sOp P ops S (j + 1 = ops.size) oj (sOp P ops S (i + 1 = ops.size) oi (sOps P ops S Q (pre ++ post))) a w := sOp_mono hjn hS (fun a w hS h => ih a w hS h) h
    exact sOp_swap (fun cs b => Region.noSelect_spec hsel i oi cs b hi) (fun cs b => Region.noSelect_spec hsel j oj cs b hj) (by cases h5 : lookB oi <;> cases h6 : lookB oj <;> simp_all) hap hap' hS h1

theorem segSB_noSelect (h : segSB ops = true) : Region.noSelect ops = true := by
  unfold segSB at h; simp only [Bool.and_eq_true] at h; exact h.1
theorem segSB_at (h : segSB ops = true) {i : Nat} {oi : Oper} (hi : ops[i]? = some oi) :
    (Region.before ops).getD i 0 = masksOf ops (Region.before ops) i ∧ (∀ e ∈ oi.after, Region.binds .any e = true → e.on < i) ∧
    ∀ j, j < i → ((Region.before ops).getD i 0).testBit j = true ∨ ∃ oj, ops[j]? = some oj ∧ (lookB oi || lookB oj && i + 1 != ops.size) = true ∧ oi.apart ops oj = true ∧ oj.apart ops oi = true := by
  unfold segSB at h
  simp only [Bool.and_eq_true, List.all_eq_true] at h
  have hlt : i < ops.size := (Array.getElem?_eq_some_iff.1 hi).1
  obtain ⟨h1, h2⟩ := h.2 i (List.mem_range.2 hlt)
  simp only [hi, Option.map_some, Option.getD_some, Bool.and_eq_true, Array.all_eq_true_iff_forall_mem, List.all_eq_true] at h2
  refine ⟨by simpa using h1, fun e he hb => ?_, fun j hj => ?_⟩
  · have := h2.1 e he
    simp only [hb, Bool.not_true, Bool.false_or, decide_eq_true_eq] at this
    exact this
  · have h3 := h2.2 j (List.mem_range.2 hj)
    rw [Bool.or_eq_true] at h3
    rcases h3 with h3 | h3
    · exact .inl h3
    · have hjl : j < ops.size := by omega
      have hj' : ops[j]? = some ops[j] := by simp [hjl]
      simp only [hj', Option.map_some, Option.getD_some, Bool.and_eq_true] at h3
      exact .inr ⟨_, hj', h3.1.1, h3.1.2, h3.2⟩

theorem anc_listedS (h : segSB ops = true) {listed : Array Bool} (hc : Closed ops listed) (j : Nat) : ∀ (i : Nat) (o : Oper), ops[i]? = some o →
    (∀ e ∈ o.after, Region.binds .any e = true → listed.getD e.on false = true) → ((Region.before ops).getD i 0).testBit j = true → listed.getD j false = true := by
  intro i
  induction i using Nat.strongRecOn with
  | _ i ih =>
    intro o ho he hb
    obtain ⟨h1, h2, _⟩ := segSB_at h ho
    rw [h1] at hb
    obtain ⟨e, hem, hbe, hon | hon⟩ := masks_bit ho hb
    · subst hon; exact he e hem hbe
    · have hlt := h2 e hem hbe
      have hil : i < ops.size := (Array.getElem?_eq_some_iff.1 ho).1
      have hel : e.on < ops.size := by omega
      have ho' : ops[e.on]? = some ops[e.on] := by simp [hel]
      have hle := he e hem hbe
      refine ih e.on hlt _ ho' (fun e' he' hb' => hc.edges e.on _ ho' ?_ e' he' hb') hon
      have : e.on < listed.size := by rw [hc.size]; exact hel
      simp only [Array.getD, this, dif_pos] at hle ⊢
      exact hle

theorem wpAny_of_sOps (h : segSB ops = true) : ∀ (fuel : Nat) (listed : Array Bool) (a : Act) (w : World), Closed ops listed → (unl listed ops.size).length = fuel → (S w ∨ fuel = 0) →
    sOps P ops S Q (unl listed ops.size) a w → wpAny P .any ops Q fuel listed a w
  | 0, listed, a, w, hc, hl, hS, hs => by
    have h0 := List.eq_nil_of_length_eq_zero hl
    rw [h0] at hs
    refine ⟨?_, hs⟩
    rw [List.eq_nil_iff_forall_not_mem]
    intro i hi
    obtain ⟨h1, h2, _⟩ := ready_spec hi
    have : i ∈ unl listed ops.size := by unfold unl; rw [List.mem_filter, List.mem_range]; exact ⟨h1, by simp [h2]⟩
    rw [h0] at this; cases this
  | fuel + 1, listed, a, w, hc, hl, hS, hs => by
    constructor
    · intro hr
      exfalso
      cases hu : unl listed ops.size with
      | nil => rw [hu] at hl; cases hl
      | cons i r =>
        have hi : i ∈ unl listed ops.size := by rw [hu]; simp
        unfold unl at hi
        rw [List.mem_filter, List.mem_range] at hi
        obtain ⟨hi1, hi2⟩ := hi
        have hi2' : listed.getD i true = false := by simpa using hi2
        obtain ⟨pre, post, hu1, _, hp⟩ := unl_split hi1 hi2' hc.size
        rw [hu] at hu1
        have hpre : pre = [] := by
          cases pre with
          | nil => rfl
          | cons j pre' => injection hu1 with e1 _; have := (hp j (by simp)).1; omega
        subst hpre
        have : i ∈ Region.ready .any ops listed := by
          unfold Region.ready
          simp only [List.mem_filter, List.mem_range, Bool.and_eq_true, Bool.not_eq_true']
          have ho : ops[i]? = some ops[i] := by simp [hi1]
          refine ⟨hi1, hi2', ?_⟩
          simp only [ho, Option.map_some, Option.getD_some, Array.all_eq_true_iff_forall_mem]
          intro e he
          cases hb : Region.binds .any e with
          | false => simp
          | true =>
            have hlt := (segSB_at h ho).2.1 e he hb
            simp only [Bool.not_true, Bool.false_or]
            cases hle : listed.getD e.on true with
            | true =>
              have : e.on < listed.size := by rw [hc.size]; omega
              simp only [Array.getD, this, dif_pos] at hle ⊢
              exact hle
            | false =>
              exfalso
              obtain ⟨pre2, post2, hu2, _, hp2⟩ := unl_split (n := ops.size) (i := e.on) (by omega) hle hc.size
              rw [hu] at hu2
              cases pre2 with
              | nil => injection hu2 with e1 _; omega
              | cons j pre' => injection hu2 with e1 _; have := (hp2 j (by simp)).1; omega
        rw [hr] at this; cases this
    · intro i hi
      obtain ⟨h1, h2, o, ho, he⟩ := ready_spec hi
      obtain ⟨pre, post, hu1, hu2, hp⟩ := unl_split h1 h2 hc.size
      rw [hu1] at hs
      have hc' : Closed ops (listed.setIfInBounds i true) := by
        refine ⟨by simp [hc.size], fun k ok hk hlk e hem hb => ?_⟩
        by_cases hki : k = i
        · subst hki
          rw [ho] at hk; cases hk
          exact getD_set_true (he e hem hb)
        · rw [getD_set_ne true (fun h => hki h.symm)] at hlk
          exact getD_set_true (hc.edges k ok hk hlk e hem hb)
      have hlen : (unl (listed.setIfInBounds i true) ops.size).length = fuel := by
        rw [hu2]; rw [hu1] at hl; simp at hl ⊢; omega
      have hall : ∀ j ∈ pre, j + 1 ≠ ops.size ∧ ∃ oj, ops[j]? = some oj ∧ (lookB o || lookB oj && i + 1 != ops.size) = true ∧ o.apart ops oj = true ∧ oj.apart ops o = true := by
        intro j hj
        obtain ⟨hji, hjl⟩ := hp j hj
        refine ⟨by omega, ?_⟩
        rcases (segSB_at h ho).2.2 j hji with hb | hb
        · exfalso
          have := anc_listedS h hc j i o ho he hb
          have hjs : j < listed.size := by rw [hc.size]; omega
          simp only [Array.getD, hjs, dif_pos] at this hjl
          rw [this] at hjl; cases hjl
        · exact hb
      have hS' : S w := hS.resolve_right (by omega)
      have hstep := sBubble ho (segSB_noSelect h) pre post hall a w hS' hs
      cases hlo : lookB o with
      | true =>
        have hstep' : sOp P ops S False o (sOps P ops S Q (pre ++ post)) a w := by unfold sOp at hstep ⊢; rw [if_pos hlo] at hstep ⊢; exact hstep
        refine wpOp_mono (fun a' w' ⟨k1, k2⟩ => ?_) (wpOp_of_sOp ho hS' hstep')
        exact wpAny_of_sOps h fuel _ a' w' hc' hlen (.inl (k1.resolve_right id)) (by rw [hu2]; exact k2)
      | false =>
        refine wpOp_mono (fun a' w' ⟨k1, k2⟩ => ?_) (wpOp_of_sOp ho hS' hstep)
        refine wpAny_of_sOps h fuel _ a' w' hc' hlen ?_ (by rw [hu2]; exact k2)
        rcases k1 with k1 | k1
        · exact .inl k1
        · right
          -- the last one, an action: all others have been
          have hpre : pre = [] := by
            cases hpp : pre with
            | nil => rfl
            | cons j pre' =>
              obtain ⟨_, oj, _, h7, _⟩ := hall j (by rw [hpp]; simp)
              simp [hlo, k1] at h7
          have hpost : post = [] := by
            cases hpp : post with
            | nil => rfl
            | cons j post' =>
              exfalso
              have hm : (unl listed ops.size).Pairwise (· < ·) := by
                unfold unl
                refine List.Pairwise.filter _ ?_
                exact List.pairwise_lt_range
              rw [hu1, hpre, hpp] at hm
              have hij : i < j := by
                have hm2 : List.Pairwise (· < ·) (i :: j :: post') := hm
                exact (List.pairwise_cons.1 hm2).1 j (by simp)
              have hjm : j ∈ unl listed ops.size := by rw [hu1, hpp]; simp
              unfold unl at hjm
              rw [List.mem_filter, List.mem_range] at hjm
              omega
          rw [hu2, hpre, hpost] at hlen
          simpa using hlen.symm

/-- The walk in the order of the text. -/
def wpSegS (P : Program) (ops : Array Oper) (S : World → Prop) (Q : Exit → Act → World → Prop) : List Oper → Act → World → Prop
  | [], a, w => Q .normal a w
  | o :: rest, a, w => sOp P ops S (rest = []) o (wpSegS P ops S Q rest) a w

theorem sOps_eq (l : List Oper) : ∀ k, k + l.length = ops.size → (∀ j, l[j]? = ops[k + j]?) → sOps P ops S Q (List.range' k l.length) = wpSegS P ops S Q l := by
  induction l with
  | nil => intro k _ _; funext a w; simp [sOps, wpSegS]
  | cons o l ih =>
    intro k hk h
    have h0 : ops[k]? = some o := by simpa using (h 0).symm
    have ih' := ih (k + 1) (by simp at hk; omega) (fun j => by have := h (j + 1); simpa [Nat.add_assoc, Nat.add_comm 1 j] using this)
    funext a w
    have hL : (k + 1 = ops.size) = (l = []) := by
      apply propext
      simp at hk
      constructor
      · intro e; exact List.eq_nil_of_length_eq_zero (by omega)
      · rintro rfl; simpa using hk
    simp only [List.length_cons, List.range'_succ, sOps, wpSegS, h0, ih', hL]

theorem wp_region_segS {id : Nat} {a : Act} {w : World} {l : List Oper} (S : World → Prop) (hm : P.follows .mixedOrders = true) (hB : segSB l.toArray = true) (hS : S w.drew)
    (h : wpSegS P l.toArray S Q l a w.drew) : (Code.region id l.toArray true).wp P Q a w := by
  refine wp_region_any hm ?_
  have hget : ∀ i, i < l.toArray.size → (Array.replicate l.toArray.size false).getD i true = false := by
    intro i hi
    unfold Array.getD
    rw [dif_pos (by simpa using hi)]
    exact Array.getElem_replicate _
  have hu : unl (Array.replicate l.toArray.size false) l.toArray.size = List.range l.toArray.size := by
    unfold unl
    rw [List.filter_eq_self]
    intro i hi
    rw [hget i (List.mem_range.1 hi)]; rfl
  refine wpAny_of_sOps hB _ _ _ _ ⟨by simp, fun i o hi hl => ?_⟩ (by rw [hu]; simp) (.inl hS) ?_
  · exfalso
    rw [hget i (Array.getElem?_eq_some_iff.1 hi).1] at hl; cases hl
  · rw [hu, List.range_eq_range']
    have := sOps_eq (P := P) (ops := l.toArray) (S := S) (Q := Q) l 0 (by simp) (by simp)
    simp only [List.size_toArray]
    rw [this]; exact h

theorem segS_nil {a : Act} {w : World} (h : Q .normal a w) : wpSegS P ops S Q [] a w := h
theorem segS_look {a : Act} {w : World} {o : Oper} {rest : List Oper} {v : Value} (hl : lookB o = true) (hw : Region.wanted o (yielded ops a.tmps) = true)
    (hv : ∀ w, S w → (execOp a.eval o).run P w = .ok (.value v) w) (h : wpSegS P ops S Q rest (a.put o.dst v) w) : wpSegS P ops S Q (o :: rest) a w := by
  unfold wpSegS sOp; rw [if_pos hl]; exact ⟨v, .inl ⟨hw, hv⟩, h⟩
theorem segS_skip {a : Act} {w : World} {o : Oper} {rest : List Oper} (hw : Region.wanted o (yielded ops a.tmps) = false)
    (h : wpSegS P ops S Q rest (a.put o.dst undef) w) (hS : S w) : wpSegS P ops S Q (o :: rest) a w := by
  unfold wpSegS sOp
  split
  · exact ⟨undef, .inr ⟨hw, rfl⟩, h⟩
  · unfold actS; rw [hw]; exact ⟨.inl hS, h⟩
/-- A call: the callee's contract. -/
theorem segS_call {a : Act} {w : World} {o : Oper} {rest : List Oper} {f : FuncId} {args : Array Value} (hl : lookB o = false) (hw : Region.wanted o (yielded ops a.tmps) = true)
    (hr : (execOp a.eval o).run P w = .ok (.enter f args) w)
    (h : Calls P f args w fun e w' => ∃ v, e = .returned v ∧ (S w' ∨ rest = []) ∧ wpSegS P ops S Q rest (a.put o.dst v) w') : wpSegS P ops S Q (o :: rest) a w := by
  unfold wpSegS sOp; rw [if_neg (by simp [hl])]
  unfold actS; rw [if_pos hw, hr]
  exact h.mono fun e w' ⟨v, he, h1, h2⟩ => by subst he; exact ⟨h1, h2⟩
/-- Another action that hands back a value. -/
theorem segS_act {a : Act} {w w' : World} {o : Oper} {rest : List Oper} {v : Value} (hl : lookB o = false) (hw : Region.wanted o (yielded ops a.tmps) = true)
    (hr : (execOp a.eval o).run P w = .ok (.value v) w') (hS : S w' ∨ rest = []) (h : wpSegS P ops S Q rest (a.put o.dst v) w') : wpSegS P ops S Q (o :: rest) a w := by
  unfold wpSegS sOp; rw [if_neg (by simp [hl])]
  unfold actS; rw [if_pos hw, hr]
  exact ⟨hS, h⟩
theorem segS_unit {a : Act} {w w' : World} {o : Oper} {rest : List Oper} (hl : lookB o = false) (hw : Region.wanted o (yielded ops a.tmps) = true)
    (hr : (execOp a.eval o).run P w = .ok .skip w') (hS : S w' ∨ rest = []) (h : wpSegS P ops S Q rest (a.put o.dst undef) w') : wpSegS P ops S Q (o :: rest) a w := by
  unfold wpSegS sOp; rw [if_neg (by simp [hl])]
  unfold actS; rw [if_pos hw, hr]
  exact ⟨hS, h⟩
end
attribute [irreducible] wpSegS
end Go.Proofs.YtfddmbafjniflaaGreatDoor
