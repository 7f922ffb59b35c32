/-
  Regions that draw their order, where what asks nothing of memory lies beside stores and calls: one walk in the order of the text.
-/
import Derived.Test.YtfddmbafjniflaaGreatDoorSeg
namespace Go.Proofs.YtfddmbafjniflaaGreatDoor
open Go

/-- What asks nothing of memory. -/
def pureB (o : Oper) : Bool :=
  match o.op with
  | .move _ | .assign _ | .nilCheck _ | .binOp .. | .unOp .. | .convert .. | .fieldAddr .. | .field .. | .indexAddr .. | .index .. | .extract .. | .build .. => true
  | _ => false
def okPair (oi oj : Oper) : Bool := pureB oi || pureB oj || lookB oi && lookB oj
def segPB (ops : Array Oper) : Bool :=
  let m := Region.before ops
  Region.noSelect ops &&
  (List.range ops.size).all fun i =>
    m.getD i 0 == masksOf ops m i &&
    ((ops[i]?).map fun oi =>
      (oi.after.all fun e => !Region.binds .any e || e.on < i) &&
      (List.range i).all fun j => (m.getD i 0).testBit j ||
        ((ops[j]?).map fun oj => okPair oi oj && oi.apart ops oj && oj.apart ops oi).getD true).getD true

section
variable {P : Program} {ops : Array Oper} {Q : Exit → Act → World → Prop}

def atW (o : Oper) (w : World) : World → Prop := fun w' => pureB o = true ∨ w' = w
def pOp (P : Program) (ops : Array Oper) (o : Oper) (K : Act → World → Prop) (a : Act) (w : World) : Prop :=
  if pureB o || lookB o then ∃ v, Tells P ops (atW o w) o a v ∧ K (a.put o.dst v) w else actS P ops o a w K
theorem pOp_mono {o : Oper} {a : Act} {w : World} {K K' : Act → World → Prop} (h : ∀ a w, K a w → K' a w) (hh : pOp P ops o K a w) : pOp P ops o K' a w := by
  unfold pOp at *
  split
  · rename_i hl; simp only [hl, if_true] at hh; obtain ⟨v, h1, h2⟩ := hh; exact ⟨v, h1, h _ _ h2⟩
  · rename_i hl; simp only [hl, Bool.false_eq_true, if_false] at hh; exact actS_mono (fun v w' h1 => h _ _ h1) hh

theorem Tells.pure {o : Oper} {a : Act} {w w' : World} {v : Value} (hp : pureB o = true) (h : Tells P ops (atW o w) o a v) : Tells P ops (atW o w') o a v := by
  rcases h with ⟨h1, h2⟩ | h
  · exact .inl ⟨h1, fun u _ => h2 u (.inl hp)⟩
  · exact .inr h

theorem pOp_swap {oi oj : Oper} {K : Act → World → Prop} {a : Act} {w : World} (hsi : ∀ cs b, oi.op ≠ .select cs b) (hsj : ∀ cs b, oj.op ≠ .select cs b)
    (hl : okPair oi oj = true) (hap : oi.apart ops oj = true) (hap' : oj.apart ops oi = true)
    (h : pOp P ops oj (pOp P ops oi K) a w) : pOp P ops oi (pOp P ops oj K) a w := by
  have h2 := (Oper.apart_spec hap).2.1
  have h2' := (Oper.apart_spec hap').2.1
  unfold okPair at hl
  unfold pOp at *
  cases hi : (pureB oi || lookB oi) <;> cases hj : (pureB oj || lookB oj) <;> simp only [hi, hj, Bool.false_eq_true, if_false, if_true] at h ⊢
  · simp_all
  · -- a look ahead of an action
    have hp : pureB oj = true := by simp_all
    obtain ⟨v, h1, h3⟩ := h
    have h4 := actS_put hsi hap' v h3
    exact actS_mono (fun u w' k1 => ⟨v, ((Tells.put hsj hap u).2 h1).pure hp, k1⟩) h4
  · -- an action ahead of a look
    have hp : pureB oi = true := by simp_all
    obtain ⟨u0, w0, v, h3, _⟩ := actS_some h
    have hv := ((Tells.put hsi hap' u0).1 h3).pure (w' := w) hp
    refine ⟨v, hv, actS_put' hsj hap v (actS_mono (fun u w' ⟨v', k2, k3⟩ => ?_) h)⟩
    have := Tells.unique (w := w) (S := atW oi w) (.inl hp) hv (((Tells.put hsi hap' u).1 k2).pure hp)
    subst this; exact k3
  · obtain ⟨v, h1, u, h3, h4⟩ := h
    refine ⟨u, (Tells.put hsi hap' v).1 h3, v, (Tells.put hsj hap u).2 h1, ?_⟩
    rw [Act.put_comm a u v h2]; exact h4

theorem wpOp_of_pOp {i : Nat} {o : Oper} {K : Act → World → Prop} {a : Act} {w : World} (hi : ops[i]? = some o) (h : pOp P ops o K a w) : wpOp P ops Q i K a w := by
  unfold wpOp
  simp only [hi]
  unfold pOp at h
  split at h
  · obtain ⟨v, ht, hk⟩ := h
    rcases ht with ⟨hw, hr⟩ | ⟨hw, rfl⟩
    · rw [if_pos hw]; left; simp only [Oper.wp, hr w (.inr rfl), Oper.upon]; exact hk
    · simp only [hw]; exact hk
  · cases hw : Region.wanted o (yielded ops a.tmps) with
    | true => rw [if_pos rfl]; exact .inl (wp_of_actS hw h)
    | false => unfold actS at h; rw [hw] at h; exact h

def pOps (P : Program) (ops : Array Oper) (Q : Exit → Act → World → Prop) : List Nat → Act → World → Prop
  | [], a, w => Q .normal a w
  | i :: r, a, w => match ops[i]? with | some o => pOp P ops o (pOps P ops Q r) a w | none => pOps P ops Q r a w

theorem pBubble {i : Nat} {oi : Oper} (hi : ops[i]? = some oi) (hsel : Region.noSelect ops = true) : ∀ (pre post : List Nat),
    (∀ j ∈ pre, ∃ oj, ops[j]? = some oj ∧ okPair oi oj = true ∧ oi.apart ops oj = true ∧ oj.apart ops oi = true) →
    ∀ a w, pOps P ops Q (pre ++ i :: post) a w → pOp P ops oi (pOps P ops Q (pre ++ post)) a w
  | [], post, _, a, w, h => by simpa only [List.nil_append, pOps, hi] using h
  | j :: pre, post, hp, a, w, h => by
    obtain ⟨oj, hj, hlj, hap, hap'⟩ := hp j (by simp)
    have ih := pBubble hi hsel pre post (fun k hk => hp k (by simp [hk]))
    simp only [List.cons_append, pOps, hj] at h ⊢
    have h1 : pOp P ops oj (pOp P ops oi (pOps P ops Q (pre ++ post))) a w := pOp_mono (fun a w h => ih a w h) h
    exact pOp_swap (fun cs b => Region.noSelect_spec hsel i oi cs b hi) (fun cs b => Region.noSelect_spec hsel j oj cs b hj) hlj hap hap' h1

theorem segPB_noSelect (h : segPB ops = true) : Region.noSelect ops = true := by
  unfold segPB at h; simp only [Bool.and_eq_true] at h; exact h.1
theorem segPB_at (h : segPB ops = true) {i : Nat} {oi : Oper} (hi : ops[i]? = some oi) :
    (Region.before ops).getD i 0 = masksOf ops (Region.before ops) i ∧ (∀ e ∈ oi.after, Region.binds .any e = true → e.on < i) ∧
    ∀ j, j < i → ((Region.before ops).getD i 0).testBit j = true ∨ ∃ oj, ops[j]? = some oj ∧ okPair oi oj = true ∧ oi.apart ops oj = true ∧ oj.apart ops oi = true := by
  unfold segPB at h
  simp only [Bool.and_eq_true, List.all_eq_true] at h
  have hlt : i < ops.size := (Array.getElem?_eq_some_iff.1 hi).1
  obtain ⟨h1, h2⟩ := h.2 i (List.mem_range.2 hlt)
  simp only [hi, Option.map_some, Option.getD_some, Bool.and_eq_true, Array.all_eq_true_iff_forall_mem, List.all_eq_true] at h2
  refine ⟨by simpa using h1, fun e he hb => ?_, fun j hj => ?_⟩
  · have := h2.1 e he
    simp only [hb, Bool.not_true, Bool.false_or, decide_eq_true_eq] at this
    exact this
  · have h3 := h2.2 j (List.mem_range.2 hj)
    rw [Bool.or_eq_true] at h3
    rcases h3 with h3 | h3
    · exact .inl h3
    · have hjl : j < ops.size := by omega
      have hj' : ops[j]? = some ops[j] := by simp [hjl]
      simp only [hj', Option.map_some, Option.getD_some, Bool.and_eq_true] at h3
      exact .inr ⟨_, hj', h3.1.1, h3.1.2, h3.2⟩

theorem anc_listedP (h : segPB ops = true) {listed : Array Bool} (hc : Closed ops listed) (j : Nat) : ∀ (i : Nat) (o : Oper), ops[i]? = some o →
    (∀ e ∈ o.after, Region.binds .any e = true → listed.getD e.on false = true) → ((Region.before ops).getD i 0).testBit j = true → listed.getD j false = true := by
  intro i
  induction i using Nat.strongRecOn with
  | _ i ih =>
    intro o ho he hb
    obtain ⟨h1, h2, _⟩ := segPB_at h ho
    rw [h1] at hb
    obtain ⟨e, hem, hbe, hon | hon⟩ := masks_bit ho hb
    · subst hon; exact he e hem hbe
    · have hlt := h2 e hem hbe
      have hil : i < ops.size := (Array.getElem?_eq_some_iff.1 ho).1
      have hel : e.on < ops.size := by omega
      have ho' : ops[e.on]? = some ops[e.on] := by simp [hel]
      have hle := he e hem hbe
      refine ih e.on hlt _ ho' (fun e' he' hb' => hc.edges e.on _ ho' ?_ e' he' hb') hon
      have : e.on < listed.size := by rw [hc.size]; exact hel
      simp only [Array.getD, this, dif_pos] at hle ⊢
      exact hle

theorem wpAny_of_pOps (h : segPB ops = true) : ∀ (fuel : Nat) (listed : Array Bool) (a : Act) (w : World), Closed ops listed → (unl listed ops.size).length = fuel →
    pOps P ops Q (unl listed ops.size) a w → wpAny P .any ops Q fuel listed a w
  | 0, listed, a, w, hc, hl, hs => by
    have h0 := List.eq_nil_of_length_eq_zero hl
    rw [h0] at hs
    refine ⟨?_, hs⟩
    rw [List.eq_nil_iff_forall_not_mem]
    intro i hi
    obtain ⟨h1, h2, _⟩ := ready_spec hi
    have : i ∈ unl listed ops.size := by unfold unl; rw [List.mem_filter, List.mem_range]; exact ⟨h1, by simp [h2]⟩
    rw [h0] at this; cases this
  | fuel + 1, listed, a, w, hc, hl, hs => by
    constructor
    · intro hr
      exfalso
      cases hu : unl listed ops.size with
      | nil => rw [hu] at hl; cases hl
      | cons i r =>
        have hi : i ∈ unl listed ops.size := by rw [hu]; simp
        unfold unl at hi
        rw [List.mem_filter, List.mem_range] at hi
        obtain ⟨hi1, hi2⟩ := hi
        have hi2' : listed.getD i true = false := by simpa using hi2
        obtain ⟨pre, post, hu1, _, hp⟩ := unl_split hi1 hi2' hc.size
        rw [hu] at hu1
        have hpre : pre = [] := by
          cases pre with
          | nil => rfl
          | cons j pre' => injection hu1 with e1 _; have := (hp j (by simp)).1; omega
        subst hpre
        have : i ∈ Region.ready .any ops listed := by
          unfold Region.ready
          simp only [List.mem_filter, List.mem_range, Bool.and_eq_true, Bool.not_eq_true']
          have ho : ops[i]? = some ops[i] := by simp [hi1]
          refine ⟨hi1, hi2', ?_⟩
          simp only [ho, Option.map_some, Option.getD_some, Array.all_eq_true_iff_forall_mem]
          intro e he
          cases hb : Region.binds .any e with
          | false => simp
          | true =>
            have hlt := (segPB_at h ho).2.1 e he hb
            simp only [Bool.not_true, Bool.false_or]
            cases hle : listed.getD e.on true with
            | true =>
              have : e.on < listed.size := by rw [hc.size]; omega
              simp only [Array.getD, this, dif_pos] at hle ⊢
              exact hle
            | false =>
              exfalso
              obtain ⟨pre2, post2, hu2, _, hp2⟩ := unl_split (n := ops.size) (i := e.on) (by omega) hle hc.size
              rw [hu] at hu2
              cases pre2 with
              | nil => injection hu2 with e1 _; omega
              | cons j pre' => injection hu2 with e1 _; have := (hp2 j (by simp)).1; omega
        rw [hr] at this; cases this
    · intro i hi
      obtain ⟨h1, h2, o, ho, he⟩ := ready_spec hi
      obtain ⟨pre, post, hu1, hu2, hp⟩ := unl_split h1 h2 hc.size
      rw [hu1] at hs
      have hc' : Closed ops (listed.setIfInBounds i true) := by
        refine ⟨by simp [hc.size], fun k ok hk hlk e hem hb => ?_⟩
        by_cases hki : k = i
        · subst hki
          rw [ho] at hk; cases hk
          exact getD_set_true (he e hem hb)
        · rw [getD_set_ne true (fun h => hki h.symm)] at hlk
          exact getD_set_true (hc.edges k ok hk hlk e hem hb)
      have hlen : (unl (listed.setIfInBounds i true) ops.size).length = fuel := by
        rw [hu2]; rw [hu1] at hl; simp at hl ⊢; omega
      have hall : ∀ j ∈ pre, ∃ oj, ops[j]? = some oj ∧ okPair o oj = true ∧ o.apart ops oj = true ∧ oj.apart ops o = true := by
        intro j hj
        obtain ⟨hji, hjl⟩ := hp j hj
        rcases (segPB_at h ho).2.2 j hji with hb | hb
        · exfalso
          have := anc_listedP h hc j i o ho he hb
          have hjs : j < listed.size := by rw [hc.size]; omega
          simp only [Array.getD, hjs, dif_pos] at this hjl
          rw [this] at hjl; cases hjl
        · exact hb
      have hstep := pBubble ho (segPB_noSelect h) pre post hall a w hs
      refine wpOp_mono (fun a' w' k2 => ?_) (wpOp_of_pOp ho hstep)
      exact wpAny_of_pOps h fuel _ a' w' hc' hlen (by rw [hu2]; exact k2)

/-- The walk in the order of the text. -/
def wpSegP (P : Program) (ops : Array Oper) (Q : Exit → Act → World → Prop) : List Oper → Act → World → Prop
  | [], a, w => Q .normal a w
  | o :: rest, a, w => pOp P ops o (wpSegP P ops Q rest) a w

theorem pOps_eq (l : List Oper) : ∀ k, (∀ j, l[j]? = ops[k + j]?) → pOps P ops Q (List.range' k l.length) = wpSegP P ops Q l := by
  induction l with
  | nil => intro k _; funext a w; simp [pOps, wpSegP]
  | cons o l ih =>
    intro k h
    have h0 : ops[k]? = some o := by simpa using (h 0).symm
    have ih' := ih (k + 1) (fun j => by have := h (j + 1); simpa [Nat.add_assoc, Nat.add_comm 1 j] using this)
    funext a w
    simp only [List.length_cons, List.range'_succ, pOps, wpSegP, h0, ih']

theorem wp_region_segP {id : Nat} {a : Act} {w : World} {l : List Oper} (hm : P.follows .mixedOrders = true) (hB : segPB l.toArray = true)
    (h : wpSegP P l.toArray Q l a w.drew) : (Code.region id l.toArray true).wp P Q a w := by
  refine wp_region_any hm ?_
  have hget : ∀ i, i < l.toArray.size → (Array.replicate l.toArray.size false).getD i true = false := by
    intro i hi
    unfold Array.getD
    rw [dif_pos (by simpa using hi)]
    exact Array.getElem_replicate _
  have hu : unl (Array.replicate l.toArray.size false) l.toArray.size = List.range l.toArray.size := by
    unfold unl
    rw [List.filter_eq_self]
    intro i hi
    rw [hget i (List.mem_range.1 hi)]; rfl
  refine wpAny_of_pOps hB _ _ _ _ ⟨by simp, fun i o hi hl => ?_⟩ (by rw [hu]; simp) ?_
  · exfalso
    rw [hget i (Array.getElem?_eq_some_iff.1 hi).1] at hl; cases hl
  · rw [hu, List.range_eq_range']
    have := pOps_eq (P := P) (ops := l.toArray) (Q := Q) l 0 (by simp)
    simp only [List.size_toArray]
    rw [this]; exact h

theorem segP_nil {a : Act} {w : World} (h : Q .normal a w) : wpSegP P ops Q [] a w := h
/-- What asks nothing of memory: in every world. -/
theorem segP_pure {a : Act} {w : World} {o : Oper} {rest : List Oper} {v : Value} (hl : pureB o = true) (hw : Region.wanted o (yielded ops a.tmps) = true)
    (hv : ∀ w, (execOp a.eval o).run P w = .ok (.value v) w) (h : wpSegP P ops Q rest (a.put o.dst v) w) : wpSegP P ops Q (o :: rest) a w := by
  unfold wpSegP pOp; rw [if_pos (by simp [hl])]; exact ⟨v, .inl ⟨hw, fun w _ => hv w⟩, h⟩
/-- A look at memory. -/
theorem segP_look {a : Act} {w : World} {o : Oper} {rest : List Oper} {v : Value} (hp : pureB o = false) (hl : lookB o = true) (hw : Region.wanted o (yielded ops a.tmps) = true)
    (hv : (execOp a.eval o).run P w = .ok (.value v) w) (h : wpSegP P ops Q rest (a.put o.dst v) w) : wpSegP P ops Q (o :: rest) a w := by
  unfold wpSegP pOp; rw [if_pos (by simp [hl])]
  exact ⟨v, .inl ⟨hw, fun w' h => by rcases h with h | h; · rw [hp] at h; cases h
                                     · subst h; exact hv⟩, h⟩
theorem segP_skip {a : Act} {w : World} {o : Oper} {rest : List Oper} (hw : Region.wanted o (yielded ops a.tmps) = false)
    (h : wpSegP P ops Q rest (a.put o.dst undef) w) : wpSegP P ops Q (o :: rest) a w := by
  unfold wpSegP pOp
  split
  · exact ⟨undef, .inr ⟨hw, rfl⟩, h⟩
  · unfold actS; rw [hw]; exact h
theorem segP_call {a : Act} {w : World} {o : Oper} {rest : List Oper} {f : FuncId} {args : Array Value} (hp : pureB o = false) (hl : lookB o = false) (hw : Region.wanted o (yielded ops a.tmps) = true)
    (hr : (execOp a.eval o).run P w = .ok (.enter f args) w)
    (h : Calls P f args w fun e w' => ∃ v, e = .returned v ∧ wpSegP P ops Q rest (a.put o.dst v) w') : wpSegP P ops Q (o :: rest) a w := by
  unfold wpSegP pOp; rw [if_neg (by simp [hl, hp])]
  unfold actS; rw [if_pos hw, hr]
  exact h.mono fun e w' ⟨v, he, h2⟩ => by subst he; exact h2
/-- Another action that hands back a value. -/
theorem segP_act {a : Act} {w w' : World} {o : Oper} {rest : List Oper} {v : Value} (hp : pureB o = false) (hl : lookB o = false) (hw : Region.wanted o (yielded ops a.tmps) = true)
    (hr : (execOp a.eval o).run P w = .ok (.value v) w') (h : wpSegP P ops Q rest (a.put o.dst v) w') : wpSegP P ops Q (o :: rest) a w := by
  unfold wpSegP pOp; rw [if_neg (by simp [hl, hp])]
  unfold actS; rw [if_pos hw, hr]
  exact h
theorem segP_unit {a : Act} {w w' : World} {o : Oper} {rest : List Oper} (hp : pureB o = false) (hl : lookB o = false) (hw : Region.wanted o (yielded ops a.tmps) = true)
    (hr : (execOp a.eval o).run P w = .ok .skip w') (h : wpSegP P ops Q rest (a.put o.dst undef) w') : wpSegP P ops Q (o :: rest) a w := by
  unfold wpSegP pOp; rw [if_neg (by simp [hl, hp])]
  unfold actS; rw [if_pos hw, hr]
  exact h
end
attribute [irreducible] wpSegP
end Go.Proofs.YtfddmbafjniflaaGreatDoor
