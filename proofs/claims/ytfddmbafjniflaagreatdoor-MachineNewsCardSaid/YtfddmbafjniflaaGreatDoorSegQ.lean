/-
  As SegP, where some looks (told by their temporaries) tell the same in every world that meets S.
-/
import Derived.Test.YtfddmbafjniflaaGreatDoorSegP
namespace Go.Proofs.YtfddmbafjniflaaGreatDoor
open Go

def stB (st : List Tmp) (o : Oper) : Bool := lookB o && (o.dst.map fun d => st.contains d).getD false
def okPairQ (st : List Tmp) (oi oj : Oper) : Bool := pureB oi || pureB oj || lookB oi && lookB oj || stB st oi || stB st oj
def segQB (st : List Tmp) (ops : Array Oper) : Bool :=
  let m := Region.before ops
  Region.noSelect ops &&
  (List.range ops.size).all fun i =>
    m.getD i 0 == masksOf ops m i &&
    ((ops[i]?).map fun oi =>
      (oi.after.all fun e => !Region.binds .any e || e.on < i) &&
      (List.range i).all fun j => (m.getD i 0).testBit j ||
        ((ops[j]?).map fun oj => okPairQ st oi oj && oi.apart ops oj && oj.apart ops oi).getD true).getD true

section
variable {P : Program} {ops : Array Oper} {Q : Exit → Act → World → Prop} {st : List Tmp} {S : World → Prop}

def atQ (st : List Tmp) (S : World → Prop) (o : Oper) (w : World) : World → Prop := fun w' => pureB o = true ∨ (stB st o = true ∧ S w') ∨ w' = w
def qOp (P : Program) (ops : Array Oper) (st : List Tmp) (S : World → Prop) (o : Oper) (K : Act → World → Prop) (a : Act) (w : World) : Prop :=
  if pureB o || lookB o then ∃ v, Tells P ops (atQ st S o w) o a v ∧ K (a.put o.dst v) w else actS P ops o a w fun a' w' => S w' ∧ K a' w'
theorem qOp_mono {o : Oper} {a : Act} {w : World} {K K' : Act → World → Prop} (hw : S w) (h : ∀ a w, S w → K a w → K' a w) (hh : qOp P ops st S o K a w) : qOp P ops st S o K' a w := by
  unfold qOp at *
  split
  · rename_i hl; simp only [hl, if_true] at hh; obtain ⟨v, h1, h2⟩ := hh; exact ⟨v, h1, h _ _ hw h2⟩
  · rename_i hl; simp only [hl, Bool.false_eq_true, if_false] at hh; exact actS_mono (fun v w' ⟨h0, h1⟩ => ⟨h0, h _ _ h0 h1⟩) hh

theorem Tells.toQ {o : Oper} {a : Act} {w w' : World} {v : Value} (hp : pureB o = true ∨ stB st o = true) (hS : S w') (h : Tells P ops (atQ st S o w) o a v) : Tells P ops (atQ st S o w') o a v := by
  rcases h with ⟨h1, h2⟩ | h
  · refine .inl ⟨h1, fun u hu => h2 u ?_⟩
    rcases hu with hu | hu | rfl
    · exact .inl hu
    · exact .inr (.inl hu)
    · rcases hp with hp | hp
      · exact .inl hp
      · exact .inr (.inl ⟨hp, hS⟩)
  · exact .inr h

theorem qOp_swap {oi oj : Oper} {K : Act → World → Prop} {a : Act} {w : World} (hsi : ∀ cs b, oi.op ≠ .select cs b) (hsj : ∀ cs b, oj.op ≠ .select cs b)
    (hl : okPairQ st oi oj = true) (hap : oi.apart ops oj = true) (hap' : oj.apart ops oi = true) (hw : S w)
    (h : qOp P ops st S oj (qOp P ops st S oi K) a w) : qOp P ops st S oi (qOp P ops st S oj K) a w := by
  have h2 := (Oper.apart_spec hap).2.1
  have h2' := (Oper.apart_spec hap').2.1
  unfold okPairQ at hl
  have key : (pureB oi = true ∨ stB st oi = true) ∨ (pureB oj = true ∨ stB st oj = true) ∨ (lookB oi = true ∧ lookB oj = true) := by
    simp only [Bool.or_eq_true, Bool.and_eq_true] at hl
    rcases hl with (((hl | hl) | hl) | hl) | hl
    · exact .inl (.inl hl)
    · exact .inr (.inl (.inl hl))
    · exact .inr (.inr hl)
    · exact .inl (.inr hl)
    · exact .inr (.inl (.inr hl))
  have stl : ∀ o : Oper, (pureB o = true ∨ stB st o = true) → (pureB o || lookB o) = true := by
    intro o ho
    rcases ho with ho | ho
    · simp [ho]
    · unfold stB at ho; simp only [Bool.and_eq_true] at ho; simp [ho.1]
  unfold qOp at *
  cases hi : (pureB oi || lookB oi) <;> cases hj : (pureB oj || lookB oj) <;> simp only [hi, hj, Bool.false_eq_true, if_false, if_true] at h ⊢
  · exfalso
    rcases key with k | k | k
    · rw [stl _ k] at hi; cases hi
    · rw [stl _ k] at hj; cases hj
    · simp [k.1] at hi
  · -- a look ahead of an action
    have hp : pureB oj = true ∨ stB st oj = true := by
      rcases key with k | k | k
      · rw [stl _ k] at hi; cases hi
      · exact k
      · simp [k.1] at hi
    obtain ⟨v, h1, h3⟩ := h
    have h4 := actS_put hsi hap' v h3
    exact actS_mono (fun u w' ⟨k0, k1⟩ => ⟨k0, v, Tells.toQ hp k0 ((Tells.put hsj hap u).2 h1), k1⟩) h4
  · -- an action ahead of a look
    have hp : pureB oi = true ∨ stB st oi = true := by
      rcases key with k | k | k
      · exact k
      · rw [stl _ k] at hj; cases hj
      · simp [k.2] at hj
    obtain ⟨u0, w0, _, v, h3, _⟩ := actS_some h
    have hv := Tells.toQ (w' := w) hp hw ((Tells.put hsi hap' u0).1 h3)
    refine ⟨v, hv, actS_put' hsj hap v (actS_mono (fun u w' ⟨k0, v', k2, k3⟩ => ⟨k0, ?_⟩) h)⟩
    have := Tells.unique (w := w) (S := atQ st S oi w) (.inr (.inr rfl)) hv (Tells.toQ hp hw ((Tells.put hsi hap' u).1 k2))
    subst this; exact k3
  · obtain ⟨v, h1, u, h3, h4⟩ := h
    refine ⟨u, (Tells.put hsi hap' v).1 h3, v, (Tells.put hsj hap u).2 h1, ?_⟩
    rw [Act.put_comm a u v h2]; exact h4

theorem wpOp_of_qOp {i : Nat} {o : Oper} {K : Act → World → Prop} {a : Act} {w : World} (hi : ops[i]? = some o) (hS : S w) (h : qOp P ops st S o K a w) : wpOp P ops Q i (fun a' w' => S w' ∧ K a' w') a w := by
  unfold wpOp
  simp only [hi]
  unfold qOp at h
  split at h
  · obtain ⟨v, ht, hk⟩ := h
    rcases ht with ⟨hw, hr⟩ | ⟨hw, rfl⟩
    · rw [if_pos hw]; left; simp only [Oper.wp, hr w (.inr (.inr rfl)), Oper.upon]; exact ⟨hS, hk⟩
    · simp only [hw]; exact ⟨hS, hk⟩
  · cases hw : Region.wanted o (yielded ops a.tmps) with
    | true => rw [if_pos rfl]; exact .inl (wp_of_actS hw h)
    | false => unfold actS at h; rw [hw] at h; exact h

def qOps (P : Program) (ops : Array Oper) (st : List Tmp) (S : World → Prop) (Q : Exit → Act → World → Prop) : List Nat → Act → World → Prop
  | [], a, w => Q .normal a w
  | i :: r, a, w => match ops[i]? with | some o => qOp P ops st S o (qOps P ops st S Q r) a w | none => qOps P ops st S Q r a w

theorem qBubble {i : Nat} {oi : Oper} (hi : ops[i]? = some oi) (hsel : Region.noSelect ops = true) : ∀ (pre post : List Nat),
    (∀ j ∈ pre, ∃ oj, ops[j]? = some oj ∧ okPairQ st oi oj = true ∧ oi.apart ops oj = true ∧ oj.apart ops oi = true) →
    ∀ a w, S w → qOps P ops st S Q (pre ++ i :: post) a w → qOp P ops st S oi (qOps P ops st S Q (pre ++ post)) a w
  | [], post, _, a, w, _, h => by simpa only [List.nil_append, qOps, hi] using h
  | j :: pre, post, hp, a, w, hS, h => by
    obtain ⟨oj, hj, hlj, hap, hap'⟩ := hp j (by simp)
    have ih := qBubble hi hsel pre post (fun k hk => hp k (by simp [hk]))
    simp only [List.cons_append, qOps, hj] at h ⊢
    have h1 : qOp P ops st S oj (qOp P ops st S oi (qOps P ops st S Q (pre ++ post))) a w := qOp_mono hS (fun a w hS h => ih a w hS h) h
    exact qOp_swap (fun cs b => Region.noSelect_spec hsel i oi cs b hi) (fun cs b => Region.noSelect_spec hsel j oj cs b hj) hlj hap hap' hS h1

theorem segQB_noSelect (h : segQB st ops = true) : Region.noSelect ops = true := by
  unfold segQB at h; simp only [Bool.and_eq_true] at h; exact h.1
theorem segQB_at (h : segQB st ops = true) {i : Nat} {oi : Oper} (hi : ops[i]? = some oi) :
    (Region.before ops).getD i 0 = masksOf ops (Region.before ops) i ∧ (∀ e ∈ oi.after, Region.binds .any e = true → e.on < i) ∧
    ∀ j, j < i → ((Region.before ops).getD i 0).testBit j = true ∨ ∃ oj, ops[j]? = some oj ∧ okPairQ st oi oj = true ∧ oi.apart ops oj = true ∧ oj.apart ops oi = true := by
  unfold segQB at h
  simp only [Bool.and_eq_true, List.all_eq_true] at h
  have hlt : i < ops.size := (Array.getElem?_eq_some_iff.1 hi).1
  obtain ⟨h1, h2⟩ := h.2 i (List.mem_range.2 hlt)
  simp only [hi, Option.map_some, Option.getD_some, Bool.and_eq_true, Array.all_eq_true_iff_forall_mem, List.all_eq_true] at h2
  refine ⟨by simpa using h1, fun e he hb => ?_, fun j hj => ?_⟩
  · have := h2.1 e he
    simp only [hb, Bool.not_true, Bool.false_or, decide_eq_true_eq] at this
    exact this
  · have h3 := h2.2 j (List.mem_range.2 hj)
    rw [Bool.or_eq_true] at h3
    rcases h3 with h3 | h3
    · exact .inl h3
    · have hjl : j < ops.size := by omega
      have hj' : ops[j]? = some ops[j] := by simp [hjl]
      simp only [hj', Option.map_some, Option.getD_some, Bool.and_eq_true] at h3
      exact .inr ⟨_, hj', h3.1.1, h3.1.2, h3.2⟩

theorem anc_listedQ (h : segQB st ops = true) {listed : Array Bool} (hc : Closed ops listed) (j : Nat) : ∀ (i : Nat) (o : Oper), ops[i]? = some o →
    (∀ e ∈ o.after, Region.binds .any e = true → listed.getD e.on false = true) → ((Region.before ops).getD i 0).testBit j = true → listed.getD j false = true := by
  intro i
  induction i using Nat.strongRecOn with
  | _ i ih =>
    intro o ho he hb
    obtain ⟨h1, h2, _⟩ := segQB_at h ho
    rw [h1] at hb
    obtain ⟨e, hem, hbe, hon | hon⟩ := masks_bit ho hb
    · subst hon; exact he e hem hbe
    · have hlt := h2 e hem hbe
      have hil : i < ops.size := (Array.getElem?_eq_some_iff.1 ho).1
      have hel : e.on < ops.size := by omega
      have ho' : ops[e.on]? = some ops[e.on] := by simp [hel]
      have hle := he e hem hbe
      refine ih e.on hlt _ ho' (fun e' he' hb' => hc.edges e.on _ ho' ?_ e' he' hb') hon
      have : e.on < listed.size := by rw [hc.size]; exact hel
      simp only [Array.getD, this, dif_pos] at hle ⊢
      exact hle

theorem wpAny_of_qOps (h : segQB st ops = true) : ∀ (fuel : Nat) (listed : Array Bool) (a : Act) (w : World), Closed ops listed → (unl listed ops.size).length = fuel → S w →
    qOps P ops st S Q (unl listed ops.size) a w → wpAny P .any ops Q fuel listed a w
  | 0, listed, a, w, hc, hl, hS, hs => by
    have h0 := List.eq_nil_of_length_eq_zero hl
    rw [h0] at hs
    refine ⟨?_, hs⟩
    rw [List.eq_nil_iff_forall_not_mem]
    intro i hi
    obtain ⟨h1, h2, _⟩ := ready_spec hi
    have : i ∈ unl listed ops.size := by unfold unl; rw [List.mem_filter, List.mem_range]; exact ⟨h1, by simp [h2]⟩
    rw [h0] at this; cases this
  | fuel + 1, listed, a, w, hc, hl, hS, hs => by
    constructor
    · intro hr
      exfalso
      cases hu : unl listed ops.size with
      | nil => rw [hu] at hl; cases hl
      | cons i r =>
        have hi : i ∈ unl listed ops.size := by rw [hu]; simp
        unfold unl at hi
        rw [List.mem_filter, List.mem_range] at hi
        obtain ⟨hi1, hi2⟩ := hi
        have hi2' : listed.getD i true = false := by simpa using hi2
        obtain ⟨pre, post, hu1, _, hp⟩ := unl_split hi1 hi2' hc.size
        rw [hu] at hu1
        have hpre : pre = [] := by
          cases pre with
          | nil => rfl
          | cons j pre' => injection hu1 with e1 _; have := (hp j (by simp)).1; omega
        subst hpre
        have : i ∈ Region.ready .any ops listed := by
          unfold Region.ready
          simp only [List.mem_filter, List.mem_range, Bool.and_eq_true, Bool.not_eq_true']
          have ho : ops[i]? = some ops[i] := by simp [hi1]
          refine ⟨hi1, hi2', ?_⟩
          simp only [ho, Option.map_some, Option.getD_some, Array.all_eq_true_iff_forall_mem]
          intro e he
          cases hb : Region.binds .any e with
          | false => simp
          | true =>
            have hlt := (segQB_at h ho).2.1 e he hb
            simp only [Bool.not_true, Bool.false_or]
            cases hle : listed.getD e.on true with
            | true =>
              have : e.on < listed.size := by rw [hc.size]; omega
              simp only [Array.getD, this, dif_pos] at hle ⊢
              exact hle
            | false =>
              exfalso
              obtain ⟨pre2, post2, hu2, _, hp2⟩ := unl_split (n := ops.size) (i := e.on) (by omega) hle hc.size
              rw [hu] at hu2
              cases pre2 with
              | nil => injection hu2 with e1 _; omega
              | cons j pre' => injection hu2 with e1 _; have := (hp2 j (by simp)).1; omega
        rw [hr] at this; cases this
    · intro i hi
      obtain ⟨h1, h2, o, ho, he⟩ := ready_spec hi
      obtain ⟨pre, post, hu1, hu2, hp⟩ := unl_split h1 h2 hc.size
      rw [hu1] at hs
      have hc' : Closed ops (listed.setIfInBounds i true) := by
        refine ⟨by simp [hc.size], fun k ok hk hlk e hem hb => ?_⟩
        by_cases hki : k = i
        · subst hki
          rw [ho] at hk; cases hk
          exact getD_set_true (he e hem hb)
        · rw [getD_set_ne true (fun h => hki h.symm)] at hlk
          exact getD_set_true (hc.edges k ok hk hlk e hem hb)
      have hlen : (unl (listed.setIfInBounds i true) ops.size).length = fuel := by
        rw [hu2]; rw [hu1] at hl; simp at hl ⊢; omega
      have hall : ∀ j ∈ pre, ∃ oj, ops[j]? = some oj ∧ okPairQ st o oj = true ∧ o.apart ops oj = true ∧ oj.apart ops o = true := by
        intro j hj
        obtain ⟨hji, hjl⟩ := hp j hj
        rcases (segQB_at h ho).2.2 j hji with hb | hb
        · exfalso
          have := anc_listedQ h hc j i o ho he hb
          have hjs : j < listed.size := by rw [hc.size]; omega
          simp only [Array.getD, hjs, dif_pos] at this hjl
          rw [this] at hjl; cases hjl
        · exact hb
      have hstep := qBubble ho (segQB_noSelect h) pre post hall a w hS hs
      refine wpOp_mono (fun a' w' ⟨k1, k2⟩ => ?_) (wpOp_of_qOp ho hS hstep)
      exact wpAny_of_qOps h fuel _ a' w' hc' hlen k1 (by rw [hu2]; exact k2)

/-- The walk in the order of the text. -/
def wpSegQ (P : Program) (ops : Array Oper) (st : List Tmp) (S : World → Prop) (Q : Exit → Act → World → Prop) : List Oper → Act → World → Prop
  | [], a, w => Q .normal a w
  | o :: rest, a, w => qOp P ops st S o (wpSegQ P ops st S Q rest) a w

theorem qOps_eq (l : List Oper) : ∀ k, (∀ j, l[j]? = ops[k + j]?) → qOps P ops st S Q (List.range' k l.length) = wpSegQ P ops st S Q l := by
  induction l with
  | nil => intro k _; funext a w; simp [qOps, wpSegQ]
  | cons o l ih =>
    intro k h
    have h0 : ops[k]? = some o := by simpa using (h 0).symm
    have ih' := ih (k + 1) (fun j => by have := h (j + 1); simpa [Nat.add_assoc, Nat.add_comm 1 j] using this)
    funext a w
    simp only [List.length_cons, List.range'_succ, qOps, wpSegQ, h0, ih']

theorem wp_region_segQ {id : Nat} {a : Act} {w : World} {l : List Oper} (st : List Tmp) (S : World → Prop) (hm : P.follows .mixedOrders = true) (hB : segQB st l.toArray = true) (hS : S w.drew)
    (h : wpSegQ P l.toArray st S Q l a w.drew) : (Code.region id l.toArray true).wp P Q a w := by
  refine wp_region_any hm ?_
  have hget : ∀ i, i < l.toArray.size → (Array.replicate l.toArray.size false).getD i true = false := by
    intro i hi
    unfold Array.getD
    rw [dif_pos (by simpa using hi)]
    exact Array.getElem_replicate _
  have hu : unl (Array.replicate l.toArray.size false) l.toArray.size = List.range l.toArray.size := by
    unfold unl
    rw [List.filter_eq_self]
    intro i hi
    rw [hget i (List.mem_range.1 hi)]; rfl
  refine wpAny_of_qOps hB _ _ _ _ ⟨by simp, fun i o hi hl => ?_⟩ (by rw [hu]; simp) hS ?_
  · exfalso
    rw [hget i (Array.getElem?_eq_some_iff.1 hi).1] at hl; cases hl
  · rw [hu, List.range_eq_range']
    have := qOps_eq (P := P) (ops := l.toArray) (st := st) (S := S) (Q := Q) l 0 (by simp)
    simp only [List.size_toArray]
    rw [this]; exact h

theorem segQ_nil {a : Act} {w : World} (h : Q .normal a w) : wpSegQ P ops st S Q [] a w := h
/-- What asks nothing of memory: in every world. -/
theorem segQ_pure {a : Act} {w : World} {o : Oper} {rest : List Oper} {v : Value} (hl : pureB o = true) (hw : Region.wanted o (yielded ops a.tmps) = true)
    (hv : ∀ w, (execOp a.eval o).run P w = .ok (.value v) w) (h : wpSegQ P ops st S Q rest (a.put o.dst v) w) : wpSegQ P ops st S Q (o :: rest) a w := by
  unfold wpSegQ qOp; rw [if_pos (by simp [hl])]; exact ⟨v, .inl ⟨hw, fun w _ => hv w⟩, h⟩
/-- A look that tells the same wherever S holds. -/
theorem segQ_still {a : Act} {w : World} {o : Oper} {rest : List Oper} {v : Value} (hp : pureB o = false) (hl : stB st o = true) (hw : Region.wanted o (yielded ops a.tmps) = true) (hS : S w)
    (hv : ∀ w, S w → (execOp a.eval o).run P w = .ok (.value v) w) (h : wpSegQ P ops st S Q rest (a.put o.dst v) w) : wpSegQ P ops st S Q (o :: rest) a w := by
  have hl2 : lookB o = true := by unfold stB at hl; simp only [Bool.and_eq_true] at hl; exact hl.1
  unfold wpSegQ qOp; rw [if_pos (by simp [hl2])]
  exact ⟨v, .inl ⟨hw, fun w' h => by rcases h with h | h | h; · rw [hp] at h; cases h
                                     · exact hv _ h.2
                                     · subst h; exact hv _ hS⟩, h⟩
/-- Another look at memory. -/
theorem segQ_look {a : Act} {w : World} {o : Oper} {rest : List Oper} {v : Value} (hp : pureB o = false) (hs : stB st o = false) (hl : lookB o = true) (hw : Region.wanted o (yielded ops a.tmps) = true)
    (hv : (execOp a.eval o).run P w = .ok (.value v) w) (h : wpSegQ P ops st S Q rest (a.put o.dst v) w) : wpSegQ P ops st S Q (o :: rest) a w := by
  unfold wpSegQ qOp; rw [if_pos (by simp [hl])]
  exact ⟨v, .inl ⟨hw, fun w' h => by rcases h with h | h | h; · rw [hp] at h; cases h
                                     · rw [hs] at h; cases h.1
                                     · subst h; exact hv⟩, h⟩
theorem segQ_call {a : Act} {w : World} {o : Oper} {rest : List Oper} {f : FuncId} {args : Array Value} (hp : pureB o = false) (hl : lookB o = false) (hw : Region.wanted o (yielded ops a.tmps) = true)
    (hr : (execOp a.eval o).run P w = .ok (.enter f args) w)
    (h : Calls P f args w fun e w' => ∃ v, e = .returned v ∧ S w' ∧ wpSegQ P ops st S Q rest (a.put o.dst v) w') : wpSegQ P ops st S Q (o :: rest) a w := by
  unfold wpSegQ qOp; rw [if_neg (by simp [hl, hp])]
  unfold actS; rw [if_pos hw, hr]
  exact h.mono fun e w' ⟨v, he, h2⟩ => by subst he; exact h2
theorem segQ_act {a : Act} {w w' : World} {o : Oper} {rest : List Oper} {v : Value} (hp : pureB o = false) (hl : lookB o = false) (hw : Region.wanted o (yielded ops a.tmps) = true)
    (hr : (execOp a.eval o).run P w = .ok (.value v) w') (hS : S w') (h : wpSegQ P ops st S Q rest (a.put o.dst v) w') : wpSegQ P ops st S Q (o :: rest) a w := by
  unfold wpSegQ qOp; rw [if_neg (by simp [hl, hp])]
  unfold actS; rw [if_pos hw, hr]
  exact ⟨hS, h⟩
theorem segQ_unit {a : Act} {w w' : World} {o : Oper} {rest : List Oper} (hp : pureB o = false) (hl : lookB o = false) (hw : Region.wanted o (yielded ops a.tmps) = true)
    (hr : (execOp a.eval o).run P w = .ok .skip w') (hS : S w') (h : wpSegQ P ops st S Q rest (a.put o.dst undef) w') : wpSegQ P ops st S Q (o :: rest) a w := by
  unfold wpSegQ qOp; rw [if_neg (by simp [hl, hp])]
  unfold actS; rw [if_pos hw, hr]
  exact ⟨hS, h⟩
end
attribute [irreducible] wpSegQ
end Go.Proofs.YtfddmbafjniflaaGreatDoor
