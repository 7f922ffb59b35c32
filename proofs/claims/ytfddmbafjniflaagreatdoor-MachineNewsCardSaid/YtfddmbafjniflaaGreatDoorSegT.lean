/-
  The law of Seg's regions with acts, where calls that turn nothing (of the functions 'qs') count as looks.
-/
import Derived.Test.YtfddmbafjniflaaGreatDoorSegN
namespace Go.Proofs.YtfddmbafjniflaaGreatDoor
open Go

/-- Does an operation no more than look, if the functions qs turn nothing? -/
def lookT (qs : List FuncId) (o : Oper) : Bool :=
  lookB o || match o.op with
  | .call { callee := .value (.func f), .. } => qs.contains f
  | _ => false
/-- Two contracts of one call speak of one end. -/
theorem Calls.agree {P : Program} {f : FuncId} {args : Array Value} {w : World} {R R' : Value → World → Prop}
    (h : Calls P f args w fun | .returned v, w' => R v w' | _, _ => False) (h' : Calls P f args w fun | .returned v, w' => R' v w' | _, _ => False) (hi : P.inits.idxOf? f = none) :
    ∃ v w', R v w' ∧ R' v w' := by
  obtain ⟨n, v, w1, e1, r1⟩ := h.done hi
  obtain ⟨m, v', w2, e2, r2⟩ := h'.done hi
  have a := runN_ended e1 m
  have b := runN_ended e2 n
  rw [Nat.add_comm, a] at b
  injection b with ho hw
  injection ho with hv
  subst hv hw
  exact ⟨_, _, r1, r2⟩
theorem Calls.one {P : Program} {f : FuncId} {args : Array Value} {w : World} {v u : Value} (hi : P.inits.idxOf? f = none)
    (h : Calls P f args w fun e w' => e = .returned v ∧ w' = w) (h' : Calls P f args w fun e w' => e = .returned u ∧ w' = w) : v = u := by
  obtain ⟨x, _, h1, h2⟩ := Calls.agree (R := fun x _ => x = v) (R' := fun x _ => x = u) (h.mono fun e w' ⟨he, _⟩ => by subst he; rfl) (h'.mono fun e w' ⟨he, _⟩ => by subst he; rfl) hi
  exact h1.symm.trans h2
/-- It tells v in this world, and does nothing else. -/
def tellsAt (P : Program) (o : Oper) (a : Act) (v : Value) (w : World) : Prop :=
  (execOp a.eval o).run P w = .ok (.value v) w ∨
  ∃ f args, (execOp a.eval o).run P w = .ok (.enter f args) w ∧ P.inits.idxOf? f = none ∧ Calls P f args w fun e w' => e = .returned v ∧ w' = w
theorem tellsAt.unique {P : Program} {o : Oper} {a : Act} {v u : Value} {w : World} (h : tellsAt P o a v w) (h' : tellsAt P o a u w) : v = u := by
  rcases h with h | ⟨f, args, h, hi, hc⟩ <;> rcases h' with h' | ⟨f', args', h', _, hc'⟩
  · have := h.symm.trans h'; simpa using this
  · rw [h] at h'; cases h'
  · rw [h] at h'; cases h'
  · rw [h] at h'; cases h'; exact Calls.one hi hc hc'

def segTB (qs : List FuncId) (ops : Array Oper) : Bool :=
  let m := Region.before ops
  Region.noSelect ops &&
  (List.range ops.size).all fun i =>
    m.getD i 0 == masksOf ops m i &&
    ((ops[i]?).map fun oi =>
      (oi.after.all fun e => !Region.binds .any e || e.on < i) &&
      (List.range i).all fun j => (m.getD i 0).testBit j ||
        ((ops[j]?).map fun oj => (lookT qs oi || lookT qs oj && i + 1 != ops.size) && oi.apart ops oj && oj.apart ops oi).getD true).getD true

section
variable {qs : List FuncId} {P : Program} {ops : Array Oper} {Q : Exit → Act → World → Prop} {S : World → Prop}

/-- In every world that meets S the operation tells v, and does nothing else. -/
def TellsT (P : Program) (ops : Array Oper) (S : World → Prop) (o : Oper) (a : Act) (v : Value) : Prop :=
  (Region.wanted o (yielded ops a.tmps) = true ∧ ∀ w, S w → tellsAt P o a v w) ∨ (Region.wanted o (yielded ops a.tmps) = false ∧ v = undef)

theorem TellsT.put {o o' : Oper} {a : Act} {v : Value} (hs : ∀ cs b, o.op ≠ .select cs b) (hap : o'.apart ops o = true) (u : Value) : TellsT P ops S o (a.put o'.dst u) v ↔ TellsT P ops S o a v := by
  obtain ⟨h1, _, _⟩ := Oper.apart_spec hap
  unfold TellsT tellsAt
  rw [execOp_put o hs a o'.dst u h1, wanted_put o a o'.dst u h1]
theorem TellsT.unique {o : Oper} {a : Act} {v u : Value} {w : World} (hw : S w) (h : TellsT P ops S o a v) (h' : TellsT P ops S o a u) : v = u := by
  rcases h with ⟨h1, h2⟩ | ⟨h1, h2⟩ <;> rcases h' with ⟨h3, h4⟩ | ⟨h3, h4⟩
  · exact (h2 w hw).unique (h4 w hw)
  · rw [h1] at h3; cases h3
  · rw [h1] at h3; cases h3
  · rw [h2, h4]

def tOp (qs : List FuncId) (P : Program) (ops : Array Oper) (S : World → Prop) (L : Prop) (o : Oper) (K : Act → World → Prop) (a : Act) (w : World) : Prop :=
  if lookT qs o then ∃ v, TellsT P ops S o a v ∧ K (a.put o.dst v) w else actS P ops o a w fun a' w' => (S w' ∨ L) ∧ K a' w'
theorem tOp_mono {L : Prop} {o : Oper} {a : Act} {w : World} {K K' : Act → World → Prop} (hL : ¬ L) (hw : S w) (h : ∀ a w, S w → K a w → K' a w) (hh : tOp qs P ops S L o K a w) : tOp qs P ops S L o K' a w := by
  unfold tOp at *
  split
  · rename_i hl; simp only [hl, if_true] at hh; obtain ⟨v, h1, h2⟩ := hh; exact ⟨v, h1, h _ _ hw h2⟩
  · rename_i hl; simp only [hl, Bool.false_eq_true, if_false] at hh; exact actS_mono (fun v w' ⟨h1, h2⟩ => ⟨h1, h _ _ (h1.resolve_right hL) h2⟩) hh

theorem tOp_swap {Li Lj : Prop} {oi oj : Oper} {K : Act → World → Prop} {a : Act} {w : World} (hsi : ∀ cs b, oi.op ≠ .select cs b) (hsj : ∀ cs b, oj.op ≠ .select cs b)
    (hl : (lookT qs oi || lookT qs oj) = true) (hap : oi.apart ops oj = true) (hap' : oj.apart ops oi = true) (hw : S w)
    (h : tOp qs P ops S Lj oj (tOp qs P ops S Li oi K) a w) : tOp qs P ops S Li oi (tOp qs P ops S Lj oj K) a w := by
  have h2 := (Oper.apart_spec hap).2.1
  have h2' := (Oper.apart_spec hap').2.1
  unfold tOp at *
  cases hi : lookT qs oi <;> cases hj : lookT qs oj <;> simp only [hi, hj, Bool.or_self, Bool.false_eq_true, if_false, if_true] at h hl ⊢
  · -- a look ahead of an action
    obtain ⟨v, h1, h3⟩ := h
    have h4 := actS_put hsi hap' v h3
    refine actS_mono (fun u w' ⟨k1, k2⟩ => ⟨k1, v, (TellsT.put hsj hap u).2 h1, k2⟩) h4
  · -- an action ahead of a look
    obtain ⟨u0, w0, h1, v, h3, _⟩ := actS_some h
    have hv := (TellsT.put hsi hap' u0).1 h3
    refine ⟨v, hv, actS_put' hsj hap v (actS_mono (fun u w' ⟨k1, v', k2, k3⟩ => ⟨k1, ?_⟩) h)⟩
    have := TellsT.unique hw hv ((TellsT.put hsi hap' u).1 k2)
    subst this; exact k3
  · obtain ⟨v, h1, u, h3, h4⟩ := h
    refine ⟨u, (TellsT.put hsi hap' v).1 h3, v, (TellsT.put hsj hap u).2 h1, ?_⟩
    rw [Act.put_comm a u v h2]; exact h4

theorem wpOp_of_tOp {L : Prop} {i : Nat} {o : Oper} {K : Act → World → Prop} {a : Act} {w : World} (hi : ops[i]? = some o) (hS : S w) (h : tOp qs P ops S L o K a w) : wpOp P ops Q i (fun a' w' => (S w' ∨ L) ∧ K a' w') a w := by
  unfold wpOp
  simp only [hi]
  unfold tOp at h
  split at h
  · obtain ⟨v, ht, hk⟩ := h
    rcases ht with ⟨hw, hr⟩ | ⟨hw, rfl⟩
    · rw [if_pos hw]; left
      rcases hr w hS with hv | ⟨f, args, hv, _, hc⟩
      · simp only [Oper.wp, hv, Oper.upon]; exact ⟨.inl hS, hk⟩
      · simp only [Oper.wp, hv, Oper.upon]
        refine hc.mono fun e w' he => ?_
        obtain ⟨h1, h2⟩ := he
        subst h1 h2
        exact ⟨.inl hS, hk⟩
    · simp only [hw]; exact ⟨.inl hS, hk⟩
  · cases hw : Region.wanted o (yielded ops a.tmps) with
    | true => rw [if_pos rfl]; exact .inl (wp_of_actS hw h)
    | false => unfold actS at h; rw [hw] at h; exact h

def tOps (qs : List FuncId) (P : Program) (ops : Array Oper) (S : World → Prop) (Q : Exit → Act → World → Prop) : List Nat → Act → World → Prop
  | [], a, w => Q .normal a w
  | i :: r, a, w => match ops[i]? with | some o => tOp qs P ops S (i + 1 = ops.size) o (tOps qs P ops S Q r) a w | none => tOps qs P ops S Q r a w

theorem tBubble {i : Nat} {oi : Oper} (hi : ops[i]? = some oi) (hsel : Region.noSelect ops = true) : ∀ (pre post : List Nat),
    (∀ j ∈ pre, j + 1 ≠ ops.size ∧ ∃ oj, ops[j]? = some oj ∧ (lookT qs oi || lookT qs oj && i + 1 != ops.size) = true ∧ oi.apart ops oj = true ∧ oj.apart ops oi = true) →
    ∀ a w, S w → tOps qs P ops S Q (pre ++ i :: post) a w → tOp qs P ops S (i + 1 = ops.size) oi (tOps qs P ops S Q (pre ++ post)) a w
  | [], post, _, a, w, _, h => by simpa only [List.nil_append, tOps, hi] using h
  | j :: pre, post, hp, a, w, hS, h => by
    obtain ⟨hjn, oj, hj, hlj, hap, hap'⟩ := hp j (by simp)
    have ih := tBubble hi hsel pre post (fun k hk => hp k (by simp [hk]))
    simp only [List.cons_append, tOps, hj] at h ⊢
    have h1 : tOp qs P ops S (j + 1 = ops.size) oj (tOp qs P ops S (i + 1 = ops.size) oi (tOps qs P ops S Q (pre ++ post))) a w := tOp_mono hjn hS (fun a w hS h => ih a w hS h) h
    exact tOp_swap (fun cs b => Region.noSelect_spec hsel i oi cs b hi) (fun cs b => Region.noSelect_spec hsel j oj cs b hj) (by cases h5 : lookT qs oi <;> cases h6 : lookT qs oj <;> simp_all) hap hap' hS h1

theorem segTB_noSelect (h : segTB qs ops = true) : Region.noSelect ops = true := by
  unfold segTB at h; simp only [Bool.and_eq_true] at h; exact h.1
theorem segTB_at (h : segTB qs ops = true) {i : Nat} {oi : Oper} (hi : ops[i]? = some oi) :
    (Region.before ops).getD i 0 = masksOf ops (Region.before ops) i ∧ (∀ e ∈ oi.after, Region.binds .any e = true → e.on < i) ∧
    ∀ j, j < i → ((Region.before ops).getD i 0).testBit j = true ∨ ∃ oj, ops[j]? = some oj ∧ (lookT qs oi || lookT qs oj && i + 1 != ops.size) = true ∧ oi.apart ops oj = true ∧ oj.apart ops oi = true := by
  unfold segTB at h
  simp only [Bool.and_eq_true, List.all_eq_true] at h
  have hlt : i < ops.size := (Array.getElem?_eq_some_iff.1 hi).1
  obtain ⟨h1, h2⟩ := h.2 i (List.mem_range.2 hlt)
  simp only [hi, Option.map_some, Option.getD_some, Bool.and_eq_true, Array.all_eq_true_iff_forall_mem, List.all_eq_true] at h2
  refine ⟨by simpa using h1, fun e he hb => ?_, fun j hj => ?_⟩
  · have := h2.1 e he
    simp only [hb, Bool.not_true, Bool.false_or, decide_eq_true_eq] at this
    exact this
  · have h3 := h2.2 j (List.mem_range.2 hj)
    rw [Bool.or_eq_true] at h3
    rcases h3 with h3 | h3
    · exact .inl h3
    · have hjl : j < ops.size := by omega
      have hj' : ops[j]? = some ops[j] := by simp [hjl]
      simp only [hj', Option.map_some, Option.getD_some, Bool.and_eq_true] at h3
      exact .inr ⟨_, hj', h3.1.1, h3.1.2, h3.2⟩

theorem anc_listedT (h : segTB qs ops = true) {listed : Array Bool} (hc : Closed ops listed) (j : Nat) : ∀ (i : Nat) (o : Oper), ops[i]? = some o →
    (∀ e ∈ o.after, Region.binds .any e = true → listed.getD e.on false = true) → ((Region.before ops).getD i 0).testBit j = true → listed.getD j false = true := by
  intro i
  induction i using Nat.strongRecOn with
  | _ i ih =>
    intro o ho he hb
    obtain ⟨h1, h2, _⟩ := segTB_at h ho
    rw [h1] at hb
    obtain ⟨e, hem, hbe, hon | hon⟩ := masks_bit ho hb
    · subst hon; exact he e hem hbe
    · have hlt := h2 e hem hbe
      have hil : i < ops.size := (Array.getElem?_eq_some_iff.1 ho).1
      have hel : e.on < ops.size := by omega
      have ho' : ops[e.on]? = some ops[e.on] := by simp [hel]
      have hle := he e hem hbe
      refine ih e.on hlt _ ho' (fun e' he' hb' => hc.edges e.on _ ho' ?_ e' he' hb') hon
      have : e.on < listed.size := by rw [hc.size]; exact hel
      simp only [Array.getD, this, dif_pos] at hle ⊢
      exact hle

theorem wpAny_of_tOps (h : segTB qs ops = true) : ∀ (fuel : Nat) (listed : Array Bool) (a : Act) (w : World), Closed ops listed → (unl listed ops.size).length = fuel → (S w ∨ fuel = 0) →
    tOps qs P ops S Q (unl listed ops.size) a w → wpAny P .any ops Q fuel listed a w
  | 0, listed, a, w, hc, hl, hS, hs => by
    have h0 := List.eq_nil_of_length_eq_zero hl
    rw [h0] at hs
    refine ⟨?_, hs⟩
    rw [List.eq_nil_iff_forall_not_mem]
    intro i hi
    obtain ⟨h1, h2, _⟩ := ready_spec hi
    have : i ∈ unl listed ops.size := by unfold unl; rw [List.mem_filter, List.mem_range]; exact ⟨h1, by simp [h2]⟩
    rw [h0] at this; cases this
  | fuel + 1, listed, a, w, hc, hl, hS, hs => by
    constructor
    · intro hr
      exfalso
      cases hu : unl listed ops.size with
      | nil => rw [hu] at hl; cases hl
      | cons i r =>
        have hi : i ∈ unl listed ops.size := by rw [hu]; simp
        unfold unl at hi
        rw [List.mem_filter, List.mem_range] at hi
        obtain ⟨hi1, hi2⟩ := hi
        have hi2' : listed.getD i true = false := by simpa using hi2
        obtain ⟨pre, post, hu1, _, hp⟩ := unl_split hi1 hi2' hc.size
        rw [hu] at hu1
        have hpre : pre = [] := by
          cases pre with
          | nil => rfl
          | cons j pre' => injection hu1 with e1 _; have := (hp j (by simp)).1; omega
        subst hpre
        have : i ∈ Region.ready .any ops listed := by
          unfold Region.ready
          simp only [List.mem_filter, List.mem_range, Bool.and_eq_true, Bool.not_eq_true']
          have ho : ops[i]? = some ops[i] := by simp [hi1]
          refine ⟨hi1, hi2', ?_⟩
          simp only [ho, Option.map_some, Option.getD_some, Array.all_eq_true_iff_forall_mem]
          intro e he
          cases hb : Region.binds .any e with
          | false => simp
          | true =>
            have hlt := (segTB_at h ho).2.1 e he hb
            simp only [Bool.not_true, Bool.false_or]
            cases hle : listed.getD e.on true with
            | true =>
              have : e.on < listed.size := by rw [hc.size]; omega
              simp only [Array.getD, this, dif_pos] at hle ⊢
              exact hle
            | false =>
              exfalso
              obtain ⟨pre2, post2, hu2, _, hp2⟩ := unl_split (n := ops.size) (i := e.on) (by omega) hle hc.size
              rw [hu] at hu2
              cases pre2 with
              | nil => injection hu2 with e1 _; omega
              | cons j pre' => injection hu2 with e1 _; have := (hp2 j (by simp)).1; omega
        rw [hr] at this; cases this
    · intro i hi
      obtain ⟨h1, h2, o, ho, he⟩ := ready_spec hi
      obtain ⟨pre, post, hu1, hu2, hp⟩ := unl_split h1 h2 hc.size
      rw [hu1] at hs
      have hc' : Closed ops (listed.setIfInBounds i true) := by
        refine ⟨by simp [hc.size], fun k ok hk hlk e hem hb => ?_⟩
        by_cases hki : k = i
        · subst hki
          rw [ho] at hk; cases hk
          exact getD_set_true (he e hem hb)
        · rw [getD_set_ne true (fun h => hki h.symm)] at hlk
          exact getD_set_true (hc.edges k ok hk hlk e hem hb)
      have hlen : (unl (listed.setIfInBounds i true) ops.size).length = fuel := by
        rw [hu2]; rw [hu1] at hl; simp at hl ⊢; omega
      have hall : ∀ j ∈ pre, j + 1 ≠ ops.size ∧ ∃ oj, ops[j]? = some oj ∧ (lookT qs o || lookT qs oj && i + 1 != ops.size) = true ∧ o.apart ops oj = true ∧ oj.apart ops o = true := by
        intro j hj
        obtain ⟨hji, hjl⟩ := hp j hj
        refine ⟨by omega, ?_⟩
        rcases (segTB_at h ho).2.2 j hji with hb | hb
        · exfalso
          have := anc_listedT h hc j i o ho he hb
          have hjs : j < listed.size := by rw [hc.size]; omega
          simp only [Array.getD, hjs, dif_pos] at this hjl
          rw [this] at hjl; cases hjl
        · exact hb
      have hS' : S w := hS.resolve_right (by omega)
      have hstep := tBubble ho (segTB_noSelect h) pre post hall a w hS' hs
      cases hlo : lookT qs o with
      | true =>
        have hstep' : tOp qs P ops S False o (tOps qs P ops S Q (pre ++ post)) a w := by unfold tOp at hstep ⊢; rw [if_pos hlo] at hstep ⊢; exact hstep
        refine wpOp_mono (fun a' w' ⟨k1, k2⟩ => ?_) (wpOp_of_tOp ho hS' hstep')
        exact wpAny_of_tOps h fuel _ a' w' hc' hlen (.inl (k1.resolve_right id)) (by rw [hu2]; exact k2)
      | false =>
        refine wpOp_mono (fun a' w' ⟨k1, k2⟩ => ?_) (wpOp_of_tOp ho hS' hstep)
        refine wpAny_of_tOps h fuel _ a' w' hc' hlen ?_ (by rw [hu2]; exact k2)
        rcases k1 with k1 | k1
        · exact .inl k1
        · right
          -- the last one, an action: all others have been
          have hpre : pre = [] := by
            cases hpp : pre with
            | nil => rfl
            | cons j pre' =>
              obtain ⟨_, oj, _, h7, _⟩ := hall j (by rw [hpp]; simp)
              simp [hlo, k1] at h7
          have hpost : post = [] := by
            cases hpp : post with
            | nil => rfl
            | cons j post' =>
              exfalso
              have hm : (unl listed ops.size).Pairwise (· < ·) := by
                unfold unl
                refine List.Pairwise.filter _ ?_
                exact List.pairwise_lt_range
              rw [hu1, hpre, hpp] at hm
              have hij : i < j := by
                have hm2 : List.Pairwise (· < ·) (i :: j :: post') := hm
                exact (List.pairwise_cons.1 hm2).1 j (by simp)
              have hjm : j ∈ unl listed ops.size := by rw [hu1, hpp]; simp
              unfold unl at hjm
              rw [List.mem_filter, List.mem_range] at hjm
              omega
          rw [hu2, hpre, hpost] at hlen
          simpa using hlen.symm

/-- The walk in the order of the text. -/
def wpSegT (qs : List FuncId) (P : Program) (ops : Array Oper) (S : World → Prop) (Q : Exit → Act → World → Prop) : List Oper → Act → World → Prop
  | [], a, w => Q .normal a w
  | o :: rest, a, w => tOp qs P ops S (rest = []) o (wpSegT qs P ops S Q rest) a w

theorem tOps_eq (l : List Oper) : ∀ k, k + l.length = ops.size → (∀ j, l[j]? = ops[k + j]?) → tOps qs P ops S Q (List.range' k l.length) = wpSegT qs P ops S Q l := by
  induction l with
  | nil => intro k _ _; funext a w; simp [tOps, wpSegT]
  | cons o l ih =>
    intro k hk h
    have h0 : ops[k]? = some o := by simpa using (h 0).symm
    have ih' := ih (k + 1) (by simp at hk; omega) (fun j => by have := h (j + 1); simpa [Nat.add_assoc, Nat.add_comm 1 j] using this)
    funext a w
    have hL : (k + 1 = ops.size) = (l = []) := by
      apply propext
      simp at hk
      constructor
      · intro e; exact List.eq_nil_of_length_eq_zero (by omega)
      · rintro rfl; simpa using hk
    simp only [List.length_cons, List.range'_succ, tOps, wpSegT, h0, ih', hL]

theorem wp_region_segT {id : Nat} {a : Act} {w : World} {l : List Oper} (S : World → Prop) (hm : P.follows .mixedOrders = true) (hB : segTB qs l.toArray = true) (hS : S w.drew)
    (h : wpSegT qs P l.toArray S Q l a w.drew) : (Code.region id l.toArray true).wp P Q a w := by
  refine wp_region_any hm ?_
  have hget : ∀ i, i < l.toArray.size → (Array.replicate l.toArray.size false).getD i true = false := by
    intro i hi
    unfold Array.getD
    rw [dif_pos (by simpa using hi)]
    exact Array.getElem_replicate _
  have hu : unl (Array.replicate l.toArray.size false) l.toArray.size = List.range l.toArray.size := by
    unfold unl
    rw [List.filter_eq_self]
    intro i hi
    rw [hget i (List.mem_range.1 hi)]; rfl
  refine wpAny_of_tOps hB _ _ _ _ ⟨by simp, fun i o hi hl => ?_⟩ (by rw [hu]; simp) (.inl hS) ?_
  · exfalso
    rw [hget i (Array.getElem?_eq_some_iff.1 hi).1] at hl; cases hl
  · rw [hu, List.range_eq_range']
    have := tOps_eq (qs := qs) (P := P) (ops := l.toArray) (S := S) (Q := Q) l 0 (by simp) (by simp)
    simp only [List.size_toArray]
    rw [this]; exact h

theorem segT_nil {a : Act} {w : World} (h : Q .normal a w) : wpSegT qs P ops S Q [] a w := h
theorem segT_look {a a0 : Act} {w : World} {o : Oper} {rest : List Oper} {v : Value} (hl : lookB o = true) (hn : a = a0) (hw : Region.wanted o (yielded ops a0.tmps) = true)
    (hv : ∀ w, S w → (execOp a0.eval o).run P w = .ok (.value v) w) (h : wpSegT qs P ops S Q rest (a0.put o.dst v) w) : wpSegT qs P ops S Q (o :: rest) a w := by
  subst hn
  unfold wpSegT tOp; rw [if_pos (by simp [lookT, hl])]; exact ⟨v, .inl ⟨hw, fun w hS => .inl (hv w hS)⟩, h⟩
/-- A call that turns nothing, the same wherever S holds. -/
theorem segT_quiet {a a0 : Act} {w : World} {o : Oper} {rest : List Oper} {v : Value} {f : FuncId} {args : Array Value} (hq : lookT qs o = true) (hn : a = a0) (hw : Region.wanted o (yielded ops a0.tmps) = true)
    (hv : ∀ w, S w → (execOp a0.eval o).run P w = .ok (.enter f args) w) (hi : P.inits.idxOf? f = none) (hc : ∀ w, S w → Calls P f args w fun e w' => e = .returned v ∧ w' = w)
    (h : wpSegT qs P ops S Q rest (a0.put o.dst v) w) : wpSegT qs P ops S Q (o :: rest) a w := by
  subst hn
  unfold wpSegT tOp; rw [if_pos hq]; exact ⟨v, .inl ⟨hw, fun w hS => .inr ⟨f, args, hv w hS, hi, hc w hS⟩⟩, h⟩
theorem segT_skip {a : Act} {w : World} {o : Oper} {rest : List Oper} (hw : Region.wanted o (yielded ops a.tmps) = false)
    (h : wpSegT qs P ops S Q rest (a.put o.dst undef) w) (hS : S w) : wpSegT qs P ops S Q (o :: rest) a w := by
  unfold wpSegT tOp
  split
  · exact ⟨undef, .inr ⟨hw, rfl⟩, h⟩
  · unfold actS; rw [hw]; exact ⟨.inl hS, h⟩
/-- A call: the callee's contract. -/
theorem segT_call {a : Act} {w : World} {o : Oper} {rest : List Oper} {f : FuncId} {args : Array Value} (hl : lookT qs o = false) (hw : Region.wanted o (yielded ops a.tmps) = true)
    (hr : (execOp a.eval o).run P w = .ok (.enter f args) w)
    (h : Calls P f args w fun e w' => ∃ v, e = .returned v ∧ (S w' ∨ rest = []) ∧ wpSegT qs P ops S Q rest (a.put o.dst v) w') : wpSegT qs P ops S Q (o :: rest) a w := by
  unfold wpSegT tOp; rw [if_neg (by simp [hl])]
  unfold actS; rw [if_pos hw, hr]
  exact h.mono fun e w' ⟨v, he, h1, h2⟩ => by subst he; exact ⟨h1, h2⟩
/-- Another action that hands back a value. -/
theorem segT_act {a : Act} {w w' : World} {o : Oper} {rest : List Oper} {v : Value} (hl : lookT qs o = false) (hw : Region.wanted o (yielded ops a.tmps) = true)
    (hr : (execOp a.eval o).run P w = .ok (.value v) w') (hS : S w' ∨ rest = []) (h : wpSegT qs P ops S Q rest (a.put o.dst v) w') : wpSegT qs P ops S Q (o :: rest) a w := by
  unfold wpSegT tOp; rw [if_neg (by simp [hl])]
  unfold actS; rw [if_pos hw, hr]
  exact ⟨hS, h⟩
theorem segT_unit {a : Act} {w w' : World} {o : Oper} {rest : List Oper} (hl : lookT qs o = false) (hw : Region.wanted o (yielded ops a.tmps) = true)
    (hr : (execOp a.eval o).run P w = .ok .skip w') (hS : S w' ∨ rest = []) (h : wpSegT qs P ops S Q rest (a.put o.dst undef) w') : wpSegT qs P ops S Q (o :: rest) a w := by
  unfold wpSegT tOp; rw [if_neg (by simp [hl])]
  unfold actS; rw [if_pos hw, hr]
  exact ⟨hS, h⟩
theorem segT_callN {a a0 : Act} {w : World} {o : Oper} {rest : List Oper} {f : FuncId} {args : Array Value} (hl : lookT qs o = false) (hn : a = a0) (hw : Region.wanted o (yielded ops a0.tmps) = true) (hr : (execOp a0.eval o).run P w = .ok (.enter f args) w)
    (h : Calls P f args w fun e w' => ∃ v, e = .returned v ∧ (S w' ∨ rest = []) ∧ wpSegT qs P ops S Q rest (a0.put o.dst v) w') : wpSegT qs P ops S Q (o :: rest) a w := by subst hn; exact segT_call hl hw hr h
theorem segT_actN {a a0 : Act} {w w' : World} {o : Oper} {rest : List Oper} {v : Value} (hl : lookT qs o = false) (hn : a = a0) (hw : Region.wanted o (yielded ops a0.tmps) = true) (hr : (execOp a0.eval o).run P w = .ok (.value v) w') (hS : S w' ∨ rest = [])
    (h : wpSegT qs P ops S Q rest (a0.put o.dst v) w') : wpSegT qs P ops S Q (o :: rest) a w := by subst hn; exact segT_act hl hw hr hS h
theorem segT_unitN {a a0 : Act} {w w' : World} {o : Oper} {rest : List Oper} (hl : lookT qs o = false) (hn : a = a0) (hw : Region.wanted o (yielded ops a0.tmps) = true) (hr : (execOp a0.eval o).run P w = .ok .skip w') (hS : S w' ∨ rest = [])
    (h : wpSegT qs P ops S Q rest (a0.put o.dst undef) w') : wpSegT qs P ops S Q (o :: rest) a w := by subst hn; exact segT_unit hl hw hr hS h
theorem segT_norm {a a0 : Act} {w : World} {l : List Oper} (hn : a = a0) (h : wpSegT qs P ops S Q l a0 w) : wpSegT qs P ops S Q l a w := by subst hn; exact h
end
attribute [irreducible] wpSegT
end Go.Proofs.YtfddmbafjniflaaGreatDoor
