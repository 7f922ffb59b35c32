/-
  Assertions on pieces of memory that lie apart ('Sw w [P1, P2, ..]'); owned slices; what an append does to them.
-/
import Derived.WalkKit
import Derived.Deep.Draws
namespace Go.Proofs.YtfddmbafjniflaaGreatDoor
open Go Go.RowKit


theorem hid {p : Prop} (h : p) : Hid p := h

/-- What no step of ours turns. -/
structure Env where
  os : Os
  tape : Nat → Question → Nat
  output : Array (Nat × ByteArray)

abbrev HF := Nat → Option Obj
abbrev HP := Env → HF → Prop

def HF.sub (f g : HF) : Prop := ∀ b o, f b = some o → g b = some o
def HF.diff (g f : HF) : HF := fun b => match f b with | none => g b | some _ => none

theorem HF.sub_refl (f : HF) : f.sub f := fun _ _ h => h
theorem HF.sub_trans {f g h : HF} (a : f.sub g) (b : g.sub h) : f.sub h := fun x o e => b x o (a x o e)
theorem HF.none_sub (g : HF) : HF.sub (fun _ => none) g := fun _ _ h => by cases h
theorem HF.diff_sub (g f : HF) : (g.diff f).sub g := by
  intro b o h; unfold HF.diff at h; split at h
  · exact h
  · cases h
theorem HF.diff_mono {g g' : HF} (f : HF) (h : g.sub g') : (g.diff f).sub (g'.diff f) := by
  intro b o e; unfold HF.diff at *
  split at e
  · exact h b o e
  · cases e

/-- The pieces lie apart in the heap. -/
def Sat (E : Env) : HF → List HP → Prop
  | _, [] => True
  | H, P :: l => ∃ f : HF, P E f ∧ f.sub H ∧ Sat E (H.diff f) l

theorem Sat.mono {E : Env} {l : List HP} : ∀ {H H' : HF}, H.sub H' → Sat E H l → Sat E H' l := by
  induction l with
  | nil => intros; trivial
  | cons P l ih =>
    rintro H H' hs ⟨f, hp, hf, hl⟩
    exact ⟨f, hp, HF.sub_trans hf hs, ih (HF.diff_mono f hs) hl⟩

theorem Sat.tail {E : Env} {H : HF} {P : HP} {l : List HP} (h : Sat E H (P :: l)) : Sat E H l := by
  obtain ⟨f, _, _, hl⟩ := h
  exact hl.mono (HF.diff_sub H f)

theorem HF.diff_swap (H f g : HF) : (H.diff f).diff g = (H.diff g).diff f := by
  funext b; unfold HF.diff
  cases f b <;> cases g b <;> rfl

theorem Sat.swap {E : Env} {H : HF} {P Q : HP} {l : List HP} (h : Sat E H (P :: Q :: l)) : Sat E H (Q :: P :: l) := by
  obtain ⟨f, hp, hf, g, hq, hg, hl⟩ := h
  refine ⟨g, hq, HF.sub_trans hg (HF.diff_sub H f), f, hp, ?_, ?_⟩
  · intro b o e
    unfold HF.diff
    split
    · exact hf b o e
    · rename_i o' e'
      have := hg b o' e'
      simp [HF.diff, e] at this
  · rw [HF.diff_swap]; exact hl

theorem Sat.cons {E : Env} {H : HF} {P : HP} {l l' : List HP} (hh : ∀ H, Sat E H l → Sat E H l') (h : Sat E H (P :: l)) : Sat E H (P :: l') := by
  obtain ⟨f, hp, hf, hl⟩ := h
  exact ⟨f, hp, hf, hh _ hl⟩

theorem Sat.perm {E : Env} {l l' : List HP} (p : l.Perm l') : ∀ {H : HF}, Sat E H l → Sat E H l' := by
  induction p with
  | nil => intro H h; exact h
  | cons x _ ih => intro H h; exact Sat.cons (fun _ => ih) h
  | swap x y l => intro H h; exact h.swap
  | trans _ _ ih1 ih2 => intro H h; exact ih2 (ih1 h)

theorem perm_front {α : Type _} : ∀ (l : List α) (i : Nat) (P : α), l[i]? = some P → l.Perm (P :: l.eraseIdx i)
  | [], i, P, h => by simp at h
  | x :: l, 0, P, h => by simp at h; subst h; exact List.Perm.refl _
  | x :: l, i + 1, P, h => by
    simp at h
    exact ((perm_front l i P h).cons x).trans (List.Perm.swap P x _)

theorem Sat.front {E : Env} {H : HF} {l : List HP} (i : Nat) {P : HP} (h : Sat E H l) (hi : l[i]? = some P) : Sat E H (P :: l.eraseIdx i) :=
  h.perm (perm_front l i P hi)

theorem set_eraseIdx {α : Type _} : ∀ (l : List α) (i : Nat) (P : α), (l.set i P).eraseIdx i = l.eraseIdx i
  | [], _, _ => rfl
  | _ :: _, 0, _ => rfl
  | x :: l, i + 1, P => by simp [set_eraseIdx l i P]

theorem Sat.back {E : Env} {H : HF} {l : List HP} (i : Nat) {P : HP} (h : Sat E H (P :: l.eraseIdx i)) (hi : i < l.length) : Sat E H (l.set i P) := by
  have := perm_front (l.set i P) i P (by simp [hi])
  rw [set_eraseIdx] at this
  exact h.perm this.symm

theorem Sat.back0 {E : Env} {H : HF} {l l' : List HP} (h : Sat E H (l' ++ l)) : Sat E H l := by
  induction l' with
  | nil => exact h
  | cons P l' ih => exact ih h.tail

/-- One block. -/
def pt (b : Nat) (o : Obj) : HP := fun _ f => f b = some o
/-- A row of cells, all of them, none frozen. -/
def ptc (b : Nat) (c : List Value) (T : TypeId) : HP := pt b (.cells c.toArray T (0, 0))
def lift (p : Prop) : HP := fun _ _ => p
def ex {α : Type} (P : α → HP) : HP := fun E f => ∃ a, P a E f
def star (ps : List HP) : HP := fun E f => Sat E f ps
/-- All that was there. -/
def old (w : World) : HP := fun E f => E = ⟨w.os, w.tape, w.output⟩ ∧ f = fun b => w.heap[b]?

theorem Sat.lift {E : Env} {H : HF} {p : Prop} {l : List HP} : Sat E H (lift p :: l) ↔ p ∧ Sat E H l := by
  constructor
  · intro h; exact ⟨by obtain ⟨_, hp, _⟩ := h; exact hp, h.tail⟩
  · rintro ⟨hp, h⟩
    exact ⟨fun _ => none, hp, HF.none_sub H, h⟩

theorem Sat.ex {E : Env} {H : HF} {α : Type} {P : α → HP} {l : List HP} : Sat E H (ex P :: l) ↔ ∃ a, Sat E H (P a :: l) := by
  constructor
  · rintro ⟨f, ⟨a, hp⟩, hf, hl⟩; exact ⟨a, f, hp, hf, hl⟩
  · rintro ⟨a, f, hp, hf, hl⟩; exact ⟨f, ⟨a, hp⟩, hf, hl⟩

theorem Sat.open_star {E : Env} {ps : List HP} : ∀ {H : HF} {l : List HP}, Sat E H (star ps :: l) → Sat E H (ps ++ l) := by
  induction ps with
  | nil => intro H l h; exact h.tail
  | cons P ps ih =>
    rintro H l ⟨f, ⟨g, hg, hgf, hps⟩, hf, hl⟩
    refine ⟨g, hg, HF.sub_trans hgf hf, ih ⟨f.diff g, hps, HF.diff_mono g hf, hl.mono ?_⟩⟩
    intro b o e
    unfold HF.diff at *
    cases hb : f b with
    | none =>
      have : g b = none := by
        cases hgb : g b with
        | none => rfl
        | some o' => have := hgf b o' hgb; rw [hb] at this; cases this
      simp only [hb] at e
      simp [this, e]
    | some o' => simp only [hb] at e; cases e

theorem Sat.close_star {E : Env} {ps : List HP} : ∀ {H : HF} {l : List HP}, Sat E H (ps ++ l) → Sat E H (star ps :: l) := by
  induction ps with
  | nil =>
    intro H l h
    exact ⟨fun _ => none, trivial, HF.none_sub H, h⟩
  | cons P ps ih =>
    rintro H l ⟨g, hg, hgH, hl⟩
    obtain ⟨f, hps, hf, hl2⟩ := ih hl
    have hdis : ∀ b o, f b = some o → g b = none := by
      intro b o e
      have := hf b o e
      unfold HF.diff at this
      split at this
      · assumption
      · cases this
    refine ⟨fun b => match g b with | none => f b | some o => some o, ⟨g, hg, ?_, hps.mono ?_⟩, ?_, ?_⟩
    · intro b o e; simp [e]
    · intro b o e; simp [HF.diff, hdis b o e, e]
    · intro b o e
      cases hb : g b with
      | none => simp only [hb] at e; exact HF.diff_sub _ _ _ _ (hf b o e)
      | some o' => simp only [hb] at e; cases e; exact hgH b _ hb
    · have : HF.diff H (fun b => match g b with | none => f b | some o => some o) = (H.diff g).diff f := by
        funext b; unfold HF.diff
        simp only
        cases hb : g b <;> cases f b <;> rfl
      rw [this]; exact hl2

def World.env (w : World) : Env := ⟨w.os, w.tape, w.output⟩
def Sw (w : World) (l : List HP) : Prop := Sat (World.env w) (fun b => w.heap[b]?) l

section
variable {w : World} {l : List HP} {P Q : HP} {b : Nat} {o : Obj} {c : List Value} {T : TypeId}

theorem Sw.front (i : Nat) (h : Sw w l) (hi : l[i]? = some P) : Sw w (P :: l.eraseIdx i) := Sat.front i h hi
theorem Sw.back (i : Nat) (h : Sw w (P :: l.eraseIdx i)) (hi : i < l.length) : Sw w (l.set i P) := Sat.back i h hi
theorem Sw.tail (h : Sw w (P :: l)) : Sw w l := Sat.tail h
theorem Sw.swap (h : Sw w (P :: Q :: l)) : Sw w (Q :: P :: l) := Sat.swap h
theorem Sw.perm {l' : List HP} (h : Sw w l) (p : l.Perm l') : Sw w l' := Sat.perm p h
theorem Sw.nil (w : World) : Sw w [] := trivial
theorem Sw.old (w : World) : Sw w [old w] := ⟨_, ⟨rfl, rfl⟩, HF.sub_refl _, trivial⟩

theorem Sw.block (h : Sw w (pt b o :: l)) : w.heap[b]? = some o := by
  obtain ⟨f, hp, hf, _⟩ := h
  exact hf _ _ hp
theorem Sw.row (h : Sw w (ptc b c T :: l)) : w.heap[b]? = some (.cells c.toArray T (0, 0)) := Sw.block h
theorem Sw.lt (h : Sw w (pt b o :: l)) : b < w.heap.size := (Array.getElem?_eq_some_iff.1 h.block).1
theorem Sw.ne {b' : Nat} {o' : Obj} (h : Sw w (pt b o :: pt b' o' :: l)) : ¬ b = b' := by
  rintro rfl
  obtain ⟨f, hp, hf, g, hq, hg, _⟩ := h
  have := hg _ _ hq
  simp [HF.diff, show f b = some o from hp] at this

theorem cell_of_row {w : World} {b : Nat} {c : Array Value} {T : TypeId} {z : Nat × Nat} (h : w.heap[b]? = some (.cells c T z)) (k : Nat) : w.cell? ⟨b, k, none⟩ = c[k]? := by
  simp [World.cell?, h]
theorem frozen_of_row {w : World} {b : Nat} {c : Array Value} {T : TypeId} (h : w.heap[b]? = some (.cells c T (0, 0))) (k : Nat) : w.frozen? ⟨b, k, none⟩ = false := by
  simp [World.frozen?, h]

theorem Sw.cell (h : Sw w (ptc b c T :: l)) (k : Nat) {v : Value} (hk : c[k]? = some v) : w.cell? ⟨b, k, none⟩ = some v := by
  rw [cell_of_row h.row]; simpa using hk
theorem Sw.frozen (h : Sw w (ptc b c T :: l)) (k : Nat) : w.frozen? ⟨b, k, none⟩ = false := frozen_of_row h.row k

/-- A new heap that is as the old one but for one block that is owned. -/
theorem Sw.update {w w' : World} (h : Sw w (pt b o :: l)) (he : World.env w' = World.env w) {o' : Obj} (hb : w'.heap[b]? = some o')
    (ho : ∀ k, k ≠ b → ∀ x, w.heap[k]? = some x → w'.heap[k]? = some x) : Sw w' (pt b o' :: l) := by
  obtain ⟨f, hp, hf, hl⟩ := h
  refine ⟨fun k => if k = b then some o' else none, by simp [pt], ?_, ?_⟩
  · intro k x e
    simp only at e
    split at e
    · rename_i hk; subst hk; cases e; exact hb
    · cases e
  · rw [he]
    refine hl.mono ?_
    intro k x e
    unfold HF.diff at *
    split at e
    · rename_i hfk
      have hkb : k ≠ b := by rintro rfl; rw [show f k = some o from hp] at hfk; cases hfk
      simp only [hkb, if_false]
      exact ho k hkb x e
    · cases e

theorem Sw.set (h : Sw w (ptc b c T :: l)) (k : Nat) (v : Value) : Sw (w.setCell ⟨b, k, none⟩ v) (ptc b (c.set k v) T :: l) := by
  show Sw _ (pt b (.cells (c.set k v).toArray T (0, 0)) :: l)
  refine Sw.update (o := .cells c.toArray T (0, 0)) (w' := w.setCell ⟨b, k, none⟩ v) h rfl ?_ ?_
  · simp only [World.setCell, Array.getElem?_modify, h.row]
    simp
  · intro k' hk x e
    simp only [World.setCell, Array.getElem?_modify]
    rw [if_neg (by simpa using fun e => hk e.symm)]; exact e

theorem Sw.alloc (h : Sw w l) (o : Obj) : Sw (w.alloc o) (pt w.heap.size o :: l) := by
  refine ⟨fun k => if k = w.heap.size then some o else none, by simp [pt], ?_, ?_⟩
  · intro k x e
    simp only at e
    split at e
    · rename_i hk; subst hk; cases e; exact heap_alloc_new w _
    · cases e
  · refine Sat.mono ?_ h
    intro k x e
    have hk : k < w.heap.size := (Array.getElem?_eq_some_iff.1 e).1
    unfold HF.diff
    simp only [show k ≠ w.heap.size by omega, if_false]
    show (w.alloc o).heap[k]? = some x
    rw [Below.heap_alloc w o k hk]; exact e
theorem Sw.allocc (h : Sw w l) (c : List Value) (T : TypeId) : Sw (w.alloc (.cells c.toArray T)) (ptc w.heap.size c T :: l) := h.alloc _

theorem Sw.lift {p : Prop} : Sw w (lift p :: l) ↔ p ∧ Sw w l := Sat.lift
theorem Sw.ex {α : Type} {P : α → HP} : Sw w (ex P :: l) ↔ ∃ a, Sw w (P a :: l) := Sat.ex
theorem Sw.open_star {ps : List HP} (h : Sw w (star ps :: l)) : Sw w (ps ++ l) := Sat.open_star h
theorem Sw.close_star {ps : List HP} (h : Sw w (ps ++ l)) : Sw w (star ps :: l) := Sat.close_star h

theorem Sw.below {W w : World} (h : Sw w (YtfddmbafjniflaaGreatDoor.old W :: l)) : Below W.heap.size W w := by
  obtain ⟨f, ⟨he, hf⟩, hs, _⟩ := h
  have e : w.os = W.os ∧ w.tape = W.tape ∧ w.output = W.output := by
    simp only [World.env, Env.mk.injEq] at he; exact he
  have hb : ∀ k, k < W.heap.size → w.heap[k]? = W.heap[k]? := by
    intro k hk
    have h1 : W.heap[k]? = some W.heap[k] := by simp [hk]
    rw [h1]; apply hs k; rw [hf]; exact h1
  refine ⟨e.1, e.2.1, e.2.2, ?_, hb⟩
  rcases Nat.eq_zero_or_pos W.heap.size with h0 | h0
  · omega
  · have := hb (W.heap.size - 1) (by omega)
    have h1 : W.heap[W.heap.size - 1]? = some W.heap[W.heap.size - 1] := by simp
    rw [h1] at this
    have := (Array.getElem?_eq_some_iff.1 this).1
    omega
end
theorem Sw.drewN {w : World} {l : List HP} (n : Nat) (h : Sw w l) : Sw (w.drewN n) l := h
theorem Sw.drew {w : World} {l : List HP} (h : Sw w l) : Sw w.drew l := h


/-- A slice of n elements of type E, sz cells each, whose cells are xs; its row is owned with it. -/
def sl (E : TypeId) (sz : Nat) (v : Value) (n : Nat) (xs : List Value) : HP := fun _ f =>
  xs.length = n * sz ∧
  ((n = 0 ∧ ∃ a, v = .slice a 0 0) ∨
   ∃ b o cap, ∃ c : List Value, v = .slice (some ⟨b, o, none⟩) n cap ∧ n ≤ cap ∧ cap ≤ maxLen ∧ o + cap * sz ≤ c.length ∧ (c.drop o).take (n * sz) = xs ∧ f b = some (.cells c.toArray E (0, 0)))

section
variable {w : World} {l : List HP} {E : TypeId} {sz : Nat} {v : Value} {n : Nat} {xs : List Value}

theorem Sw.sl_len (h : Sw w (sl E sz v n xs :: l)) : xs.length = n * sz := by
  obtain ⟨f, hp, _⟩ := h; exact hp.1

/-- Down. -/
theorem Sw.sl_open (h : Sw w (sl E sz v n xs :: l)) :
    (n = 0 ∧ xs = [] ∧ (∃ a, v = .slice a 0 0) ∧ Sw w l) ∨
    ∃ b o cap, ∃ c : List Value, v = .slice (some ⟨b, o, none⟩) n cap ∧ n ≤ cap ∧ cap ≤ maxLen ∧ o + cap * sz ≤ c.length ∧ (c.drop o).take (n * sz) = xs ∧ Sw w (ptc b c E :: l) := by
  have ht := h.tail
  obtain ⟨f, ⟨hl, hp⟩, hf, hr⟩ := h
  rcases hp with ⟨rfl, a, hv⟩ | ⟨b, o, cap, c, hv, h1, h2, h3, h4, h5⟩
  · exact .inl ⟨rfl, List.eq_nil_of_length_eq_zero (by simpa using hl), ⟨a, hv⟩, ht⟩
  · exact .inr ⟨b, o, cap, c, hv, h1, h2, h3, h4, f, h5, hf, hr⟩

/-- Up. -/
theorem Sw.sl_close {b o cap : Nat} {c : List Value} (h1 : n ≤ cap) (h2 : cap ≤ maxLen) (h3 : o + cap * sz ≤ c.length) (h : Sw w (ptc b c E :: l)) :
    Sw w (sl E sz (.slice (some ⟨b, o, none⟩) n cap) n ((c.drop o).take (n * sz)) :: l) := by
  obtain ⟨f, hp, hf, hr⟩ := h
  refine ⟨f, ⟨?_, .inr ⟨b, o, cap, c, rfl, h1, h2, h3, rfl, hp⟩⟩, hf, hr⟩
  have := Nat.mul_le_mul_right sz h1
  simp; omega
theorem Sw.sl_nil (h : Sw w l) (a : Option Addr) : Sw w (sl E sz (.slice a 0 0) 0 [] :: l) := by
  refine ⟨fun _ => none, ⟨by simp, .inl ⟨rfl, a, rfl⟩⟩, HF.none_sub _, h⟩

/-- A slice's value is a slice. -/
theorem Sw.sl_val (h : Sw w (sl E sz v n xs :: l)) : ∃ a cap, v = .slice a n cap := by
  rcases h.sl_open with ⟨rfl, _, ⟨a, hv⟩, _⟩ | ⟨b, o, cap, c, hv, _⟩
  · exact ⟨a, 0, hv⟩
  · exact ⟨_, _, hv⟩

/-- The cell of an element. -/
theorem take_drop_get {c : List Value} {o m i : Nat} (hi : i < m) : ((c.drop o).take m)[i]? = c[o + i]? := by
  simp [hi]
end


theorem Addr.add_mk (b o j : Nat) : (⟨b, o, none⟩ : Addr).add j = ⟨b, o + j, none⟩ := by unfold Addr.add; split <;> simp_all

/-- What is appended: the first m elements behind a slice. -/
structure Src (w : World) (sz : Nat) (x : Value) (m : Nat) (news : List Value) : Prop where
  len : news.length = m * sz
  one : ∀ u ∈ news, u.oneCell' = true
  at_ : (∃ c, x = .slice none m c ∧ m = 0) ∨ ∃ ad c, x = .slice (some ad) m c ∧ ∀ j u, news[j]? = some u → w.cell? (ad.add j) = some u

section
variable {P : Program} {w : World}

theorem run_first_src {sz m : Nat} {x : Value} {news : List Value} (h : Src w sz x m news) : (Builtin.firstCells sz m x).run P w = .ok news.toArray w := by
  rcases h.at_ with ⟨c, rfl, rfl⟩ | ⟨ad, c, rfl, hc⟩
  · have : news = [] := List.eq_nil_of_length_eq_zero (by simpa using h.len)
    subst this; exact run_firstCells_none _ _ _ _ _
  · exact run_firstCells_some w sz m ad m c news h.len hc
theorem run_len_src {sz m : Nat} {x : Value} {news : List Value} (h : Src w sz x m news) : (Builtin.lenOf x).run P w = .ok m w := by
  rcases h.at_ with ⟨c, rfl, _⟩ | ⟨ad, c, rfl, _⟩ <;> rfl
theorem Src.drew {sz m : Nat} {x : Value} {news : List Value} (h : Src w sz x m news) : Src w.drew sz x m news := ⟨h.len, h.one, h.at_⟩

theorem setRow_heap_other (g k : Nat) (cs : Array Value) (h : k ≠ g) : (w.setRow g cs).heap[k]? = w.heap[k]? := by
  simp only [World.setRow, Array.getElem?_modify]; rw [if_neg (by omega)]
theorem setRow_heap_same {g : Nat} {cur cs : Array Value} {e : TypeId} {z : Nat × Nat} (h : w.heap[g]? = some (.cells cur e z)) : (w.setRow g cs).heap[g]? = some (.cells cs e z) := by
  simp only [World.setRow, Array.getElem?_modify, h]; simp

theorem run_append_sl (t ty e : TypeId) (i : TypeInfo) (z : Value) (size bytes : Nat) (ht : P.underlying t = some (.slice e)) (hi : P.info? e = some i) (hz : i.zero = some z)
    (hsize : i.size = size) (hby : i.bytes = bytes) (hzs : z.cells.size = size)
    {v : Value} {n : Nat} {xs : List Value} {R : List HP} (hS : Sw w (sl e size v n xs :: R)) {x : Value} {m : Nat} {news : List Value} (hx : Src w size x m news)
    (h63 : n + m ≤ maxLen) (hbytes : (n + m) * bytes ≤ 140737488355328) :
    ∃ v' w', (Builtin.append_ #[t, t] ty #[v, x]).run P w = .ok v' w' ∧ Sw w' (sl e size v' (n + m) (xs ++ news) :: R) := by
  subst hsize
  subst hby
  have hlen := hS.sl_len
  have hsmall : n + m ≤ 9223372036854775807 := by simp only [maxLen] at h63; omega
  have hfx := run_first_src (P := P) hx
  have hfx' := run_first_src (P := P) hx.drew
  have hlx := run_len_src (P := P) hx
  -- a new row
  have grown : ∀ (old : Nat), old < n + m → Sw (w.drew.alloc (.cells (xs ++ news ++ (Builtin.zeroCells z.cells (grownCap w (n + m) old e - (n + m))).toList).toArray e))
        (sl e i.size (.slice (some ⟨w.heap.size, 0, none⟩) (n + m) (grownCap w (n + m) old e)) (n + m) (xs ++ news) :: R) := by
    intro old ho
    have hge := grownCap_ge w (n + m) old e
    have hcm : grownCap w (n + m) old e ≤ maxLen := grownCap_le_maxLen w (n + m) old e h63
    have hs := (Sw.drew hS.tail).allocc (xs ++ news ++ (Builtin.zeroCells z.cells (grownCap w (n + m) old e - (n + m))).toList) e
    have hl2 : (xs ++ news).length = (n + m) * i.size := by rw [List.length_append, hlen, hx.len, Nat.add_mul]
    have := Sw.sl_close (sz := i.size) (n := n + m) (cap := grownCap w (n + m) old e) (o := 0) hge hcm (by
      rw [List.length_append, hl2, Array.length_toList, size_zeroCells, hzs, ← Nat.add_mul]; apply Nat.le_of_eq; rw [Nat.zero_add]; congr 1; omega) hs
    rw [List.drop_zero, ← hl2, List.take_left] at this
    exact this
  have hnc : ∀ {a : Option Addr} {cap : Nat}, (Value.slice a n cap) = v → (a = none → n = 0) → (∀ ad, a = some ad → ∀ j u, xs[j]? = some u → w.cell? (ad.add j) = some u) → cap < n + m →
      ∃ v' w', (Builtin.append_ #[t, t] ty #[v, x]).run P w = .ok v' w' ∧ Sw w' (sl e i.size v' (n + m) (xs ++ news) :: R) := by
    intro a cap hv hnone hcells hcap
    have hn : ¬ (n + m ≤ cap) := by omega
    have h63' : ¬ (9223372036854775807 < ((n : Int) + (m : Int))) := by omega
    have hfit := growslice_fits hcap hbytes
    have h48' : ¬ (281474976710656 < Builtin.nextslicecap (n + m) cap * i.bytes) := by omega
    have hfo : (Builtin.firstCells i.size n (Value.slice a n cap)).run P w.drew = .ok xs.toArray w.drew := by
      cases a with
      | none =>
        have := hnone rfl
        subst this
        have : xs = [] := List.eq_nil_of_length_eq_zero (by simpa using hlen)
        subst this; exact run_firstCells_none _ _ _ _ _
      | some ad => exact run_firstCells_some w.drew i.size n ad n cap xs hlen (by simpa using hcells ad rfl)
    refine ⟨.slice (some ⟨w.heap.size, 0, none⟩) (n + m) (grownCap w (n + m) cap e), _, ?_, grown cap hcap⟩
    subst hv
    simp [Builtin.append_, run_underlying ht, sizeOf, typeInfo, zeroValue, hi, hz, hlx, hn, h63', h48', Question.forced, hfx', hfo, newRow, grownCap]
    congr 2
    apply Array.ext'
    simp
  rcases hS.sl_open with ⟨rfl, rfl, ⟨a, rfl⟩, hR⟩ | ⟨b, o, cap, c, rfl, hncap, hcm, hfit, htake, hR⟩
  · by_cases hm : m = 0
    · subst hm
      have hn : news = [] := List.eq_nil_of_length_eq_zero (by simpa using hx.len)
      subst hn
      refine ⟨.slice a 0 0, w, ?_, hS⟩
      cases a <;> simp [Builtin.append_, run_underlying ht, sizeOf, typeInfo, hi, hlx, hfx, storeCells]
    · exact hnc rfl (fun _ => rfl) (fun ad _ j u hu => by simp at hu) (by omega)
  · by_cases hroom : n + m ≤ cap
    · have hrow := hR.row
      have hmul : (n + m) * i.size ≤ cap * i.size := Nat.mul_le_mul_right _ hroom
      have hl : n * i.size + news.length ≤ cap * i.size := by rw [hx.len, ← Nat.add_mul]; exact hmul
      have hst := run_storeCells_at P b (o + n * i.size) e news 0 c.toArray w hrow (by simp; omega) hx.one
      simp only [Nat.add_zero] at hst
      refine ⟨.slice (some ⟨b, o, none⟩) (n + m) cap, w.setRow b (c.take (o + n * i.size) ++ news ++ c.drop (o + n * i.size + news.length)).toArray, ?_, ?_⟩
      · simp [Builtin.append_, run_underlying ht, sizeOf, typeInfo, hi, hlx, hroom, hfx, Addr.add_mk]
        rw [hst]; simp
      · have hup : Sw (w.setRow b (c.take (o + n * i.size) ++ news ++ c.drop (o + n * i.size + news.length)).toArray)
            (ptc b (c.take (o + n * i.size) ++ news ++ c.drop (o + n * i.size + news.length)) e :: R) := by
          refine Sw.update (o := .cells c.toArray e (0, 0)) (w' := w.setRow b _) hR rfl (setRow_heap_same hrow) ?_
          intro k hk u hu
          rw [setRow_heap_other _ _ _ hk]; exact hu
        have h4 : (c.take (o + n * i.size) ++ news ++ c.drop (o + n * i.size + news.length)).length = c.length := by simp; omega
        have := Sw.sl_close (sz := i.size) (n := n + m) (cap := cap) (o := o) hroom hcm (by rw [h4]; exact hfit) hup
        have he : ((c.take (o + n * i.size) ++ news ++ c.drop (o + n * i.size + news.length)).drop o).take ((n + m) * i.size) = xs ++ news := by
          have h5 : (c.take (o + n * i.size)).drop o = xs := by rw [← htake, List.drop_take]; congr 1; omega
          have h6 : (c.take (o + n * i.size)).length = o + n * i.size := by simp; omega
          rw [List.append_assoc, List.drop_append_of_le_length (by omega), h5, ← List.append_assoc]
          rw [show (n + m) * i.size = (xs ++ news).length by rw [List.length_append, hlen, hx.len, Nat.add_mul]]
          exact List.take_left
        rw [he] at this
        exact this
    · refine hnc rfl (fun h => by cases h) (fun ad had j u hu => ?_) (by omega)
      cases had
      rw [Addr.add_mk]
      have hj : j < n * i.size := by rw [← hlen]; exact (List.getElem?_eq_some_iff.1 hu).1
      refine hR.cell (o + j) ?_
      rw [← htake, take_drop_get hj] at hu
      exact hu

theorem wpList_append_sl {ops : Array Oper} {rest : List Oper} {o : Oper} {a : Act} {Q : Exit → Act → World → Prop} (hgd : o.guard = none) (s x : Operand) (t : TypeId)
    (ho : o.op = .call { callee := .builtin .append, args := #[s, x], argTypes := #[t, t] })
    (e : TypeId) (i : TypeInfo) (z : Value) (size bytes : Nat) (ht : P.underlying t = some (.slice e)) (hi : P.info? e = some i) (hz : i.zero = some z)
    (hsize : i.size = size) (hby : i.bytes = bytes) (hzs : z.cells.size = size)
    (v : Value) (n : Nat) (xs : List Value) (R : List HP) (hs : a.eval s = v) (hS : Sw w (sl e size v n xs :: R))
    (xv : Value) (m : Nat) (news : List Value) (hx : a.eval x = xv) (hsrc : Src w size xv m news)
    (h63 : n + m ≤ maxLen) (hbytes : (n + m) * bytes ≤ 140737488355328)
    (h : ∀ v' w', Sw w' (sl e size v' (n + m) (xs ++ news) :: R) → wpList P ops Q rest (a.put o.dst v') w') : wpList P ops Q (o :: rest) a w :=
  wpList_plain hgd fun K hK => by
    obtain ⟨v', w', hr, h2⟩ := run_append_sl (P := P) (w := w) t o.type e i z size bytes ht hi hz hsize hby hzs hS hsrc h63 hbytes
    unfold Oper.wp execOp
    simp only [ho, resolve, invoke, builtin, Sem.run_bind, Sem.run_pure, Result.andThen_ok, List.map_toArray, List.map_cons, List.map_nil, hs, hx, hr]
    exact hK _ _ (h v' w' h2)
end
end Go.Proofs.YtfddmbafjniflaaGreatDoor
