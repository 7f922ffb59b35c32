/-
  Small words that all walks use.
-/
import Derived.Test.YtfddmbafjniflaaGreatDoorProg
import Derived.Test.YtfddmbafjniflaaGreatDoorBase
import Derived.Test.YtfddmbafjniflaaGreatDoorSeg
import Derived.Test.YtfddmbafjniflaaGreatDoorSegP
import Derived.WalkKit
import Derived.WalkSpells
import Derived.WalkLawsBesides
import Derived.Outline
namespace Go.Proofs.YtfddmbafjniflaaGreatDoor
open Go Go.RowKit
theorem mixed : Tryz.prog.follows .mixedOrders = true := by kernel_rfl
theorem ret_int {k : IntKind} {a b : Int} (h : a = b) : Ending.returned (.int k a) = .returned (.int k b) := by rw [h]
theorem ret_bool {a b : Bool} (h : a = b) : Ending.returned (.bool a) = .returned (.bool b) := by rw [h]
def sat (x : Int) : Int := if x > 9223372036854775807 then 9223372036854775807 else if x < -9223372036854775808 then -9223372036854775808 else x
def inI (a : Int) : Prop := -9223372036854775808 ≤ a ∧ a ≤ 9223372036854775807
theorem sat_hi {x : Int} (h : 9223372036854775807 < x) : sat x = 9223372036854775807 := by unfold sat; rw [if_pos (by omega)]
theorem sat_lo {x : Int} (h : x < -9223372036854775808) : sat x = -9223372036854775808 := by unfold sat; rw [if_neg (by omega), if_pos h]
theorem sat_in {x : Int} (h1 : -9223372036854775808 ≤ x) (h2 : x ≤ 9223372036854775807) : sat x = x := by unfold sat; rw [if_neg (by omega), if_neg (by omega)]
theorem eq_sat {x y : Int} (h1 : -9223372036854775808 ≤ x → x ≤ 9223372036854775807 → y = x) (h2 : 9223372036854775807 < x → y = 9223372036854775807) (h3 : x < -9223372036854775808 → y = -9223372036854775808) : y = sat x := by
  unfold sat; split
  · exact h2 (by omega)
  · split
    · exact h3 (by omega)
    · exact h1 (by omega) (by omega)
theorem sat_inI (x : Int) : inI (sat x) := by unfold sat inI; split <;> (try split) <;> omega
theorem Sw.after_alloc {w : World} {l : List HP} (h : Sw w l) (o : Obj) : Sw (w.alloc o) l := (h.alloc o).tail
theorem Sw.pack {w : World} {ps l : List HP} (h : Sw w (ps ++ l)) : Sw w (star ps :: l) := h.close_star
theorem Sw.lt' {w : World} {l : List HP} {b : Nat} {c : List Value} {T : TypeId} (h : Sw w (ptc b c T :: l)) : b < w.heap.size := Sw.lt h
theorem Src.fresh1 (w : World) (v : Value) (T : TypeId) (h : v.oneCell' = true) : Src (w.alloc (.cells #[v] T)) 1 (.slice (some ⟨w.heap.size, 0, none⟩) 1 1) 1 [v] := by
  refine ⟨rfl, by simpa using h, .inr ⟨_, _, rfl, fun j u hu => ?_⟩⟩
  rw [Addr.add_mk]
  have hj : j = 0 := by
    have := (List.getElem?_eq_some_iff.1 hu).1; simp at this; exact this
  subst hj
  simp at hu; subst hu
  rw [cell_of_row (heap_alloc_new w _)]; rfl
theorem Src.of_sl {w : World} {l : List HP} {E : TypeId} {sz : Nat} {v : Value} {n : Nat} {xs : List Value} (h : Sw w (sl E sz v n xs :: l)) (h1 : ∀ u ∈ xs, u.oneCell' = true) : Src w sz v n xs := by
  refine ⟨h.sl_len, h1, ?_⟩
  rcases h.sl_open with ⟨rfl, rfl, ⟨a, rfl⟩, _⟩ | ⟨b, o, cap, c, rfl, _, _, _, ht, hR⟩
  · cases a with
    | none => exact .inl ⟨0, rfl, rfl⟩
    | some ad => exact .inr ⟨ad, 0, rfl, fun j u hu => by simp at hu⟩
  · refine .inr ⟨_, cap, rfl, fun j u hu => ?_⟩
    rw [Addr.add_mk]
    have hl := h.sl_len
    have hj : j < n * sz := by rw [← hl]; exact (List.getElem?_eq_some_iff.1 hu).1
    refine hR.cell (o + j) ?_
    rw [← ht, take_drop_get hj] at hu
    exact hu
theorem sl_set_eq {c : List Value} {o m i : Nat} {v : Value} (h : i < m) : ((c.set (o + i) v).drop o).take m = ((c.drop o).take m).set i v := by
  apply List.ext_getElem?
  intro k
  simp only [List.getElem?_take, List.getElem?_drop, List.getElem?_set, List.length_take, List.length_drop]
  by_cases hk : k < m
  · simp only [hk, if_true]
    by_cases hki : i = k
    · subst hki
      simp only [if_true]
      by_cases hc : o + i < c.length
      · simp only [hc, if_true]; rw [if_pos (by omega)]
      · simp only [hc, if_false]; rw [if_neg (by omega)]
    · rw [if_neg (by omega), if_neg hki]
  · simp only [hk, if_false]
    by_cases hki : i = k
    · omega
    · rw [if_neg hki]
/-- An owned slice of cells, open: what a walk needs of it. -/
theorem Sw.sl_set {w : World} {l : List HP} {E : TypeId} {n b o cap i : Nat} {c : List Value} {v : Value} (h1 : n ≤ cap) (h2 : cap ≤ maxLen) (h3 : o + cap * 1 ≤ c.length) (hi : i < n) (h : Sw w (ptc b c E :: l)) :
    Sw (w.setCell ⟨b, o + i, none⟩ v) (sl E 1 (.slice (some ⟨b, o, none⟩) n cap) n (((c.drop o).take (n * 1)).set i v) :: l) := by
  have := Sw.sl_close (E := E) (sz := 1) (n := n) (cap := cap) (o := o) h1 h2 (by simpa using h3) (h.set (o + i) v)
  rw [sl_set_eq (by omega)] at this
  exact this
/-- The row behind a slice with an element. -/
theorem sl_row {w : World} {l : List HP} {E : TypeId} {v : Value} {n : Nat} {xs : List Value} (h : Sw w (sl E 1 v n xs :: l)) (hn : 0 < n) :
    ∃ b o cap, ∃ c : List Value, v = .slice (some ⟨b, o, none⟩) n cap ∧ n ≤ cap ∧ cap ≤ maxLen ∧ o + cap * 1 ≤ c.length ∧ (c.drop o).take (n * 1) = xs ∧ Sw w (ptc b c E :: l) ∧ ∀ i, i < n → c[o + i]? = xs[i]? := by
  rcases h.sl_open with ⟨h0, _⟩ | ⟨b, o, cap, c, h1, h2, h3, h4, h5, h6⟩
  · omega
  · refine ⟨b, o, cap, c, h1, h2, h3, h4, h5, h6, fun i hi => ?_⟩
    rw [← h5, take_drop_get (by omega)]
theorem info_int : (Tryz.prog.info? 3).map (fun i => (i.zero, i.size, i.bytes)) = some (some (.int .i64 0), 1, 8) := by kernel_rfl
/-- Appending to a slice of whole numbers. -/
theorem append_ints {ops : Array Oper} {rest : List Oper} {o : Oper} {a : Act} {Q : Exit → Act → World → Prop} {w : World} (hgd : o.guard = none) (s x : Operand)
    (ho : o.op = .call { callee := .builtin .append, args := #[s, x], argTypes := #[36, 36] })
    (v : Value) (n : Nat) (xs : List Value) (R : List HP) (hs : a.eval s = v) (hS : Sw w (sl 3 1 v n xs :: R))
    (xv : Value) (m : Nat) (news : List Value) (hx : a.eval x = xv) (hsrc : Src w 1 xv m news) (hn : n + m ≤ 16777216)
    (h : ∀ v' w', Sw w' (sl 3 1 v' (n + m) (xs ++ news) :: R) → wpList Tryz.prog ops Q rest (a.put o.dst v') w') : wpList Tryz.prog ops Q (o :: rest) a w := by
  obtain ⟨i0, hi, hz0, hz1, hz2⟩ := info_parts info_int
  exact wpList_append_sl hgd s x 36 ho 3 i0 (.int .i64 0) 1 8 Tryz.underlying36 hi hz0 hz1 hz2 rfl v n xs R hs hS xv m news hx hsrc (by simp only [maxLen]; omega) (by omega) h
theorem below_setRow {B g : Nat} {a w : World} {cs : Array Value} (h : Below B a w) (hg : B ≤ g) : Below B a (w.setRow g cs) :=
  h.trans ⟨rfl, rfl, rfl, by simp, fun k hk => setRow_heap_other _ _ _ (by omega)⟩
theorem Sw.of_below {w w' : World} {l : List HP} (h : Sw w l) (hb : Below w.heap.size w w') : Sw w' l := by
  unfold Sw
  have he : World.env w' = World.env w := by unfold World.env; rw [hb.os, hb.tape, hb.output]
  rw [he]
  refine Sat.mono ?_ h
  intro k o e
  have hk : k < w.heap.size := (Array.getElem?_eq_some_iff.1 e).1
  show w'.heap[k]? = some o
  rw [hb.block k hk]; exact e
theorem below_drewN {w : World} {n : Nat} : Below w.heap.size w (w.drewN n) := ⟨rfl, rfl, rfl, Nat.le_refl _, fun _ _ => rfl⟩
/-- A new variable whose cells stand behind a name. -/
theorem wpList_alloc_at {P : Program} {ops : Array Oper} {rest : List Oper} {o : Oper} {a : Act} {w : World} {Q : Exit → Act → World → Prop} (hg : o.guard = none) (T : TypeId) (ho : o.op = .alloc T)
    (c : Array Value) (hc : ((P.info? T).bind (·.zero)).map Value.cells = some c)
    (h : wpList P ops Q rest (a.put o.dst (.pointer (some ⟨w.heap.size, 0, none⟩))) (w.alloc (.cells c T))) : wpList P ops Q (o :: rest) a w :=
  wpList_plain hg fun K hK => by
    cases hi : P.info? T with
    | none => simp [hi] at hc
    | some i =>
      cases hz : i.zero with
      | none => simp [hi, hz] at hc
      | some z =>
        have hzc : z.cells = c := by simpa [hi, hz] using hc
        unfold Oper.wp execOp
        simp only [ho, Instr.alloc]
        simp [zeroValue, typeInfo, hi, hz, newVar, newRow, hzc, Oper.upon]
        exact hK _ _ h
section
variable {P : Program}
/-- An element of an array that is no variable, of one cell. -/
theorem run_index_agg (T E : TypeId) (n : Nat) (d : TypeDesc) (hu : P.underlying T = some (.array n E)) (hd : P.underlying E = some d) (hn : (match d with | .struct _ | .array _ _ => true | _ => false) = false)
    (hs : (P.info? E).map (·.size) = some 1) (cs : Array Value) (k : IntKind) (i : Int) (h0 : 0 ≤ i) (hi : i < n) (v : Value) (hv : cs[i.toNat]? = some v) (w : World) :
    (Instr.index T (.agg cs) (.int k i)).run P w = .ok v w := by
  cases hq : P.info? E with
  | none => simp [hq] at hs
  | some x =>
    have hx : x.size = 1 := by simpa [hq] using hs
    have hagg : (isAgg E).run P w = .ok false w := by
      unfold isAgg
      rw [Sem.run_bind, run_underlying hd w]
      cases d <;> simp_all
    simp [Instr.index, asIntOf, run_underlying hu, h0, hi, sizeOf, typeInfo, hq, hx, part, hagg, hv]
end
end Go.Proofs.YtfddmbafjniflaaGreatDoor
