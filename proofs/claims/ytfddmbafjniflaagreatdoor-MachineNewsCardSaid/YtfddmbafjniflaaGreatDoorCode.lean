/-
  Package code: what the told run asks.
-/
import Derived.Test.YtfddmbafjniflaaGreatDoorSmall
import Derived.WideMake
namespace Go.Proofs.YtfddmbafjniflaaGreatDoor
open Go Go.RowKit
section
variable {P : Program} {w : World}
theorem run_insert_int (mty kt et : TypeId) (q : IntKind) (r clock : Nat) (k : Int) (val : Value) (es : Array MapEntry) (hm : P.underlying mty = some (.map kt et)) (hk : P.underlying kt = some (.int q)) (hb : w.heap[r]? = some (.map es clock))
    (hf : Instr.findNow (.int q) (.int q k) es.toList 0 = some none) :
    (Instr.mapUpdate mty (.map (some r)) (.int q k) val).run P w = .ok () { w with heap := w.heap.setIfInBounds r (.map (es.push { key := .int q k, val := val, born := clock }) (clock + 1)) } := by
  have hc : (Instr.checkKey false 10000 kt (.int q k)).run P w = .ok () w := MapKept.run_checkKey (k := .int q k) hk (by simp [MapKept.IsKey]) false 9999
  simp [Instr.mapUpdate, run_underlying hm, MapKept.run_getObj_map hb, hc, MapKept.run_findKey hk hf, MapKept.run_setObj_map _ hb, Result.andThen]
theorem run_lookup_int (mty kt et : TypeId) (q : IntKind) (r clock i : Nat) (k : Int) (val : Value) (es : Array MapEntry) (hm : P.underlying mty = some (.map kt et)) (hk : P.underlying kt = some (.int q)) (hb : w.heap[r]? = some (.map es clock))
    (hf : Instr.findNow (.int q) (.int q k) es.toList 0 = some (some (i, val))) :
    (Instr.lookup mty (.map (some r)) (.int q k) false).run P w = .ok val w := by
  have hc : ∀ e, (Instr.checkKey e 10000 kt (.int q k)).run P w = .ok () w := fun e => MapKept.run_checkKey (k := .int q k) hk (by simp [MapKept.IsKey]) e 9999
  simp [Instr.lookup, run_underlying hm, MapKept.run_getObj_map hb, hc, MapKept.run_findKey hk hf, Result.andThen]
theorem Sw.put_map {l : List HP} {r : Nat} {o o' : Obj} (h : Sw w (pt r o :: l)) : Sw { w with heap := w.heap.setIfInBounds r o' } (pt r o' :: l) := by
  refine Sw.update (w' := { w with heap := w.heap.setIfInBounds r o' }) h rfl ?_ ?_
  · simp [h.lt]
  · intro k hk x e
    simp only [Array.getElem?_setIfInBounds]
    rw [if_neg (by omega)]; exact e
theorem wpList_insert_int {ops : Array Oper} {rest : List Oper} {o : Oper} {a : Act} {Q : Exit → Act → World → Prop} (hgd : o.guard = none) (m kx vx : Operand) (mty kt et : TypeId) (q : IntKind)
    (ho : o.op = .insert mty m kx vx) (hm : P.underlying mty = some (.map kt et)) (hk : P.underlying kt = some (.int q)) (r clock : Nat) (k : Int) (v : Value) (es : Array MapEntry) (R : List HP)
    (h1 : a.eval m = .map (some r)) (h2 : a.eval kx = .int q k) (h3 : a.eval vx = v) (hS : Sw w (pt r (.map es clock) :: R)) (hf : Instr.findNow (.int q) (.int q k) es.toList 0 = some none)
    (h : ∀ w', Sw w' (pt r (.map (es.push { key := .int q k, val := v, born := clock }) (clock + 1)) :: R) → wpList P ops Q rest (a.put o.dst undef) w') : wpList P ops Q (o :: rest) a w :=
  wpList_plain hgd fun K hK => by
    have hr := run_insert_int (P := P) mty kt et q r clock k v es hm hk hS.block hf
    unfold Oper.wp execOp
    simp only [ho, h1, h2, h3, Sem.run_bind, hr, Result.andThen, Sem.run_pure, Oper.upon]
    exact hK _ _ (h _ hS.put_map)
theorem wpList_build_at {ops : Array Oper} {rest : List Oper} {o : Oper} {a : Act} {Q : Exit → Act → World → Prop} (hgd : o.guard = none) (T : TypeId) (parts : Array (Nat × Operand)) (parts' : Array (Nat × Value))
    (ho : o.op = .build T parts) (c : Array Value) (hr : ∀ w, (Instr.build T parts').run P w = .ok (.agg c) w) (hp : (parts.map fun (i, x) => (i, a.eval x)) = parts')
    (h : wpList P ops Q rest (a.put o.dst (.agg c)) w) : wpList P ops Q (o :: rest) a w :=
  wpList_plain hgd fun K hK => by
    subst hp
    unfold Oper.wp execOp
    simp only [ho, Sem.run_bind, hr, Result.andThen, Sem.run_pure, Oper.upon]
    exact hK _ _ h
end
abbrev ent (k : Int) (v : Value) (n : Nat) : MapEntry := { key := .int .i64 k, val := v, born := n }
set_option maxRecDepth 100000 in
set_option maxHeartbeats 1000000 in
theorem fits0 (w : World) (a b c : Nat) : Calls Tryz.prog 231 #[.agg #[num a, num b, num c], num 0, num 0] w fun e w' => e = .returned (.bool true) ∧ Below w.heap.size w w' := by
  have hmm := fun t w => run_makeMap_plain (P := Tryz.prog) (w := w) t
  have h0 := (((Sw.old w).allocc [num a, num b, num c] 149).alloc (.map #[] 0))
  simp only [World.size_alloc] at h0
  have H0 := hid h0
  clear h0
  go_enter Tryz.func231, Tryz.ntmps231
  go_wp2_with (first | (refine wpList_insert_int rfl (.tmp 8) (.const (.int .i64 0)) (.const (.int .i64 1)) 194 3 3 .i64 rfl Tryz.underlying194 Tryz.underlying3 _ _ _ _ _ _ rfl rfl rfl H0.out rfl ?_; intro w1 h1; have c1 := (h1.front 1 rfl).cell 0 rfl; have d1 := (h1.front 1 rfl).cell 1 rfl; have e1 := (h1.front 1 rfl).cell 2 rfl; have H1 := hid h1; clear h1) | (refine wpList_insert_int rfl (.tmp 8) (.const (.int .i64 1)) (.const (.int .i64 256)) 194 3 3 .i64 rfl Tryz.underlying194 Tryz.underlying3 _ _ _ _ _ _ rfl rfl rfl H1.out rfl ?_; intro w2 h2; have c2 := (h2.front 1 rfl).cell 0 rfl; have d2 := (h2.front 1 rfl).cell 1 rfl; have e2 := (h2.front 1 rfl).cell 2 rfl; have H2 := hid h2; clear h2) | (refine wpList_insert_int rfl (.tmp 8) (.const (.int .i64 2)) (.const (.int .i64 16)) 194 3 3 .i64 rfl Tryz.underlying194 Tryz.underlying3 _ _ _ _ _ _ rfl rfl rfl H2.out rfl ?_; intro w3 h3; have c3 := (h3.front 1 rfl).cell 0 rfl; have d3 := (h3.front 1 rfl).cell 1 rfl; have e3 := (h3.front 1 rfl).cell 2 rfl; have H3 := hid h3; clear h3) | (refine wpList_insert_int rfl (.tmp 8) (.const (.int .i64 3)) (.tmp 10) 194 3 3 .i64 rfl Tryz.underlying194 Tryz.underlying3 _ _ _ _ _ _ rfl rfl rfl H3.out rfl ?_; intro w4 h4; have c4 := (h4.front 1 rfl).cell 0 rfl; have d4 := (h4.front 1 rfl).cell 1 rfl; have e4 := (h4.front 1 rfl).cell 2 rfl; have H4 := hid h4; clear h4) | (refine wpList_insert_int rfl (.tmp 8) (.const (.int .i64 4)) (.tmp 12) 194 3 3 .i64 rfl Tryz.underlying194 Tryz.underlying3 _ _ _ _ _ _ rfl rfl rfl H4.out rfl ?_; intro w5 h5; have c5 := (h5.front 1 rfl).cell 0 rfl; have d5 := (h5.front 1 rfl).cell 1 rfl; have e5 := (h5.front 1 rfl).cell 2 rfl; have H5 := hid h5; clear h5) | (refine wpList_insert_int rfl (.tmp 8) (.const (.int .i64 5)) (.tmp 14) 194 3 3 .i64 rfl Tryz.underlying194 Tryz.underlying3 _ _ _ _ _ _ rfl rfl rfl H5.out rfl ?_; intro w6 h6; have c6 := (h6.front 1 rfl).cell 0 rfl; have d6 := (h6.front 1 rfl).cell 1 rfl; have e6 := (h6.front 1 rfl).cell 2 rfl; have H6 := hid h6; clear h6) | (refine wpList_insert_int rfl (.tmp 8) (.const (.int .i64 6)) (.const (.int .i64 32)) 194 3 3 .i64 rfl Tryz.underlying194 Tryz.underlying3 _ _ _ _ _ _ rfl rfl rfl H6.out rfl ?_; intro w7 h7; have c7 := (h7.front 1 rfl).cell 0 rfl; have d7 := (h7.front 1 rfl).cell 1 rfl; have e7 := (h7.front 1 rfl).cell 2 rfl; have hl := run_lookup_int (P := Tryz.prog) 194 3 3 .i64 (w.heap.size + 1) 7 0 ((0 : Nat) : Int) (.int .i64 1) _ Tryz.underlying194 Tryz.underlying3 h7.block rfl; have H7 := hid h7; clear h7))
  go_ret
  exact ⟨rfl, H7.out.tail.tail.below⟩
def partsC : Array Value := #[0,0,0, 2,1,0, 2,2,1, 2,1,2, 2,2,0, 2,0,0, 2,3,0, 3,2,0, 4,2,0, 0,0,0, 0,1,1, 6,0,0, 6,0,0, 2,2,0, 5,0,0, 2,2,5, 1,1,0, 5,0,0].map num
def partsZ : Array Value := Array.replicate 54 (num 0)
theorem partsZ_size : partsZ.size = 54 := by kernel_rfl
def tri (a b c : Int) : Value := .agg #[.int .i64 a, .int .i64 b, .int .i64 c]
theorem parts_build (w : World) : (Instr.build 316 #[(0, tri 0 0 0), (1, tri 2 1 0), (2, tri 2 2 1), (3, tri 2 1 2), (4, tri 2 2 0), (5, tri 2 0 0), (6, tri 2 3 0), (7, tri 3 2 0), (8, tri 4 2 0), (9, tri 0 0 0), (10, tri 0 1 1), (11, tri 6 0 0), (12, tri 6 0 0), (13, tri 2 2 0), (14, tri 5 0 0), (15, tri 2 2 5), (16, tri 1 1 0), (17, tri 5 0 0)]).run Tryz.prog w = .ok (.agg partsC) w := by kernel_rfl
set_option maxRecDepth 100000 in
set_option maxHeartbeats 1000000 in
theorem parts0 (w : World) : Calls Tryz.prog 230 #[] w fun e w' => e = .returned (.agg partsC) ∧ Below w.heap.size w w' := by
  go_enter Tryz.func230, Tryz.ntmps230
  go_wp2_with (first | (refine wpList_build_at rfl 316 _ _ rfl partsC parts_build (by simp [Act.eval, tri]) ?_) | (refine wpList_alloc_at rfl 316 rfl partsZ (by kernel_rfl) ?_) | (refine wpList_store_row rfl 316 (.tmp 0) (.tmp 19) rfl w.heap.size partsC rfl rfl 316 partsZ ?hg (by kernel_rfl) (by kernel_rfl) (by kernel_rfl) ?_))
  case hg => exact heap_alloc_new w _
  refine bodyPost_ret (results_cell_row rfl _ _ w.heap.size 316 partsC (0, 0) _ rfl (setRow_heap_same (cur := partsZ) (heap_alloc_new w _)) Tryz.underlying316 rfl (by kernel_rfl)) rfl ⟨rfl, ?_⟩
  exact below_setRow (Below.alloc (Below.refl _ _) (Nat.le_refl _) _) (Nat.le_refl _)
end Go.Proofs.YtfddmbafjniflaaGreatDoor
