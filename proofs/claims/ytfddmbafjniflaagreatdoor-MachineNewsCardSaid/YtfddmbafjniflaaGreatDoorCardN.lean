/-
  MachineNews: for every configuration and every bytes the call returns true, and its arguments read as they did: the row's statement and its card; no condition beyond the row's own.
-/
import Derived.Test.YtfddmbafjniflaaGreatDoorCards
import Derived.Test.YtfddmbafjniflaaGreatDoorTie
import Derived.Test.YtfddmbafjniflaaGreatDoorNews
import Derived.Test.YtfddmbafjniflaaGreatDoorMul
import Derived.Test.YtfddmbafjniflaaGreatDoorClosedN
import Derived.ProofKit
import Derived.OpenShut
import Derived.Laws.Cover2
import Derived.Deep.DeepHandedRow
import Derived.Lib.LaidTab
import Derived.Lib.SmallJoins
namespace Go.Proofs.YtfddmbafjniflaaGreatDoor
open Go.ChangeShapes Go.WideShapes Go.ChangeAt Go.RowKit Go.Joins
theorem own : ownKnob Tryz.prog.godebug = none := by kernel_rfl
theorem laidOut : laidOutB Tryz.prog = true := by kernel_rfl
theorem cellsCf : Tryz.prog.cellsOf 24 = 4 := by kernel_rfl
theorem cellsByte : Tryz.prog.cellsOf 5 = 1 := by kernel_rfl
theorem mul64 : Mul64Said := fun a b w ha hb => Tryz.bits_Mul64 a b ha hb w
section
variable {H : Type} {enc : TypeId × Value → H} {P : Program}
/-- What is asked behind a call that only lays new blocks: each argument reads as it did, through the same places. -/
theorem post_below1 {f : Func} {s : ChangeSpec} {fresh handsOn again : Bool} {W W' : World} {args : Array Value} {v : Value} {ds gs : List (DataW H)} {ps : List MemPlace}
    (hvs : s.vars = []) (hgs : gs = [])
    (hW : DataW.Whole enc P f.params.toList s.vars false W args.toList ds gs ps)
    (hres : ∀ (b : Nat) (sp : Nat → Bool) (hd : Bool), DataW.TrodAll enc P W' b sp hd f.resultTypes.toList (v.resultList f.resultTypes.size) (s.fn H (ds ++ gs)).results [])
    (hargs : ∀ sp : Nat → Bool, (∀ x ∈ ps, sp x.block = true) → DataW.TrodAll enc P W' 0 sp true f.params.toList args.toList (s.fn H (ds ++ gs)).args ps)
    (hsv : (s.fn H (ds ++ gs)).vars = [])
    (hb : Below W.heap.size W W') (hnf : W'.noneFrozen ps)
    (hok : ∀ (j : Nat) (t : TypeId) (r : Value), f.resultTypes[j]? = some t → (v.resultList f.resultTypes.size)[j]? = some r → Value.okWide P W' .any 0 t r) :
    s.post enc P f false fresh handsOn again W args v W' := by
  subst hgs
  have hlt : ∀ x ∈ ps, x.block < W.heap.size := fun x hx => hW.lt x hx
  have hvars : ∀ sp : Nat → Bool, DataW.TrodVars enc P W' sp s.vars (s.fn H (ds ++ [])).vars [] := fun sp => by
    rw [hvs, hsv]; exact rfl
  have htr : DataW.TrodAll enc P W' 0 (fun _ => true) true (f.resultTypes.toList ++ f.params.toList) (v.resultList f.resultTypes.size ++ args.toList) ((s.fn H (ds ++ [])).results ++ (s.fn H (ds ++ [])).args) ps := by
    have := trodAll_append (hargs (fun _ => true) (fun _ _ => rfl)) (hres 0 (fun _ => true) true)
    simpa using this
  exact ⟨ds, [], ps, [], ps, [], hW, hres _ _ _, hargs _ (fun x hx => by simpa using hlt x hx), hvars _, hb.frame _, fun _ => ⟨hok, _, _, ps, ⟨ps, [], htr, hvars _, by simp, hnf, fun h => by cases h⟩, fun p hp _ => hp⟩⟩
end
set_option maxRecDepth 100000 in
theorem contract (H : Type) (enc : TypeId × Value → H) (W : World) (base : Nat) (args : Array Value) (ds gs : List (DataW H)) (before : List MemPlace)
    (hval : ∀ (j : Nat) t v, Tryz.f3.params[j]? = some t → args[j]? = some v → Value.okWide Tryz.prog W .any base t v)
    (hW : DataW.Whole enc Tryz.prog Tryz.f3.params.toList Rows.machineNewsSpec.vars false W args.toList ds gs before) :
    Calls Tryz.prog 3 args W fun e W' => ∃ v, e = .returned v ∧ Rows.machineNewsSpec.post enc Tryz.prog Tryz.f3 false true false false W args v W' := by
  have hW' := hW
  obtain ⟨p, q, hA0, hV, rfl, hfz, hnd⟩ := hW
  have hA : DataW.TrodAll enc Tryz.prog W 0 (fun _ => true) true Tryz.f3.params.toList args.toList ds p := hA0
  rw [Tryz.params3] at hA hval
  obtain ⟨v0, vs0, d0, ds0, p0, q0, hargs, rfl, rfl, h0, r0⟩ := trodAll_cons hA
  obtain ⟨v1, vs1, d1, ds1, p1, q1, rfl, rfl, rfl, h1, r1⟩ := trodAll_cons r0
  obtain ⟨rfl, rfl, rfl⟩ := trodAll_nil r1
  obtain rfl : args = #[v0, v1] := by cases args; simp_all
  obtain ⟨rfl, rfl⟩ := trodVars_none hV
  have h0k := h0
  have h1k := h1
  have hlt : ∀ x ∈ p0 ++ (p1 ++ []) ++ [], x.block < W.heap.size := fun x hx => hW'.lt x hx
  have hlt0 : ∀ x ∈ p0, x.block < W.heap.size := fun x hx => hlt x (by simp [hx])
  have hlt1 : ∀ x ∈ p1, x.block < W.heap.size := fun x hx => hlt x (by simp [hx])
  obtain ⟨c0, c1, c2, c3, y0, y1, y2, y3, n, rfl, rfl, rfl, k0, k1, k2, k3⟩ := open_agg4 Tryz.underlying24 (by kernel_rfl) cellsCf (hval 0 24 v0 rfl rfl) h0
  obtain ⟨x0, e0, rfl, w0⟩ := DataW.trod_int Tryz.underlying3 k0
  obtain ⟨x1, e1, rfl, w1⟩ := DataW.trod_int Tryz.underlying3 k1
  have hfl : ∀ (c : Value) (y : DataW H × List MemPlace), DataW.trod enc Tryz.prog W 0 (fun _ => true) true n 22 [c] = some y → ∃ b, c = .float .f64 b := fun c y h => by
    cases n with
    | zero => simp [DataW.trod] at h
    | succ n =>
      unfold DataW.trod at h
      rw [Tryz.underlying22] at h
      cases c <;> simp_all
  obtain ⟨x2, rfl⟩ := hfl _ _ k2
  obtain ⟨x3, rfl⟩ := hfl _ _ k3
  simp only [List.cons.injEq, and_true] at e0 e1
  subst e0 e1
  obtain ⟨a, len, cap, rfl⟩ := okWide_slice Tryz.underlying25 (hval 1 25 v1 rfl rfl)
  have key : ∃ (b o : Nat) (bs : List Nat), bs.length = len ∧ (∀ x ∈ bs, x < 256) ∧ Holds (old W) b o bs ∧ (0 < bs.length → a = some ⟨b, o, none⟩) := by
    obtain ⟨fuel, hf⟩ := h1
    rcases open_ints Tryz.underlying25 Tryz.underlying5 cellsByte hf with ⟨hcs, _⟩ | ⟨a', len', cap', zs, hcs, _, hl, _, hz, _, hcell, hwz⟩
    · simp [Value.cells] at hcs
      obtain ⟨rfl, rfl, rfl⟩ := hcs
      exact ⟨0, 0, [], rfl, fun x hx => (by cases hx), fun w l _ i x hx => (by simp at hx), fun h => (by simp at h)⟩
    · simp [Value.cells] at hcs
      obtain ⟨rfl, rfl, rfl⟩ := hcs
      simp only [if_true] at hz
      by_cases h0 : len = 0
      · subst h0
        exact ⟨0, 0, [], rfl, fun x hx => (by cases hx), fun w l _ i x hx => (by simp at hx), fun h => (by simp at h)⟩
      obtain ⟨b, o, rfl, hc⟩ := ints_at hcell (by omega)
      refine ⟨b, o, (zs.take len).map Int.toNat, by simp; omega, ?_, Holds.old W b o _ (World.block_lt_of_cell? W ⟨b, o + 0, none⟩ (hc 0 (by omega))) ?_, fun _ => rfl⟩
      · intro x hx
        simp only [List.mem_map] at hx
        obtain ⟨z, hz, rfl⟩ := hx
        have := bounds_u8 (hwz z (List.mem_of_mem_take hz))
        omega
      · intro i x hx
        rw [List.getElem?_map] at hx
        have hi : i < len := by
          rcases Nat.lt_or_ge i len with h | h
          · exact h
          · rw [List.getElem?_eq_none (by simp; omega)] at hx; cases hx
        rw [List.getElem?_take_of_lt hi] at hx
        have e : zs[i]? = some (zs.getD i 0) := by
          rw [List.getD_eq_getElem?_getD, List.getElem?_eq_getElem (by omega)]; rfl
        rw [e] at hx
        simp only [Option.map_some, Option.some.injEq] at hx
        subst hx
        rw [hc i (by omega)]
        have hb := bounds_u8 (hwz (zs.getD i 0) (List.mem_of_getElem? e))
        show some (Value.int .u8 _) = some (Value.int .u8 _)
        congr 2
        omega
  obtain ⟨b, o, bs, rfl, hby, hH, ha⟩ := key
  clear hA0 hA r0 r1 h0 h1 hval
  refine (news mul64 W x0 x1 x2 x3 b o cap a bs hby hH ha).mono fun e W' ⟨he, hb⟩ => ?_
  subst he
  refine ⟨_, rfl, post_below1 (s := Rows.machineNewsSpec) rfl rfl hW' (fun _ _ _ => trodAll_cons_mk (shut_bool Tryz.underlying4 _) trodAll_mk0) (fun sp hsp => ?_) rfl hb (fun xb xo hx => ?_) (ok_one (by kernel_rfl) rfl (okWide_bool_mk Tryz.underlying4 _))⟩
  · rw [Tryz.params3]
    have t0 := WideElems.Trod_stays (P := Tryz.prog) laidOut (by kernel_rfl) (of_decide_eq_true (by kernel_rfl)) h0k (fun x hx => hb.same (hlt0 x hx)) (fun x hx => hsp x (List.mem_append_left _ (List.mem_append_left _ hx)))
    have t1 := WideElems.Trod_stays (P := Tryz.prog) laidOut (by kernel_rfl) (of_decide_eq_true (by kernel_rfl)) h1k (fun x hx => hb.same (hlt1 x hx)) (fun x hx => hsp x (List.mem_append_left _ (List.mem_append_right _ (List.mem_append_left _ hx))))
    rw [List.append_nil (_ ++ (p1 ++ []))]
    exact trodAll_cons_mk t0 (trodAll_cons_mk t1 trodAll_mk0)
  · exact (hb.frozen (p := ⟨xb, xo, none⟩) (hlt _ hx)).trans (hfz xb xo hx)
def tabC : Array Value := #[.int .u8 0, .int .u8 1, .int .u8 56, .int .u8 2, .int .u8 57, .int .u8 49, .int .u8 28, .int .u8 3, .int .u8 61, .int .u8 58, .int .u8 42, .int .u8 50, .int .u8 38, .int .u8 29, .int .u8 17, .int .u8 4, .int .u8 62, .int .u8 47, .int .u8 59, .int .u8 36, .int .u8 45, .int .u8 43, .int .u8 51, .int .u8 22, .int .u8 53, .int .u8 39, .int .u8 33, .int .u8 30, .int .u8 24, .int .u8 18, .int .u8 12, .int .u8 5, .int .u8 63, .int .u8 55, .int .u8 48, .int .u8 27, .int .u8 60, .int .u8 41, .int .u8 37, .int .u8 16, .int .u8 46, .int .u8 35, .int .u8 44, .int .u8 21, .int .u8 52, .int .u8 32, .int .u8 23, .int .u8 11, .int .u8 54, .int .u8 26, .int .u8 40, .int .u8 15, .int .u8 34, .int .u8 20, .int .u8 31, .int .u8 10, .int .u8 25, .int .u8 14, .int .u8 19, .int .u8 9, .int .u8 13, .int .u8 8, .int .u8 7, .int .u8 6]
def args0 : Array Value := #[.agg #[.int .i64 0, .int .i64 0, .float .f64 0, .float .f64 0], .slice none 0 0]
/-- A world for the witness: the settled one, the table (block 3) holding what its initialiser lays. -/
noncomputable def laidWorld (os : Os) : World :=
  { World.holding Tryz.prog os ⟨#[], #[], []⟩ with heap := (World.holding Tryz.prog os ⟨#[], #[], []⟩).heap.modify 3 fun
      | .cells _ t frozen => .cells tabC t frozen
      | o => o }
theorem laid_met (os : Os) : laidMet Tryz.prog Rows.machineNewsRow.laid ((laidWorld os).forCall (fun _ _ => 0) ⟨#[], args0, []⟩).memory :=
  laidMet_of_run' 8 (by kernel_rfl) (by kernel_rfl)
theorem reads (os : Os) {H : Type} (enc : TypeId × Value → H) : ∃ places, DataW.whole enc Tryz.prog ((laidWorld os).forCall (fun _ _ => 0) ⟨#[], args0, []⟩).memory Tryz.f3.params.toList Rows.machineNewsSpec.vars false args0.toList 8 = some ([.agg [.lit (.int .i64 0), .lit (.int .i64 0), .lit (.float .f64 0), .lit (.float .f64 0)], .nil], [], places) :=
  ⟨[], by kernel_rfl⟩
set_option maxRecDepth 100000 in
theorem lifted (os : Os) (started : os.Started) (H : Type) (enc : TypeId × Value → H) (F : Stop.Interp) :
    ReturnsInHanded {} Tryz.checked os 3 .any ((OpenSpec.ofChange Rows.machineNewsSpec).preRow enc Tryz.prog Tryz.f3 Rows.machineNewsRow.domain false Rows.machineNewsRow.laid) (((OpenSpec.ofChange Rows.machineNewsSpec).at F).post enc Tryz.prog Tryz.f3 false true false false) := by
  obtain ⟨places, hx⟩ := reads os enc
  refine returnsInHanded_of_row (C := Tryz.checked) (s := OpenSpec.ofChange Rows.machineNewsSpec) own started (by kernel_rfl) Tryz.func3
    (witness_row_at (enc := enc) (C := Tryz.checked) false (laidWorld os) args0 rfl (by kernel_rfl) (by kernel_rfl) (by kernel_rfl)
      (OpenSpec.preRow_of_cond 8 hx (by kernel_rfl) (fun k hk => by cases hk) (by kernel_rfl) (laid_met os))) ?_
  intro W base args ds gs before hval hW _ _ _ _ _ _
  exact contract H enc W base args ds gs before hval hW
theorem said : Rows.MachineNewsSaid :=
  OpenClaim.holds_of_cond 3 Tryz.f3 rfl rfl rfl rfl rfl rfl rfl ⟨rfl, rfl, rfl, rfl, rfl⟩ rfl rfl rfl rfl rfl (by kernel_rfl) Tryz.func3 closed
    (of_decide_eq_true (by kernel_rfl)) (by unfold Func.isWrapper; first | (rw [if_pos (by decide +kernel)]; kernel_rfl) | (rw [if_neg (by decide +kernel)]; exact ⟨rfl, rfl⟩))
    (fun os started H enc _ F => by rw [OpenClaim.pre_eq_preRow]; exact lifted os started H enc F)
/-- No parameter wants a stand-in. -/
theorem no_stand_in (f : FuncId) (fn : Func) (hf : Tryz.pinned.checked.prog.funcNamed "treadmill/treadmilllaw28.MachineNews" = some f) (hfn : Tryz.pinned.checked.prog.funcs[f]? = some fn) :
    true = Tryz.pinned.checked.prog.looks [] ∧ ∀ (j : Nat) t, fn.params[j]? = some t → Tryz.pinned.checked.prog.wantsStandIn t = false := by
  obtain rfl : f = 3 := Option.some.inj ((show Tryz.prog.funcNamed "treadmill/treadmilllaw28.MachineNews" = some 3 by kernel_rfl).symm.trans hf) |>.symm
  obtain rfl : fn = Tryz.f3 := (Option.some.inj (Tryz.func3.symm.trans hfn)).symm
  refine ⟨by kernel_rfl, fun j t ht => ?_⟩
  rw [Tryz.params3] at ht
  have hm := Array.mem_of_getElem? ht
  obtain rfl | rfl : t = 24 ∨ t = 25 := by simpa using hm
  · exact (show Tryz.prog.wantsStandIn 24 = false by kernel_rfl)
  · exact (show Tryz.prog.wantsStandIn 25 = false by kernel_rfl)
/-- The card. -/
theorem card : Rows.MachineNewsCardSaid :=
  Claim7.holds_tied_plain_at .later [] _ _ _ _ said (fun _ h => by cases h) (by kernel_rfl) (fun _ h => by cases h) machineNews_row_tie rfl ⟨rfl, rfl⟩ (by kernel_rfl) rfl no_stand_in (by kernel_rfl)
#print axioms card
end Go.Proofs.YtfddmbafjniflaaGreatDoor
