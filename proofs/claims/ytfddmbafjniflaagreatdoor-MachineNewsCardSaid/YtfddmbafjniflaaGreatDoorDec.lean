/-
  Package code: Decode out of any bytes: the law, and the closure that takes the panics.
-/
import Derived.Test.YtfddmbafjniflaaGreatDoorInst
import Derived.Test.YtfddmbafjniflaaGreatDoorDecode2
namespace Go.Proofs.YtfddmbafjniflaaGreatDoor
open Go Go.RowKit
/-- One byte of the script at p, that may be from least to most. -/
def nextE (bs : List Nat) (p least most : Nat) : Except Nat Nat :=
  match bs[p]? with
  | none => .error bs.length
  | some x => if x < least ∨ most < x then .error p else .ok x
def instE (a b c : Nat) (bs : List Nat) (p : Nat) : Except Nat (List Nat) :=
  match stopAt a b c bs p 0, stopAt a b c bs p 1, stopAt a b c bs p 2, stopAt a b c bs p 3 with
  | some n, _, _, _ => .error n
  | none, some n, _, _ => .error n
  | none, none, some n, _ => .error n
  | none, none, none, some n => .error n
  | none, none, none, none => .ok [vv bs p 4 0, vv bs p 4 1, vv bs p 4 2, vv bs p 4 3]
/-- The first k instructions of a function whose first lies at p. -/
def bodyE (a b c : Nat) (bs : List Nat) (p : Nat) : Nat → Except Nat (List (List Nat))
  | 0 => .ok []
  | k + 1 => match bodyE a b c bs p k with
    | .error n => .error n
    | .ok l => match instE a b c bs (p + 4 * k) with
      | .error n => .error n
      | .ok x => .ok (l ++ [x])
/-- The first i functions, and where the next begins. -/
def funcsE (g n : Nat) (bs : List Nat) : Nat → Except Nat (Nat × List (List (List Nat)))
  | 0 => .ok (2, [])
  | i + 1 => match funcsE g n bs i with
    | .error m => .error m
    | .ok (p, fs) => match nextE bs p 1 64 with
      | .error m => .error m
      | .ok l => match bodyE g n l bs (p + 1) l with
        | .error m => .error m
        | .ok f => .ok (p + 1 + 4 * l, fs ++ [f])
def restE (g n : Nat) (bs : List Nat) : Except Nat (Nat × List (List (List Nat))) :=
  match funcsE g n bs n with
  | .error m => .error m
  | .ok (p, fs) => if p < bs.length then .error p else .ok (g, fs)
def decodeE (bs : List Nat) : Except Nat (Nat × List (List (List Nat))) :=
  match nextE bs 0 1 16 with
  | .error m => .error m
  | .ok n => match nextE bs 1 0 32 with
    | .error m => .error m
    | .ok g => restE g n bs
theorem InstEnds.cases {a b c : Nat} {bs : List Nat} {p : Nat} {A B : List HP} {e : Ending} {w' : World} (h : InstEnds a b c bs p A B e w') :
    (∃ x0 x1 x2 x3, instE a b c bs p = .ok [x0, x1, x2, x3] ∧ e = .returned (.agg #[num x0, num x1, num x2, num x3]) ∧ Sw w' A) ∨ ∃ n, instE a b c bs p = .error n ∧ e = thrown n ∧ Sw w' B := by
  rcases h with ⟨h1, he, hS⟩ | ⟨k, n, hk, h1, h2, he, hS⟩
  · refine .inl ⟨_, _, _, _, ?_, he, hS⟩
    unfold instE
    rw [h1 0 (by omega), h1 1 (by omega), h1 2 (by omega), h1 3 (by omega)]
  · refine .inr ⟨n, ?_, he, hS⟩
    unfold instE
    obtain rfl | rfl | rfl | rfl : k = 0 ∨ k = 1 ∨ k = 2 ∨ k = 3 := by omega
    · rw [h2]
    · rw [h1 0 (by omega), h2]
    · rw [h1 0 (by omega), h1 1 (by omega), h2]
    · rw [h1 0 (by omega), h1 1 (by omega), h1 2 (by omega), h2]
theorem nextE_cases (bs : List Nat) (p least most : Nat) : (bs.length ≤ p ∧ nextE bs p least most = .error bs.length) ∨ ∃ x, bs[p]? = some x ∧ p < bs.length ∧
    (((x < least ∨ most < x) ∧ nextE bs p least most = .error p) ∨ (least ≤ x ∧ x ≤ most ∧ nextE bs p least most = .ok x)) := by
  rcases Nat.lt_or_ge p bs.length with h | h
  · refine .inr ⟨bs[p], List.getElem?_eq_getElem h, h, ?_⟩
    by_cases h2 : bs[p] < least ∨ most < bs[p]
    · refine .inl ⟨h2, ?_⟩
      unfold nextE; rw [List.getElem?_eq_getElem h]; exact if_pos h2
    · refine .inr ⟨by omega, by omega, ?_⟩
      unfold nextE; rw [List.getElem?_eq_getElem h]; exact if_neg h2
  · refine .inl ⟨h, ?_⟩
    unfold nextE; rw [List.getElem?_eq_none h]
theorem bodyE_error {a b c : Nat} {bs : List Nat} {p k n : Nat} (h : bodyE a b c bs p k = .error n) : ∀ l, k ≤ l → bodyE a b c bs p l = .error n := by
  intro l hl
  induction l with
  | zero => obtain rfl : k = 0 := by omega
            exact h
  | succ l ih =>
    rcases Nat.lt_or_ge k (l + 1) with h1 | h1
    · simp only [bodyE, ih (by omega)]
    · obtain rfl : k = l + 1 := by omega
      exact h
theorem num4_one (x0 x1 x2 x3 : Nat) : ∀ u ∈ [num x0, num x1, num x2, num x3], u.oneCell' = true := by
  intro u hu
  simp at hu
  rcases hu with rfl | rfl | rfl | rfl <;> rfl
theorem funcsE_error {g n : Nat} {bs : List Nat} {i m : Nat} (h : funcsE g n bs i = .error m) : ∀ l, i ≤ l → funcsE g n bs l = .error m := by
  intro l hl
  induction l with
  | zero => obtain rfl : i = 0 := by omega
            exact h
  | succ l ih =>
    rcases Nat.lt_or_ge i (l + 1) with h1 | h1
    · simp only [funcsE, ih (by omega)]
    · obtain rfl : i = l + 1 := by omega
      exact h
def instCells (l : List (List Nat)) : List Value := l.flatMap (fun x => x.map (fun v => num v))
theorem instCells_snoc (l : List (List Nat)) (x : List Nat) : instCells (l ++ [x]) = instCells l ++ x.map (fun v => num v) := by
  simp [instCells]
/-- What holds the functions: the slices lvs, the instructions fs. -/
def fnP : List Value → List (List (List Nat)) → List HP
  | lv :: lvs, f :: fs => sl 113 4 lv f.length (instCells f) :: fnP lvs fs
  | _, _ => []
theorem fnP_snoc : ∀ (lvs : List Value) (fs : List (List (List Nat))) (lv : Value) (f : List (List Nat)), lvs.length = fs.length → fnP (lvs ++ [lv]) (fs ++ [f]) = fnP lvs fs ++ [sl 113 4 lv f.length (instCells f)]
  | [], [], _, _, _ => rfl
  | _ :: lvs, _ :: fs, lv, f, h => by
    show _ :: fnP (lvs ++ [lv]) (fs ++ [f]) = _
    rw [fnP_snoc lvs fs lv f (by simpa using h)]; rfl
theorem restE_error {g n : Nat} {bs : List Nat} {i m : Nat} (h : funcsE g n bs i = .error m) (hi : i ≤ n) : restE g n bs = .error m := by
  unfold restE; rw [funcsE_error h n hi]
theorem funcsE_next {g n : Nat} {bs : List Nat} {i p m : Nat} {fs : List (List (List Nat))} (h : funcsE g n bs i = .ok (p, fs)) (h1 : nextE bs p 1 64 = .error m) : funcsE g n bs (i + 1) = .error m := by
  simp only [funcsE, h, h1]
theorem funcsE_body {g n : Nat} {bs : List Nat} {i p m l : Nat} {fs : List (List (List Nat))} (h : funcsE g n bs i = .ok (p, fs)) (h1 : nextE bs p 1 64 = .ok l) (h2 : bodyE g n l bs (p + 1) l = .error m) : funcsE g n bs (i + 1) = .error m := by
  simp only [funcsE, h, h1, h2]
theorem funcsE_ok {g n : Nat} {bs : List Nat} {i p l : Nat} {fs : List (List (List Nat))} {f : List (List Nat)} (h : funcsE g n bs i = .ok (p, fs)) (h1 : nextE bs p 1 64 = .ok l) (h2 : bodyE g n l bs (p + 1) l = .ok f) : funcsE g n bs (i + 1) = .ok (p + 1 + 4 * l, fs ++ [f]) := by
  simp only [funcsE, h, h1, h2]
theorem bodyE_bad {a b c : Nat} {bs : List Nat} {p k n : Nat} {l : List (List Nat)} (h : bodyE a b c bs p k = .ok l) (h1 : instE a b c bs (p + 4 * k) = .error n) : bodyE a b c bs p (k + 1) = .error n := by
  simp only [bodyE, h, h1]
theorem bodyE_ok {a b c : Nat} {bs : List Nat} {p k : Nat} {l : List (List Nat)} {x : List Nat} (h : bodyE a b c bs p k = .ok l) (h1 : instE a b c bs (p + 4 * k) = .ok x) : bodyE a b c bs p (k + 1) = .ok (l ++ [x]) := by
  simp only [bodyE, h, h1]
theorem Sw.drop_pieces {w : World} {R : List HP} : ∀ (L : List HP), Sw w (L ++ R) → Sw w R
  | [], h => h
  | _ :: L, h => Sw.drop_pieces L h.tail
theorem Sw.drop_mid {w : World} {R : List HP} {B : HP} (L : List HP) (h : Sw w (B :: (L ++ R))) : Sw w (B :: R) :=
  Sw.drop_pieces L (h.perm List.perm_middle.symm)
def DecEnds (bs : List Nat) (B : HP) (R : List HP) (e : Ending) (w' : World) : Prop :=
  match decodeE bs with
  | .error n => e = .returned (.tuple #[.agg #[num 0, .slice none 0 0], num 6, num n]) ∧ Sw w' (B :: R)
  | .ok (g, fs) => ∃ fv lvs, lvs.length = fs.length ∧ e = .returned (.tuple #[.agg #[num g, fv], .int .i64 0, .int .i64 0]) ∧ Sw w' (sl 111 1 fv fs.length lvs :: B :: (fnP lvs fs ++ R))
theorem DecEnds.bad {bs : List Nat} {B : HP} {R : List HP} {w' : World} {n : Nat} (h : decodeE bs = .error n) (hS : Sw w' (B :: R)) : DecEnds bs B R (.returned (.tuple #[.agg #[num 0, .slice none 0 0], num 6, num n])) w' := by
  unfold DecEnds; rw [h]; exact ⟨rfl, hS⟩
set_option maxRecDepth 100000 in
set_option maxHeartbeats 1000000 in
theorem dec_bad_any (p e a n : Nat) (w : World) (R : List HP) (x y z : List Value) (hx : x.length = 2) (hy : y.length = 1) (hz : z.length = 1) (hS : Sw w (ptc p x 32 :: ptc e y 3 :: ptc a z 3 :: R)) :
    CallsD Tryz.prog 74 #[.pointer (some ⟨p, 0, none⟩), .pointer (some ⟨e, 0, none⟩), .pointer (some ⟨a, 0, none⟩)] (.panicking [{ v := badV n, recovered := false }]) w fun en u' w' =>
    en = .returned (.tuple #[]) ∧ u' = .panicking [{ v := badV n, recovered := true }] ∧ Sw w' (ptc p [num 0, .slice none 0 0] 32 :: ptc e [num 6] 3 :: ptc a [num n] 3 :: R) := by
  obtain ⟨x0, x1, rfl⟩ : ∃ x0 x1, x = [x0, x1] := by
    match x, hx with
    | [x0, x1], _ => exact ⟨x0, x1, rfl⟩
  obtain ⟨y0, rfl⟩ : ∃ y0, y = [y0] := by
    match y, hy with
    | [y0], _ => exact ⟨y0, rfl⟩
  obtain ⟨z0, rfl⟩ : ∃ z0, z = [z0] := by
    match z, hz with
    | [z0], _ => exact ⟨z0, rfl⟩
  have HS := hid hS
  refine callsD_of_wpS Tryz.func74 rfl fun c₀ cs hu => ?_
  simp only [Tryz.ntmps74, List.size_toArray, List.length_cons, List.length_nil, Nat.reduceAdd, Nat.reduceSub, Array.replicate_succ, Array.replicate_zero, List.push_toArray, List.append_toArray, List.nil_append, List.cons_append]
  have hta : ∀ w, (Instr.typeAssert (badV n) 20 143 true).run Tryz.prog w = .ok (.tuple #[.agg #[num n], .bool true]) w := fun w => by kernel_rfl
  clear hS
  apply wpS_seq
  apply wpS_region
  simp [wpOpsS, go_sem, recoverD, hu, hta, Exit.thenS]
  have hA := Sw.drew (HS.out.allocc [num n] 143)
  have n1 := (hA |>.front 1 rfl |>.front 2 rfl).ne
  have n2 := (hA |>.front 2 rfl |>.front 1 rfl |>.front 2 rfl |>.front 3 rfl).ne
  have n3 := (hA |>.front 1 rfl |>.front 1 rfl |>.front 2 rfl |>.front 3 rfl).ne
  have n4 := HS.out.lt'
  have n5 := (HS.out |>.front 1 rfl).lt'
  have n6 := (HS.out |>.front 1 rfl |>.front 1 rfl |>.front 2 rfl).lt'
  have h1 := (HS.out.set 0 (num 0)).set 1 (.slice none 0 0)
  have h2 := (h1 |>.front 2 rfl |>.front 1 rfl |>.front 2 rfl).set 0 (num 6)
  have h3 := (h2 |>.front 1 rfl |>.front 2 rfl).set 0 (num n)
  have k1 := Sw.drew (h1.allocc [num n] 143)
  have k2 := Sw.drew (h2.allocc [num n] 143)
  have k3 := Sw.drew (h3.allocc [num n] 143)
  simp only [World.size_setCell] at k1 k2 k3
  have d0 := hA.cell 0 rfl
  have c0 := HS.out.cell 0 rfl
  have c1 := HS.out.cell 1 rfl
  have f0 := HS.out.frozen 0
  have f1 := HS.out.frozen 1
  have c2 := (HS.out |>.front 1 rfl).cell 0 rfl
  have f2 := (HS.out |>.front 1 rfl).frozen 0
  have c3 := (HS.out |>.front 1 rfl |>.front 1 rfl |>.front 2 rfl).cell 0 rfl
  have f3 := (HS.out |>.front 1 rfl |>.front 1 rfl |>.front 2 rfl).frozen 0
  have HA := hid hA
  have K1 := hid k1
  have K2 := hid k2
  have K3 := hid k3
  clear hA h1 h2 h3 k1 k2 k3 HS
  refine wpS_of_wp ?_
  go_wp2_with (first | (refine wp_region_segQ [13] (fun w' => w'.cell? ⟨w.heap.size, 0, none⟩ = some (num n)) mixed (by decide +kernel) (HA.out.cell 0 rfl) ?_) | (apply segQ_still (by rfl) (by rfl) (by rfl) (HA.out.cell 0 rfl); focus (intro wq hq; (try dsimp only at hq); go_simp; first | exact rfl | exact ⟨rfl, rfl⟩)) | (apply segQ_pure (by rfl) (by rfl); focus (intro wq; go_simp; first | exact rfl | exact ⟨rfl, rfl⟩)) | (apply segQ_look (by rfl) (by rfl) (by rfl) (by rfl); focus (go_simp; first | exact rfl | exact ⟨rfl, rfl⟩)) | (apply segQ_call (by rfl) (by rfl) (by rfl); focus (go_simp; first | exact rfl | exact ⟨rfl, rfl⟩)) | (refine segQ_nil ?_))
  apply segQ_unit (by rfl) (by rfl) (by rfl)
  focus (go_simp; first | exact rfl | exact ⟨rfl, rfl⟩)
  focus exact K1.out.cell 0 rfl
  apply segQ_unit (by rfl) (by rfl) (by rfl)
  focus (go_simp; first | exact rfl | exact ⟨rfl, rfl⟩)
  focus exact K2.out.cell 0 rfl
  apply segQ_unit (by rfl) (by rfl) (by rfl)
  focus (go_simp; first | exact rfl | exact ⟨rfl, rfl⟩)
  focus exact K3.out.cell 0 rfl
  refine segQ_nil ?_
  go_wp2
  have k3 : Sw _ _ := K3.out.tail |>.front 2 rfl |>.front 2 rfl
  clear K1 K2 K3 HA
  cases c₀
  simp_all [bodyPostS, results, Tryz.results74]
  exact k3
end Go.Proofs.YtfddmbafjniflaaGreatDoor
