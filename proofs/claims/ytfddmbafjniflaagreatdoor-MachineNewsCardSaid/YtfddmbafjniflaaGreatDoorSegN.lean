/-
  The laws of Seg, SegP, SegQ with the frame written out anew ahead of each operation (else the slots' terms grow with each step).
-/
import Derived.Test.YtfddmbafjniflaaGreatDoorSegQ
namespace Go.Proofs.YtfddmbafjniflaaGreatDoor
open Go Go.RowKit
section
variable {P : Program} {ops : Array Oper} {Q : Exit → Act → World → Prop} {S : World → Prop} {st : List Tmp} {a a0 : Act} {w w' : World} {o : Oper} {rest : List Oper} {v : Value} {f : FuncId} {args : Array Value}
theorem segS_lookN (hl : lookB o = true) (hn : a = a0) (hw : Region.wanted o (yielded ops a0.tmps) = true) (hv : ∀ w, S w → (execOp a0.eval o).run P w = .ok (.value v) w)
    (h : wpSegS P ops S Q rest (a0.put o.dst v) w) : wpSegS P ops S Q (o :: rest) a w := by subst hn; exact segS_look hl hw hv h
theorem segS_skipN (hn : a = a0) (hw : Region.wanted o (yielded ops a0.tmps) = false) (hS : S w) (h : wpSegS P ops S Q rest (a0.put o.dst undef) w) : wpSegS P ops S Q (o :: rest) a w := by
  subst hn; exact segS_skip hw h hS
theorem segS_callN (hl : lookB o = false) (hn : a = a0) (hw : Region.wanted o (yielded ops a0.tmps) = true) (hr : (execOp a0.eval o).run P w = .ok (.enter f args) w)
    (h : Calls P f args w fun e w' => ∃ v, e = .returned v ∧ (S w' ∨ rest = []) ∧ wpSegS P ops S Q rest (a0.put o.dst v) w') : wpSegS P ops S Q (o :: rest) a w := by subst hn; exact segS_call hl hw hr h
theorem segS_actN (hl : lookB o = false) (hn : a = a0) (hw : Region.wanted o (yielded ops a0.tmps) = true) (hr : (execOp a0.eval o).run P w = .ok (.value v) w') (hS : S w' ∨ rest = [])
    (h : wpSegS P ops S Q rest (a0.put o.dst v) w') : wpSegS P ops S Q (o :: rest) a w := by subst hn; exact segS_act hl hw hr hS h
theorem segS_unitN (hl : lookB o = false) (hn : a = a0) (hw : Region.wanted o (yielded ops a0.tmps) = true) (hr : (execOp a0.eval o).run P w = .ok .skip w') (hS : S w' ∨ rest = [])
    (h : wpSegS P ops S Q rest (a0.put o.dst undef) w') : wpSegS P ops S Q (o :: rest) a w := by subst hn; exact segS_unit hl hw hr hS h
theorem segP_pureN (hl : pureB o = true) (hn : a = a0) (hw : Region.wanted o (yielded ops a0.tmps) = true) (hv : ∀ w, (execOp a0.eval o).run P w = .ok (.value v) w)
    (h : wpSegP P ops Q rest (a0.put o.dst v) w) : wpSegP P ops Q (o :: rest) a w := by subst hn; exact segP_pure hl hw hv h
theorem segP_lookN (hp : pureB o = false) (hl : lookB o = true) (hn : a = a0) (hw : Region.wanted o (yielded ops a0.tmps) = true) (hv : (execOp a0.eval o).run P w = .ok (.value v) w)
    (h : wpSegP P ops Q rest (a0.put o.dst v) w) : wpSegP P ops Q (o :: rest) a w := by subst hn; exact segP_look hp hl hw hv h
theorem segP_skipN (hn : a = a0) (hw : Region.wanted o (yielded ops a0.tmps) = false) (h : wpSegP P ops Q rest (a0.put o.dst undef) w) : wpSegP P ops Q (o :: rest) a w := by subst hn; exact segP_skip hw h
theorem segP_callN (hp : pureB o = false) (hl : lookB o = false) (hn : a = a0) (hw : Region.wanted o (yielded ops a0.tmps) = true) (hr : (execOp a0.eval o).run P w = .ok (.enter f args) w)
    (h : Calls P f args w fun e w' => ∃ v, e = .returned v ∧ wpSegP P ops Q rest (a0.put o.dst v) w') : wpSegP P ops Q (o :: rest) a w := by subst hn; exact segP_call hp hl hw hr h
theorem segP_actN (hp : pureB o = false) (hl : lookB o = false) (hn : a = a0) (hw : Region.wanted o (yielded ops a0.tmps) = true) (hr : (execOp a0.eval o).run P w = .ok (.value v) w')
    (h : wpSegP P ops Q rest (a0.put o.dst v) w') : wpSegP P ops Q (o :: rest) a w := by subst hn; exact segP_act hp hl hw hr h
theorem segP_unitN (hp : pureB o = false) (hl : lookB o = false) (hn : a = a0) (hw : Region.wanted o (yielded ops a0.tmps) = true) (hr : (execOp a0.eval o).run P w = .ok .skip w')
    (h : wpSegP P ops Q rest (a0.put o.dst undef) w') : wpSegP P ops Q (o :: rest) a w := by subst hn; exact segP_unit hp hl hw hr h
theorem segQ_pureN (hl : pureB o = true) (hn : a = a0) (hw : Region.wanted o (yielded ops a0.tmps) = true) (hv : ∀ w, (execOp a0.eval o).run P w = .ok (.value v) w)
    (h : wpSegQ P ops st S Q rest (a0.put o.dst v) w) : wpSegQ P ops st S Q (o :: rest) a w := by subst hn; exact segQ_pure hl hw hv h
theorem segQ_stillN (hp : pureB o = false) (hl : stB st o = true) (hn : a = a0) (hw : Region.wanted o (yielded ops a0.tmps) = true) (hS : S w) (hv : ∀ w, S w → (execOp a0.eval o).run P w = .ok (.value v) w)
    (h : wpSegQ P ops st S Q rest (a0.put o.dst v) w) : wpSegQ P ops st S Q (o :: rest) a w := by subst hn; exact segQ_still hp hl hw hS hv h
theorem segQ_lookN (hp : pureB o = false) (hs : stB st o = false) (hl : lookB o = true) (hn : a = a0) (hw : Region.wanted o (yielded ops a0.tmps) = true) (hv : (execOp a0.eval o).run P w = .ok (.value v) w)
    (h : wpSegQ P ops st S Q rest (a0.put o.dst v) w) : wpSegQ P ops st S Q (o :: rest) a w := by subst hn; exact segQ_look hp hs hl hw hv h
theorem segQ_callN (hp : pureB o = false) (hl : lookB o = false) (hn : a = a0) (hw : Region.wanted o (yielded ops a0.tmps) = true) (hr : (execOp a0.eval o).run P w = .ok (.enter f args) w)
    (h : Calls P f args w fun e w' => ∃ v, e = .returned v ∧ S w' ∧ wpSegQ P ops st S Q rest (a0.put o.dst v) w') : wpSegQ P ops st S Q (o :: rest) a w := by subst hn; exact segQ_call hp hl hw hr h
theorem segQ_actN (hp : pureB o = false) (hl : lookB o = false) (hn : a = a0) (hw : Region.wanted o (yielded ops a0.tmps) = true) (hr : (execOp a0.eval o).run P w = .ok (.value v) w') (hS : S w')
    (h : wpSegQ P ops st S Q rest (a0.put o.dst v) w') : wpSegQ P ops st S Q (o :: rest) a w := by subst hn; exact segQ_act hp hl hw hr hS h
theorem segQ_unitN (hp : pureB o = false) (hl : lookB o = false) (hn : a = a0) (hw : Region.wanted o (yielded ops a0.tmps) = true) (hr : (execOp a0.eval o).run P w = .ok .skip w') (hS : S w')
    (h : wpSegQ P ops st S Q rest (a0.put o.dst undef) w') : wpSegQ P ops st S Q (o :: rest) a w := by subst hn; exact segQ_unit hp hl hw hr hS h
end
end Go.Proofs.YtfddmbafjniflaaGreatDoor
