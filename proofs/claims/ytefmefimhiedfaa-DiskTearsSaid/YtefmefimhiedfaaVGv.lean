/- For regions that draw their order (XVReg): what single operations give, and how a slot of the frame at hand reads. -/
import Derived.Test.YtefmefimhiedfaaVReg
import Derived.Test.YtefmefimhiedfaaVMem
import Derived.ChangeKeysEq
open Go Go.RowKit Go.Proofs.YtefmefimhiedfaaW.PrintWords Go.Proofs.YtefmefimhiedfaaW.PrintMore
namespace Go.Vel
section
variable {P : Program} {l : List Oper} {a : Act} {o : Oper} {ρ : Operand → Value} {w : World} {K : Value → World → Prop}
theorem fill_hit {sel : Nat → Bool} {vals : Nat → Value} {t k : Nat} (h : (List.range l.length).find? (fun i => sel i && ((l[i]?).bind (·.dst) == some t)) = some k) (ht : t < a.tmps.size) : (fill l sel vals a).eval (.tmp t) = vals k := by
  show (fill l sel vals a).tmps.getD t undef = _
  rw [Array.getD_eq_getD_getElem?, fill_get, h, Array.getElem?_eq_getElem ht]; rfl
theorem fill_miss {sel : Nat → Bool} {vals : Nat → Value} {t : Nat} (h : (List.range l.length).find? (fun i => sel i && ((l[i]?).bind (·.dst) == some t)) = none) : (fill l sel vals a).eval (.tmp t) = a.eval (.tmp t) := by
  show (fill l sel vals a).tmps.getD t undef = a.tmps.getD t undef
  rw [Array.getD_eq_getD_getElem?, Array.getD_eq_getD_getElem?, fill_get, h]
  cases a.tmps[t]? <;> rfl
theorem gv_val {v : Value} {w' : World} (hr : (execOp ρ o).run P w = .ok (.value v) w') (h : K v w') : gives P K ((execOp ρ o).run P w) := by
  rw [hr]; exact h
theorem gv_call {f : FuncId} {xs : Array Operand} {ts : Array TypeId} {fn : Func} {c : Code} {args : Array Value} (ho : o.op = .call { callee := .value (.func f), args := xs, argTypes := ts }) (hf : P.funcs[f]? = some fn) (hname : (fn.name == "runtime.NumGoroutine") = false) (hb : fn.body = some c) (hρ : ρ (.func f) = .func (.func f) #[] #[])
    (hx : xs.map ρ = args) (h : Calls P f args w fun e w'' => ∃ v, e = .returned v ∧ K v w'') : gives P K ((execOp ρ o).run P w) := by
  have h1 : fn.name ≠ "runtime.NumGoroutine" := by simpa using hname
  have e : (execOp ρ o).run P w = .ok (.enter f args) w := by
    simp only [execOp, ho, resolve, hρ, hx]
    simp [Deferred.ofValue, invoke, callFunc, hf, h1, hb]
  rw [e]; exact h
end
/-- How operation i of a drawing region reads an operand. -/
def look (l : List Oper) (a : Act) (vals : Nat → Value) (i : Nat) (x : Operand) : Value :=
  match l[i]? with
  | some o => (fill l (waits o) vals a).eval x
  | none => undef
def waitsAt (l : List Oper) (i j : Nat) : Bool := match l[i]? with | some o => waits o j | none => false
section
variable {P : Program} {l : List Oper} {a : Act} {Cls : World → Prop} {S : Nat → Value → World → Prop} {vals : Nat → Value} {w : World} {i : Nat}
/-- The frame at hand, written out. -/
theorem wl_frame {ops : Array Oper} {rest : List Oper} {Q : Exit → Act → World → Prop} (b : Act) (h : a = b) (h2 : wpList P ops Q rest b w) : wpList P ops Q rest a w := h ▸ h2
end
section
variable {P : Program}
end
end Go.Vel
