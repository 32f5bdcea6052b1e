/- The engine: truths that are compared. It speaks of any program. -/
import Derived.Test.YtiglobijdegjdaaDoorEngM
namespace Go.Proofs.YtiglobijdegjdaaDoor
open Go.RowKit Go.Shelf

def evQB (S : Sig) (env : Env) (ec : EnvC) (G : GId) (o : Oper) : Option (Bool × TypeId × Bool × Bool) :=
  match o.op with
  | .binOp op t x y _ => match op, evX env ec G x, evX env ec G y, S.ty t with
    | .eql, some (.bool a), some (.bool b), some ⟨.bool, _, _, _⟩ => some (true, t, a, b)
    | .neq, some (.bool a), some (.bool b), some ⟨.bool, _, _, _⟩ => some (false, t, a, b)
    | _, _, _, _ => none
  | _ => none
theorem Val.eqB {C : Cx} {all : Array Oper} {o : Oper} {env : Env} {ec : EnvC} {Hs : List HA} {G : GId} {p : Bool} {t : TypeId} {x y : Bool} (hv : evQB C.S env ec G o = some (p, t, x, y)) : Val C all o env ec Hs G (.bool (cond p (x == y) (!(x == y)))) := by
  intro a w ha _ hH
  obtain ⟨dst, op, ty, pos, aft, gd⟩ := o
  unfold evQB at hv
  dsimp only at hv
  split at hv
  · rename_i op t' x' y' t2
    split at hv
    · rename_i q1 q2 q3 hx hy hty
      cases hv
      have e1 := evX_spec ha hH hx
      have e2 := evX_spec ha hH hy
      have hut := (Sig.tyOk hty).fits
      simp only [Ty.fits] at hut
      simp only [execOp, e1, e2]
      simp [eqGuard, binOp, Op.equal, Op.maxDepth, run_equalIn_bool' w 9999 _ _ _ hut]
    · rename_i q1 q2 q3 hx hy hty
      cases hv
      have e1 := evX_spec ha hH hx
      have e2 := evX_spec ha hH hy
      have hut := (Sig.tyOk hty).fits
      simp only [Ty.fits] at hut
      simp only [execOp, e1, e2]
      simp [eqGuard, binOp, Op.equal, Op.maxDepth, run_equalIn_bool' w 9999 _ _ _ hut]
    · cases hv
  · cases hv
end Go.Proofs.YtiglobijdegjdaaDoor
