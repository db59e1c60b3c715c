/- The rest of a plain region that only moves, picks and skips, at once. No claim by itself. -/
import Derived.Test.YtojcciciinklbaaBase
import Derived.KernelRfl
set_option linter.unusedVariables false
namespace Go.Proofs.Ytojcciciinklbaa
open Go.RowKit

/-- One operation that moves, picks or is not wanted. -/
def quietOp (ops : Array Oper) (o : Oper) (a : Act) : Option Act :=
  match Region.wanted o (yielded ops a.tmps) with
  | false => some (a.put o.dst undef)
  | true => match o.op with
    | .move x => some (a.put o.dst (a.eval x))
    | .assign x => some (a.put o.dst (a.eval x))
    | .pick c x y => match a.eval c with
      | .bool true => some (a.put o.dst (a.eval x))
      | .bool false => some (a.put o.dst (a.eval y))
      | _ => none
    | _ => none
def quietL (ops : Array Oper) : List Oper → Act → Option Act
  | [], a => some a
  | o :: r, a => match quietOp ops o a with
    | some a' => quietL ops r a'
    | none => none
theorem wpList_quiet {P : Program} {ops : Array Oper} {Q : Exit → Act → World → Prop} {w : World} : ∀ (rest : List Oper) (a a' : Act), quietL ops rest a = some a' → Q .normal a' w → wpList P ops Q rest a w
  | [], a, a', h, hq => by simp [quietL] at h; subst h; exact hq
  | o :: r, a, a', h, hq => by
    rw [quietL] at h
    split at h
    · rename_i a1 h1
      have ih : wpList P ops Q r a1 w := wpList_quiet r a1 a' h hq
      refine wpList_step fun K hK => ?_
      unfold quietOp at h1
      split at h1
      · rename_i hw
        rw [if_neg (by rw [hw]; decide)]
        simp only [Option.some.injEq] at h1
        rw [h1]; exact hK _ _ ih
      · rename_i hw
        rw [if_pos hw]
        obtain ⟨dst, op, ty, pos, after, guard⟩ := o
        dsimp only at h1 ⊢
        cases op
        case pick c x y =>
          dsimp only at h1
          split at h1
          · rename_i hc
            cases h1
            simp only [Oper.wp, execOp, hc, asBool, Sem.run_bind, Sem.run_pure, Result.andThen_ok, Oper.upon_value]
            exact hK _ _ ih
          · rename_i hc
            cases h1
            simp only [Oper.wp, execOp, hc, asBool, Sem.run_bind, Sem.run_pure, Result.andThen_ok, Oper.upon_value]
            exact hK _ _ ih
          · cases h1
        case move x =>
          dsimp only at h1
          cases h1
          simp only [Oper.wp, execOp, Sem.run_pure, Oper.upon_value]
          exact hK _ _ ih
        case assign x =>
          dsimp only at h1
          cases h1
          simp only [Oper.wp, execOp, Sem.run_pure, Oper.upon_value]
          exact hK _ _ ih
        all_goals (dsimp only at h1; cases h1)
    · cases h
theorem wpList_quiet_end {P : Program} {ops : Array Oper} {Q : Exit → Act → World → Prop} {w : World} {rest : List Oper} {a : Act} (d : Tmp) (v : Value)
    (h : (quietL ops rest a).map (fun a' => (a'.tmps.getD d undef, a'.defers)) = some (v, [])) (hq : ∀ a', a'.tmps.getD d undef = v → a'.defers = [] → Q .normal a' w) : wpList P ops Q rest a w := by
  obtain ⟨a', h1, h2⟩ := Option.map_eq_some_iff.1 h
  simp only [Prod.mk.injEq] at h2
  exact wpList_quiet _ _ _ h1 (hq a' h2.1 h2.2)
end Go.Proofs.Ytojcciciinklbaa
