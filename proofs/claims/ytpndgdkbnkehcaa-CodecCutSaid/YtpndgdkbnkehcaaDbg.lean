import Derived.Outline
import Derived.LoopTactic
import Derived.LoopN
namespace Go
open Lean Elab Tactic Meta
/-- prints act, world, short hypotheses -/
elab "dbg" : tactic => withMainContext do
  let t := (← instantiateMVars (← getMainTarget)).consumeMData
  let mut out := m!"HEAD {t.getAppFn}"
  for a in t.getAppArgs do
    let ty ← inferType a
    if ty.isConstOf ``Go.Act then
      let act ← whnfR a
      if act.isAppOfArity ``Act.mk 2 && (act.getArg! 0).isAppOfArity ``List.toArray 2 then
        match listElems ((act.getArg! 0).getArg! 1) with
        | some es =>
          for (x, i) in es.zipIdx do
            if x.isConstOf ``Go.undef then continue
            if x.isFVar then
              let nm ← x.fvarId!.getUserName
              if nm.toString.startsWith "u" then continue
            out := out ++ m!"\n  slot {i}: {x}"
        | none => out := out ++ m!"\n ACT {act}"
      else out := out ++ m!"\n ACT {act}"
    else if ty.isConstOf ``Go.World then out := out ++ m!"\n WORLD {a}"
    else if ty.isConstOf ``Go.Oper then out := out ++ m!"\n OPER {a}"
    else if ty.isConstOf ``Go.Code then out := out ++ m!"\n CODE {codeOutline a}"
    else if t.isAppOf ``Go.wpList && ty.isAppOf ``List then
      match listElems a with
      | some (x :: _) => out := out ++ m!"\n NEXT {x}"
      | _ => pure ()
    else if t.isAppOf ``Go.Oper.wp || t.isAppOf ``Go.Oper.upon then pure ()
  unless t.isAppOf ``Go.wpList || t.isAppOf ``Go.Code.wp || t.isAppOf ``Go.Oper.wp || t.isAppOf ``Go.Code.rounds || t.isAppOf ``Go.bodyPost do out := out ++ m!"\n GOAL {t}"
  out := out ++ m!"\nHYPS"
  for d in ← getLCtx do
    if d.isImplementationDetail then continue
    let ty ← instantiateMVars d.type
    if d.isLet then continue
    let s := toString (← ppExpr ty)
    let nm := d.userName
    if nm.hasMacroScopes && (s.length > 200 || s.startsWith "Act" || s.startsWith "Exit") then continue
    if s == "Value" && nm.toString.startsWith "u" then continue
    if s.length > 600 then out := out ++ m!"\n {nm} : ..long.."
    else out := out ++ m!"\n {nm} : {ty}"
  logInfo out
elab "dbgall" : tactic => do
  for g in ← getGoals do
    setGoals [g]
    evalTactic (← `(tactic| dbg))
end Go
