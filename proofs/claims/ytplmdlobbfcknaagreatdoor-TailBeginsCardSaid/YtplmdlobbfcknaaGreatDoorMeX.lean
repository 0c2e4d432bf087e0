/- The evaluator of closed runs: what reflectlite tells. Own work. -/
import Derived.Test.YtplmdlobbfcknaaGreatDoorMeC
namespace Go.Me
open Go Go.Extern.Rtype

def kindQ (P : Program) (t : TypeId) : Option Nat := pureRun P (kind t)
def handleQ (P : Program) (t : TypeId) : M := .glob P.globals.size t
def ofHandleQ (P : Program) : M → Option TypeId
  | .glob g o => if g = P.globals.size then some o else none
  | _ => none
/-- ValueOf -/
def xValueOf (P : Program) : List M → Hp → Option (M × Hp)
  | [.ifc t v], H => match kindQ P t with
    | some k => bif v.cells.all M.cell then some (.agg [handleQ P t, .ptr H.n 0, .int .u64 (k + 128 : Nat)], H.push (obOf 0 v.cells)) else none
    | none => none
  | _, _ => none
def toTypeQ (P : Program) (t : TypeId) : Option M := match pureRun P (Extern.ReflectliteType.toType t) with
  | some v => ofV v
  | none => none
/-- TypeOf -/
def xTypeOf (P : Program) : List M → Hp → Option (M × Hp)
  | [.ifc t _], H => match toTypeQ P t with
    | some x => some (x, H)
    | none => none
  | [.nilI], H => some (.nilI, H)
  | _, _ => none
/-- (Value).Type -/
def xVType (P : Program) : List M → Hp → Option (M × Hp)
  | [.agg [h, .ptr _ _, .int .u64 f]], H => bif f == 0 then none else match ofHandleQ P h with
    | some t => match toTypeQ P t with
      | some x => some (x, H)
      | none => none
    | none => none
  | _, _ => none
def packQ (P : Program) (t : TypeId) : Bool := !P.packed t
/-- (Value).IsNil of pointers -/
def xVIsNil (C : Cfg) : List M → Hp → Option (M × Hp)
  | [.agg [h, .ptr b o, .int .u64 (.ofNat f)]], H => match ofHandleQ C.P h with
    | some t => bif packQ C.P t && (f % 32 == 22) then (match und C t with
      | some (.pointer _) => (match H.rd b o with
        | some (.ptr _ _) => some (.bool false, H)
        | some .nilP => some (.bool true, H)
        | _ => none)
      | _ => none) else none
    | none => none
  | _, _ => none
/-- (Value).Elem of pointers -/
def xVElem (C : Cfg) : List M → Hp → Option (M × Hp)
  | [.agg [h, .ptr b o, .int .u64 (.ofNat f)]], H => match ofHandleQ C.P h with
    | some t => bif packQ C.P t && (f % 32 == 22) then (match und C t with
      | some (.pointer e) => (match pureRun C.P (elem? t), kindQ C.P e, H.rd b o with
        | some (some e'), some k, some (.ptr c p) => bif e' == e then some (.agg [handleQ C.P e, .ptr c p, .int .u64 (k + 128 + 256 : Nat)], H) else none
        | _, _, _ => none)
      | _ => none) else none
    | none => none
  | _, _ => none
/-- (Value).Set of what may be set as it is -/
def xVSet (C : Cfg) : List M → Hp → Option (M × Hp)
  | [.agg [h, .ptr b o, .int .u64 (.ofNat f)], .agg [h', .ptr c p, .int .u64 (.ofNat f')]], H => match ofHandleQ C.P h, ofHandleQ C.P h' with
    | some d, some s => bif packQ C.P d && packQ C.P s && (f / 256 % 2 == 1) && !(f' == 0) then (match loadM C H s (.ptr c p) with
      | some v => (match pureRun C.P (directlyAssignable d s) with
        | some true => (match storeM C H d (.ptr b o) v with
          | some (_, H') => some (.tup [], H')
          | none => none)
        | _ => none)
      | none => none) else none
    | _, _ => none
  | _, _ => none
end Go.Me
