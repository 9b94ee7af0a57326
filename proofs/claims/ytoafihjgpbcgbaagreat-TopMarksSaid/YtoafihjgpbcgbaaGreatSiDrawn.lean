/- A region that draws its order: what the interpreter does, and what it looks at so that every order comes to the same. Conditions: none. -/
import Derived.Test.YtoafihjgpbcgbaaGreatSiEqA
namespace Go.Proofs.YtoafihjgpbcgbaaGreat.Si
noncomputable section
open Go.RowKit

/-- Whose slot is it? (slot, operation) -/
def writers : List Oper → Nat → List (Nat × Nat)
  | [], _ => []
  | o :: r, i => match o.dst with
    | some d => (d, i) :: writers r (i + 1)
    | none => writers r (i + 1)

/-- What an operation sees: the slots of those before it; a slot whose writer waits for it is as it was. -/
def rhoA (ts : List AV) (W : List (Nat × Nat)) (b : List Nat) (V : List (Nat × AV)) (i : Nat) : Operand → Option AV
  | .tmp t => match look W t with
    | none => some (getQ (.tup []) ts t)
    | some j => bif (getQ 0 b i).testBit j then look V j else bif (getQ 0 b j).testBit i then some (getQ (.tup []) ts t) else none
  | .const v => absV v
  | .global _ => none
  | .func f => some (.fn (.func f) [] [])

def wantedR (ops : Array Oper) (ρ : Operand → Option AV) (o : Oper) : Option Bool := match o.guard with
  | none => some true
  | some (j, want) => match ((atQ ops.toList j).bind (·.dst)).bind fun d => ρ (.tmp d) with
    | some (.bool b) => some (b == want)
    | some (.tup _) => some false
    | _ => none

/-- Stores, calls, what writes memory. -/
def isEff : Op → Bool
  | .store .. => true
  | .call { callee := .builtin .len, .. } => false
  | .call { callee := .builtin .min, .. } => false
  | .call { callee := .builtin .max, .. } => false
  | .call _ => true
  | _ => false

/-- An effect: its number, the states before and after it. -/
abbrev Ent := Nat × St × St

structure RS where
  V : List (Nat × AV)
  s : St
  log : List Ent
  ids : List (Nat × Nat)

/-- One operation, in the order that is the interpreter's own. -/
def stepR (T : TT) (cal : Cal) (ops : Array Oper) (ts : List AV) (W : List (Nat × Nat)) (b : List Nat) (x : RS) (i : Nat) : Option RS :=
  match atQ ops.toList i, look x.V i with
  | some o, none => match wantedR ops (rhoA ts W b x.V i) o with
    | none => none
    | some false => bif isEff o.op then some ⟨(i, .tup []) :: x.V, x.s, (i, x.s, x.s) :: x.log, x.ids⟩ else some ⟨(i, .tup []) :: x.V, x.s, x.log, x.ids⟩
    | some true => bif isEff o.op then (effA T cal (rhoA ts W b x.V i) x.s o).map fun p => ⟨(i, p.1) :: x.V, p.2, (i, x.s, p.2) :: x.log, x.ids⟩
      else match pureOp T (rhoA ts W b x.V i) o.op with
        | some r => some ⟨(i, r) :: x.V, x.s, x.log, x.ids⟩
        | none => match o.op with
          | .load t p => (rhoA ts W b x.V i p).bind fun a => (loadA T x.s t a).map fun r => ⟨(i, r) :: x.V, x.s, x.log, x.ids⟩
          | _ => match newOp T (rhoA ts W b x.V i) x.s.next o.op with
            | some (r, cs, t) => if x.s.next < 2 ^ dep then some ⟨(i, r) :: x.V, x.s.new (.cells cs t), x.log, (i, x.s.next) :: x.ids⟩ else none
            | none => none
  | _, _ => none
def runR (T : TT) (cal : Cal) (ops : Array Oper) (ts : List AV) (W : List (Nat × Nat)) (b : List Nat) : List Nat → RS → Option RS
  | [], x => some x
  | i :: r, x => (stepR T cal ops ts W b x i).bind (runR T cal ops ts W b r)

/-- The state before the first of the effects that are left. -/
def curE (fin : St) : List Ent → St
  | [] => fin
  | (_, s, _) :: _ => s

/-- At every moment at which i may come: f. -/
def splits (b : List Nat) (i : Nat) (f : St → Bool) (fin : St) : List Ent → List Ent → Bool
  | dn, td => (bif dn.all (fun e => !(getQ 0 b e.1).testBit i) && td.all (fun e => !(getQ 0 b i).testBit e.1) then f (curE fin td) else true) && match td with
    | [] => true
    | e :: r => splits b i f fin (e :: dn) r

/-- An operation that is no effect yields its value, looked at again with all values known, whenever it comes. -/
def okR (T : TT) (ops : Array Oper) (ρ : Operand → Option AV) (b : List Nat) (L : List Ent) (fin : St) (ids : List (Nat × Nat)) (i : Nat) (o : Oper) (v : AV) : Bool :=
  match wantedR ops ρ o with
  | none => false
  | some false => beqA v (.tup [])
  | some true => match pureOp T ρ o.op with
    | some r => beqA v r
    | none => match o.op with
      | .load t p => match ρ p with
        | some a => splits b i (fun s => match loadA T s t a with
          | some r => beqA v r
          | none => false) fin [] L
        | none => false
      | _ => match look ids i with
        | some id => match newOp T ρ id o.op with
          | some (r, cs, t) => beqA v r && splits b i (fun s => Nat.blt id s.next && match s.get id with
            | some (.cells cs' t') => beqL cs' cs && Nat.beq t' t
            | _ => false) fin [] L
          | none => false
        | none => false

/-- No name twice; no effect's new names among them. -/
def idsOk (L : List Ent) : List (Nat × Nat) → Bool
  | [] => true
  | (i, id) :: r => r.all (fun p => !Nat.beq p.2 id && !Nat.beq p.1 i) && L.all (fun e => Nat.blt id e.2.1.next || Nat.ble e.2.2.next id) && idsOk L r

/-- Effects wait for one another. -/
def effsOk (b : List Nat) : List Ent → Bool
  | [] => true
  | e :: r => r.all (fun f => (getQ 0 b f.1).testBit e.1 && !Nat.beq f.1 e.1) && effsOk b r

/-- The bits of those that an operation waits for. -/
def waits (b : List Nat) : List Edge → Nat
  | [] => 0
  | e :: r => bif Region.binds .any e then (1 <<< e.on) ||| getQ 0 b e.on ||| waits b r else waits b r

def noneTwice : List (Nat × Nat) → Bool
  | [] => true
  | (t, _) :: r => r.all (fun p => !Nat.beq p.1 t) && noneTwice r

/-- All that is looked at. -/
def chkR (T : TT) (ops : Array Oper) (ts : List AV) (W : List (Nat × Nat)) (b rk : List Nat) (x : RS) : List Oper → Nat → Bool
  | [], _ => true
  | o :: r, i => (Nat.beq (getQ 0 b i) (waits b o.after.toList)) && o.after.toList.all (fun e => !Region.binds .any e || (Nat.blt (getQ 0 rk e.on) (getQ 0 rk i) && Nat.blt e.on ops.size))
      && (match look x.V i with
        | none => false
        | some v => bif isEff o.op then x.log.any (fun e => Nat.beq e.1 i) else okR T ops (rhoA ts W b x.V i) b x.log.reverse x.s x.ids i o v) && (match o.dst with
        | some d => Nat.blt d ts.length
        | none => true)
      && chkR T ops ts W b rk x r (i + 1)

/-- The slots at the end. -/
def endR (V : List (Nat × AV)) : List (Nat × Nat) → List AV → List AV
  | [], ts => ts
  | (t, j) :: r, ts => endR V r (setQ ts t ((look V j).getD (.tup [])))

/-- A region that draws its order. -/
def drawnA (T : TT) (cal : Cal) (ops : Array Oper) (ord b rk : List Nat) (ts : List AV) (s : St) : Option (List AV × St) :=
  (runR T cal ops ts (writers ops.toList 0) b ord ⟨[], s, [], []⟩).bind fun x =>
    bif noneTwice (writers ops.toList 0) && chkR T ops ts (writers ops.toList 0) b rk x ops.toList 0 && idsOk x.log x.ids && effsOk b x.log.reverse && x.log.all (fun e => Nat.blt e.1 ops.size) && x.ids.all (fun p => Nat.ble s.next p.2)
    then some (endR x.V (writers ops.toList 0) ts, x.s) else none

end
end Go.Proofs.YtoafihjgpbcgbaaGreat.Si
