/-
  The abstract machine: regions (with the order of evaluation that Go leaves open looked at), control, calls, deferred calls, recover, ranges over functions.
  Conditions: none; these are definitions.
-/
import Derived.Test.YtiajkflemnaabaaGreatBbA
noncomputable section
namespace Go.Ab

/-- An operation that may change memory or leave the frame. -/
def isChain (o : Oper) : Bool :=
  match o.op with
  | .store .. | .mapUpdate .. | .insert .. | .mapEntry .. | .entryStore .. | .range .. | .next .. | .entry .. | .defer .. | .panic .. => true
  | .call { callee := .builtin .len, .. } | .call { callee := .builtin .max, .. } | .call { callee := .builtin .min, .. } | .call { callee := .builtin .cap, .. } => false
  | .call .. => true
  | _ => false

/-- An operation that reads memory. -/
def isRead (o : Oper) : Bool :=
  match o.op with
  | .load .. | .lookup .. | .slice .. => true
  | .call .. => true
  | .convert .. => true
  | _ => false

/-- An operation that lays a new object, and does nothing else. -/
def isLate (o : Oper) : Bool :=
  match o.op with
  | .alloc .. | .box .. | .buildSlice .. | .makeMap .. | .makeSlice .. => true
  | _ => false

/-- Which operations surely come ahead of each, as bits. -/
def ahead (ops : List Oper) : List Nat :=
  ops.foldl (fun acc o => acc ++ [o.after.toList.foldl (fun s e => bif Region.binds .any e then Nat.lor (Nat.lor s (2 ^ e.on)) (acc.getD e.on 0) else s) 0]) []

structure Stage where
  eager : List Nat
  chain : Nat

def readyIn (ops : List Oper) (done i : Nat) : Bool :=
  !Nat.testBit done i && match ops[i]? with
  | some o => o.after.toList.all fun e => !Region.binds .any e || Nat.testBit done e.on
  | none => false

def firstReady (ops : List Oper) (done : Nat) (chain : Bool) : Option Nat :=
  (List.range ops.length).find? fun i => readyIn ops done i && ((ops[i]?).map isChain == some chain)

/-- The order in which the machine carries out a region: what need not wait first. -/
def planGo (ops : List Oper) : Nat → Nat → List Nat → List Stage → List Stage × List Nat
  | 0, _, eager, acc => (acc.reverse, eager.reverse)
  | f + 1, done, eager, acc =>
    match firstReady ops done false with
    | some i => planGo ops f (Nat.lor done (2 ^ i)) (i :: eager) acc
    | none => match firstReady ops done true with
      | some i => planGo ops f (Nat.lor done (2 ^ i)) [] (⟨eager.reverse, i⟩ :: acc)
      | none => (acc.reverse, eager.reverse)

def plan (ops : List Oper) : List Stage × List Nat := planGo ops (ops.length + 1) 0 [] []

def operTmps (o : Oper) : List Tmp := o.op.operands.toList.filterMap fun | .tmp t => some t | _ => none

/-- Does each stand once, and behind those that surely come ahead of it? -/
def topo (an : List Nat) : Nat → List Nat → Bool
  | _, [] => true
  | done, x :: r => !Nat.testBit done x && (Nat.beq (Nat.land (an.getD x 0) done) (an.getD x 0) && topo an (Nat.lor done (2 ^ x)) r)

def ordOf (st : List Stage) (last : List Nat) : List Nat := st.flatMap (fun s => s.eager ++ [s.chain]) ++ last

/-- Does all that stands behind a chain's operation wait for it? -/
def waitsOk (an : List Nat) (last : List Nat) : List Stage → Bool
  | [] => true
  | st :: more => ((ordOf more last).all fun y => Nat.testBit (an.getD y 0) st.chain) && waitsOk an last more

/-- Whoever writes what another one looks at stands surely ahead of it, or behind it; a guard stands ahead. -/
def opOk (ops : List Oper) (an : List Nat) (j : Nat) (o : Oper) : Bool :=
  ((List.range ops.length).all fun i => Nat.beq i j ||
    (match (ops[i]?).bind (·.dst) with
     | none => true
     | some d => !(o.dst == some d) && (!(operTmps o).contains d || (Nat.testBit (an.getD j 0) i || Nat.testBit (an.getD i 0) j)))) &&
  (match o.guard with
   | none => true
   | some (g, _) => ((ops[g]?).bind (·.dst)).isSome && Nat.testBit (an.getD j 0) g)

/-- What a plan must be: see the proof. -/
def planOk (ops : List Oper) (p : List Stage × List Nat) : Bool :=
  ((List.range ops.length).all fun i => (ordOf p.1 p.2).contains i) &&
  (topo (ahead ops) 0 (ordOf p.1 p.2) &&
  (((List.range ops.length).all fun j => match ops[j]? with
    | none => true
    | some o => o.after.toList.all (fun e => !Region.binds .any e || Nat.blt e.on j) && opOk ops (ahead ops) j o) &&
  (waitsOk (ahead ops) p.2 p.1 &&
  (p.1.flatMap (·.eager) ++ p.2).all fun x => ((ops[x]?).map fun o => !isChain o).getD false)))

/-- Is an operation wanted? none: that can't be told. -/
def wantedA (ops : List Oper) (fi : FI) (regs : Tr AV) (o : Oper) : Option Bool :=
  match o.guard with
  | none => some true
  | some (j, want) =>
    match (ops[j]?).bind (·.dst) with
    | none => some false
    | some t => match ev fi regs (.tmp t) with
      | .bool b => some (b == want)
      | .tup _ => some false
      | _ => none

def AV.same : Nat → AV → AV → Bool
  | f + 1, .agg n dep d t, .agg m dep' d' t' => n == m && Nat.ble n (2 ^ dep) && (List.range n).all fun i => AV.same f (cget dep d t i) (cget dep' d' t' i)
  | f + 1, .tup a, .tup b => a.length == b.length && (List.range a.length).all fun i => AV.same f (a.getD i .junk) (b.getD i .junk)
  | _, .slice a o l c e s, .slice a' o' l' c' e' s' => a == a' && o == o' && l == l' && c == c' && e == e' && s == s'
  | _, a, b => a.scalarEq b

/-- How a frame stands towards the one that made it, where it is a deferred call's: what that one is doing. -/
inductive AMode where
  | normal                      -- no deferred call
  | round                       -- a round of a range over a function
  | returning
  | panicking (chain : List APanic)

structure S where
  regs : Tr AV
  df : List ADefer
  h : H
  u : AMode

inductive Res where
  | nor (s : S)
  | ext (id : Nat) (s : S)
  | ret (s : S)
  | pan (chain : List APanic) (s : S)

inductive AEnd where
  | ret (v : AV)
  | pan (chain : List APanic)

/-- How calls answer: a function, its arguments, memory. -/
abbrev CallFn := FuncId → List AV → H → Option (AEnd × H)
/-- .. and rounds: a loop's number, what it yields. -/
abbrev RoundFn := Nat → List AV → H → Option (AEnd × H)

section
variable (P : Program) (cl : CallFn) (rn : RoundFn)

/-- A recover: in a deferred call's own frame it takes the panic. -/
def recoverA : AMode → Option (AV × AMode)
  | .panicking ((v, false) :: older) => some (v, .panicking ((v, true) :: older))
  | .round => none
  | m => some (.nili, m)

def AMode.inRound : AMode → Bool
  | .round => true
  | _ => false

/-- One operation's answer is laid into the frame; calls are carried out. inl: it goes on. -/
def stepA (fi : FI) (o : Oper) (s : S) : Option (Sum S Res) :=
  match opA P fi s.regs o s.h with
  | none => none
  | some (.val v h) => some (.inl { s with regs := putReg fi s.regs o.dst v, h })
  | some (.enter f args h) =>
    match cl f args h with
    | none => none
    | some (.ret v, h) => some (.inl { s with regs := putReg fi s.regs o.dst v, h })
    | some (.pan chain, h) => some (.inr (.pan chain { s with h }))
  | some (.round l args h) =>
    match rn l args h with
    | none => none
    | some (.ret v, h) => some (.inl { s with regs := putReg fi s.regs o.dst v, h })
    | some (.pan chain, h) => some (.inr (.pan chain { s with h }))
  | some (.defer d h) => bif s.u.inRound then none else some (.inl { s with regs := putReg fi s.regs o.dst (.tup []), df := .call d :: s.df, h })
  | some (.recover h) => match recoverA s.u with
    | some (v, u) => some (.inl { s with regs := putReg fi s.regs o.dst v, u, h })
    | none => none
  | some (.panic v h) => some (.inr (.pan [(v, false)] { s with h }))

/-- The operations of a region, one behind the other. -/
def runOps (ops : List Oper) (fi : FI) : List Oper → S → Option Res
  | [], s => some (.nor s)
  | o :: rest, s =>
    match wantedA ops fi s.regs o with
    | none => none
    | some false => runOps ops fi rest { s with regs := putReg fi s.regs o.dst (.tup []) }
    | some true =>
      match stepA P cl rn fi o s with
      | none => none
      | some (.inl s) => runOps ops fi rest s
      | some (.inr r) => some r

/-- A reading that stays to be looked at again: the operation, the frame as it stood, the value. -/
abbrev Pend := List (Nat × Tr AV × AV)

/-- Operations that need not wait: they neither change what is there nor leave. -/
def runEager (ops : List Oper) (fi : FI) : List Nat → S → Pend → Option (S × Pend)
  | [], s, p => some (s, p)
  | i :: rest, s, p =>
    match ops[i]? with
    | none => none
    | some o =>
      match wantedA ops fi s.regs o with
      | none => none
      | some false => runEager ops fi rest { s with regs := putReg fi s.regs o.dst (.tup []) } p
      | some true =>
        match opA P fi s.regs o s.h with
        | some (.val v h) => bif isLate o || Nat.beq h.nx s.h.nx then runEager ops fi rest { s with regs := putReg fi s.regs o.dst v, h } (bif isRead o then (i, s.regs, v) :: p else p) else none
        | _ => none

/-- Do all readings that wait still read the same? -/
def again (ops : List Oper) (fi : FI) (h : H) (p : Pend) : Bool :=
  p.all fun (i, regs, v) =>
    match ops[i]? with
    | some o => match opA P fi regs o h with
      | some (.val v' h') => Nat.beq h'.nx h.nx && AV.same 4 v v'
      | _ => false
    | none => false

/-- The registers of what need not have been carried out: unknown. -/
def junkAll (ops : List Oper) (fi : FI) (regs : Tr AV) : List Nat → Tr AV
  | [] => regs
  | i :: l => junkAll ops fi (putReg fi regs ((ops[i]?).bind (·.dst)) .junk) l

def runPlan (ops : List Oper) (fi : FI) (an : List Nat) (last : List Nat) : List Stage → S → Pend → List Nat → Option Res
  | [], s, p, _ =>
    match runEager P ops fi last s p with
    | none => none
    | some (s, p) => bif again P ops fi s.h p then some (.nor s) else none
  | st :: rest, s, p, done =>
    match runEager P ops fi st.eager s p with
    | none => none
    | some (s, p) =>
      bif again P ops fi s.h p then
        match ops[st.chain]? with
        | none => none
        | some o =>
          let a := an.getD st.chain 0
          let p' := p.filter fun x => !Nat.testBit a x.1
          let done' := done ++ st.eager
          match wantedA ops fi s.regs o with
          | none => none
          | some false => runPlan ops fi an last rest { s with regs := putReg fi s.regs o.dst (.tup []) } p' (done' ++ [st.chain])
          | some true =>
            match stepA P cl rn fi o s with
            | none => none
            | some (.inl s) => runPlan ops fi an last rest s p' (done' ++ [st.chain])
            | some (.inr (.pan chain s)) => some (.pan chain { s with regs := junkAll ops fi s.regs (done'.filter fun i => !Nat.testBit a i) })
            | some (.inr _) => none
      else none

def runRegion (ops : Array Oper) (draw : Bool) (fi : FI) (s : S) : Option Res :=
  bif draw then
    bif (P.follows .mixedOrders || !Region.departs ops) && planOk ops.toList (plan ops.toList) then
      runPlan P cl rn ops.toList fi (ahead ops.toList) (plan ops.toList).2 (plan ops.toList).1 s [] []
    else none
  else runOps P cl rn ops.toList fi ops.toList s

/-- Where the rounds' deferred calls are kept, and the mark that the frame keeps of it. -/
def mkRange (around : Option Nat) (h : H) : Option (Nat × List ADefer × H) :=
  match around with
  | some l => match h.get l with
    | some (.loop _ _ _ _ _ _ _ _ df) => some (df, [], h)
    | _ => none
  | none => (h.new (.dfr false)).map fun (r, h) => (r, [.mark r], h)

/-- A range over a function: the loop's object, the call, the end. fid, around: the function, and the loop in whose round this is. -/
def runRange (fid : FuncId) (fi : FI) (around : Option Nat) (f : Operand) (params : Array Tmp) (asg body : Code) (s : S) : Option (Sum Res (Option Code × S)) :=
  match mkRange around s.h with
  | none => none
  | some (df, mark, h) =>
    match h.new (.loop .ready none fid fi s.regs params.toList asg body df) with
    | none => none
    | some (l, h) =>
      match ev fi s.regs f with
      | .fn (.func g) first cap =>
        match P.funcs[g]? with
        | some fn => if fn.name == "runtime.NumGoroutine" ∨ fn.body.isNone then none else
          match cl g (first ++ [.fn (.yield l) [] []] ++ cap) h with
          | none => none
          | some (.pan chain, h) => some (.inl (.pan chain { s with df := mark ++ s.df, h }))
          | some (.ret _, h) =>
            match h.get l with
            | some (.loop st pend fid fi regs params asg body df) =>
              if st = .busy then none else
              some (.inr (pend, { s with df := mark ++ s.df, h := h.set l (.loop .exhausted pend fid fi regs params asg body df) }))
            | _ => none
        | none => none
      | _ => none

/-- A text, with so much fuel. -/
def exec (fid : FuncId) (fi : FI) (around : Option Nat) (fuel : Nat) : Code → S → Option Res :=
  Nat.rec (motive := fun _ => Code → S → Option Res) (fun _ _ => none)
    (fun _ ih c s =>
      match c with
      | .skip | .label _ => some (.nor s)
      | .region _ ops draw => runRegion P cl rn ops draw fi s
      | .seq a b => match ih a s with
        | some (.nor s) => ih b s
        | r => r
      | .cond c a b => match ev fi s.regs c with
        | .bool true => ih a s
        | .bool false => ih b s
        | _ => none
      | .block id b => match ih b s with
        | some (.ext id' s) => if id' = id then some (.nor s) else some (.ext id' s)
        | r => r
      | .loop b => match ih b s with
        | some (.nor s) => ih (.loop b) s
        | r => r
      | .scope b => ih b s
      | .exit id => some (.ext id s)
      | .ret => some (.ret s)
      | .rangeFunc f params asg body => match runRange P cl fid fi around f params asg body s with
        | none => none
        | some (.inl r) => some r
        | some (.inr (none, s)) => some (.nor s)
        | some (.inr (some c, s)) => ih c s
      | .goto _ | .refuse _ => none) fuel

def resultsA (fi : FI) (fn : Func) (s : S) : Option AV :=
  let rec go : List ResultVar → Option (List AV)
    | [] => some []
    | r :: rest =>
      let v : Option AV := match r with
        | .tmp t => some (ev fi s.regs (.tmp t))
        | .cell a t => match ev fi s.regs (.tmp a) with
          | .ptr id off => loadA P s.h t id off
          | _ => none
      match v, go rest with
      | some v, some l => some (v :: l)
      | _, _ => none
  match go fn.results.toList with
  | some [v] => some v
  | some l => some (.tup l)
  | none => none

def settleA : AMode → AMode
  | .panicking ((_, true) :: _) => .returning
  | m => m

def raisedA (u : AMode) (chain : List APanic) : AMode :=
  match u with
  | .panicking old => .panicking (chain ++ old)
  | _ => .panicking chain

/-- How a deferred call is carried out: the function, its arguments, what the frame that made it is doing. -/
abbrev DeferFn := FuncId → List AV → AMode → H → Option (AEnd × AMode × H)

/-- A frame leaves: its deferred calls, then its results. -/
def leaveA (dc : DeferFn) (fi : FI) (fn : Func) : List ADefer → AMode → S → Option (AEnd × H)
  | [], .returning, s => (resultsA P fi fn s).map fun v => (.ret v, s.h)
  | [], .panicking chain, s => some (.pan chain, s.h)
  | [], .normal, _ => none
  | [], .round, _ => none
  | .mark r :: ds, u, s => match s.h.get r with
    | some (.dfr false) => leaveA dc fi fn ds u { s with h := s.h.set r (.dfr true) }
    | _ => none
  | .call d :: ds, u, s =>
    match d.fn with
    | .func f =>
      match P.funcs[f]? with
      | some g =>
        if g.name == "runtime.NumGoroutine" ∨ g.body.isNone then none else
        match dc f (d.args ++ d.cap) u s.h with
        | none => none
        | some (.ret _, u', h) => leaveA dc fi fn ds (settleA u') { s with h }
        | some (.pan chain, u', h) => leaveA dc fi fn ds (raisedA u' chain) { s with h }
      | none => none
    | _ => none

/-- The first registers: the arguments. -/
def argRegs (fi : FI) : Nat → List AV → Tr AV → Tr AV
  | _, [], t => t
  | i, v :: l, t => argRegs fi (i + 1) l (putReg fi t (some i) v)

/-- A function's body, called in a mode. -/
def bodyA (dc : DeferFn) (fuel : Nat) (f : FuncId) (args : List AV) (u : AMode) (h : H) : Option (AEnd × AMode × H) :=
  match P.funcs[f]? with
  | none => none
  | some fn =>
    match fn.body with
    | none => none
    | some c =>
      let sz := Nat.max fn.ntmps args.length
      let fi : FI := ⟨depFor sz, sz, P.globals.size⟩
      match exec P cl rn f fi none fuel c { regs := argRegs fi 0 args .e, df := [], h, u } with
      | none => none
      | some (.ext _ _) => none
      | some (.nor s) | some (.ret s) => (leaveA P dc fi fn s.df .returning s).map fun (e, h) => (e, s.u, h)
      | some (.pan chain s) => (leaveA P dc fi fn s.df (.panicking chain) s).map fun (e, h) => (e, s.u, h)

/-- A round's end: whether the loop goes on, and the jump that waits. -/
def endRoundA (l : Nat) (jump : Option Code) (s : S) : Option (AEnd × H) :=
  match s.df, s.h.get l with
  | [], some (.loop _ _ fid fi regs params asg body df) =>
    some (.ret (.bool jump.isNone), s.h.set l (.loop (if jump.isNone then .ready else .done) jump fid fi regs params asg body df))
  | _, _ => none

def roundRes (l : Nat) : Res → Option (AEnd × H)
  | .nor s => endRoundA l none s
  | .ret s => endRoundA l (some .ret) s
  | .ext id s => endRoundA l (some (.exit id)) s
  | .pan chain s => match s.df with
    | [] => some (.pan chain, s.h)
    | _ => none

/-- A round of a loop over a function. -/
def roundA (fuel : Nat) (l : Nat) (args : List AV) (h : H) : Option (AEnd × H) :=
  match h.get l with
  | some (.loop _ _ fid fi regs params asg body _) =>
    bif Nat.beq args.length params.length && (Nat.beq fi.G P.globals.size && (P.funcs[fid]?).isSome) then
      match exec P cl rn fid fi (some l) fuel asg { regs := (params.zip args).foldl (fun r x => putReg fi r (some x.1) x.2) regs, df := [], h, u := .round } with
      | some (.nor s) =>
        match s.h.get l with
        | some (.loop .ready pend fid' fi' regs' params' asg' body' df') =>
          match exec P cl rn fid fi (some l) fuel body { s with h := s.h.set l (.loop .busy pend fid' fi' regs' params' asg' body' df') } with
          | some r => roundRes l r
          | none => none
        | _ => none
      | _ => none
    else none
  | _ => none
end

/-- Functions whose answers are known: a call that it serves is not carried out. -/
abbrev Known := FuncId → List AV → H → Option (AEnd × H)

/-- Calls, with n levels and so much fuel each. -/
structure Fns where
  cl : CallFn
  rn : RoundFn
  dc : DeferFn

def fns (P : Program) (kn : Known) (fuel : Nat) (n : Nat) : Fns :=
  Nat.rec (motive := fun _ => Fns) ⟨fun _ _ _ => none, fun _ _ _ => none, fun _ _ _ _ => none⟩
    (fun _ ih =>
      { cl := fun f args h => match kn f args h with
          | some r => some r
          | none => (bodyA P ih.cl ih.rn ih.dc fuel f args .normal h).map fun (e, _, h) => (e, h)
        rn := fun l args h => roundA P ih.cl ih.rn fuel l args h
        dc := fun f args u h => bodyA P ih.cl ih.rn ih.dc fuel f args u h }) n

end Go.Ab
