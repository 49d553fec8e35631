/-
  THE ENGINE, part 13: an evaluator for closed calls, and that what it gives is a contract. Over any program. Written in this session.
-/
import Derived.Test.YtceakkomleaibaaEb3
namespace Go.Ea

/-! ### equal values -/
noncomputable def eqAT : AT → AT → Bool
  | .bool a, .bool b => a == b
  | .int k a, .int k' b => decide (k = k') && decide (a = b)
  | .str x, .str y => eqS x y
  | .ptr a, .ptr b => decide (a = b)
  | .slice a n, .slice b m => decide (a = b) && Nat.beq n m
  | .map a, .map b => decide (a = b)
  | .fn f cs, .fn g ds => Nat.beq f g && decide (cs = ds)
  | .nilFn, .nilFn => true
  | .nilIf, .nilIf => true
  | _, _ => false
theorem eqAT_sound {a b : AT} (h : eqAT a b = true) : a = b := by
  cases a <;> cases b <;> simp_all [eqAT, eqS_eq]
noncomputable def eqATs : List AT → List AT → Bool
  | [], [] => true
  | a :: l, b :: m => eqAT a b && eqATs l m
  | _, _ => false
theorem eqATs_sound : ∀ {l m : List AT}, eqATs l m = true → l = m
  | [], [], _ => rfl
  | a :: l, b :: m, h => by
    simp only [eqATs, Bool.and_eq_true] at h
    rw [eqAT_sound h.1, eqATs_sound h.2]
  | [], _ :: _, h => by cases h
  | _ :: _, [], h => by cases h
noncomputable def eqA1 : A1 → A1 → Bool
  | .at a, .at b => eqAT a b
  | .agg l, .agg m => eqATs l m
  | _, _ => false
theorem eqA1_sound {a b : A1} (h : eqA1 a b = true) : a = b := by
  cases a <;> cases b <;> simp only [eqA1] at h
  · rw [eqAT_sound h]
  · cases h
  · cases h
  · rw [eqATs_sound h]
noncomputable def eqA1s : List A1 → List A1 → Bool
  | [], [] => true
  | a :: l, b :: m => eqA1 a b && eqA1s l m
  | _, _ => false
theorem eqA1s_sound : ∀ {l m : List A1}, eqA1s l m = true → l = m
  | [], [], _ => rfl
  | a :: l, b :: m, h => by
    simp only [eqA1s, Bool.and_eq_true] at h
    rw [eqA1_sound h.1, eqA1s_sound h.2]
  | [], _ :: _, h => by cases h
  | _ :: _, [], h => by cases h
noncomputable def eqAV : AV → AV → Bool
  | .one a, .one b => eqA1 a b
  | .tup l, .tup m => eqA1s l m
  | _, _ => false
theorem eqAV_sound {a b : AV} (h : eqAV a b = true) : a = b := by
  cases a <;> cases b <;> simp only [eqAV] at h
  · rw [eqA1_sound h]
  · cases h
  · cases h
  · rw [eqA1s_sound h]

/-! ### the evaluator -/
abbrev Orc := Nat → List AV → Heap → Option (AV × Heap)
abbrev PendE := List (Nat × Tr AV × AV)
noncomputable def putE (env : Tr AV) : Option Nat → AV → Tr AV
  | some d, v => env.put d v
  | none, _ => env
theorem putE_get (env : Tr AV) (d : Option Nat) (v : AV) : (putE env d v).get = putF env.get d v := by
  cases d with
  | none => rfl
  | some d => funext j; exact Tr.get_put env d j v
section
variable (P : Program) (eqs : Eqs) (K : Orc)
noncomputable def evOp (op : Op) (env : Tr AV) (H : Heap) : Option (AV × Heap) := match opA op P eqs env.get H with
  | some (.val v H') => some (v, H')
  | some (.call f args) => K f args H
  | none => none
noncomputable def evOps (ops : List Oper) (l : List Oper) : Tr AV → Heap → Option (Tr AV × Heap) :=
  List.rec (motive := fun _ => Tr AV → Heap → Option (Tr AV × Heap)) (fun env H => some (env, H))
    (fun o _ ih env H => match wantA ops env.get o with
      | some true => match evOp P eqs K o.op env H with
        | some (v, H') => ih (putE env o.dst v) H'
        | none => none
      | some false => ih (putE env o.dst .undef) H
      | none => none) l
noncomputable def rechk (ops : List Oper) (pl : Plan) (n0 : Nat) (i : Nat) (H : Heap) (mk : List (Nat × AObj)) (pd : PendE) : Bool :=
  List.rec (motive := fun _ => Bool) true (fun p _ ih => (bef pl i p.1 || match ops[p.1]? with
    | some o => match opA o.op P eqs p.2.1.get (matP pl (bef pl p.1) n0 mk H) with
      | some (.val v _) => isCls (clsOf o.op) .rd && eqAV v p.2.2
      | _ => false
    | none => false) && ih) pd
noncomputable def evD (ops : List Oper) (pl : Plan) (n0 : Nat) (l : List Nat) : Tr AV → Heap → List (Nat × AObj) → PendE → Option (Tr AV × Heap) :=
  List.rec (motive := fun _ => Tr AV → Heap → List (Nat × AObj) → PendE → Option (Tr AV × Heap)) (fun env H mk _ => some (env, matP pl (fun _ => true) n0 mk H))
    (fun i _ ih env H mk pd => match ops[i]? with
      | some o => match wantA ops env.get o with
        | some true => match clsOf o.op with
          | .loc => match opA o.op P eqs env.get H with
            | some (.val v _) => ih (putE env o.dst v) H mk pd
            | _ => none
          | .rd => match opA o.op P eqs env.get (matP pl (bef pl i) n0 mk H) with
            | some (.val v _) => ih (putE env o.dst v) H mk ((i, env, v) :: pd)
            | _ => none
          | .mk => match opA o.op P eqs env.get ⟨n0 + pl.rk.getD i 0, .nil⟩ with
            | some (.val v H') => match H'.get (n0 + pl.rk.getD i 0) with
              | some obj => ih (putE env o.dst v) H ((i, obj) :: mk) pd
              | none => none
            | _ => none
          | .md => match evOp P eqs K o.op env (matP pl (bef pl i) n0 mk H) with
            | some (v, H') => bif rechk P eqs ops pl n0 i H' (mk.filter fun x => !bef pl i x.1) pd then
                ih (putE env o.dst v) H' (mk.filter fun x => !bef pl i x.1) (pd.filter fun x => !bef pl i x.1) else none
            | none => none
        | some false => ih (putE env o.dst .undef) H mk pd
        | none => none
      | none => none) l
noncomputable def evL (body : Tr AV → Heap → Option (Ex × Tr AV × Heap)) (n : Nat) : Tr AV → Heap → Option (Ex × Tr AV × Heap) :=
  Nat.rec (motive := fun _ => Tr AV → Heap → Option (Ex × Tr AV × Heap)) (fun _ _ => none)
    (fun _ ih env H => match body env H with
    | some (.normal, env', H') => ih env' H'
    | some (.exit i, env', H') => some (.exit i, env', H')
    | some (.ret, env', H') => some (.ret, env', H')
    | none => none) n
noncomputable def evC (pls : Nat → Plan) (n : Nat) (c : Code) : Tr AV → Heap → Option (Ex × Tr AV × Heap) :=
  Code.rec (motive := fun _ => Tr AV → Heap → Option (Ex × Tr AV × Heap))
    (fun env H => some (.normal, env, H))
    (fun id ops draw env H => match draw with
      | false => match evOps P eqs K ops.toList ops.toList env H with
        | some (env', H') => some (.normal, env', H')
        | none => none
      | true => match evD P eqs K ops.toList (pls id) H.n (pls id).sched env (resv H (pls id).M) [] [] with
        | some (env', H') => some (.normal, env', H')
        | none => none)
    (fun _ _ iha ihb env H => match iha env H with
      | some (.normal, env', H') => ihb env' H'
      | some (.exit i, env', H') => some (.exit i, env', H')
      | some (.ret, env', H') => some (.ret, env', H')
      | none => none)
    (fun c _ _ ihx ihy env H => match rho env.get c with
      | some (.one (.at (.bool t))) => bif t then ihx env H else ihy env H
      | _ => none)
    (fun id _ ih env H => match ih env H with
      | some (.exit i, env', H') => bif Nat.beq i id then some (.normal, env', H') else some (.exit i, env', H')
      | some (.normal, env', H') => some (.normal, env', H')
      | some (.ret, env', H') => some (.ret, env', H')
      | none => none)
    (fun _ ih env H => evL ih n env H)
    (fun _ _ _ _ _ _ _ _ => none)
    (fun id env H => some (.exit id, env, H))
    (fun _ _ _ _ => none)
    (fun _ _ _ => none)
    (fun _ _ _ => none)
    (fun env H => some (.ret, env, H))
    (fun _ _ _ => none) c
end
noncomputable def initE (args : List AV) : Tr AV := (args.foldl (fun (p : Nat × Tr AV) v => (p.1 + 1, p.2.put p.1 v)) (0, .nil)).2
noncomputable def runA (P : Program) (eqs : Eqs) (pls : Nat → Option (Nat → Plan)) (n : Nat) : Orc :=
  Nat.rec (motive := fun _ => Orc) (fun _ _ _ => none) (fun n ih f args H => match P.funcs[f]? with
    | some fn => match pls f, fn.body with
      | some pl, some c => match evC P eqs ih pl n c (initE args) H with
        | some (.exit _, _, _) => none
        | some (_, env, H') => match resA P env.get H' fn.results.toList with
          | some l => some (mkRes l, H')
          | none => none
        | none => none
      | _, _ => none
    | none => none) n

/-! ### what is looked at once for a program -/
def codeOk (pls : Nat → Plan) (N : Nat) : Code → Bool
  | .region id ops draw => (ops.toList.all fun o => dOk N o.dst) && (!draw || okP ops.toList (pls id))
  | .seq x y => codeOk pls N x && codeOk pls N y
  | .cond _ x y => codeOk pls N x && codeOk pls N y
  | .block _ c => codeOk pls N c
  | .loop c => codeOk pls N c
  | _ => true
def fnsOk (pls : Nat → Option (Nat → Plan)) : Nat → List Func → Bool
  | _, [] => true
  | f, fn :: r => (match pls f, fn.body with
    | some pl, some c => !(fn.name == "runtime.NumGoroutine") && codeOk pl fn.ntmps c
    | _, _ => true) && fnsOk pls (f + 1) r
def noPlan : Plan := ⟨[], [], 0, []⟩
abbrev Tab := List (Nat × List (Nat × Plan))
noncomputable def rowOf (f : Nat) (t : Tab) : List (Nat × Plan) :=
  List.rec (motive := fun _ => List (Nat × Plan)) [] (fun x _ ih => bif Nat.beq x.1 f then x.2 else ih) t
noncomputable def plOf (l : List (Nat × Plan)) (id : Nat) : Plan :=
  List.rec (motive := fun _ => Plan) noPlan (fun x _ ih => bif Nat.beq x.1 id then x.2 else ih) l
/-- The plans of a table, but for functions that are left out. -/
noncomputable def plsOf (t : Tab) (out : List Nat) (f : Nat) : Option (Nat → Plan) := bif out.any (fun k => Nat.beq k f) then none else some (plOf (rowOf f t))
end Go.Ea
