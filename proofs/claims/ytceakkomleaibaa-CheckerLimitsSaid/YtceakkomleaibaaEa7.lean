/-
  THE ENGINE, part 7: whole bodies. What a Go function's code does to abstract values (a weakest precondition, wpC), and that the model does the same. Over any program. Written in this session.
-/
import Derived.Test.YtceakkomleaibaaEa6
import Derived.LoopN
import Derived.Orders
namespace Go.Ea

inductive Ex where
  | normal
  | exit (id : Nat)
  | ret
def Ex.out : Ex → Exit
  | .normal => .normal
  | .exit id => .exit id
  | .ret => .ret
abbrev Env := Nat → Option AV

/-- A CONTRACT: at laid arguments f comes back, with Q of what it gives and of the heap it leaves. -/
def Sim (P : Program) (f : FuncId) (args : List AV) (H : Heap) (Q : AV → Heap → Prop) : Prop :=
  ∀ (base : Nat) (α : Al) (w : World) (xs : Array Value), R P base H α w → F2 (VR α) args xs.toList →
    Calls P f xs w fun e w' => ∃ v v' H' α', e = .returned v' ∧ Q v H' ∧ VR α' v v' ∧ R P base H' α' w' ∧ Ext H α w H' α' w'
theorem Sim.mono {P : Program} {f : FuncId} {args : List AV} {H : Heap} {Q Q' : AV → Heap → Prop} (h : Sim P f args H Q) (hq : ∀ v H', Q v H' → Q' v H') : Sim P f args H Q' :=
  fun base α w xs hR ha => (h base α w xs hR ha).mono fun _ _ ⟨v, v', H', α', h1, h2, h3⟩ => ⟨v, v', H', α', h1, hq _ _ h2, h3⟩

def gdst (ops : List Oper) (j : Nat) : Option Nat := match ops[j]? with
  | some o => o.dst
  | none => none
/-- Does its guard let it run? none: that is not known. -/
noncomputable def wantA (ops : List Oper) (lk : Env) (o : Oper) : Option Bool := match o.guard with
  | none => some true
  | some (j, b) => match gdst ops j with
    | some t => match lk t with
      | some (.one (.at (.bool x))) => some (x == b)
      | some (.tup []) => some false
      | _ => none
    | none => none
def dOk (N : Nat) : Option Nat → Bool
  | none => true
  | some d => Nat.blt d N
def putF (lk : Env) : Option Nat → AV → Env
  | none, _ => lk
  | some d, v => fun j => if j = d then some v else lk j
@[simp] theorem putF_none (lk : Env) (v : AV) : putF lk none v = lk := rfl
theorem putF_some (lk : Env) (d : Nat) (v : AV) (j : Nat) : putF lk (some d) v j = if j = d then some v else lk j := rfl

section
variable (P : Program) (eqs : Eqs) (N : Nat)
def opP (op : Op) (lk : Env) (H : Heap) (K : AV → Heap → Prop) : Prop :=
  ∃ r, opA op P eqs lk H = some r ∧ match r with
    | .val v H' => K v H'
    | .call f args => FnOk P f ∧ Sim P f args H K
def wpO (ops : List Oper) (K : Env → Heap → Prop) : List Oper → Env → Heap → Prop
  | [], lk, H => K lk H
  | o :: r, lk, H => dOk N o.dst = true ∧ ∃ t, wantA ops lk o = some t ∧
      if t = true then opP P eqs o.op lk H fun v H' => wpO ops K r (putF lk o.dst v) H' else wpO ops K r (putF lk o.dst .undef) H

structure St (base : Nat) (H : Heap) (α : Al) (w : World) (lk : Env) (a : Act) : Prop where
  r : R P base H α w
  env : EnvR α lk a
  size : a.tmps.size = N
  defers : a.defers = []

/-- A region whose order is drawn: in every order. -/
def RegD (ops : Array Oper) (K : Env → Heap → Prop) (lk : Env) (H : Heap) : Prop :=
  ∀ (base : Nat) (α : Al) (a : Act) (w : World) (Q : Exit → Act → World → Prop), St P N base H α w lk a →
    (∀ lk' H' α' a' w', K lk' H' → St P N base H' α' w' lk' a' → Ext H α w H' α' w' → Q .normal a' w') →
    wpAny P .any ops Q ops.size (Array.replicate ops.size false) a w

abbrev PostA := Ex → Env → Heap → Prop
def thenA (K : Env → Heap → Prop) (Q : PostA) : PostA
  | .normal, lk, H => K lk H
  | e, lk, H => Q e lk H
def inBlockA (id : Nat) (Q : PostA) : PostA
  | .exit i, lk, H => if i = id then Q .normal lk H else Q (.exit i) lk H
  | e, lk, H => Q e lk H
def roundsA (body : PostA → Env → Heap → Prop) (Q : PostA) : Nat → Env → Heap → Prop
  | 0, _, _ => False
  | n + 1, lk, H => body (thenA (roundsA body Q n) Q) lk H
def wpC : Code → PostA → Env → Heap → Prop
  | .skip, Q, lk, H => Q .normal lk H
  | .region _ ops draw, Q, lk, H => if draw = true then RegD P N ops (Q .normal) lk H else wpO P eqs N ops.toList (Q .normal) ops.toList lk H
  | .seq x y, Q, lk, H => wpC x (thenA (wpC y Q) Q) lk H
  | .cond c x y, Q, lk, H => ∃ t, rho lk c = some (at' (.bool t)) ∧ if t = true then wpC x Q lk H else wpC y Q lk H
  | .block id c, Q, lk, H => wpC c (inBlockA id Q) lk H
  | .loop c, Q, lk, H => ∃ n, roundsA (wpC c) Q n lk H
  | .exit id, Q, lk, H => Q (.exit id) lk H
  | .ret, Q, lk, H => Q .ret lk H
  | _, _, _, _ => False
end

section
variable {P : Program} {eqs : Eqs} {N : Nat} {base : Nat} {H : Heap} {α : Al} {w : World} {a : Act} {lk : Env}

theorem St.put {dst : Option Nat} {v : AV} {u : Value} (h : St P N base H α w lk a) (hd : dOk N dst = true) (hv : VR α v u) : St P N base H α w (putF lk dst v) (a.put dst u) := by
  cases dst with
  | none => exact h
  | some d =>
    have hd' : d < N := by simpa [dOk, Nat.blt_eq] using hd
    refine ⟨h.r, fun t av ht => ?_, by simp [Act.put, h.size], h.defers⟩
    rw [putF_some] at ht
    split at ht
    · subst_vars
      cases ht
      exact ⟨u, by simp only [Act.put]; rw [Array.getElem?_setIfInBounds_self_of_lt (by rw [h.size]; exact hd')], hv⟩
    · rename_i e
      obtain ⟨x, h1, h2⟩ := h.env t av ht
      exact ⟨x, by simp only [Act.put]; rw [Array.getElem?_setIfInBounds_ne (Ne.symm e)]; exact h1, h2⟩
theorem St.go {H' : Heap} {α' : Al} {w' : World} (h : St P N base H α w lk a) (hr : R P base H' α' w') (hs : Sub α α') : St P N base H' α' w' lk a :=
  ⟨hr, fun t av ht => by obtain ⟨v, h1, h2⟩ := h.env t av ht; exact ⟨v, h1, h2.mono hs⟩, h.size, h.defers⟩

theorem wantA_sim {ops : Array Oper} {o : Oper} {t : Bool} (hE : EnvR α lk a) (h : wantA ops.toList lk o = some t) : Region.wanted o (yielded ops a.tmps) = t := by
  unfold wantA at h
  unfold Region.wanted
  split at h
  · rename_i hg; cases h; rw [hg]
  · rename_i j b hg
    rw [hg]
    split at h
    · rename_i t' hd
      have hd' : (ops[j]?).bind (·.dst) = some t' := by
        unfold gdst at hd
        rw [Array.getElem?_toList] at hd
        cases ho : ops[j]? with
        | none => rw [ho] at hd; cases hd
        | some o' => rw [ho] at hd; exact hd
      split at h
      · rename_i x hx
        cases h
        obtain ⟨v, h1, h2⟩ := hE _ _ hx
        simp only [VR, V1, AR] at h2
        subst h2
        simp only [yielded, hd', Option.bind_some, h1]
        cases x <;> cases b <;> rfl
      · rename_i hx
        cases h
        obtain ⟨v, h1, arr, h2, _⟩ := hE _ _ hx
        subst h2
        simp only [yielded, hd', Option.bind_some, h1]
        cases b <;> rfl
      · cases h
    · cases h

theorem VR_undef (α : Al) : VR α .undef undef := ⟨#[], rfl, .nil⟩

theorem nc_binOp {op : BinOp} {t yt : TypeId} {x y : Operand} {f : Nat} {args : List AV} : op_binOp op t x y yt P eqs lk H = some (.call f args) → False := by
  intro h; unfold op_binOp at h
  repeat' split at h
  all_goals cases h
theorem nc_unOp {op : UnOp} {t : TypeId} {x : Operand} {f : Nat} {args : List AV} : op_unOp op t x P eqs lk H = some (.call f args) → False := by
  intro h; unfold op_unOp at h
  repeat' split at h
  all_goals cases h
theorem nc_makeMap {t : TypeId} {x : Option Operand} {f : Nat} {args : List AV} : op_makeMap t x P eqs lk H = some (.call f args) → False := by
  intro h; unfold op_makeMap at h
  repeat' split at h
  all_goals cases h
/-- One operation. -/
theorem opP_sim (hQ : EqsOk P eqs) {o : Oper} {K : AV → Heap → Prop} (hS : St P N base H α w lk a) (h : opP P eqs o.op lk H K) {next : Act → World → Prop} {Q : Exit → Act → World → Prop}
    (hK : ∀ v u H' α' w', K v H' → VR α' v u → R P base H' α' w' → Ext H α w H' α' w' → next (a.put o.dst u) w') : o.wp P a w next Q := by
  obtain ⟨r, h1, h2⟩ := h
  cases r with
  | val v H' =>
    obtain ⟨nx, u, w', α', g1, g2, g3, g4, g5⟩ := op_sim hQ hS.r hS.env h1
    unfold Oper.wp
    rw [g1]
    have := hK v u H' α' w' h2 g3 g4 g5
    rcases g2 with g2 | ⟨g2, g6⟩
    · subst g2; exact this
    · subst g2; subst g6; exact this
  | call f args =>
    obtain ⟨hf, hs⟩ := h2
    have ho : ∃ c, o.op = .call c ∧ op_call c P eqs lk H = some (.call f args) := by
      generalize o.op = op at h1
      cases op with
      | call c => exact ⟨c, rfl, h1⟩
      | binOp op t x y yt => exact (nc_binOp (P := P) (eqs := eqs) (op := op) (t := t) (x := x) (y := y) (yt := yt) h1).elim
      | unOp op t x => exact (nc_unOp (P := P) (eqs := eqs) (op := op) (t := t) (x := x) h1).elim
      | makeMap t x => exact (nc_makeMap (P := P) (eqs := eqs) (lk := lk) (H := H) (t := t) (x := x) h1).elim
      | _ =>
        exfalso
        revert h1
        show opA _ P eqs lk H = _ → False
        first
          | (show op_move _ P eqs lk H = _ → False; unfold op_move; split <;> (intro h; cases h); done)
          | (show op_pick _ _ _ P eqs lk H = _ → False; intro h; unfold op_pick at h; (try simp only [cond_eq_ite] at h); (repeat' split at h) <;> cases h; done)
          | (show op_alloc _ P eqs lk H = _ → False; intro h; unfold op_alloc at h; (try simp only [cond_eq_ite] at h); (repeat' split at h) <;> cases h; done)
          | (show op_box _ _ P eqs lk H = _ → False; intro h; unfold op_box at h; (try simp only [cond_eq_ite] at h); (repeat' split at h) <;> cases h; done)
          | (show op_build _ _ P eqs lk H = _ → False; intro h; unfold op_build at h; (try simp only [cond_eq_ite] at h); (repeat' split at h) <;> cases h; done)
          | (show op_buildSlice _ _ _ P eqs lk H = _ → False; intro h; unfold op_buildSlice at h; (try simp only [cond_eq_ite] at h); (repeat' split at h) <;> cases h; done)
          | (show op_load _ _ P eqs lk H = _ → False; intro h; unfold op_load at h; (try simp only [cond_eq_ite] at h); (repeat' split at h) <;> cases h; done)
          | (show op_store _ _ _ P eqs lk H = _ → False; intro h; unfold op_store at h; (try simp only [cond_eq_ite] at h); (repeat' split at h) <;> cases h; done)
          | (show op_nilCheck _ P eqs lk H = _ → False; intro h; unfold op_nilCheck at h; (try simp only [cond_eq_ite] at h); (repeat' split at h) <;> cases h; done)
          | (show op_convert _ _ _ P eqs lk H = _ → False; intro h; unfold op_convert at h; (try simp only [cond_eq_ite] at h); (repeat' split at h) <;> cases h; done)
          | (show op_makeFunc _ _ _ P eqs lk H = _ → False; intro h; unfold op_makeFunc at h; (try simp only [cond_eq_ite] at h); (repeat' split at h) <;> cases h; done)
          | (show op_makeSlice _ _ _ P eqs lk H = _ → False; intro h; unfold op_makeSlice at h; (try simp only [cond_eq_ite] at h); (repeat' split at h) <;> cases h; done)
          | (show op_slice _ _ _ _ _ P eqs lk H = _ → False; intro h; unfold op_slice at h; (try simp only [cond_eq_ite] at h); (repeat' split at h) <;> cases h; done)
          | (show op_fieldAddr _ _ _ P eqs lk H = _ → False; intro h; unfold op_fieldAddr at h; (try simp only [cond_eq_ite] at h); (repeat' split at h) <;> cases h; done)
          | (show op_field _ _ _ P eqs lk H = _ → False; intro h; unfold op_field at h; (try simp only [cond_eq_ite] at h); (repeat' split at h) <;> cases h; done)
          | (show op_indexAddr _ _ _ P eqs lk H = _ → False; intro h; unfold op_indexAddr at h; (try simp only [cond_eq_ite] at h); (repeat' split at h) <;> cases h; done)
          | (show op_index _ _ _ P eqs lk H = _ → False; intro h; unfold op_index at h; (try simp only [cond_eq_ite] at h); (repeat' split at h) <;> cases h; done)
          | (show op_lookup _ _ _ _ P eqs lk H = _ → False; intro h; unfold op_lookup at h; (try simp only [cond_eq_ite] at h); (repeat' split at h) <;> cases h; done)
          | (show op_mapUpdate _ _ _ _ P eqs lk H = _ → False; intro h; unfold op_mapUpdate at h; (try simp only [cond_eq_ite] at h); (repeat' split at h) <;> cases h; done)
          | (show op_extract _ _ P eqs lk H = _ → False; intro h; unfold op_extract at h; (try simp only [cond_eq_ite] at h); (repeat' split at h) <;> cases h; done)
          | (intro h; cases h; done)
    obtain ⟨c, hc, hcall⟩ := ho
    obtain ⟨xs, e1, e2⟩ := sim_call hS.env hc hcall hf
    unfold Oper.wp
    rw [e1]
    refine (hs base α w xs hS.r e2).mono fun e w' ⟨v, v', H', α', q1, q2, q3, q4, q5⟩ => ?_
    subst q1
    exact hK v v' H' α' w' q2 q3 q4 q5

theorem wpO_sound (hQ : EqsOk P eqs) {ops : Array Oper} {K : Env → Heap → Prop} {Q : Exit → Act → World → Prop} {H0 : Heap} {α0 : Al} {w0 : World}
    (hK : ∀ lk' H' α' a' w', K lk' H' → St P N base H' α' w' lk' a' → Ext H0 α0 w0 H' α' w' → Q .normal a' w') : ∀ (l : List Oper) (lk : Env) (H : Heap) (α : Al) (a : Act) (w : World),
    wpO P eqs N ops.toList K l lk H → St P N base H α w lk a → Ext H0 α0 w0 H α w → wpList P ops Q l a w
  | [], lk, H, α, a, w, h, hS, hX => hK _ _ _ _ _ h hS hX
  | o :: r, lk, H, α, a, w, h, hS, hX => by
    obtain ⟨hd, t, ht, h⟩ := h
    unfold wpList
    rw [wantA_sim hS.env ht]
    cases t with
    | true =>
      rw [if_pos rfl] at h ⊢
      exact .inl (opP_sim hQ hS h fun v u H' α' w' g1 g2 g3 g4 => wpO_sound hQ hK r _ H' α' _ w' g1 ((hS.go g3 g4.sub).put hd g2) (hX.trans g4))
    | false =>
      rw [if_neg (by simp)] at h ⊢
      exact wpO_sound hQ hK r _ H α _ w h (hS.put hd (VR_undef α)) hX

/-- WHOLE CODE. -/
theorem wpC_sound (hm : P.follows .mixedOrders = true) (hQ : EqsOk P eqs) : ∀ (c : Code) (QA : PostA) (Q : Exit → Act → World → Prop) (lk : Env) (H : Heap) (α : Al) (a : Act) (w : World),
    wpC P eqs N c QA lk H → St P N base H α w lk a → (∀ x lk' H' α' a' w', QA x lk' H' → St P N base H' α' w' lk' a' → Ext H α w H' α' w' → Q x.out a' w') → c.wp P Q a w
  | .skip, QA, Q, lk, H, α, a, w, h, hS, hK => wp_skip (hK .normal _ _ _ _ _ h hS (Ext.refl _ _ _))
  | .exit id, QA, Q, lk, H, α, a, w, h, hS, hK => wp_exit (hK (.exit id) _ _ _ _ _ h hS (Ext.refl _ _ _))
  | .ret, QA, Q, lk, H, α, a, w, h, hS, hK => wp_ret (hK .ret _ _ _ _ _ h hS (Ext.refl _ _ _))
  | .region id ops draw, QA, Q, lk, H, α, a, w, h, hS, hK => by
    cases draw with
    | false =>
      exact wp_region_list (wpO_sound hQ (H0 := H) (α0 := α) (w0 := w) (fun lk' H' α' a' w' g1 g2 g3 => hK .normal _ _ _ _ _ g1 g2 g3) _ _ _ _ _ _ h hS (Ext.refl _ _ _))
    | true =>
      have hS' : St P N base H α w.drew lk a := ⟨hS.r.drew, hS.env, hS.size, hS.defers⟩
      exact wp_region_any hm (h base α a w.drew Q hS' fun lk' H' α' a' w' g1 g2 g3 => hK .normal _ _ _ _ _ g1 g2 ((Ext.drew H α w).trans g3))
  | .seq x y, QA, Q, lk, H, α, a, w, h, hS, hK => by
    refine wp_seq (wpC_sound hm hQ x (thenA (wpC P eqs N y QA) QA) _ lk H α a w h hS fun e lk' H' α' a' w' g1 g2 g3 => ?_)
    cases e with
    | normal => exact wpC_sound hm hQ y QA Q lk' H' α' a' w' g1 g2 fun x lk2 H2 α2 a2 w2 k1 k2 k3 => hK x lk2 H2 α2 a2 w2 k1 k2 (g3.trans k3)
    | exit id => exact hK (.exit id) _ _ _ _ _ g1 g2 g3
    | ret => exact hK .ret _ _ _ _ _ g1 g2 g3
  | .cond c x y, QA, Q, lk, H, α, a, w, h, hS, hK => by
    obtain ⟨t, h1, h2⟩ := h
    have : a.eval c = .bool t := rho_sim hS.env h1
    refine wp_cond this ?_
    cases t with
    | true => exact wpC_sound hm hQ x QA Q lk H α a w h2 hS hK
    | false => exact wpC_sound hm hQ y QA Q lk H α a w h2 hS hK
  | .block id c, QA, Q, lk, H, α, a, w, h, hS, hK => by
    refine wp_block (wpC_sound hm hQ c (inBlockA id QA) _ lk H α a w h hS fun e lk' H' α' a' w' g1 g2 g3 => ?_)
    cases e with
    | normal => exact hK .normal _ _ _ _ _ g1 g2 g3
    | exit i =>
      show if i = id then _ else _
      have g1' : if i = id then QA .normal lk' H' else QA (.exit i) lk' H' := g1
      split at g1'
      · rename_i e; rw [if_pos e]; exact hK .normal _ _ _ _ _ g1' g2 g3
      · rename_i e; rw [if_neg e]; exact hK (.exit i) _ _ _ _ _ g1' g2 g3
    | ret => exact hK .ret _ _ _ _ _ g1 g2 g3
  | .loop c, QA, Q, lk, H, α, a, w, h, hS, hK => by
    obtain ⟨n, h⟩ := h
    refine wp_loop_rounds n ?_
    have key : ∀ (n : Nat) (lk1 : Env) (H1 : Heap) (α1 : Al) (a1 : Act) (w1 : World), roundsA (wpC P eqs N c) QA n lk1 H1 → St P N base H1 α1 w1 lk1 a1 → Ext H α w H1 α1 w1 → Code.rounds P c Q n a1 w1 := by
      intro n
      induction n with
      | zero => intro lk1 H1 α1 a1 w1 h1; exact h1.elim
      | succ n ih =>
        intro lk1 H1 α1 a1 w1 h1 hS1 hX1
        refine wpC_sound hm hQ c (thenA (roundsA (wpC P eqs N c) QA n) QA) (Exit.then (Code.rounds P c Q n) Q) lk1 H1 α1 a1 w1 h1 hS1 fun e lk' H' α' a' w' g1 g2 g3 => ?_
        cases e with
        | normal => exact ih lk' H' α' a' w' g1 g2 (hX1.trans g3)
        | exit id => exact hK (.exit id) _ _ _ _ _ g1 g2 (hX1.trans g3)
        | ret => exact hK .ret _ _ _ _ _ g1 g2 (hX1.trans g3)
    exact key n lk H α a w h hS (Ext.refl _ _ _)
  | .rangeFunc _ _ _ _, _, _, _, _, _, _, _, h, _, _ => h.elim
  | .goto _, _, _, _, _, _, _, _, h, _, _ => h.elim
  | .label _, _, _, _, _, _, _, _, h, _, _ => h.elim
  | .scope _, _, _, _, _, _, _, _, h, _, _ => h.elim
  | .refuse _, _, _, _, _, _, _, _, h, _, _ => h.elim

/-! ### what a body gives -/
noncomputable def resA (P : Program) (lk : Env) (H : Heap) : List ResultVar → Option (List A1)
  | [] => some []
  | .tmp t :: r => match lk t, resA P lk H r with
    | some (.one x), some l => some (x :: l)
    | _, _ => none
  | .cell c t :: r => match lk c, resA P lk H r with
    | some (.one (.at (.ptr (some (id, o))))), some l => match H.get id with
      | some (.cells _ _ cs) => match partA P t cs o with
        | some x => some (x :: l)
        | none => none
      | _ => none
    | _, _ => none
def mkRes : List A1 → AV
  | [x] => .one x
  | l => .tup l
theorem resA_sim (hS : St P N base H α w lk a) : ∀ {rs : List ResultVar} {l : List A1}, resA P lk H rs = some l →
    ∃ vs, (rs.mapM fun
      | .tmp t => pure (a.tmps.getD t undef)
      | .cell c t => do loadVar t (← asAddr (a.tmps.getD c undef)) : Sem (List Value)).run P w = .ok vs w ∧ F2 (V1 α) l vs
  | [], l, h => by cases h; exact ⟨[], by simp, .nil⟩
  | .tmp t :: r, l, h => by
    simp only [resA] at h
    split at h
    · rename_i x l' h1 h2
      cases h
      obtain ⟨vs, e1, e2⟩ := resA_sim hS h2
      obtain ⟨v, q1, q2⟩ := hS.env _ _ h1
      refine ⟨v :: vs, ?_, .cons q2 e2⟩
      simp only [List.mapM_cons, Sem.run_bind, Sem.run_pure, Result.andThen_ok, e1]
      simp [Array.getD_eq_getD_getElem?, q1]
    · cases h
  | .cell c t :: r, l, h => by
    simp only [resA] at h
    split at h
    · rename_i id o l' h1 h2
      split at h
      · rename_i T k cs hg
        split at h
        · rename_i x hp
          cases h
          obtain ⟨vs, e1, e2⟩ := resA_sim hS h2
          obtain ⟨v, q1, L, q2, q3⟩ := hS.env _ _ h1
          subst q3
          obtain ⟨L', cc, fz, p1, p2, p3, p4, _⟩ := hS.r.obj _ _ hg
          simp only [] at q2
          rw [q2] at p1
          cases p1
          obtain ⟨u, d1, d2⟩ := partA_load hp p2 p3 p4
          refine ⟨u :: vs, ?_, .cons d2 e2⟩
          have ha : a.tmps.getD c undef = .pointer (some ⟨L.blk, L.off + o, none⟩) := by simp [Array.getD_eq_getD_getElem?, q1]
          have hb : (asAddr (a.tmps.getD c undef)).run P w = .ok ⟨L.blk, L.off + o, none⟩ w := by rw [ha]; rfl
          simp only [List.mapM_cons, Sem.run_bind, Sem.run_pure, Result.andThen_ok, hb, d1, e1]
        · cases h
      · cases h
    · cases h
theorem results_sim {fn : Func} {l : List A1} (hS : St P N base H α w lk a) (h : resA P lk H fn.results.toList = some l) : ∃ v, (results fn a.tmps).run P w = .ok v w ∧ VR α (mkRes l) v := by
  obtain ⟨vs, h1, h2⟩ := resA_sim hS h
  refine ⟨if h : vs.toArray.size = 1 then vs.toArray[0] else .tuple vs.toArray, ?_, ?_⟩
  · unfold results
    rw [Array.mapM_eq_mapM_toList]
    simp only [Sem.run_bind, Sem.run_map, Sem.run_pure]
    exact congrArg (fun r : Result (List Value) => (r.andThen fun a w' => Result.ok a.toArray w').andThen fun a w' => Result.ok (if h : a.size = 1 then a[0] else Value.tuple a) w') h1
  · match l, vs, h2 with
    | [], [], .nil => exact ⟨#[], rfl, .nil⟩
    | [_], [_], .cons h .nil => exact h
    | _ :: _ :: _, _ :: _ :: _, h2 => exact ⟨_, rfl, h2⟩
def argsF (args : List AV) : Env := fun j => args[j]?

/-- THE CONTRACT OF A FUNCTION, from its body. -/
theorem Sim.of_body (hm : P.follows .mixedOrders = true) (hQ : EqsOk P eqs) {f : FuncId} {fn : Func} {c : Code} {args : List AV} {Q : AV → Heap → Prop} (hf : P.funcs[f]? = some fn) (hb : fn.body = some c)
    (h : wpC P eqs (args.length + (fn.ntmps - args.length)) c (fun x lk H' => (match x with | .exit _ => False | _ => True) ∧ ∃ l, resA P lk H' fn.results.toList = some l ∧ Q (mkRes l) H') (argsF args) H) : Sim P f args H Q := by
  intro base α w xs hR ha
  have hlen : args.length = xs.size := by rw [ha.length]; simp
  refine calls_of_wp hf hb ?_
  refine wpC_sound (base := base) hm hQ c _ _ (argsF args) H α _ w h ⟨hR, fun t av ht => ?_, by simp [hlen], rfl⟩ fun x lk' H' α' a' w' g1 g2 g3 => ?_
  · obtain ⟨v, h1, h2⟩ := ha.get ht
    refine ⟨v, ?_, h2⟩
    rw [Array.getElem?_toList] at h1
    simp only []
    rw [Array.getElem?_append_left (Array.getElem?_eq_some_iff.1 h1).1, h1]
  · obtain ⟨hx, l, h1, h2⟩ := g1
    obtain ⟨v, q1, q2⟩ := results_sim g2 h1
    cases x with
    | exit id => exact hx.elim
    | normal => exact ⟨g2.defers, v, q1, _, v, H', α', rfl, h2, q2, g2.r, g3⟩
    | ret => exact ⟨g2.defers, v, q1, _, v, H', α', rfl, h2, q2, g2.r, g3⟩
end
end Go.Ea
