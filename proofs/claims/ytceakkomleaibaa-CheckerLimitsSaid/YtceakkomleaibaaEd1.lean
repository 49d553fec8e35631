/-
  THE ENGINE, part 17: triples over whole code, with loops by an invariant, for contracts at inputs that are not known. Over any program. Written in this session.
-/
import Derived.Test.YtceakkomleaibaaEc4
namespace Go.Ea

/-- From every state that is laid as lk and H say, the code comes to an end that Q allows. -/
def Tri (P : Program) (N : Nat) (c : Code) (lk : Env) (H : Heap) (Q : PostA) : Prop :=
  ∀ (base : Nat) (α : Al) (a : Act) (w : World) (Qm : Exit → Act → World → Prop), St P N base H α w lk a →
    (∀ x lk' H' α' a' w', Q x lk' H' → St P N base H' α' w' lk' a' → Ext H α w H' α' w' → Qm x.out a' w') → c.wp P Qm a w
section
variable {P : Program} {eqs : Eqs} {N : Nat} {lk lk' : Env} {H H' : Heap} {Q Q' : PostA} {c x y : Code}
theorem Tri.of_wpC (hm : P.follows .mixedOrders = true) (hQ : EqsOk P eqs) (h : wpC P eqs N c Q lk H) : Tri P N c lk H Q :=
  fun _ _ _ _ _ hS hK => wpC_sound hm hQ c Q _ lk H _ _ _ h hS hK
theorem Tri.mono (h : Tri P N c lk H Q) (hq : ∀ x lk' H', Q x lk' H' → Q' x lk' H') : Tri P N c lk H Q' :=
  fun base α a w Qm hS hK => h base α a w Qm hS fun x lk' H' α' a' w' g1 g2 g3 => hK x lk' H' α' a' w' (hq _ _ _ g1) g2 g3
/-- Less may be known of the slots. -/
theorem Tri.env (h : Tri P N c lk' H Q) (hl : ∀ t v, lk' t = some v → lk t = some v) : Tri P N c lk H Q :=
  fun base α a w Qm hS hK => h base α a w Qm ⟨hS.r, fun t v ht => hS.env t v (hl t v ht), hS.size, hS.defers⟩ hK
theorem Tri.seq (h : Tri P N x lk H (thenA (fun lk1 H1 => Tri P N y lk1 H1 Q) Q)) : Tri P N (.seq x y) lk H Q := by
  intro base α a w Qm hS hK
  refine wp_seq (h base α a w _ hS fun e lk1 H1 α1 a1 w1 g1 g2 g3 => ?_)
  cases e with
  | normal => exact g1 base α1 a1 w1 Qm g2 fun x lk2 H2 α2 a2 w2 k1 k2 k3 => hK x lk2 H2 α2 a2 w2 k1 k2 (g3.trans k3)
  | exit id => exact hK (.exit id) _ _ _ _ _ g1 g2 g3
  | ret => exact hK .ret _ _ _ _ _ g1 g2 g3
theorem Tri.cond {o : Operand} {t : Bool} (hc : rho lk o = some (at' (.bool t))) (h1 : t = true → Tri P N x lk H Q) (h2 : t = false → Tri P N y lk H Q) : Tri P N (.cond o x y) lk H Q := by
  intro base α a w Qm hS hK
  have : a.eval o = .bool t := rho_sim hS.env hc
  refine wp_cond this ?_
  cases t with
  | true => exact h1 rfl base α a w Qm hS hK
  | false => exact h2 rfl base α a w Qm hS hK
theorem Tri.block {id : Nat} (h : Tri P N c lk H (inBlockA id Q)) : Tri P N (.block id c) lk H Q := by
  intro base α a w Qm hS hK
  refine wp_block (h base α a w _ hS fun e lk1 H1 α1 a1 w1 g1 g2 g3 => ?_)
  cases e with
  | normal => exact hK .normal _ _ _ _ _ g1 g2 g3
  | exit i =>
    show if i = id then _ else _
    have g1' : if i = id then Q .normal lk1 H1 else Q (.exit i) lk1 H1 := g1
    split at g1'
    · rename_i e; rw [if_pos e]; exact hK .normal _ _ _ _ _ g1' g2 g3
    · rename_i e; rw [if_neg e]; exact hK (.exit i) _ _ _ _ _ g1' g2 g3
  | ret => exact hK .ret _ _ _ _ _ g1 g2 g3
theorem Tri.skip (h : Q .normal lk H) : Tri P N .skip lk H Q := fun _ _ _ _ _ hS hK => wp_skip (hK .normal _ _ _ _ _ h hS (Ext.refl _ _ _))
theorem Tri.exit {id : Nat} (h : Q (.exit id) lk H) : Tri P N (.exit id) lk H Q := fun _ _ _ _ _ hS hK => wp_exit (hK (.exit id) _ _ _ _ _ h hS (Ext.refl _ _ _))
theorem Tri.ret (h : Q .ret lk H) : Tri P N .ret lk H Q := fun _ _ _ _ _ hS hK => wp_ret (hK .ret _ _ _ _ _ h hS (Ext.refl _ _ _))
/-- A loop: I holds ahead of each round, at a number that falls. -/
theorem Tri.loop (I : Nat → Env → Heap → Prop) (n : Nat) (h0 : I n lk H) (hr : ∀ n lk H, I n lk H → Tri P N c lk H (thenA (fun lk1 H1 => ∃ m, m < n ∧ I m lk1 H1) Q)) : Tri P N (.loop c) lk H Q := by
  intro base α a w Qm hS hK
  refine wp_loop_rounds (n + 1) ?_
  have key : ∀ (k n : Nat) (lk1 : Env) (H1 : Heap) (α1 : Al) (a1 : Act) (w1 : World), n < k → I n lk1 H1 → St P N base H1 α1 w1 lk1 a1 → Ext H α w H1 α1 w1 → Code.rounds P c Qm k a1 w1 := by
    intro k
    induction k with
    | zero => intro n lk1 H1 α1 a1 w1 hn; omega
    | succ k ih =>
      intro n lk1 H1 α1 a1 w1 hn hI hS1 hX1
      refine hr n lk1 H1 hI base α1 a1 w1 (Exit.then (Code.rounds P c Qm k) Qm) hS1 fun e lk2 H2 α2 a2 w2 g1 g2 g3 => ?_
      cases e with
      | normal =>
        obtain ⟨m, hm, hI2⟩ := g1
        exact ih m lk2 H2 α2 a2 w2 (by omega) hI2 g2 (hX1.trans g3)
      | exit id => exact hK (.exit id) _ _ _ _ _ g1 g2 (hX1.trans g3)
      | ret => exact hK .ret _ _ _ _ _ g1 g2 (hX1.trans g3)
  exact key (n + 1) n lk H α a w (by omega) h0 hS (Ext.refl _ _ _)
theorem Tri.region (hm : P.follows .mixedOrders = true) (hQ : EqsOk P eqs) {id : Nat} {ops : Array Oper} (h : wpO P eqs N ops.toList (Q .normal) ops.toList lk H) : Tri P N (.region id ops false) lk H Q :=
  Tri.of_wpC hm hQ (eqs := eqs) (by unfold wpC; rw [if_neg (by simp)]; exact h)
theorem Tri.drawn (hm : P.follows .mixedOrders = true) (hQ : EqsOk P eqs) {id : Nat} {ops : Array Oper} (pl : Plan) (hp : okP ops.toList pl = true) (h : wpD P eqs N ops.toList pl H.n (Q .normal) pl.sched lk (resv H pl.M) [] []) :
    Tri P N (.region id ops true) lk H Q :=
  Tri.of_wpC hm hQ (eqs := eqs) (by unfold wpC; rw [if_pos rfl]; exact regD_of_plan hQ hp h)
/-- The contract of a function, from a triple on its body. -/
theorem Sim.of_tri {f : FuncId} {fn : Func} {args : List AV} {Qf : AV → Heap → Prop} (hf : P.funcs[f]? = some fn) (hb : fn.body = some c)
    (h : Tri P (args.length + (fn.ntmps - args.length)) c (argsF args) H (fun x lk H' => (match x with | .exit _ => False | _ => True) ∧ ∃ l, resA P lk H' fn.results.toList = some l ∧ Qf (mkRes l) H')) : Sim P f args H Qf := by
  intro base α w xs hR ha
  have hlen : args.length = xs.size := by rw [ha.length]; simp
  refine calls_of_wp hf hb ?_
  refine h base α _ w _ ⟨hR, fun t av ht => ?_, by simp [hlen], rfl⟩ fun x lk' H' α' a' w' g1 g2 g3 => ?_
  · obtain ⟨v, h1, h2⟩ := ha.get ht
    refine ⟨v, ?_, h2⟩
    rw [Array.getElem?_toList] at h1
    simp only []
    rw [Array.getElem?_append_left (Array.getElem?_eq_some_iff.1 h1).1, h1]
  · obtain ⟨hx, l, h1, h2⟩ := g1
    obtain ⟨v, q1, q2⟩ := results_sim g2 h1
    cases x with
    | exit id => exact hx.elim
    | normal => exact ⟨g2.defers, v, q1, _, v, H', α', rfl, h2, q2, g2.r, g3⟩
    | ret => exact ⟨g2.defers, v, q1, _, v, H', α', rfl, h2, q2, g2.r, g3⟩
end
end Go.Ea
