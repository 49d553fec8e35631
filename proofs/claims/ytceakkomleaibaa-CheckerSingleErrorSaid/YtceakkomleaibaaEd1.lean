/-
  THE ENGINE, part 17: triples over whole code, with loops by an invariant, for contracts at inputs that are not known. Over any program. Written in this session.
-/
import Derived.Test.YtceakkomleaibaaEb1
import Derived.ChangeSlices
import Derived.ProofKit
import Derived.OpenShut
import Derived.Carry
section
namespace Go.Ea

/-- From every state that is laid as lk and H say, the code comes to an end that Q allows. -/
def Tri (P : Program) (N : Nat) (c : Code) (lk : Env) (H : Heap) (Q : PostA) : Prop :=
  ∀ (base : Nat) (α : Al) (a : Act) (w : World) (Qm : Exit → Act → World → Prop), St P N base H α w lk a →
    (∀ x lk' H' α' a' w', Q x lk' H' → St P N base H' α' w' lk' a' → Ext H α w H' α' w' → Qm x.out a' w') → c.wp P Qm a w
section
variable {P : Program} {eqs : Eqs} {N : Nat} {lk lk' : Env} {H H' : Heap} {Q Q' : PostA} {c x y : Code}
theorem Tri.of_wpC (hm : P.follows .mixedOrders = true) (hQ : EqsOk P eqs) (h : wpC P eqs N c Q lk H) : Tri P N c lk H Q :=
  fun _ _ _ _ _ hS hK => wpC_sound hm hQ c Q _ lk H _ _ _ h hS hK
theorem Tri.mono (h : Tri P N c lk H Q) (hq : ∀ x lk' H', Q x lk' H' → Q' x lk' H') : Tri P N c lk H Q' :=
  fun base α a w Qm hS hK => h base α a w Qm hS fun x lk' H' α' a' w' g1 g2 g3 => hK x lk' H' α' a' w' (hq _ _ _ g1) g2 g3
/-- Less may be known of the slots. -/
theorem Tri.env (h : Tri P N c lk' H Q) (hl : ∀ t v, lk' t = some v → lk t = some v) : Tri P N c lk H Q :=
  fun base α a w Qm hS hK => h base α a w Qm ⟨hS.r, fun t v ht => hS.env t v (hl t v ht), hS.size, hS.defers⟩ hK
theorem Tri.seq (h : Tri P N x lk H (thenA (fun lk1 H1 => Tri P N y lk1 H1 Q) Q)) : Tri P N (.seq x y) lk H Q := by
  intro base α a w Qm hS hK
  refine wp_seq (h base α a w _ hS fun e lk1 H1 α1 a1 w1 g1 g2 g3 => ?_)
  cases e with
  | normal => exact g1 base α1 a1 w1 Qm g2 fun x lk2 H2 α2 a2 w2 k1 k2 k3 => hK x lk2 H2 α2 a2 w2 k1 k2 (g3.trans k3)
  | exit id => exact hK (.exit id) _ _ _ _ _ g1 g2 g3
  | ret => exact hK .ret _ _ _ _ _ g1 g2 g3
theorem Tri.cond {o : Operand} {t : Bool} (hc : rho lk o = some (at' (.bool t))) (h1 : t = true → Tri P N x lk H Q) (h2 : t = false → Tri P N y lk H Q) : Tri P N (.cond o x y) lk H Q := by
  intro base α a w Qm hS hK
  have : a.eval o = .bool t := rho_sim hS.env hc
  refine wp_cond this ?_
  cases t with
  | true => exact h1 rfl base α a w Qm hS hK
  | false => exact h2 rfl base α a w Qm hS hK
theorem Tri.block {id : Nat} (h : Tri P N c lk H (inBlockA id Q)) : Tri P N (.block id c) lk H Q := by
  intro base α a w Qm hS hK
  refine wp_block (h base α a w _ hS fun e lk1 H1 α1 a1 w1 g1 g2 g3 => ?_)
  cases e with
  | normal => exact hK .normal _ _ _ _ _ g1 g2 g3
  | exit i =>
    show if i = id then _ else _
    have g1' : if i = id then Q .normal lk1 H1 else Q (.exit i) lk1 H1 := g1
    split at g1'
    · rename_i e; rw [if_pos e]; exact hK .normal _ _ _ _ _ g1' g2 g3
    · rename_i e; rw [if_neg e]; exact hK (.exit i) _ _ _ _ _ g1' g2 g3
  | ret => exact hK .ret _ _ _ _ _ g1 g2 g3
theorem Tri.skip (h : Q .normal lk H) : Tri P N .skip lk H Q := fun _ _ _ _ _ hS hK => wp_skip (hK .normal _ _ _ _ _ h hS (Ext.refl _ _ _))
theorem Tri.exit {id : Nat} (h : Q (.exit id) lk H) : Tri P N (.exit id) lk H Q := fun _ _ _ _ _ hS hK => wp_exit (hK (.exit id) _ _ _ _ _ h hS (Ext.refl _ _ _))
theorem Tri.ret (h : Q .ret lk H) : Tri P N .ret lk H Q := fun _ _ _ _ _ hS hK => wp_ret (hK .ret _ _ _ _ _ h hS (Ext.refl _ _ _))
/-- A loop: I holds ahead of each round, at a number that falls. -/
theorem Tri.loop (I : Nat → Env → Heap → Prop) (n : Nat) (h0 : I n lk H) (hr : ∀ n lk H, I n lk H → Tri P N c lk H (thenA (fun lk1 H1 => ∃ m, m < n ∧ I m lk1 H1) Q)) : Tri P N (.loop c) lk H Q := by
  intro base α a w Qm hS hK
  refine wp_loop_rounds (n + 1) ?_
  have key : ∀ (k n : Nat) (lk1 : Env) (H1 : Heap) (α1 : Al) (a1 : Act) (w1 : World), n < k → I n lk1 H1 → St P N base H1 α1 w1 lk1 a1 → Ext H α w H1 α1 w1 → Code.rounds P c Qm k a1 w1 := by
    intro k
    induction k with
    | zero => intro n lk1 H1 α1 a1 w1 hn; omega
    | succ k ih =>
      intro n lk1 H1 α1 a1 w1 hn hI hS1 hX1
      refine hr n lk1 H1 hI base α1 a1 w1 (Exit.then (Code.rounds P c Qm k) Qm) hS1 fun e lk2 H2 α2 a2 w2 g1 g2 g3 => ?_
      cases e with
      | normal =>
        obtain ⟨m, hm, hI2⟩ := g1
        exact ih m lk2 H2 α2 a2 w2 (by omega) hI2 g2 (hX1.trans g3)
      | exit id => exact hK (.exit id) _ _ _ _ _ g1 g2 (hX1.trans g3)
      | ret => exact hK .ret _ _ _ _ _ g1 g2 (hX1.trans g3)
  exact key (n + 1) n lk H α a w (by omega) h0 hS (Ext.refl _ _ _)
theorem Tri.region (hm : P.follows .mixedOrders = true) (hQ : EqsOk P eqs) {id : Nat} {ops : Array Oper} (h : wpO P eqs N ops.toList (Q .normal) ops.toList lk H) : Tri P N (.region id ops false) lk H Q :=
  Tri.of_wpC hm hQ (eqs := eqs) (by unfold wpC; rw [if_neg (by simp)]; exact h)
theorem Tri.drawn (hm : P.follows .mixedOrders = true) (hQ : EqsOk P eqs) {id : Nat} {ops : Array Oper} (pl : Plan) (hp : okP ops.toList pl = true) (h : wpD P eqs N ops.toList pl H.n (Q .normal) pl.sched lk (resv H pl.M) [] []) :
    Tri P N (.region id ops true) lk H Q :=
  Tri.of_wpC hm hQ (eqs := eqs) (by unfold wpC; rw [if_pos rfl]; exact regD_of_plan hQ hp h)
/-- The contract of a function, from a triple on its body. -/
theorem Sim.of_tri {f : FuncId} {fn : Func} {args : List AV} {Qf : AV → Heap → Prop} (hf : P.funcs[f]? = some fn) (hb : fn.body = some c)
    (h : Tri P (args.length + (fn.ntmps - args.length)) c (argsF args) H (fun x lk H' => (match x with | .exit _ => False | _ => True) ∧ ∃ l, resA P lk H' fn.results.toList = some l ∧ Qf (mkRes l) H')) : Sim P f args H Qf := by
  intro base α w xs hR ha
  have hlen : args.length = xs.size := by rw [ha.length]; simp
  refine calls_of_wp hf hb ?_
  refine h base α _ w _ ⟨hR, fun t av ht => ?_, by simp [hlen], rfl⟩ fun x lk' H' α' a' w' g1 g2 g3 => ?_
  · obtain ⟨v, h1, h2⟩ := ha.get ht
    refine ⟨v, ?_, h2⟩
    rw [Array.getElem?_toList] at h1
    simp only []
    rw [Array.getElem?_append_left (Array.getElem?_eq_some_iff.1 h1).1, h1]
  · obtain ⟨hx, l, h1, h2⟩ := g1
    obtain ⟨v, q1, q2⟩ := results_sim g2 h1
    cases x with
    | exit id => exact hx.elim
    | normal => exact ⟨g2.defers, v, q1, _, v, H', α', rfl, h2, q2, g2.r, g3⟩
    | ret => exact ⟨g2.defers, v, q1, _, v, H', α', rfl, h2, q2, g2.r, g3⟩
end
end Go.Ea
end

/-
  THE ENGINE, part 18: the steps of a walk as equivalences, for 'simp only'. Over any program. Written in this session.
-/
section
namespace Go.Ea
section
variable {P : Program} {eqs : Eqs} {N : Nat} {lk : Env} {H : Heap} {K : AV → Heap → Prop} {Ke : Env → Heap → Prop} {ops : List Oper}

theorem opP_val {op : Op} {v : AV} {H' : Heap} (h : opA op P eqs lk H = some (.val v H')) : opP P eqs op lk H K ↔ K v H' := by
  unfold opP
  rw [h]
  constructor
  · rintro ⟨r, h1, h2⟩; cases h1; exact h2
  · intro hk; exact ⟨_, rfl, hk⟩
theorem opP_call {c : Call} {f : Nat} {args : List AV} (h : op_call c P eqs lk H = some (.call f args)) (hf : FnOk P f) {Q : AV → Heap → Prop} (hs : Sim P f args H Q) (hk : ∀ v H', Q v H' → K v H') : opP P eqs (.call c) lk H K :=
  ⟨_, h, hf, hs.mono hk⟩
theorem wpO_cons {o : Oper} {r : List Oper} : wpO P eqs N ops Ke (o :: r) lk H ↔ dOk N o.dst = true ∧ ∃ t, wantA ops lk o = some t ∧ if t = true then opP P eqs o.op lk H fun v H' => wpO P eqs N ops Ke r (putF lk o.dst v) H' else wpO P eqs N ops Ke r (putF lk o.dst .undef) H := Iff.rfl
theorem wpO_nil : wpO P eqs N ops Ke [] lk H ↔ Ke lk H := Iff.rfl
/-- One operation without a guard. -/
theorem wpO_op {o : Oper} {r : List Oper} (hd : dOk N o.dst = true) (hg : o.guard = none) : wpO P eqs N ops Ke (o :: r) lk H ↔ opP P eqs o.op lk H fun v H' => wpO P eqs N ops Ke r (putF lk o.dst v) H' := by
  have hw : wantA ops lk o = some true := by unfold wantA; rw [hg]
  rw [wpO_cons]
  constructor
  · rintro ⟨_, t, ht, h⟩; rw [hw] at ht; cases ht; rw [if_pos rfl] at h; exact h
  · intro h; exact ⟨hd, true, hw, by rw [if_pos rfl]; exact h⟩
/-- One operation that its guard lets run. -/
theorem wpO_yes {o : Oper} {r : List Oper} (hd : dOk N o.dst = true) (hw : wantA ops lk o = some true) : wpO P eqs N ops Ke (o :: r) lk H ↔ opP P eqs o.op lk H fun v H' => wpO P eqs N ops Ke r (putF lk o.dst v) H' := by
  rw [wpO_cons]
  constructor
  · rintro ⟨_, t, ht, h⟩; rw [hw] at ht; cases ht; rw [if_pos rfl] at h; exact h
  · intro h; exact ⟨hd, true, hw, by rw [if_pos rfl]; exact h⟩
theorem wpO_no {o : Oper} {r : List Oper} (hd : dOk N o.dst = true) (hw : wantA ops lk o = some false) : wpO P eqs N ops Ke (o :: r) lk H ↔ wpO P eqs N ops Ke r (putF lk o.dst .undef) H := by
  rw [wpO_cons]
  constructor
  · rintro ⟨_, t, ht, h⟩; rw [hw] at ht; cases ht; rw [if_neg (by simp)] at h; exact h
  · intro h; exact ⟨hd, false, hw, by rw [if_neg (by simp)]; exact h⟩
/-- A step that gives a value. -/
theorem stepV {o : Oper} {r : List Oper} {v : AV} {H' : Heap} (hd : dOk N o.dst = true) (hw : wantA ops lk o = some true) (h : opA o.op P eqs lk H = some (.val v H')) (hk : wpO P eqs N ops Ke r (putF lk o.dst v) H') : wpO P eqs N ops Ke (o :: r) lk H :=
  (wpO_yes hd hw).2 ((opP_val h).2 hk)
/-- A step that gives a test whose answer is known by a hypothesis. -/
theorem stepB {o : Oper} {r : List Oper} {c : Bool} {H' : Heap} (t : Bool) (hd : dOk N o.dst = true) (hw : wantA ops lk o = some true) (h : opA o.op P eqs lk H = some (.val (at' (.bool c)) H')) (hc : c = t)
    (hk : wpO P eqs N ops Ke r (putF lk o.dst (at' (.bool t))) H') : wpO P eqs N ops Ke (o :: r) lk H :=
  stepV hd hw h (by subst hc; exact hk)
/-- A step that gives a number that is also written so. -/
theorem stepI {o : Oper} {r : List Oper} {k : IntKind} {x : Int} {H' : Heap} (y : Int) (hd : dOk N o.dst = true) (hw : wantA ops lk o = some true) (h : opA o.op P eqs lk H = some (.val (at' (.int k x)) H')) (hc : x = y)
    (hk : wpO P eqs N ops Ke r (putF lk o.dst (at' (.int k y))) H') : wpO P eqs N ops Ke (o :: r) lk H :=
  stepV hd hw h (by subst hc; exact hk)
theorem wrapA_small {k : IntKind} {n : Nat} (h : n < half k) : wrapA k (n : Int) = n := by
  show (bif Nat.blt n (half k) then (n : Int) else k.wrap n) = n
  rw [show Nat.blt n (half k) = true from by simpa [Nat.blt_eq] using h]; rfl
/-- A step that its guard holds back. -/
theorem stepN {o : Oper} {r : List Oper} (hd : dOk N o.dst = true) (hw : wantA ops lk o = some false) (hk : wpO P eqs N ops Ke r (putF lk o.dst .undef) H) : wpO P eqs N ops Ke (o :: r) lk H :=
  (wpO_no hd hw).2 hk
/-- A step that calls. -/
theorem stepC {o : Oper} {r : List Oper} {f : Nat} {args : List AV} {Q : AV → Heap → Prop} (hd : dOk N o.dst = true) (hw : wantA ops lk o = some true) (h : opA o.op P eqs lk H = some (.call f args)) (hf : FnOk P f) (hs : Sim P f args H Q)
    (hk : ∀ v H', Q v H' → wpO P eqs N ops Ke r (putF lk o.dst v) H') : wpO P eqs N ops Ke (o :: r) lk H :=
  (wpO_yes hd hw).2 ⟨_, h, hf, hs.mono hk⟩
/-- A step that calls what gives one value and leaves the heap. -/
theorem stepF {o : Oper} {r : List Oper} {f : Nat} {args : List AV} {v : AV} (hd : dOk N o.dst = true) (hw : wantA ops lk o = some true) (h : opA o.op P eqs lk H = some (.call f args)) (hf : FnOk P f) (hs : Sim P f args H fun u G => u = v ∧ G = H)
    (hk : wpO P eqs N ops Ke r (putF lk o.dst v) H) : wpO P eqs N ops Ke (o :: r) lk H :=
  stepC hd hw h hf hs fun u G ⟨h1, h2⟩ => by subst h1; subst h2; exact hk
theorem inR_nat {i n : Nat} (h : i < n) : inR (i : Int) n = true := by
  rw [inR_iff]; omega
/-- Slots written out. -/
def envL : List (Nat × AV) → Env
  | [], _ => none
  | (t, v) :: r, j => bif Nat.beq j t then some v else envL r j
def Has (lk : Env) : List (Nat × AV) → Prop
  | [] => True
  | (t, v) :: r => lk t = some v ∧ Has lk r
theorem Has.sub : ∀ {l : List (Nat × AV)}, Has lk l → ∀ t v, envL l t = some v → lk t = some v
  | [], _, t, v, h => by cases h
  | (u, x) :: r, hh, t, v, h => by
    unfold envL at h
    cases e : Nat.beq t u with
    | true => rw [e] at h; cases h; rw [Nat.eq_of_beq_eq_true e]; exact hh.1
    | false => rw [e] at h; exact Has.sub hh.2 t v h
theorem Tri.has {c : Code} {Q : PostA} {l : List (Nat × AV)} (hl : Has lk l) (h : Tri P N c (envL l) H Q) : Tri P N c lk H Q := h.env hl.sub
theorem index_str {t : TypeId} {x ix : Operand} {s : List UInt8} {n : Nat} {b : UInt8} (hu : P.underlying t = some .string) (hx : rho lk x = some (at' (.str s))) (hi : rho lk ix = some (at' (.int .i64 n))) (hb : s[n]? = some b) :
    opA (.index t x ix) P eqs lk H = some (.val (at' (.int .u8 b.toNat)) H) := by
  show op_index t x ix P eqs lk H = _
  unfold op_index
  rw [hx, hi]
  simp only [hu, intA, inR_nat (List.getElem?_eq_some_iff.1 hb).1, cond_true, Int.toNat_natCast, hb]
end
end Go.Ea
end

/-
  THE ENGINE, part 19: a closed call that takes and gives plain values is a contract at every heap. Over any program. Written in this session.
-/
section
namespace Go.Ea
def plainT : AT → Bool
  | .bool _ | .int _ _ | .str _ | .ptr none | .slice none _ | .map none | .fn _ [] | .nilFn | .nilIf => true
  | _ => false
def plain1 : A1 → Bool
  | .at a => plainT a
  | .agg cs => cs.all plainT
def plain : AV → Bool
  | .one x => plain1 x
  | .tup xs => xs.all plain1
theorem F2.impL {A B : Type} {R S : A → B → Prop} : ∀ {l : List A} {m : List B}, (∀ a ∈ l, ∀ b, R a b → S a b) → F2 R l m → F2 S l m
  | _, _, _, .nil => .nil
  | _, _, h, .cons h1 h2 => .cons (h _ (by simp) _ h1) (F2.impL (fun a ha b hb => h a (by simp [ha]) b hb) h2)
theorem AR.plain {α α' : Al} {a : AT} {v : Value} (hp : plainT a = true) (h : AR α a v) : AR α' a v := by
  match a, hp, h with
  | .bool _, _, h | .int _ _, _, h | .str _, _, h | .ptr none, _, h | .slice none _, _, h | .map none, _, h | .nilFn, _, h | .nilIf, _, h => exact h
  | .fn f [], _, ⟨arr, h1, h2⟩ =>
    refine ⟨arr, h1, ?_⟩
    generalize arr.toList = l at h2
    cases h2
    exact .nil
theorem V1.plain {α α' : Al} {x : A1} {v : Value} (hp : plain1 x = true) (h : V1 α x v) : V1 α' x v := by
  match x, hp, h with
  | .at a, hp, h => exact AR.plain hp h
  | .agg cs, hp, ⟨arr, h1, h2⟩ => exact ⟨arr, h1, F2.impL (fun a ha b hb => AR.plain (by simp only [plain1, List.all_eq_true] at hp; exact hp a ha) hb) h2⟩
theorem VR.plain {α α' : Al} {a : AV} {v : Value} (hp : plain a = true) (h : VR α a v) : VR α' a v := by
  match a, hp, h with
  | .one x, hp, h => exact V1.plain hp h
  | .tup xs, hp, ⟨arr, h1, h2⟩ => exact ⟨arr, h1, F2.impL (fun a ha b hb => V1.plain (by simp only [Ea.plain, List.all_eq_true] at hp; exact hp a ha) hb) h2⟩
theorem Sim.lift {P : Program} {f : FuncId} {args : List AV} {Q : AV → Prop} (ha : ∀ a ∈ args, plain a = true) (h : Sim P f args Heap.empty fun u _ => plain u = true ∧ Q u) (H : Heap) : Sim P f args H fun u G => Q u ∧ G = H := by
  intro base α w xs hR hx
  refine (h w.heap.size (fun _ => none) w xs (R.start P w) (F2.impL (fun a hm b hb => VR.plain (ha a hm) hb) hx)).mono fun e w' ⟨v, v', H', α', h1, ⟨h2, h3⟩, h4, _, h6⟩ => ?_
  have hb : ∀ k, k < w.heap.size → w'.heap[k]? = w.heap[k]? := fun k hk => h6.blk k hk (noRw_empty _ k)
  exact ⟨v, v', H, α, h1, ⟨h3, rfl⟩, VR.plain h2 h4, hR.move h6.size hb, ⟨h6.os, h6.tape, h6.output, h6.size, Nat.le_refl _, Sub.refl _, fun _ _ => rfl, fun k hk _ => hb k hk, fun _ _ h => h, fun _ _ h => h, fun _ h => h, h6.fz⟩⟩
/-- From an evaluation. -/
theorem Sim.of_run {P : Program} {K : Orc} (hK : OrcOk P K) {f : FuncId} {args : List AV} {v : AV} {X : Heap} (h : K f args Heap.empty = some (v, X)) (ha : ∀ a ∈ args, plain a = true) (hv : plain v = true) (H : Heap) : Sim P f args H fun u G => u = v ∧ G = H :=
  Sim.lift (Q := fun u => u = v) ha ((hK _ _ _ _ _ h).2.mono fun u G ⟨h1, _⟩ => by subst h1; exact ⟨hv, rfl⟩) H
end Go.Ea
end

/-
  THE ENGINE, part 20: what stays of a heap, looks at heaps that grow, steps of a walk that look at the heap. Over any program. Written in this session.
-/
section
namespace Go.Ea

/-! ### what stays -/
/-- What lives stays, but for those in S. -/
structure Kp (S : List Nat) (H H' : Heap) : Prop where
  n : H.n ≤ H'.n
  g : ∀ i o, H.get i = some o → o.live = true → i ∉ S → H'.get i = some o
namespace Heap
variable {H : Heap} {i j : Nat} {o ob : AObj}
theorem push_new : (H.push o).get H.n = some o := by rw [get_push, if_pos rfl]
theorem push_old (h : H.get i = some ob) : (H.push o).get i = some ob := by rw [get_push, if_neg (Nat.ne_of_lt (get_lt h))]; exact h
theorem set_new (h : H.get i = some ob) : (H.set i o).get i = some o := by rw [get_set _ _ _ _ (get_lt h), if_pos rfl]
theorem set_newl (h : i < H.n) : (H.set i o).get i = some o := by rw [get_set _ _ _ _ h, if_pos rfl]
theorem set_old (h : H.get i = some ob) (hij : i ≠ j) (hi : j < H.n) : (H.set j o).get i = some ob := by rw [get_set _ _ _ _ hi, if_neg hij]; exact h
theorem ne_of (h : H.get i = some o) (k : H.get j = some ob) (hne : o ≠ ob) : i ≠ j := by rintro rfl; rw [h] at k; cases k; exact hne rfl
end Heap
namespace Kp
variable {S T : List Nat} {H H' H2 : Heap} {i : Nat} {o : AObj}
theorem refl : Kp S H H := ⟨Nat.le_refl _, fun _ _ h _ _ => h⟩
theorem get (h : Kp [] H H') (hi : H.get i = some o) (hl : o.live = true) : H'.get i = some o := h.g i o hi hl (by simp)
theorem trans (h : Kp S H H') (k : Kp T H' H2) (hT : ∀ i ∈ T, i ∈ S ∨ H.n ≤ i) : Kp S H H2 :=
  ⟨Nat.le_trans h.n k.n, fun i o hi hl hs => k.g i o (h.g i o hi hl hs) hl fun hm => (hT i hm).elim hs fun hn => by have := Heap.get_lt hi; omega⟩
theorem trans0 (h : Kp S H H') (k : Kp [] H' H2) : Kp S H H2 := h.trans k fun _ hm => by cases hm
theorem push (h : Kp S H H') : Kp S H (H'.push o) := h.trans0 ⟨by simp, fun _ _ h _ _ => Heap.push_old h⟩
theorem set (h : Kp S H H') (hi : i < H'.n) (hs : i ∈ S ∨ H.n ≤ i) : Kp S H (H'.set i o) :=
  h.trans (T := [i]) ⟨by simp, fun j ob hj _ hm => Heap.set_old hj (by simpa using hm) hi⟩ fun j hj => by simp at hj; subst hj; exact hs
theorem weaken (h : Kp S H H') (hs : ∀ i ∈ S, i ∈ T) : Kp T H H' := ⟨h.n, fun i o hi hl hm => h.g i o hi hl fun hh => hm (hs i hh)⟩
theorem nil (h : Kp S H H') (hs : ∀ i ∈ S, H.n ≤ i) : Kp [] H H' := ⟨h.n, fun i o hi hl _ => h.g i o hi hl fun hh => by have := hs i hh; have := Heap.get_lt hi; omega⟩
end Kp

/-! ### operations that look at the heap -/
section
variable {P : Program} {eqs : Eqs} {N : Nat} {lk : Env} {H : Heap}
theorem op_load_at {T : TypeId} {a : Operand} {id o : Nat} {T' : TypeId} {k : Nat} {cs : List AT} {x : A1} (h1 : rho lk a = some (at' (.ptr (some (id, o))))) (h2 : H.get id = some (.cells T' k cs)) (h3 : partA P T cs o = some x) :
    opA (.load T a) P eqs lk H = some (.val (.one x) H) := by
  show op_load T a P eqs lk H = _
  unfold op_load
  rw [h1]; simp only [h2, h3]
theorem op_store_at {T : TypeId} {a b : Operand} {id o n : Nat} {T' : TypeId} {k : Nat} {cs : List AT} {x : A1} (h1 : rho lk a = some (at' (.ptr (some (id, o))))) (hb : rho lk b = some (.one x)) (hz : sizeO P T = some n) (h2 : H.get id = some (.cells T' k cs))
    (hx : x.cells.length = n) (hl : o + n ≤ cs.length) (hk : Nat.beq k 0 = false) :
    opA (.store T a b) P eqs lk H = some (.val .undef (H.set id (.cells T' k (putL cs o x.cells)))) := by
  show op_store T a b P eqs lk H = _
  unfold op_store
  rw [h1, hb, hz]; simp only [h2, hk]
  rw [show Nat.beq x.cells.length n = true from by rw [hx]; exact Nat.beq_refl n, show Nat.ble (o + n) cs.length = true from by simpa using hl]
  rfl
theorem op_indexAddr_at {t e : TypeId} {x ix : Operand} {id o n z : Nat} {k : IntKind} {i : Nat} (h1 : rho lk x = some (at' (.slice (some (id, o)) n))) (h2 : rho lk ix = some (at' (.int k i))) (h3 : isSliceD (P.underlying t) = some e) (h4 : sizeO P e = some z) (hi : i < n) :
    opA (.indexAddr t x ix) P eqs lk H = some (.val (at' (.ptr (some (id, o + i * z)))) H) := by
  show op_indexAddr t x ix P eqs lk H = _
  unfold op_indexAddr
  rw [h1, h2]; simp only [h3, intA, h4, inR_nat hi, cond_true, Int.toNat_natCast]
theorem op_append_at {c : Call} {t e : TypeId} {i : TypeInfo} {z : Value} {id n m : Nat} {cs new : List AT} {s x : Operand} {xv : AV}
    (hc : c.callee = .builtin .append) (hargs : c.args = #[s, x]) (hts : c.argTypes = #[t, t]) (h1 : rho lk s = some (at' (.slice (some (id, 0)) n))) (h2 : rho lk x = some xv) (h3 : isSliceD (P.underlying t) = some e)
    (h4 : P.info? e = some i) (h5 : i.zero = some z) (hs : Nat.beq i.size 0 = false) (hz : Nat.beq z.cells.size i.size = true) (hsrc : srcA P H i.size xv = some (m, new)) (hm : Nat.beq m 0 = false)
    (h6 : H.get id = some (.cells e 2 cs)) (hl : cs.length = n * i.size) (hb : (n + m) * i.bytes ≤ 140737488355328) (hb2 : n + m ≤ 9223372036854775807) :
    opA (.call c) P eqs lk H = some (.val (at' (.slice (some (H.n, 0)) (n + m))) ((H.set id .dead).push (.cells e 2 (cs ++ new)))) := by
  show op_call c P eqs lk H = _
  unfold op_call
  have hr : rhos lk c.args.toList = some [at' (.slice (some (id, 0)) n), xv] := by rw [hargs]; show (match rho lk s, (match rho lk x, some [] with | some a, some l => some (a :: l) | _, _ => none) with | some a, some l => some (a :: l) | _, _ => none) = _; rw [h1, h2]
  simp only [hc, hr, hts]
  have : builtinA P H .append [t, t] [at' (.slice (some (id, 0)) n), xv] = some (at' (.slice (some (H.n, 0)) (n + m)), (H.set id .dead).push (.cells e 2 (cs ++ new))) := by
    unfold builtinA appendA
    simp only [h3, Nat.beq_refl, Bool.not_true, cond_false, h4, hs, h5, hz, cond_true, hsrc, hm, h6]
    rw [show Nat.beq cs.length (n * i.size) = true from by rw [hl]; exact Nat.beq_refl _, show Nat.ble ((n + m) * i.bytes) 140737488355328 = true from by simpa using hb, show Nat.ble (n + m) 9223372036854775807 = true from by simpa using hb2]
    rfl
  rw [this]
theorem op_append_nil {c : Call} {t e : TypeId} {i : TypeInfo} {z : Value} {m k : Nat} {new : List AT} {s x : Operand} {xv : AV}
    (hc : c.callee = .builtin .append) (hargs : c.args = #[s, x]) (hts : c.argTypes = #[t, t]) (h1 : rho lk s = some (at' (.slice none k))) (h2 : rho lk x = some xv) (h3 : isSliceD (P.underlying t) = some e)
    (h4 : P.info? e = some i) (h5 : i.zero = some z) (hs : Nat.beq i.size 0 = false) (hz : Nat.beq z.cells.size i.size = true) (hsrc : srcA P H i.size xv = some (m, new)) (hm : Nat.beq m 0 = false)
    (hb : m * i.bytes ≤ 140737488355328) (hb2 : m ≤ 9223372036854775807) :
    opA (.call c) P eqs lk H = some (.val (at' (.slice (some (H.n, 0)) m)) (H.push (.cells e 2 new))) := by
  show op_call c P eqs lk H = _
  unfold op_call
  have hr : rhos lk c.args.toList = some [at' (.slice none k), xv] := by rw [hargs]; show (match rho lk s, (match rho lk x, some [] with | some a, some l => some (a :: l) | _, _ => none) with | some a, some l => some (a :: l) | _, _ => none) = _; rw [h1, h2]
  simp only [hc, hr, hts]
  have : builtinA P H .append [t, t] [at' (.slice none k), xv] = some (at' (.slice (some (H.n, 0)) m), H.push (.cells e 2 new)) := by
    unfold builtinA appendA
    simp only [h3, Nat.beq_refl, Bool.not_true, cond_false, h4, hs, h5, hz, cond_true, hsrc, hm]
    rw [show Nat.ble (m * i.bytes) 140737488355328 = true from by simpa using hb, show Nat.ble m 9223372036854775807 = true from by simpa using hb2]
    rfl
  rw [this]
theorem srcA_row {size id o n : Nat} {T : TypeId} {k : Nat} {cs : List AT} (h : H.get id = some (.cells T k cs)) (hl : o + n * size ≤ cs.length) : srcA P H size (at' (.slice (some (id, o)) n)) = some (n, (cs.drop o).take (n * size)) := by
  show (bif Nat.beq n 0 then some (0, []) else match rowA H id o (n * size) with | some cs => some (n, cs) | none => none) = _
  by_cases hn : n = 0
  · subst hn; simp
  · rw [show Nat.beq n 0 = false from by rw [Bool.eq_false_iff]; intro e; exact hn (Nat.eq_of_beq_eq_true e)]
    unfold rowA
    rw [h]; simp only [cond_false]
    rw [show Nat.ble (o + n * size) cs.length = true from by simpa using hl]
    rfl
theorem index_arr {t e : TypeId} {x ix : Operand} {cs : List AT} {len n z : Nat} {k : IntKind} {y : A1} (hx : rho lk x = some (.one (.agg cs))) (hi : rho lk ix = some (at' (.int k n))) (hu : P.underlying t = some (.array len e)) (hz : sizeO P e = some z) (hn : n < len) (hp : partA P e cs (n * z) = some y) :
    opA (.index t x ix) P eqs lk H = some (.val (.one y) H) := by
  show op_index t x ix P eqs lk H = _
  unfold op_index
  rw [hx, hi]
  simp only [hu, intA, hz, inR_nat hn, cond_true, Int.toNat_natCast, hp]
end

/-! ### rows of structs -/
theorem flat_part {β : Type} {f : β → List AT} {z : Nat} (hz : ∀ x, (f x).length = z) : ∀ {xs : List β} {i : Nat} {x : β}, xs[i]? = some x → ((xs.flatMap f).drop (i * z)).take z = f x ∧ i * z + z ≤ (xs.flatMap f).length
  | [], i, x, h => by simp at h
  | a :: l, 0, x, h => by
    simp only [List.getElem?_cons_zero, Option.some.injEq] at h; subst h
    have := hz a
    simp only [List.flatMap_cons, Nat.zero_mul, List.drop_zero, List.length_append, Nat.zero_add]
    exact ⟨by rw [List.take_append_of_le_length (by omega), List.take_of_length_le (by omega)], by omega⟩
  | a :: l, i + 1, x, h => by
    simp only [List.getElem?_cons_succ] at h
    obtain ⟨h1, h2⟩ := flat_part hz h
    have ha := hz a
    simp only [List.flatMap_cons, List.length_append]
    refine ⟨?_, by rw [Nat.succ_mul]; omega⟩
    rw [Nat.succ_mul, List.drop_append, List.drop_eq_nil_of_le (by omega), List.nil_append, show i * z + z - (f a).length = i * z from by omega]
    exact h1
theorem flat_len {β : Type} {f : β → List AT} {z : Nat} (hz : ∀ x, (f x).length = z) : ∀ (xs : List β), (xs.flatMap f).length = xs.length * z
  | [] => by simp
  | a :: l => by simp only [List.flatMap_cons, List.length_append, List.length_cons, flat_len hz l, hz a, Nat.succ_mul]; omega
theorem flat_cell {β : Type} {f : β → List AT} {z : Nat} (hz : ∀ x, (f x).length = z) {xs : List β} {i j : Nat} {x : β} (h : xs[i]? = some x) (hj : j < z) : (xs.flatMap f)[i * z + j]? = (f x)[j]? := by
  obtain ⟨h1, h2⟩ := flat_part hz h
  rw [← h1, List.getElem?_take_of_lt hj, List.getElem?_drop]
theorem flat_put {β : Type} {f : β → List AT} {z : Nat} (hz : ∀ x, (f x).length = z) : ∀ {xs : List β} {i : Nat} (y : β), i < xs.length → putL (xs.flatMap f) (i * z) (f y) = (xs.set i y).flatMap f
  | [], i, y, h => by simp at h
  | a :: l, 0, y, _ => by
    have h1 := hz a; have h2 := hz y
    simp only [putL, List.flatMap_cons, Nat.zero_mul, List.take_zero, List.nil_append, Nat.zero_add, List.set_cons_zero]
    rw [List.drop_append, List.drop_eq_nil_of_le (by omega), List.nil_append, show (f y).length - (f a).length = 0 from by omega, List.drop_zero]
  | a :: l, i + 1, y, h => by
    have h1 := hz a; have h2 := hz y
    have ih := flat_put hz y (show i < l.length from by simpa using h)
    simp only [putL, List.flatMap_cons, Nat.succ_mul, List.set_cons_succ] at ih ⊢
    rw [List.take_append, List.take_of_length_le (by omega), show i * z + z - (f a).length = i * z from by omega, List.drop_append, List.drop_eq_nil_of_le (by omega), List.nil_append,
      show i * z + z + (f y).length - (f a).length = i * z + (f y).length from by omega, ← ih]
    simp only [List.append_assoc]
theorem part_agg {P : Program} {T : TypeId} {d : TypeDesc} {n o : Nat} {cs : List AT} (hu : P.underlying T = some d) (hd : isAggD d = true) (hz : sizeO P T = some n) (hl : o + n ≤ cs.length) : partA P T cs o = some (.agg ((cs.drop o).take n)) := by
  unfold partA
  rw [hu, hz]; simp only [hd, cond_true]
  rw [show Nat.ble (o + n) cs.length = true from by simpa using hl]; rfl
theorem part_at {P : Program} {T : TypeId} {d : TypeDesc} {n o : Nat} {cs : List AT} {a : AT} (hu : P.underlying T = some d) (hd : isAggD d = false) (hz : sizeO P T = some n) (hl : cs[o]? = some a) : partA P T cs o = some (.at a) := by
  unfold partA
  rw [hu, hz]; simp only [hd, cond_false, hl]
theorem part_row {P : Program} {T : TypeId} {d : TypeDesc} {β : Type} {f : β → List AT} {n i : Nat} {xs : List β} {x : β} (hf : ∀ x, (f x).length = n) (hx : xs[i]? = some x) (hu : P.underlying T = some d) (hd : isAggD d = true) (hz : sizeO P T = some n) :
    partA P T (xs.flatMap f) (i * n) = some (.agg (f x)) := by
  obtain ⟨h1, h2⟩ := flat_part hf hx
  rw [part_agg hu hd hz h2, h1]
end Go.Ea
end

/-
  THE ENGINE, part 21: a contract whose answer is plain leaves the heap as it was; one operation's answer, by kinds; steps in regions whose order is drawn. Over any program. Written in this session.
-/
section
namespace Go.Ea

/-! ### what is made on the way is dropped -/
theorem PR.shrink {α α' : Al} (hs : Sub α α') {p : Nat × Nat} {v v0 : Value} (h0 : PR α p v0) (h : PR α' p v) : PR α p v := by
  obtain ⟨L, h1, _⟩ := h0
  obtain ⟨L', h3, h4⟩ := h
  rw [hs _ _ h1] at h3; cases h3
  exact ⟨L, h1, h4⟩
theorem F2.shrinkP {α α' : Al} (hs : Sub α α') : ∀ {l : List (Nat × Nat)} {m m0 : List Value}, F2 (PR α) l m0 → F2 (PR α') l m → F2 (PR α) l m
  | _, _, _, .nil, .nil => .nil
  | _, _, _, .cons a b, .cons c d => .cons (PR.shrink hs a c) (F2.shrinkP hs b d)
theorem AR.shrink {α α' : Al} (hs : Sub α α') {a : AT} {v v0 : Value} (h0 : AR α a v0) (h : AR α' a v) : AR α a v := by
  match a, h0, h with
  | .bool _, _, h | .int _ _, _, h | .str _, _, h | .ptr none, _, h | .slice none _, _, h | .map none, _, h | .nilFn, _, h | .nilIf, _, h => exact h
  | .ptr (some p), h0, h => exact PR.shrink hs h0 h
  | .slice (some p) n, ⟨L, c, h1, _⟩, ⟨L', c', h3, h4⟩ => rw [hs _ _ h1] at h3; cases h3; exact ⟨L, c', h1, h4⟩
  | .map (some r), ⟨L, h1, _⟩, ⟨L', h3, h4⟩ => rw [hs _ _ h1] at h3; cases h3; exact ⟨L, h1, h4⟩
  | .fn f cs, ⟨a0, _, h2⟩, ⟨arr, h3, h4⟩ => exact ⟨arr, h3, F2.shrinkP hs h2 h4⟩
theorem F2.shrinkA {α α' : Al} (hs : Sub α α') : ∀ {l : List AT} {m m0 : List Value}, F2 (AR α) l m0 → F2 (AR α') l m → F2 (AR α) l m
  | _, _, _, .nil, .nil => .nil
  | _, _, _, .cons a b, .cons c d => .cons (AR.shrink hs a c) (F2.shrinkA hs b d)
theorem V1.shrink {α α' : Al} (hs : Sub α α') {x : A1} {v v0 : Value} (h0 : V1 α x v0) (h : V1 α' x v) : V1 α x v := by
  match x, h0, h with
  | .at a, h0, h => exact AR.shrink hs h0 h
  | .agg cs, ⟨_, _, h2⟩, ⟨arr, h3, h4⟩ => exact ⟨arr, h3, F2.shrinkA hs h2 h4⟩
theorem F2.shrinkM {α α' : Al} (hs : Sub α α') : ∀ {l : List (AT × A1)} {m m0 : List MapEntry}, F2 (fun (e : AT × A1) (m : MapEntry) => AR α e.1 m.key ∧ V1 α e.2 m.val) l m0 → F2 (fun (e : AT × A1) (m : MapEntry) => AR α' e.1 m.key ∧ V1 α' e.2 m.val) l m →
    F2 (fun (e : AT × A1) (m : MapEntry) => AR α e.1 m.key ∧ V1 α e.2 m.val) l m
  | _, _, _, .nil, .nil => .nil
  | _, _, _, .cons a b, .cons c d => .cons ⟨AR.shrink hs a.1 c.1, V1.shrink hs a.2 c.2⟩ (F2.shrinkM hs b d)
theorem OR.shrink {P : Program} {base : Nat} {α α' : Al} (hs : Sub α α') {w w' : World} {i : Nat} {o : AObj} (hl : o.live = true) (h0 : OR P base α w i o) (h : OR P base α' w' i o) : OR P base α w' i o := by
  cases o with
  | dead => trivial
  | unborn => cases hl
  | cells T k cs =>
    obtain ⟨L, c, fz, a1, a2, a3, a4, a5, a6⟩ := h0
    obtain ⟨L', c', fz', b1, b2, b3, b4, b5, b6⟩ := h
    rw [hs _ _ a1] at b1; cases b1
    refine ⟨L, c', fz', a1, b2, b3, fun j a hj => ?_, b5, b6⟩
    obtain ⟨v0, _, e2⟩ := a4 j a hj
    obtain ⟨v, d1, d2⟩ := b4 j a hj
    exact ⟨v, d1, AR.shrink hs e2 d2⟩
  | map es =>
    obtain ⟨L, c, clk, a1, _, _, a4⟩ := h0
    obtain ⟨L', c', clk', b1, b2, b3, b4⟩ := h
    rw [hs _ _ a1] at b1; cases b1
    exact ⟨L, c', clk', a1, b2, b3, F2.shrinkM hs a4 b4⟩
theorem Sim.trim {P : Program} {f : FuncId} {args : List AV} {H : Heap} {Q : AV → Prop} (h : Sim P f args H fun u G => Kp [] H G ∧ plain u = true ∧ Q u) : Sim P f args H fun u G => Q u ∧ G = H := by
  intro base α w xs hR ha
  refine (h base α w xs hR ha).mono fun e w' ⟨v, v', H', α', h1, ⟨hk, hp, hq⟩, h4, h5, h6⟩ => ⟨v, v', H, α, h1, ⟨hq, rfl⟩, VR.plain hp h4, ?_, ?_⟩
  · refine ⟨Nat.le_trans hR.bs h6.size, hR.dom, fun i o ho => ?_, hR.sep⟩
    cases hl : o.live with
    | true => exact OR.shrink h6.sub hl (hR.obj i o ho) (h5.obj i o (hk.get ho hl))
    | false =>
      cases o with
      | dead => trivial
      | unborn => exact hR.obj i _ ho
      | cells T k cs => cases hl
      | map es => cases hl
  · exact ⟨h6.os, h6.tape, h6.output, h6.size, Nat.le_refl _, Sub.refl _, fun _ _ => rfl, h6.blk, fun _ _ h => h, fun _ _ h => h, fun _ h => h, h6.fz⟩

/-! ### one operation -/
section
variable {P : Program} {eqs : Eqs} {N : Nat} {lk : Env} {H H' : Heap} {K : AV → Heap → Prop} {Ke : Env → Heap → Prop} {ops : List Oper} {op : Op}
theorem sO {o : Oper} {r : List Oper} (hd : dOk N o.dst = true) (hw : wantA ops lk o = some true) (h : opP P eqs o.op lk H fun v H' => wpO P eqs N ops Ke r (putF lk o.dst v) H') : wpO P eqs N ops Ke (o :: r) lk H := (wpO_yes hd hw).2 h
theorem sN {o : Oper} {r : List Oper} (hd : dOk N o.dst = true) (hw : wantA ops lk o = some false) (hk : wpO P eqs N ops Ke r (putF lk o.dst .undef) H) : wpO P eqs N ops Ke (o :: r) lk H := (wpO_no hd hw).2 hk
theorem oV {v : AV} (h : opA op P eqs lk H = some (.val v H')) (k : K v H') : opP P eqs op lk H K := (opP_val h).2 k
theorem oB {c : Bool} (h : opA op P eqs lk H = some (.val (at' (.bool c)) H')) (ht : c = true → K (at' (.bool true)) H') (hf : c = false → K (at' (.bool false)) H') : opP P eqs op lk H K :=
  oV h (by cases c with | true => exact ht rfl | false => exact hf rfl)
theorem oP {p : Prop} [Decidable p] (h : opA op P eqs lk H = some (.val (at' (.bool (decide p))) H')) (ht : p → K (at' (.bool true)) H') (hf : ¬ p → K (at' (.bool false)) H') : opP P eqs op lk H K :=
  oB h (fun e => ht (of_decide_eq_true e)) fun e => hf (of_decide_eq_false e)
theorem oE {x y : Int} (h : opA op P eqs lk H = some (.val (at' (.bool (x == y))) H')) (ht : x = y → K (at' (.bool true)) H') (hf : x ≠ y → K (at' (.bool false)) H') : opP P eqs op lk H K :=
  oB h (fun e => ht (by simpa using e)) fun e => hf (by simpa using e)
theorem oNE {x y : Int} (h : opA op P eqs lk H = some (.val (at' (.bool (x != y))) H')) (ht : x ≠ y → K (at' (.bool true)) H') (hf : x = y → K (at' (.bool false)) H') : opP P eqs op lk H K :=
  oB h (fun e => ht (by simpa using e)) fun e => hf (by simpa using e)
theorem eqS_iff {x y : List UInt8} : eqS x y = true ↔ x = y := by rw [eqS_eq]; simp
theorem oS {x y : List UInt8} (h : opA op P eqs lk H = some (.val (at' (.bool (eqS x y))) H')) (ht : x = y → K (at' (.bool true)) H') (hf : x ≠ y → K (at' (.bool false)) H') : opP P eqs op lk H K :=
  oB h (fun e => ht (eqS_iff.1 e)) fun e => hf fun hh => by rw [eqS_iff.2 hh] at e; cases e
theorem oSN {x y : List UInt8} (h : opA op P eqs lk H = some (.val (at' (.bool !(eqS x y))) H')) (ht : x ≠ y → K (at' (.bool true)) H') (hf : x = y → K (at' (.bool false)) H') : opP P eqs op lk H K :=
  oB h (fun e => ht fun hh => by rw [eqS_iff.2 hh] at e; cases e) fun e => hf (eqS_iff.1 (by simpa using e))
theorem wrap64 {n : Nat} (h : n < 9223372036854775808) : wrapA .i64 (n : Int) = n := wrapA_small h
theorem oAdd {n m : Nat} (h : opA op P eqs lk H = some (.val (at' (.int .i64 (wrapA .i64 ((n : Int) + (m : Int))))) H')) (hb : n + m < 9223372036854775808) (k : K (at' (.int .i64 ((n + m : Nat) : Int))) H') : opP P eqs op lk H K :=
  oV h (by rw [← Int.natCast_add, wrap64 hb]; exact k)
theorem oSub {n m : Nat} (h : opA op P eqs lk H = some (.val (at' (.int .i64 (wrapA .i64 ((n : Int) - (m : Int))))) H')) (hm : m ≤ n) (hb : n < 9223372036854775808) (k : K (at' (.int .i64 ((n - m : Nat) : Int))) H') : opP P eqs op lk H K :=
  oV h (by rw [← Int.natCast_sub hm, wrap64 (by omega)]; exact k)
theorem wrap_id {x : Int} (h1 : -9223372036854775808 ≤ x) (h2 : x < 9223372036854775808) : wrapA .i64 x = x := by
  rw [wrapA_eq, wrap_num .i64 x 18446744073709551616 9223372036854775808 (by decide) (by decide)]
  have h3 : IntKind.i64.signed = true := rfl
  rw [h3]
  split
  · rename_i h; obtain ⟨_, h⟩ := h; omega
  · rename_i h; simp only [true_and] at h; omega
theorem oArith {x : Int} (h : opA op P eqs lk H = some (.val (at' (.int .i64 (wrapA .i64 x))) H')) (h1 : -9223372036854775808 ≤ x) (h2 : x < 9223372036854775808) (k : K (at' (.int .i64 x)) H') : opP P eqs op lk H K :=
  oV h (by rw [wrap_id h1 h2]; exact k)
theorem oI {k : IntKind} {x : Int} (y : Int) (h : opA op P eqs lk H = some (.val (at' (.int k x)) H')) (hc : x = y) (hk : K (at' (.int k y)) H') : opP P eqs op lk H K := oV h (by subst hc; exact hk)
theorem oW {v : AV} (v' : AV) (h : opA op P eqs lk H = some (.val v H')) (hc : v = v') (hk : K v' H') : opP P eqs op lk H K := oV h (by subst hc; exact hk)
theorem oCat {t yt : TypeId} {x y : Operand} {s u : List UInt8} (hx : rho lk x = some (at' (.str s))) (hy : rho lk y = some (at' (.str u))) (hb : s.length + u.length ≤ 4611686018427387904) (hk : K (at' (.str (s ++ u))) H) : opP P eqs (.binOp .add t x y yt) lk H K :=
  oV (v := at' (.str (s ++ u))) (H' := H) (by
    show op_binOp .add t x y yt P eqs lk H = _
    unfold op_binOp
    rw [hx, hy]
    have e : binA P eqs .add t (at' (.str s)) (at' (.str u)) = (if s.length + u.length ≤ 4611686018427387904 then some (.str (s ++ u)) else none) := rfl
    simp only [e, if_pos hb]) hk
theorem oRem {t yt : TypeId} {x y : Operand} {n m : Int} {k : IntKind} (hx : rho lk x = some (at' (.int k n))) (hy : rho lk y = some (at' (.int k m))) (hm : m ≠ 0) (hk : K (at' (.int k (n.tmod m))) H) : opP P eqs (.binOp .rem t x y yt) lk H K :=
  oV (v := at' (.int k (n.tmod m))) (H' := H) (by
    show op_binOp .rem t x y yt P eqs lk H = _
    unfold op_binOp
    rw [hx, hy]
    have e : binA P eqs .rem t (at' (.int k n)) (at' (.int k m)) = (if k = k then (if m = 0 then none else some (.int k (n.tmod m))) else none) := rfl
    simp only [e, if_neg hm, if_true]) hk
theorem oQuo {t yt : TypeId} {x y : Operand} {n m : Int} {k : IntKind} (hx : rho lk x = some (at' (.int k n))) (hy : rho lk y = some (at' (.int k m))) (hm : m ≠ 0) (hk : K (at' (.int k (k.wrap (n.tdiv m)))) H) : opP P eqs (.binOp .quo t x y yt) lk H K :=
  oV (v := at' (.int k (k.wrap (n.tdiv m)))) (H' := H) (by
    show op_binOp .quo t x y yt P eqs lk H = _
    unfold op_binOp
    rw [hx, hy]
    have e : binA P eqs .quo t (at' (.int k n)) (at' (.int k m)) = (if k = k then (if m = 0 then none else some (.int k (k.wrap (n.tdiv m)))) else none) := rfl
    simp only [e, if_neg hm, if_true]) hk
theorem oIdx {t : TypeId} {x ix : Operand} {s : List UInt8} {n : Nat} (hx : rho lk x = some (at' (.str s))) (hi : rho lk ix = some (at' (.int .i64 n))) (hu : P.underlying t = some .string) (hn : n < s.length) (hk : ∀ b, s[n]? = some b → K (at' (.int .u8 b.toNat)) H) : opP P eqs (.index t x ix) lk H K :=
  oV (index_str hu hx hi (List.getElem?_eq_getElem hn)) (hk _ (List.getElem?_eq_getElem hn))
theorem bound_nat {d n : Nat} {k : IntKind} {y : Operand} (h : rho lk y = some (at' (.int k (n : Int)))) : boundA lk d (some y) = some n := by
  have e : boundA lk d (some y) = (match rho lk y with | some v => (match intA v with | some n => if 0 ≤ n then some n.toNat else none | none => none) | none => none) := rfl
  rw [e, h]; simp [intA]
theorem slice_str {t : TypeId} {x : Operand} {lo hi : Option Operand} {s : List UInt8} {l h : Nat} (hx : rho lk x = some (at' (.str s))) (hl : boundA lk 0 lo = some l) (hh : boundA lk s.length hi = some h) (hu : P.underlying t = some .string) (h1 : l ≤ h) (h2 : h ≤ s.length) :
    opA (.slice t x lo hi none) P eqs lk H = some (.val (at' (.str ((s.take h).drop l))) H) := by
  show op_slice t x lo hi none P eqs lk H = _
  unfold op_slice
  rw [hx]
  simp only [hu, hl, hh]
  rw [show Nat.ble l h = true from by simpa using h1, show Nat.ble h s.length = true from by simpa using h2]
  rfl
theorem oLo {t : TypeId} {x y : Operand} {s : List UInt8} {n : Nat} {k : IntKind} (hx : rho lk x = some (at' (.str s))) (hy : rho lk y = some (at' (.int k (n : Int)))) (hu : P.underlying t = some .string) (hn : n ≤ s.length) (hk : K (at' (.str (s.drop n))) H) : opP P eqs (.slice t x (some y) none none) lk H K :=
  oV (slice_str hx (l := n) (bound_nat hy) rfl hu hn (Nat.le_refl _)) (by rw [List.take_length]; exact hk)
theorem oHi {t : TypeId} {x y : Operand} {s : List UInt8} {n : Nat} {k : IntKind} (hx : rho lk x = some (at' (.str s))) (hy : rho lk y = some (at' (.int k (n : Int)))) (hu : P.underlying t = some .string) (hn : n ≤ s.length) (hk : K (at' (.str (s.take n))) H) : opP P eqs (.slice t x none (some y) none) lk H K :=
  oV (slice_str hx rfl (h := n) (bound_nat hy) hu (Nat.zero_le _) hn) (by rw [List.drop_zero]; exact hk)
theorem oLoHi {t : TypeId} {x y z : Operand} {s : List UInt8} {n m : Nat} {k k' : IntKind} (hx : rho lk x = some (at' (.str s))) (hy : rho lk y = some (at' (.int k (n : Int)))) (hz : rho lk z = some (at' (.int k' (m : Int)))) (hu : P.underlying t = some .string) (h1 : n ≤ m) (hn : m ≤ s.length) (hk : K (at' (.str ((s.take m).drop n))) H) : opP P eqs (.slice t x (some y) (some z) none) lk H K :=
  oV (slice_str hx (l := n) (bound_nat hy) (h := m) (bound_nat hz) hu h1 hn) hk
theorem slice_row {t e : TypeId} {x : Operand} {lo hi : Option Operand} {id o n l h z : Nat} (hx : rho lk x = some (at' (.slice (some (id, o)) n))) (hl : boundA lk 0 lo = some l) (hh : boundA lk n hi = some h) (hu : isSliceD (P.underlying t) = some e) (hz : sizeO P e = some z) (hz0 : Nat.beq z 0 = false) (h1 : l ≤ h) (h2 : h ≤ n) :
    opA (.slice t x lo hi none) P eqs lk H = some (.val (at' (.slice (some (id, o + l * z)) (h - l))) H) := by
  show op_slice t x lo hi none P eqs lk H = _
  unfold op_slice
  rw [hx]
  simp only [hu, hl, hh, hz, hz0]
  rw [show Nat.ble l h = true from by simpa using h1, show Nat.ble h n = true from by simpa using h2]
  rfl
theorem oC {c : Call} {f : Nat} {args : List AV} {Q : AV → Heap → Prop} (h : opA (.call c) P eqs lk H = some (.call f args)) (hf : FnOk P f) (hs : Sim P f args H Q) (hk : ∀ v H', Q v H' → K v H') : opP P eqs (.call c) lk H K := ⟨_, h, hf, hs.mono hk⟩
theorem oF {c : Call} {f : Nat} {args : List AV} {v : AV} (h : opA (.call c) P eqs lk H = some (.call f args)) (hf : FnOk P f) (hs : Sim P f args H fun u G => u = v ∧ G = H) (hk : K v H) : opP P eqs (.call c) lk H K :=
  oC h hf hs fun u G ⟨h1, h2⟩ => by subst h1; subst h2; exact hk
/-- A call that gives a test. -/
theorem oFB {c : Call} {f : Nat} {args : List AV} {b : Bool} (h : opA (.call c) P eqs lk H = some (.call f args)) (hf : FnOk P f) (hs : Sim P f args H fun u G => u = at' (.bool b) ∧ G = H) (ht : b = true → K (at' (.bool true)) H) (hff : b = false → K (at' (.bool false)) H) : opP P eqs (.call c) lk H K :=
  oF h hf hs (by cases b with | true => exact ht rfl | false => exact hff rfl)
theorem oAlloc {T : TypeId} {x : A1} {cs : List AT} (h : zeroOf P T = some x) (hc : x.cells = cs) (hk : K (at' (.ptr (some (H.n, 0)))) (H.push (.cells T 1 cs))) : opP P eqs (.alloc T) lk H K :=
  oV (v := at' (.ptr (some (H.n, 0)))) (H' := H.push (.cells T 1 cs)) (by show op_alloc T P eqs lk H = _; unfold op_alloc; rw [h]; show some (OpR.val _ (H.push (.cells T 1 x.cells))) = _; rw [hc]) hk
theorem oBox {T : TypeId} {a : Operand} {x : A1} {cs : List AT} (h : rho lk a = some (.one x)) (hc : x.cells = cs) (hk : K (at' (.ptr (some (H.n, 0)))) (H.push (.cells T 1 cs))) : opP P eqs (.box T a) lk H K :=
  oV (v := at' (.ptr (some (H.n, 0)))) (H' := H.push (.cells T 1 cs)) (by show op_box T a P eqs lk H = _; unfold op_box; rw [h]; show some (OpR.val _ (H.push (.cells T 1 x.cells))) = _; rw [hc]) hk
/-- A call that gives a test and turns the heap. -/
theorem oCB {c : Call} {f : Nat} {args : List AV} {b : Bool} {R : Heap → Prop} (h : opA (.call c) P eqs lk H = some (.call f args)) (hf : FnOk P f) (hs : Sim P f args H fun u G => u = at' (.bool b) ∧ R G) (ht : ∀ G, R G → b = true → K (at' (.bool true)) G) (hff : ∀ G, R G → b = false → K (at' (.bool false)) G) : opP P eqs (.call c) lk H K :=
  oC h hf hs fun u G ⟨h1, h2⟩ => by subst h1; cases hb : b with | true => exact ht G h2 hb | false => exact hff G h2 hb
theorem oLoad {T : TypeId} {a : Operand} {id o : Nat} {T' : TypeId} {k : Nat} {cs : List AT} {x : A1} (h1 : rho lk a = some (at' (.ptr (some (id, o))))) (h2 : H.get id = some (.cells T' k cs)) (h3 : partA P T cs o = some x) (hk : K (.one x) H) : opP P eqs (.load T a) lk H K := oV (op_load_at h1 h2 h3) hk
theorem oLoadB {T : TypeId} {a : Operand} {id o : Nat} {T' : TypeId} {k : Nat} {cs : List AT} {c : Bool} (h1 : rho lk a = some (at' (.ptr (some (id, o))))) (h2 : H.get id = some (.cells T' k cs)) (h3 : partA P T cs o = some (.at (.bool c))) (ht : c = true → K (at' (.bool true)) H) (hf : c = false → K (at' (.bool false)) H) : opP P eqs (.load T a) lk H K := oB (op_load_at h1 h2 h3) ht hf
theorem oStore {T : TypeId} {a b : Operand} {id o n : Nat} {T' : TypeId} {k : Nat} {cs cs' : List AT} {x : A1} (h1 : rho lk a = some (at' (.ptr (some (id, o))))) (hb : rho lk b = some (.one x)) (hz : sizeO P T = some n) (h2 : H.get id = some (.cells T' k cs))
    (hx : x.cells.length = n) (hl : o + n ≤ cs.length) (hk0 : Nat.beq k 0 = false) (hcs : putL cs o x.cells = cs') (hk : K .undef (H.set id (.cells T' k cs'))) : opP P eqs (.store T a b) lk H K := oV (op_store_at h1 hb hz h2 hx hl hk0) (by rw [hcs]; exact hk)
theorem oIA {t e : TypeId} {x ix : Operand} {id o n z : Nat} {k : IntKind} {i : Nat} (h1 : rho lk x = some (at' (.slice (some (id, o)) n))) (h2 : rho lk ix = some (at' (.int k i))) (h3 : isSliceD (P.underlying t) = some e) (h4 : sizeO P e = some z) (hi : i < n) (hk : K (at' (.ptr (some (id, o + i * z)))) H) : opP P eqs (.indexAddr t x ix) lk H K :=
  oV (op_indexAddr_at h1 h2 h3 h4 hi) hk
end

/-! ### steps in a region whose order is drawn -/
section
variable {P : Program} {eqs : Eqs} {N : Nat} {lk : Env} {H : Heap} {Ke : Env → Heap → Prop} {ops : List Oper} {pl : Plan} {n0 : Nat} {mk : List (Nat × AObj)} {pd : Pend} {i : Nat} {r : List Nat}
theorem dN {o : Oper} (ho : ops[i]? = some o) (hd : dOk N o.dst = true) (hw : wantA ops lk o = some false) (hk : wpD P eqs N ops pl n0 Ke r (putF lk o.dst .undef) H mk pd) : wpD P eqs N ops pl n0 Ke (i :: r) lk H mk pd :=
  ⟨o, ho, hd, false, hw, by rw [if_neg (by simp)]; exact hk⟩
theorem dL {o : Oper} (ho : ops[i]? = some o) (hd : dOk N o.dst = true) (hw : wantA ops lk o = some true) (hc : clsOf o.op = .loc) (h : opP P eqs o.op lk H fun v _ => wpD P eqs N ops pl n0 Ke r (putF lk o.dst v) H mk pd) : wpD P eqs N ops pl n0 Ke (i :: r) lk H mk pd := by
  refine ⟨o, ho, hd, true, hw, ?_⟩
  rw [if_pos rfl, hc]
  obtain ⟨x, h1, h2⟩ := h
  cases x with
  | val v H' => exact ⟨v, loc_any _ hc h1 H, h2⟩
  | call f args =>
    exfalso
    cases hop : o.op <;> rw [hop] at hc h1 <;> try (cases hc; done)
    case binOp op t x y yt => exact nc_binOp (P := P) (eqs := eqs) (op := op) (t := t) (x := x) (y := y) (yt := yt) h1
    case unOp op t x => exact nc_unOp (P := P) (eqs := eqs) (op := op) (t := t) (x := x) h1
    all_goals first
      | (rename_i c; revert hc; simp only [clsOf]; (repeat' split) <;> (intro hc; cases hc); done)
      | (revert h1; show opA _ P eqs lk H = _ → False; intro h
         first
          | (have h : op_move _ P eqs lk H = _ := h; unfold op_move at h; (repeat' split at h) <;> cases h; done)
          | (have h : op_pick _ _ _ P eqs lk H = _ := h; unfold op_pick at h; (repeat' split at h) <;> cases h; done)
          | (have h : op_build _ _ P eqs lk H = _ := h; unfold op_build at h; (repeat' split at h) <;> cases h; done)
          | (have h : op_nilCheck _ P eqs lk H = _ := h; unfold op_nilCheck at h; (repeat' split at h) <;> cases h; done)
          | (have h : op_fieldAddr _ _ _ P eqs lk H = _ := h; unfold op_fieldAddr at h; (try simp only [cond_eq_ite] at h); (repeat' split at h) <;> cases h; done)
          | (have h : op_field _ _ _ P eqs lk H = _ := h; unfold op_field at h; (repeat' split at h) <;> cases h; done)
          | (have h : op_indexAddr _ _ _ P eqs lk H = _ := h; unfold op_indexAddr at h; (try simp only [cond_eq_ite] at h); (repeat' split at h) <;> cases h; done)
          | (have h : op_index _ _ _ P eqs lk H = _ := h; unfold op_index at h; (try simp only [cond_eq_ite] at h); (repeat' split at h) <;> cases h; done)
          | (have h : op_extract _ _ P eqs lk H = _ := h; unfold op_extract at h; (repeat' split at h) <;> cases h; done)
          | (have h : op_makeFunc _ _ _ P eqs lk H = _ := h; unfold op_makeFunc at h; (repeat' split at h) <;> cases h; done)
          | (have h : op_slice _ _ _ _ _ P eqs lk H = _ := h; unfold op_slice at h; (try simp only [cond_eq_ite] at h); (repeat' split at h) <;> cases h; done))
theorem dR {o : Oper} {v : AV} (ho : ops[i]? = some o) (hd : dOk N o.dst = true) (hw : wantA ops lk o = some true) (hc : clsOf o.op = .rd) (h : opA o.op P eqs lk (matP pl (bef pl i) n0 mk H) = some (.val v (matP pl (bef pl i) n0 mk H)))
    (hk : wpD P eqs N ops pl n0 Ke r (putF lk o.dst v) H mk ((i, lk, v) :: pd)) : wpD P eqs N ops pl n0 Ke (i :: r) lk H mk pd :=
  ⟨o, ho, hd, true, hw, by rw [if_pos rfl, hc]; exact ⟨v, h, hk⟩⟩
theorem dM {o : Oper} {v : AV} {obj : AObj} (ho : ops[i]? = some o) (hd : dOk N o.dst = true) (hw : wantA ops lk o = some true) (hc : clsOf o.op = .mk) (h : opA o.op P eqs lk ⟨n0 + pl.rk.getD i 0, .nil⟩ = some (.val v (Heap.push ⟨n0 + pl.rk.getD i 0, .nil⟩ obj)))
    (hk : wpD P eqs N ops pl n0 Ke r (putF lk o.dst v) H ((i, obj) :: mk) pd) : wpD P eqs N ops pl n0 Ke (i :: r) lk H mk pd :=
  ⟨o, ho, hd, true, hw, by rw [if_pos rfl, hc]; exact ⟨v, obj, h, hk⟩⟩
/-- A call, an append, a store. -/
theorem dC {o : Oper} (ho : ops[i]? = some o) (hd : dOk N o.dst = true) (hw : wantA ops lk o = some true) (hc : clsOf o.op = .md) (h : opP P eqs o.op lk (matP pl (bef pl i) n0 mk H) fun v H' =>
    (∀ p ∈ pd, bef pl i p.1 = false → recheck P eqs ops pl n0 H' (mk.filter fun x => !bef pl i x.1) p) ∧ wpD P eqs N ops pl n0 Ke r (putF lk o.dst v) H' (mk.filter fun x => !bef pl i x.1) (pd.filter fun x => !bef pl i x.1)) : wpD P eqs N ops pl n0 Ke (i :: r) lk H mk pd :=
  ⟨o, ho, hd, true, hw, by rw [if_pos rfl, hc]; exact h⟩
end
/-! ### results, cuts -/
section
variable {P : Program} {N : Nat} {lk : Env} {H : Heap} {Q : PostA}
theorem resA_tmp {t : Nat} {r : List ResultVar} {x : A1} {l : List A1} (h : lk t = some (.one x)) (hr : resA P lk H r = some l) : resA P lk H (.tmp t :: r) = some (x :: l) := by
  unfold resA; rw [h, hr]
theorem resA_cell {c : Nat} {t : TypeId} {r : List ResultVar} {id o : Nat} {T : TypeId} {k : Nat} {cs : List AT} {x : A1} {l : List A1} (h : lk c = some (at' (.ptr (some (id, o))))) (hg : H.get id = some (.cells T k cs)) (hp : partA P t cs o = some x) (hr : resA P lk H r = some l) : resA P lk H (.cell c t :: r) = some (x :: l) := by
  unfold resA; rw [h, hr]; simp only [hg, hp]
theorem Tri.seqI {c1 c2 : Code} (I : Env → Heap → Prop) (h1 : Tri P N c1 lk H (thenA I Q)) (h2 : ∀ lk1 H1, I lk1 H1 → Tri P N c2 lk1 H1 Q) : Tri P N (.seq c1 c2) lk H Q :=
  Tri.seq (h1.mono fun x lk' H' h => by cases x with | normal => exact h2 _ _ h | exit i => exact h | ret => exact h)
theorem drop_at {A : Type} {s : List A} {n : Nat} {b : A} (h : s[n]? = some b) : s.drop n = b :: s.drop (n + 1) := by
  obtain ⟨h1, h2⟩ := List.getElem?_eq_some_iff.1 h
  rw [List.drop_eq_getElem_cons h1, h2]
/-- A row that was built here. -/
def RowA (G : Heap) (lo : Nat) (T : TypeId) (n : Nat) (cs : List AT) (a : AT) : Prop := (n = 0 ∧ cs = [] ∧ a = .slice none 0) ∨ ∃ id, lo ≤ id ∧ a = .slice (some (id, 0)) n ∧ G.get id = some (.cells T 2 cs)
end
end Go.Ea
end

/-
  THE ENGINE, part 22: rows that grow by append; literals of one element. Over any program. Written in this session.
-/
section
namespace Go.Ea
section
variable {P : Program} {eqs : Eqs} {N : Nat} {lk : Env} {H : Heap} {K : AV → Heap → Prop}
theorem RowA.nil (G : Heap) (lo : Nat) (T : TypeId) : RowA G lo T 0 [] (.slice none 0) := .inl ⟨rfl, rfl, rfl⟩
theorem RowA.mono {G G' : Heap} {lo lo' : Nat} {T : TypeId} {n : Nat} {cs : List AT} {a : AT} (h : RowA G lo T n cs a) (hlo : lo' ≤ lo) (hg : ∀ i, lo ≤ i → G.get i = some (.cells T 2 cs) → G'.get i = some (.cells T 2 cs)) : RowA G' lo' T n cs a := by
  rcases h with h | ⟨id, h1, h2, h3⟩
  · exact .inl h
  · exact .inr ⟨id, Nat.le_trans hlo h1, h2, hg id h1 h3⟩
theorem RowA.kp {G G' : Heap} {lo : Nat} {T : TypeId} {n : Nat} {cs : List AT} {a : AT} (h : RowA G lo T n cs a) (hk : Kp [] G G') : RowA G' lo T n cs a := h.mono (Nat.le_refl _) fun _ _ hg => hk.get hg rfl
theorem RowA.push {G : Heap} {lo : Nat} {T : TypeId} {n : Nat} {cs : List AT} {a : AT} {o : AObj} (h : RowA G lo T n cs a) : RowA (G.push o) lo T n cs a := h.mono (Nat.le_refl _) fun _ _ hg => Heap.push_old hg
theorem RowA.set {G : Heap} {lo j : Nat} {T : TypeId} {n : Nat} {cs : List AT} {a : AT} {o ob : AObj} (h : RowA G lo T n cs a) (hj : G.get j = some ob) (hne : ob ≠ .cells T 2 cs) : RowA (G.set j o) lo T n cs a :=
  h.mono (Nat.le_refl _) fun _ _ hg => Heap.set_old hg (Heap.ne_of hg hj fun e => hne e.symm) (Heap.get_lt hj)
theorem Kp.app {H0 H H' : Heap} {lo : Nat} {ob : AObj} (h : Kp [] H0 H) (hlo : H0.n ≤ lo) (hn : H.n ≤ H'.n) (hg : ∀ j o, H.get j = some o → (j < lo ∨ o ≠ ob) → H'.get j = some o) : Kp [] H0 H' :=
  ⟨Nat.le_trans h.n hn, fun i o hi hl _ => hg i o (h.get hi hl) (.inl (by have := Heap.get_lt hi; omega))⟩
/-- append to a row that was built here. -/
theorem oAppRow {c : Call} {t e : TypeId} {i : TypeInfo} {z : Value} {lo n m id2 : Nat} {T2 k2 : Nat} {cs new : List AT} {s x : Operand} {a : AT}
    (hc : c.callee = .builtin .append) (hargs : c.args = #[s, x]) (hts : c.argTypes = #[t, t]) (h1 : rho lk s = some (at' a)) (hr : RowA H lo e n cs a) (h2 : rho lk x = some (at' (.slice (some (id2, 0)) m))) (hg : H.get id2 = some (.cells T2 k2 new)) (h3 : isSliceD (P.underlying t) = some e)
    (h4 : P.info? e = some i) (h5 : i.zero = some z) (hs : Nat.beq i.size 0 = false) (hz : Nat.beq z.cells.size i.size = true) (hnew : new.length = m * i.size) (hm : Nat.beq m 0 = false) (hl : cs.length = n * i.size) (hb : (n + m) * i.bytes ≤ 140737488355328) (hb2 : n + m ≤ 9223372036854775807) (hlo : lo ≤ H.n)
    (hk : ∀ a' H', RowA H' lo e (n + m) (cs ++ new) a' → H.n ≤ H'.n → (∀ j ob, H.get j = some ob → (j < lo ∨ ob ≠ .cells e 2 cs) → H'.get j = some ob) → K (at' a') H') : opP P eqs (.call c) lk H K := by
  have hsrc : srcA P H i.size (at' (.slice (some (id2, 0)) m)) = some (m, new) := by
    rw [srcA_row hg (by omega), List.drop_zero, ← hnew, List.take_length]
  rcases hr with ⟨rfl, rfl, rfl⟩ | ⟨id, q1, rfl, q3⟩
  · refine oV (op_append_nil hc hargs hts h1 h2 h3 h4 h5 hs hz hsrc hm (by simpa using hb) (by omega)) ?_
    have e : at' (.slice (some (H.n, 0)) m) = at' (.slice (some (H.n, 0)) (0 + m)) := by rw [Nat.zero_add]
    rw [e]
    exact hk _ _ (.inr ⟨H.n, hlo, rfl, Heap.push_new⟩) (by simp) fun j ob hj _ => Heap.push_old hj
  · refine oV (op_append_at hc hargs hts h1 h2 h3 h4 h5 hs hz hsrc hm q3 hl hb hb2) ?_
    refine hk _ _ (.inr ⟨H.n, hlo, rfl, ?_⟩) (by simp) fun j ob hj hne => Heap.push_old (Heap.set_old hj ?_ (Heap.get_lt q3))
    · have := Heap.push_new (H := H.set id .dead) (o := .cells e 2 (cs ++ new))
      simpa using this
    · rcases hne with h | h
      · omega
      · exact Heap.ne_of hj q3 h
theorem oBS1 {T e : TypeId} {x : Operand} {n : Nat} {a z : A1} (hx : rho lk x = some (.one a)) (hu : isSliceD (P.underlying T) = some e) (hz : sizeO P e = some n) (h0 : zeroOf P e = some z) (hzl : z.cells.length = n) (h1 : 1 ≤ n) (h2 : n ≤ 16777216) (hl : a.cells.length = n)
    (hk : K (at' (.slice (some (H.n, 0)) 1)) (H.push (.cells e 2 a.cells))) : opP P eqs (.buildSlice T 1 #[(0, x)]) lk H K :=
  oV (v := at' (.slice (some (H.n, 0)) 1)) (H' := H.push (.cells e 2 a.cells)) (by
    show op_buildSlice T 1 #[(0, x)] P eqs lk H = _
    unfold op_buildSlice
    have hp : partsOf lk #[(0, x)].toList = some [(0, .one a)] := by
      show (match rho lk x, some [] with | some a, some l => some ((0, a) :: l) | _, _ => none) = _
      rw [hx]
    rw [hu, hp]
    simp only [hz, h0]
    have e1 : (Nat.ble (1 * n) 16777216 && Nat.ble 1 n && Nat.beq z.cells.length n && Nat.ble 1 9223372036854775807) = true := by
      simp only [Nat.one_mul, hzl, Nat.beq_refl, Bool.and_true, Bool.and_eq_true, Nat.ble_eq]; exact ⟨⟨h2, h1⟩, by decide⟩
    rw [e1]
    have e2 : ∀ l : List AT, l.length = n → fillA (fun i => some (i * n, n)) l [(0, .one a)] = some a.cells := by
      intro l hll
      have : fillA (fun i => some (i * n, n)) l [(0, .one a)] = (bif Nat.beq a.cells.length n && Nat.ble (0 * n + n) l.length then fillA (fun i => some (i * n, n)) (putL l (0 * n) a.cells) [] else none) := rfl
      rw [this, hl, Nat.beq_refl, hll, show Nat.ble (0 * n + n) n = true from by simp]
      show some (putL l (0 * n) a.cells) = _
      unfold putL
      rw [Nat.zero_mul, List.take_zero, List.nil_append, Nat.zero_add, hl, List.drop_eq_nil_of_le (by omega), List.append_nil]
    rw [e2 _ (by simp)]
    rfl) hk
end
/-! ### regions whose order is drawn, once more -/
section
variable {P : Program} {eqs : Eqs} {N : Nat} {lk : Env} {H : Heap} {Q : PostA} {Ke : Env → Heap → Prop} {ops : List Oper} {pl : Plan} {n0 : Nat} {mk : List (Nat × AObj)} {pd : Pend} {i : Nat} {r : List Nat}
def PendAll (P : Program) (eqs : Eqs) (ops : List Oper) (pl : Plan) (n0 : Nat) (H : Heap) (mk : List (Nat × AObj)) (i : Nat) : Pend → Prop
  | [] => True
  | (k, b) :: r => (bef pl i k = true ∨ recheck P eqs ops pl n0 H mk (k, b)) ∧ PendAll P eqs ops pl n0 H mk i r
theorem PendAll.all {mk : List (Nat × AObj)} : ∀ {pd : Pend}, PendAll P eqs ops pl n0 H mk i pd → ∀ p ∈ pd, bef pl i p.1 = false → recheck P eqs ops pl n0 H mk p
  | (k, b) :: r, h, p, hp, hb => by
    rcases List.mem_cons.1 hp with rfl | hp
    · rcases h.1 with h | h
      · rw [h] at hb; cases hb
      · exact h
    · exact PendAll.all h.2 p hp hb
inductive Filt (pl : Plan) (i : Nat) {β : Type} : List (Nat × β) → List (Nat × β) → Prop
  | nil : Filt pl i [] []
  | drop {k : Nat} {b : β} {l m : List (Nat × β)} (h : bef pl i k = true) : Filt pl i l m → Filt pl i ((k, b) :: l) m
  | keep {k : Nat} {b : β} {l m : List (Nat × β)} (h : bef pl i k = false) : Filt pl i l m → Filt pl i ((k, b) :: l) ((k, b) :: m)
theorem Filt.eq {pl : Plan} {i : Nat} {β : Type} : ∀ {l m : List (Nat × β)}, Filt pl i l m → (l.filter fun x => !bef pl i x.1) = m
  | _, _, .nil => rfl
  | _, _, .drop h r => by rw [List.filter_cons, if_neg (by simp [h])]; exact r.eq
  | _, _, .keep h r => by rw [List.filter_cons, if_pos (by simp [h]), r.eq]
theorem Tri.drawnR (hm : P.follows .mixedOrders = true) (hQ : EqsOk P eqs) {id : Nat} {ops : Array Oper} (pl : Plan) (hp : okP ops.toList pl = true) (R : Heap) (hR : resv H pl.M = R) (h : wpD P eqs N ops.toList pl H.n (Q .normal) pl.sched lk R [] []) :
    Tri P N (.region id ops true) lk H Q := Tri.drawn hm hQ pl hp (by rw [hR]; exact h)
theorem Tri.drawn1 (hm : P.follows .mixedOrders = true) (hQ : EqsOk P eqs) {id : Nat} {ops : Array Oper} (pl : Plan) (hp : okP ops.toList pl = true) (hM : pl.M = 1) (h : wpD P eqs N ops.toList pl H.n (Q .normal) pl.sched lk (Heap.push H .dead) [] []) : Tri P N (.region id ops true) lk H Q := Tri.drawnR hm hQ pl hp (Heap.push H .dead) (by rw [hM]; rfl) h
theorem Tri.drawn2 (hm : P.follows .mixedOrders = true) (hQ : EqsOk P eqs) {id : Nat} {ops : Array Oper} (pl : Plan) (hp : okP ops.toList pl = true) (hM : pl.M = 2) (h : wpD P eqs N ops.toList pl H.n (Q .normal) pl.sched lk (Heap.push (Heap.push H .dead) .dead) [] []) : Tri P N (.region id ops true) lk H Q := Tri.drawnR hm hQ pl hp (Heap.push (Heap.push H .dead) .dead) (by rw [hM]; rfl) h
theorem Tri.drawn3 (hm : P.follows .mixedOrders = true) (hQ : EqsOk P eqs) {id : Nat} {ops : Array Oper} (pl : Plan) (hp : okP ops.toList pl = true) (hM : pl.M = 3) (h : wpD P eqs N ops.toList pl H.n (Q .normal) pl.sched lk (Heap.push (Heap.push (Heap.push H .dead) .dead) .dead) [] []) : Tri P N (.region id ops true) lk H Q := Tri.drawnR hm hQ pl hp (Heap.push (Heap.push (Heap.push H .dead) .dead) .dead) (by rw [hM]; rfl) h
theorem Tri.drawn4 (hm : P.follows .mixedOrders = true) (hQ : EqsOk P eqs) {id : Nat} {ops : Array Oper} (pl : Plan) (hp : okP ops.toList pl = true) (hM : pl.M = 4) (h : wpD P eqs N ops.toList pl H.n (Q .normal) pl.sched lk (Heap.push (Heap.push (Heap.push (Heap.push H .dead) .dead) .dead) .dead) [] []) : Tri P N (.region id ops true) lk H Q := Tri.drawnR hm hQ pl hp (Heap.push (Heap.push (Heap.push (Heap.push H .dead) .dead) .dead) .dead) (by rw [hM]; rfl) h
theorem Tri.drawn5 (hm : P.follows .mixedOrders = true) (hQ : EqsOk P eqs) {id : Nat} {ops : Array Oper} (pl : Plan) (hp : okP ops.toList pl = true) (hM : pl.M = 5) (h : wpD P eqs N ops.toList pl H.n (Q .normal) pl.sched lk (Heap.push (Heap.push (Heap.push (Heap.push (Heap.push H .dead) .dead) .dead) .dead) .dead) [] []) : Tri P N (.region id ops true) lk H Q := Tri.drawnR hm hQ pl hp (Heap.push (Heap.push (Heap.push (Heap.push (Heap.push H .dead) .dead) .dead) .dead) .dead) (by rw [hM]; rfl) h
theorem Tri.drawn6 (hm : P.follows .mixedOrders = true) (hQ : EqsOk P eqs) {id : Nat} {ops : Array Oper} (pl : Plan) (hp : okP ops.toList pl = true) (hM : pl.M = 6) (h : wpD P eqs N ops.toList pl H.n (Q .normal) pl.sched lk (Heap.push (Heap.push (Heap.push (Heap.push (Heap.push (Heap.push H .dead) .dead) .dead) .dead) .dead) .dead) [] []) : Tri P N (.region id ops true) lk H Q := Tri.drawnR hm hQ pl hp (Heap.push (Heap.push (Heap.push (Heap.push (Heap.push (Heap.push H .dead) .dead) .dead) .dead) .dead) .dead) (by rw [hM]; rfl) h
theorem Tri.drawn7 (hm : P.follows .mixedOrders = true) (hQ : EqsOk P eqs) {id : Nat} {ops : Array Oper} (pl : Plan) (hp : okP ops.toList pl = true) (hM : pl.M = 7) (h : wpD P eqs N ops.toList pl H.n (Q .normal) pl.sched lk (Heap.push (Heap.push (Heap.push (Heap.push (Heap.push (Heap.push (Heap.push H .dead) .dead) .dead) .dead) .dead) .dead) .dead) [] []) : Tri P N (.region id ops true) lk H Q := Tri.drawnR hm hQ pl hp (Heap.push (Heap.push (Heap.push (Heap.push (Heap.push (Heap.push (Heap.push H .dead) .dead) .dead) .dead) .dead) .dead) .dead) (by rw [hM]; rfl) h
theorem Tri.drawn8 (hm : P.follows .mixedOrders = true) (hQ : EqsOk P eqs) {id : Nat} {ops : Array Oper} (pl : Plan) (hp : okP ops.toList pl = true) (hM : pl.M = 8) (h : wpD P eqs N ops.toList pl H.n (Q .normal) pl.sched lk (Heap.push (Heap.push (Heap.push (Heap.push (Heap.push (Heap.push (Heap.push (Heap.push H .dead) .dead) .dead) .dead) .dead) .dead) .dead) .dead) [] []) : Tri P N (.region id ops true) lk H Q := Tri.drawnR hm hQ pl hp (Heap.push (Heap.push (Heap.push (Heap.push (Heap.push (Heap.push (Heap.push (Heap.push H .dead) .dead) .dead) .dead) .dead) .dead) .dead) .dead) (by rw [hM]; rfl) h
theorem dE0 (h : Ke lk H) : wpD P eqs N ops pl n0 Ke [] lk H [] pd := h
theorem dR0 {o : Oper} {v : AV} (ho : ops[i]? = some o) (hd : dOk N o.dst = true) (hw : wantA ops lk o = some true) (hc : clsOf o.op = .rd) (h : opA o.op P eqs lk H = some (.val v H))
    (hk : wpD P eqs N ops pl n0 Ke r (putF lk o.dst v) H [] ((i, lk, v) :: pd)) : wpD P eqs N ops pl n0 Ke (i :: r) lk H [] pd := dR ho hd hw hc h hk
theorem dRm {o : Oper} {v : AV} (Hv : Heap) (hv : matP pl (bef pl i) n0 mk H = Hv) (ho : ops[i]? = some o) (hd : dOk N o.dst = true) (hw : wantA ops lk o = some true) (hc : clsOf o.op = .rd) (h : opA o.op P eqs lk Hv = some (.val v Hv))
    (hk : wpD P eqs N ops pl n0 Ke r (putF lk o.dst v) H mk ((i, lk, v) :: pd)) : wpD P eqs N ops pl n0 Ke (i :: r) lk H mk pd := by subst hv; exact dR ho hd hw hc h hk
theorem dC0 {o : Oper} {pd' : Pend} (hpd : Filt pl i pd pd') (ho : ops[i]? = some o) (hd : dOk N o.dst = true) (hw : wantA ops lk o = some true) (hc : clsOf o.op = .md)
    (h : opP P eqs o.op lk H fun v H' => PendAll P eqs ops pl n0 H' [] i pd ∧ wpD P eqs N ops pl n0 Ke r (putF lk o.dst v) H' [] pd') : wpD P eqs N ops pl n0 Ke (i :: r) lk H [] pd := by
  have hpd := hpd.eq
  subst hpd
  obtain ⟨x, h1, h2⟩ := h
  refine dC ho hd hw hc ⟨x, h1, ?_⟩
  cases x with
  | val v H' => exact ⟨h2.1.all, h2.2⟩
  | call f args => exact ⟨h2.1, h2.2.mono fun v H' h => ⟨h.1.all, h.2⟩⟩
theorem dCm {o : Oper} {mk' : List (Nat × AObj)} {pd' : Pend} (Hv : Heap) (hmk : Filt pl i mk mk') (hpd : Filt pl i pd pd') (hv : matP pl (bef pl i) n0 mk H = Hv) (ho : ops[i]? = some o) (hd : dOk N o.dst = true) (hw : wantA ops lk o = some true) (hc : clsOf o.op = .md)
    (h : opP P eqs o.op lk Hv fun v H' => PendAll P eqs ops pl n0 H' mk' i pd ∧ wpD P eqs N ops pl n0 Ke r (putF lk o.dst v) H' mk' pd') : wpD P eqs N ops pl n0 Ke (i :: r) lk H mk pd := by
  have hpd := hpd.eq; have hmk := hmk.eq
  subst hpd; subst hmk; subst hv
  obtain ⟨x, h1, h2⟩ := h
  refine dC ho hd hw hc ⟨x, h1, ?_⟩
  cases x with
  | val v H' => exact ⟨h2.1.all, h2.2⟩
  | call f args => exact ⟨h2.1, h2.2.mono fun v H' h => ⟨h.1.all, h.2⟩⟩
/-- All is looked at: what was made on the way stands in the heap. -/
theorem dE (Hv : Heap) (hv : matP pl (fun _ => true) n0 mk H = Hv) (h : Ke lk Hv) : wpD P eqs N ops pl n0 Ke [] lk H mk pd := by subst hv; exact h
end
end Go.Ea
end

/-
  THE ENGINE, part 26: what a walk asks again and again, as default arguments: a look at a heap that grew, what stays, bounds. Over any program. Written in this session.
-/
section
namespace Go.Ea
theorem lL {i n : Nat} (h : i < n := by first | omega | (simp only [Heap.n_push, Heap.n_set]; omega) | exact Heap.get_lt (by assumption)) : i < n := h
theorem gG {H : Heap} {i : Nat} {o : AObj} (h : H.get i = some o := by repeat (first | assumption | exact Heap.push_new | exact Heap.set_newl (by first | omega | (simp only [Heap.n_push, Heap.n_set]; omega) | exact Heap.get_lt (by assumption)) | refine Heap.push_old ?_ | refine Heap.set_old ?_ (by first | assumption | omega | (simp only [Heap.n_push, Heap.n_set]; omega)) (by first | omega | (simp only [Heap.n_push, Heap.n_set]; omega) | exact Heap.get_lt (by assumption)))) : H.get i = some o := h
theorem kP {S : List Nat} {H G : Heap} (h : Kp S H G := by repeat (first | assumption | exact Kp.refl | refine Kp.push ?_ | refine Kp.set ?_ (by first | omega | (simp only [Heap.n_push, Heap.n_set]; omega) | exact Heap.get_lt (by assumption)) (.inr (by first | omega | (simp only [Heap.n_push, Heap.n_set]; omega))))) : Kp S H G := h
theorem kZ {S : List Nat} {H G : Heap} (h : Kp S H G := by repeat (first | exact Kp.refl | refine Kp.push ?_ | refine Kp.set ?_ (by first | omega | (simp only [Heap.n_push, Heap.n_set]; omega) | exact Heap.get_lt (by assumption)) (.inr (by first | omega | (simp only [Heap.n_push, Heap.n_set]; omega))))) : Kp S H G := h
theorem kH {S : List Nat} {H G : Heap} (h : Kp S H G := by repeat (first | assumption | refine Kp.push ?_ | refine Kp.set ?_ (by first | omega | (simp only [Heap.n_push, Heap.n_set]; omega) | exact Heap.get_lt (by assumption)) (.inr (by first | omega | (simp only [Heap.n_push, Heap.n_set]; omega))))) : Kp S H G := h
theorem kQ {S : List Nat} {H G : Heap} (h : Kp S H G := by repeat (first | exact Kp.refl | refine Kp.push ?_ | refine Kp.set ?_ (by first | omega | (simp only [Heap.n_push, Heap.n_set]; omega) | exact Heap.get_lt (by assumption)) (.inl (by simp)))) : Kp S H G := h
theorem gR {G : Heap} {lo : Nat} {T : TypeId} {n : Nat} {cs : List AT} {a : AT} (h : RowA G lo T n cs a := by repeat (first | assumption | refine RowA.push ?_ | refine RowA.set ?_ gG (by intro e; cases e))) : RowA G lo T n cs a := h
theorem lE {i n : Nat} (h : i ≤ n := by (try simp only [Heap.n_push, Heap.n_set]); omega) : i ≤ n := h
section
variable {P : Program} {eqs : Eqs} {N : Nat} {lk : Env} {H H' : Heap} {Q : PostA} {c x y : Code} {ops : List Oper} {Ke : Env → Heap → Prop}
theorem tH (l : List (Nat × AV)) (h : Tri P N c (envL l) H Q) (hl : Has lk l := by repeat (first | exact trivial | refine ⟨rfl, ?_⟩)) : Tri P N c lk H Q := Tri.has hl h
theorem tT {o : Operand} (hc : rho lk o = some (at' (.bool true))) (h : Tri P N x lk H Q) : Tri P N (.cond o x y) lk H Q := Tri.cond (t := true) hc (fun _ => h) (fun h => Bool.noConfusion h)
theorem tF {o : Operand} (hc : rho lk o = some (at' (.bool false))) (h : Tri P N y lk H Q) : Tri P N (.cond o x y) lk H Q := Tri.cond (t := false) hc (fun h => Bool.noConfusion h) (fun _ => h)
theorem sV {o : Oper} {r : List Oper} {v : AV} (hd : dOk N o.dst = true) (hw : wantA ops lk o = some true) (h : opA o.op P eqs lk H = some (.val v H')) (k : wpO P eqs N ops Ke r (putF lk o.dst v) H') : wpO P eqs N ops Ke (o :: r) lk H := sO hd hw (oV h k)
end
end Go.Ea
end

/-
  THE ENGINE, part 23: rows that are only read; the arguments of a law laid in the abstract heap; from a contract to what a row asks. Over any program. Written in this session.
-/
section
namespace Go.Ea
open Go.ChangeShapes Go.WideShapes

/-! ### rows that are read -/
/-- xs lies at p, z cells each. -/
def RowR {β : Type} (H : Heap) (f : β → List AT) (z : Nat) (xs : List β) (p : Option (Nat × Nat)) : Prop :=
  (p = none → xs = []) ∧ ∀ id o, p = some (id, o) → xs = [] ∨ ∃ T k cs, H.get id = some (.cells T k cs) ∧ o + xs.length * z ≤ cs.length ∧ (cs.drop o).take (xs.length * z) = xs.flatMap f
section
variable {β : Type} {H H' : Heap} {f : β → List AT} {z : Nat} {xs : List β} {p : Option (Nat × Nat)}
theorem RowR.kp (h : RowR H f z xs p) (hk : Kp [] H H') : RowR H' f z xs p :=
  ⟨h.1, fun id o hp => (h.2 id o hp).imp (fun x => x) fun ⟨T, k, cs, h1, h2⟩ => ⟨T, k, cs, hk.get h1 rfl, h2⟩⟩
theorem RowR.nil : RowR H f z [] p := ⟨fun _ => rfl, fun _ _ _ => .inl rfl⟩
/-- One element. -/
theorem RowR.at (h : RowR H f z xs p) (hf : ∀ x, (f x).length = z) {i : Nat} {x : β} (hx : xs[i]? = some x) : ∃ id o T k cs, p = some (id, o) ∧ H.get id = some (.cells T k cs) ∧ o + i * z + z ≤ cs.length ∧ (cs.drop (o + i * z)).take z = f x := by
  have hi := (List.getElem?_eq_some_iff.1 hx).1
  cases hp : p with
  | none => have := h.1 hp; subst this; simp at hx
  | some q =>
    obtain ⟨id, o⟩ := q
    rcases h.2 id o hp with h0 | ⟨T, k, cs, h1, h2, h3⟩
    · subst h0; simp at hx
    · obtain ⟨g1, g2⟩ := flat_part hf hx
      have hm : i * z + z ≤ xs.length * z := by rw [← Nat.succ_mul]; exact Nat.mul_le_mul_right _ hi
      refine ⟨id, o, T, k, cs, rfl, h1, by omega, ?_⟩
      rw [← g1, ← h3, List.drop_take, List.drop_drop, List.take_take, Nat.min_eq_left (by omega)]
theorem take_cell {cs l : List AT} {o z j : Nat} (h : (cs.drop o).take z = l) (hj : j < z) : cs[o + j]? = l[j]? := by
  rw [← h, List.getElem?_take_of_lt hj, List.getElem?_drop]
theorem part_cell {P : Program} {T : TypeId} {d : TypeDesc} {cs l : List AT} {o z n : Nat} {a : AT} (j : Nat) (h : (cs.drop o).take z = l) (hj : j < z) (ha : l[j]? = some a) (hu : P.underlying T = some d) (hd : isAggD d = false) (hz : sizeO P T = some n) : partA P T cs (o + j) = some (.at a) :=
  part_at hu hd hz (by rw [take_cell h hj, ha])
theorem part_all {P : Program} {T : TypeId} {d : TypeDesc} {cs l : List AT} {o z : Nat} (h : (cs.drop o).take z = l) (hl : o + z ≤ cs.length) (hu : P.underlying T = some d) (hd : isAggD d = true) (hz : sizeO P T = some z) : partA P T cs o = some (.agg l) := by
  rw [part_agg hu hd hz hl, h]
theorem part_one {P : Program} {T : TypeId} {d : TypeDesc} {cs : List AT} {o n : Nat} {a : AT} (h : (cs.drop o).take 1 = [a]) (hu : P.underlying T = some d) (hd : isAggD d = false) (hz : sizeO P T = some n) : partA P T cs o = some (.at a) :=
  part_at hu hd hz (by have := take_cell (j := 0) h (by omega); simpa using this)
theorem RowA.r {G : Heap} {lo : Nat} {T : TypeId} {a : AT} (h : RowA G lo T xs.length (xs.flatMap f) a) (hz : ∀ x, (f x).length = z) : ∃ p, a = .slice p xs.length ∧ RowR G f z xs p := by
  rcases h with ⟨h1, _, h3⟩ | ⟨id, _, h2, h3⟩
  · have : xs = [] := List.length_eq_zero_iff.1 h1
    subst this
    exact ⟨none, h3, .nil⟩
  · refine ⟨some (id, 0), h2, fun h => (by cases h), fun id' o' hp => .inr ?_⟩
    cases hp
    refine ⟨T, 2, _, h3, by rw [flat_len hz]; omega, ?_⟩
    rw [List.drop_zero, ← flat_len hz xs, List.take_length]
end

/-! ### arguments -/
/-- Nothing of it may be written. -/
def RO (H : Heap) : Prop := ∀ i o, H.get i = some o → o.rw = false
theorem RO.empty : RO Heap.empty := fun i o h => by rw [Heap.get_ge _ (Nat.zero_le i)] at h; cases h
section
variable {P : Program} {base : Nat} {H : Heap} {α : Al} {w : World}
theorem R.addRO {o : AObj} {L : Loc} (h : R P base H α w) (hro : RO H) (ho : o.rw = false) (hO : OR P base (upd α H.n L) w H.n o) : R P base (H.push o) (upd α H.n L) w ∧ RO (H.push o) := by
  have hs : Sub α (upd α H.n L) := sub_upd (h.dom _ (Nat.le_refl _))
  have hr : RO (H.push o) := fun i oi hi => by
    rw [Heap.get_push] at hi
    by_cases e : i = H.n
    · rw [if_pos e] at hi; cases hi; exact ho
    · rw [if_neg e] at hi; exact hro i oi hi
  refine ⟨⟨h.bs, fun i hi => ?_, fun i oi hi => ?_, fun i j oi oj Li Lj _ hi hri => ?_⟩, hr⟩
  · rw [Heap.n_push] at hi; rw [upd_ne (by omega)]; exact h.dom i (by omega)
  · rw [Heap.get_push] at hi
    by_cases e : i = H.n
    · subst e; rw [if_pos rfl] at hi; cases hi; exact hO
    · rw [if_neg e] at hi
      exact (h.obj i oi hi).move hs (upd_ne e) fun _ _ _ => rfl
  · rw [hr i oi hi] at hri; cases hri
theorem noRw {H : Heap} (h : RO H) (α : Al) (k : Nat) : ¬ rwset H α k := by
  rintro ⟨i, o, L, h1, h2, _⟩
  rw [h i o h1] at h2; cases h2

theorem cell_some {w : World} {a : Addr} {v : Value} (h : w.cell? a = some v) : ∃ c T fz, w.heap[a.block]? = some (.cells c T fz) ∧ a = ⟨a.block, a.off, none⟩ ∧ c[a.off]? = some v := by
  unfold World.cell? at h
  split at h
  · rename_i c T fz hc
    split at h
    · cases h
    · rename_i hs
      refine ⟨c, T, fz, hc, ?_, h⟩
      cases a with | mk b o s => cases s with
        | none => rfl
        | some x => exact absurd rfl hs
  · cases h
theorem add_off {b o i : Nat} : (⟨b, o, none⟩ : Addr).add i = ⟨b, o + i, none⟩ := by
  unfold Addr.add
  split
  · subst_vars; rfl
  · rfl
/-- A slice of integers. -/
theorem open_intsA {Hh : Type} {enc : TypeId × Value → Hh} {sp : Nat → Bool} {t e : TypeId} {k : IntKind} {v : Value} {d : DataW Hh} {ps : List MemPlace} {r : Reach} {b0 : Nat} (hR : R P base H α w) (hro : RO H) (ht : P.underlying t = some (.slice e)) (he : P.underlying e = some (.int k)) (hc : P.cellsOf e = 1)
    (hval : Value.okWide P w r b0 t v) (hd : DataW.Trod enc P w 0 sp true t v d ps) :
    ∃ H' α' xs q, R P base H' α' w ∧ RO H' ∧ Sub α α' ∧ Kp [] H H' ∧ VR α' (at' (.slice q xs.length)) v ∧ RowR H' (fun x => [AT.int k x]) 1 xs q ∧ ∀ x ∈ xs, (Lit.int k x).wf = true := by
  obtain ⟨a0, len, cap, rfl⟩ := okWide_slice ht hval
  obtain ⟨fuel, hf⟩ := hd
  have hf : DataW.trod enc P w 0 sp true fuel t [.slice a0 len cap] = some (d, ps) := hf
  rcases Go.ChangeShapes.open_ints ht he hc hf with ⟨h1, _⟩ | ⟨a, l1, c1, zs, h1, _, hl, hm, hz, _, hcell, hwf⟩
  · cases h1
    exact ⟨H, α, [], none, hR, hro, Sub.refl _, Kp.refl, ⟨rfl, rfl⟩, .nil, by simp⟩
  · cases h1
    have hzl : len ≤ zs.length := by rw [hz]; split <;> omega
    by_cases h0 : len = 0
    · subst h0
      obtain ⟨g1, g2⟩ := hR.addRO (o := .dead) (L := ⟨0, 0, 0⟩) hro rfl trivial
      refine ⟨_, _, [], some (H.n, 1), g1, g2, sub_upd (hR.dom _ (Nat.le_refl _)), Kp.push Kp.refl, ?_, .nil, by simp⟩
      exact ⟨⟨0, 0, 0⟩, cap, upd_self _ _ _, Nat.zero_le _, hm, .inr ⟨rfl, by simp, _, rfl⟩⟩
    · have hc0 := hcell 0 (by omega)
      have e0 : a.add 0 = a := rfl
      rw [e0] at hc0
      obtain ⟨c, T, fz, q1, q2, q3⟩ := cell_some hc0
      have each : ∀ j, j < zs.length → c[a.off + j]? = some (.int k (zs.getD j 0)) := by
        intro j hj
        have := hcell j hj
        rw [q2, add_off] at this
        unfold World.cell? at this
        simp only [q1] at this
        exact this
      have hxl : (zs.take len).length = len := by rw [List.length_take]; omega
      have hmap : (zs.take len).flatMap (fun x => [AT.int k x]) = (zs.take len).map (AT.int k) := by
        generalize zs.take len = l
        induction l with
        | nil => rfl
        | cons a l ih => simp [ih]
      have hO : OR P base (upd α H.n ⟨a.block, a.off, cap⟩) w H.n (.cells T 0 ((zs.take len).map (AT.int k))) := by
        refine ⟨⟨a.block, a.off, cap⟩, c, fz, upd_self _ _ _, q1, ?_, fun j x hj => ?_, fun h => absurd rfl h, fun h => by cases h⟩
        · have := each (len - 1) (by omega)
          have := (Array.getElem?_eq_some_iff.1 this).1
          simp only [List.length_map, hxl]; omega
        · rw [List.getElem?_map] at hj
          cases hg : (zs.take len)[j]? with
          | none => rw [hg] at hj; cases hj
          | some y =>
            rw [hg] at hj; cases hj
            have hjl := (List.getElem?_eq_some_iff.1 hg).1
            rw [hxl] at hjl
            rw [List.getElem?_take_of_lt hjl] at hg
            refine ⟨_, each j (by omega), ?_⟩
            rw [List.getD_eq_getElem?_getD, hg]; rfl
      obtain ⟨g1, g2⟩ := hR.addRO hro rfl hO
      refine ⟨_, _, zs.take len, some (H.n, 0), g1, g2, sub_upd (hR.dom _ (Nat.le_refl _)), Kp.push Kp.refl, ?_, ⟨fun h => (by cases h), fun id o hp => .inr ?_⟩, fun x hx => hwf x (List.mem_of_mem_take hx)⟩
      · refine ⟨⟨a.block, a.off, cap⟩, cap, upd_self _ _ _, by rw [hxl]; exact hl, hm, .inl ⟨?_, fun _ => rfl⟩⟩
        rw [hxl, show (some a : Option Addr) = some ⟨a.block, a.off, none⟩ from congrArg some q2]; rfl
      · cases hp
        refine ⟨T, 0, _, Heap.push_new, by simp, ?_⟩
        rw [List.drop_zero, hmap]
        have : ((zs.take len).map (AT.int k)).length = (zs.take len).length * 1 := by simp
        rw [← this, List.take_length]
theorem open_intA {Hh : Type} {enc : TypeId × Value → Hh} {sp : Nat → Bool} {t : TypeId} {k : IntKind} {v : Value} {d : DataW Hh} {ps : List MemPlace} {r : Reach} {b0 : Nat} (α : Al) (ht : P.underlying t = some (.int k))
    (hval : Value.okWide P w r b0 t v) (hd : DataW.Trod enc P w 0 sp true t v d ps) : ∃ n, VR α (at' (.int k n)) v ∧ (Lit.int k n).wf = true := by
  obtain ⟨n, h1, _, _, h2⟩ := open_int ht hval hd
  exact ⟨n, h1, h2⟩
theorem open_strA {t : TypeId} {v : Value} {r : Reach} {b0 : Nat} (α : Al) (ht : P.underlying t = some .string) (hval : Value.okWide P w r b0 t v) : ∃ s, VR α (at' (.str s)) v := by
  obtain ⟨s, rfl⟩ := okWide_string ht hval
  exact ⟨_, s, rfl, rfl⟩
theorem open_boolA {t : TypeId} {v : Value} {r : Reach} {b0 : Nat} (α : Al) (ht : P.underlying t = some .bool) (hval : Value.okWide P w r b0 t v) : ∃ b, VR α (at' (.bool b)) v := by
  obtain ⟨b, rfl⟩ := okWide_bool ht hval
  exact ⟨b, rfl⟩
/-- A law that is true. -/
theorem law_true {f : FuncId} {args : List AV} {xs : Array Value} (hR : R P w.heap.size H α w) (hro : RO H) (ha : F2 (VR α) args xs.toList) {Q : Heap → Prop} (h : Sim P f args H fun u G => u = at' (.bool true) ∧ Q G) :
    Calls P f xs w fun e w' => e = .returned (.bool true) ∧ RowKit.Grown w w' ∧ RowKit.Below w.heap.size w w' := by
  refine (h w.heap.size α w xs hR ha).mono fun e w' ⟨v, v', H2, α', h1, ⟨h2, _⟩, h3, _, h5⟩ => ?_
  subst h2
  simp only [VR, V1, AR] at h3
  subst h3
  exact ⟨h1, h5.grown (noRw hro α), ⟨h5.os, h5.tape, h5.output, h5.size, fun k hk => h5.blk k hk (noRw hro α k)⟩⟩
end
end Go.Ea
end
