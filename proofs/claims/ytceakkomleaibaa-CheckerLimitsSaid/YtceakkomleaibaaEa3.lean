/-
  THE ENGINE, part 3: the model's operations do at laid values what part 2 says. Over any program. Written in this session.
-/
import Derived.Test.YtceakkomleaibaaEa2
namespace Go.Ea

def EnvR (α : Al) (lk : Nat → Option AV) (a : Act) : Prop := ∀ t av, lk t = some av → ∃ v, a.tmps[t]? = some v ∧ VR α av v

theorem cvA_sim {α : Al} {v : Value} {a : AT} (h : cvA v = some a) : AR α a v := by
  unfold cvA at h
  split at h <;> first | (cases h; done) | (cases h; first | rfl | exact ⟨_, rfl, rfl⟩ | exact ⟨rfl, rfl⟩)
theorem cvL_sim {α : Al} : ∀ {l : List Value} {m : List AT}, cvL l = some m → F2 (AR α) m l
  | [], m, h => by simp only [cvL] at h; cases h; exact .nil
  | v :: r, m, h => by
    simp only [cvL] at h
    split at h
    · rename_i a l h1 h2; cases h; exact .cons (cvA_sim h1) (cvL_sim h2)
    · cases h
theorem cv1_sim {α : Al} {v : Value} {x : A1} (h : cv1 v = some x) : V1 α x v := by
  unfold cv1 at h
  split at h
  · split at h
    · rename_i l hl; cases h; exact ⟨_, rfl, cvL_sim hl⟩
    · cases h
  · split at h
    · rename_i a ha; cases h; exact cvA_sim ha
    · cases h

section
variable {P : Program} {base : Nat} {H : Heap} {α : Al} {w : World} {a : Act} {lk : Nat → Option AV} {eqs : Eqs}

theorem rho_sim (hE : EnvR α lk a) {x : Operand} {av : AV} (h : rho lk x = some av) : VR α av (a.eval x) := by
  cases x with
  | tmp t =>
    obtain ⟨v, h1, h2⟩ := hE t av h
    have : a.eval (.tmp t) = v := by simp [Act.eval, Array.getD_eq_getD_getElem?, h1]
    rw [this]; exact h2
  | const v =>
    simp only [rho] at h
    split at h
    · rename_i x hx; cases h; exact cv1_sim hx
    · cases h
  | func f => simp only [rho] at h; cases h; exact ⟨#[], rfl, .nil⟩
  | global g => simp only [rho] at h; cases h

theorem rhos_sim (hE : EnvR α lk a) : ∀ {l : List Operand} {m : List AV}, rhos lk l = some m → F2 (VR α) m (l.map a.eval)
  | [], m, h => by cases h; exact .nil
  | x :: r, m, h => by
    have h' : (match rho lk x, rhos lk r with
      | some b, some l => some (b :: l)
      | _, _ => none) = some m := h
    split at h'
    · rename_i b l h1 h2; cases h'; exact .cons (rho_sim hE h1) (rhos_sim hE h2)
    · cases h'

/-- What an operation that is no call comes to. -/
def Res (P : Program) (base : Nat) (H : Heap) (α : Al) (w : World) (r : Result Next) (v : AV) (H' : Heap) : Prop :=
  ∃ nx u w' α', r = .ok nx w' ∧ (nx = .value u ∨ (nx = .skip ∧ u = undef)) ∧ VR α' v u ∧ R P base H' α' w' ∧ Ext H α w H' α' w'
theorem Res.pure (hR : R P base H α w) {r : Result Next} {v : AV} {u : Value} (hr : r = .ok (.value u) w) (hv : VR α v u) : Res P base H α w r v H :=
  ⟨_, u, w, α, hr, .inl rfl, hv, hR, Ext.refl _ _ _⟩

theorem sim_move (hR : R P base H α w) (hE : EnvR α lk a) {o : Oper} {x : Operand} (ho : o.op = .move x ∨ o.op = .assign x) {eqs : Eqs} {v : AV} {H' : Heap} (h : op_move x P eqs lk H = some (.val v H')) :
    Res P base H α w ((execOp a.eval o).run P w) v H' := by
  unfold op_move at h
  split at h
  · rename_i av hx
    cases h
    refine Res.pure hR (u := a.eval x) ?_ (rho_sim hE hx)
    rcases ho with ho | ho <;> simp [execOp, ho]
  · cases h

theorem sim_pick (hR : R P base H α w) (hE : EnvR α lk a) {o : Oper} {c x y : Operand} (ho : o.op = .pick c x y) {eqs : Eqs} {v : AV} {H' : Heap} (h : op_pick c x y P eqs lk H = some (.val v H')) :
    Res P base H α w ((execOp a.eval o).run P w) v H' := by
  unfold op_pick at h
  split at h
  · rename_i t hc
    split at h
    · rename_i av hx
      cases h
      have h1 : a.eval c = .bool t := rho_sim hE hc
      refine Res.pure hR (u := a.eval (bif t then x else y)) ?_ (rho_sim hE hx)
      simp only [execOp, ho, h1, asBool]
      cases t <;> simp
    · cases h
  · cases h

theorem sim_nilCheck (hR : R P base H α w) (hE : EnvR α lk a) {o : Oper} {x : Operand} (ho : o.op = .nilCheck x) {eqs : Eqs} {v : AV} {H' : Heap} (h : op_nilCheck x P eqs lk H = some (.val v H')) :
    Res P base H α w ((execOp a.eval o).run P w) v H' := by
  unfold op_nilCheck at h
  split at h
  · rename_i p hx
    cases h
    have h1 := rho_sim hE hx
    obtain ⟨L, hL, he⟩ := h1
    refine Res.pure hR (u := a.eval x) ?_ ⟨L, hL, he⟩
    simp only [execOp, ho, he]; rfl
  · rename_i f cs hx
    cases h
    have h1 := rho_sim hE hx
    obtain ⟨arr, he, hc⟩ := h1
    refine Res.pure hR (u := a.eval x) ?_ ⟨arr, he, hc⟩
    simp only [execOp, ho, he]; rfl
  · cases h

theorem sim_extract (hR : R P base H α w) (hE : EnvR α lk a) {o : Oper} {x : Operand} {i : Nat} (ho : o.op = .extract x i) {eqs : Eqs} {v : AV} {H' : Heap} (h : op_extract x i P eqs lk H = some (.val v H')) :
    Res P base H α w ((execOp a.eval o).run P w) v H' := by
  unfold op_extract at h
  split at h
  · rename_i xs hx
    split at h
    · rename_i y hy
      cases h
      obtain ⟨arr, he, hc⟩ := rho_sim hE hx
      obtain ⟨u, hu, hr⟩ := hc.get hy
      refine Res.pure hR (u := u) ?_ hr
      have hu' : arr[i]? = some u := by simpa using hu
      simp [execOp, ho, he, Instr.extract, hu']
    · cases h
  · cases h

theorem capsA_sim {α : Al} : ∀ {l : List AV} {cs : List (Nat × Nat)} {vs : List Value}, capsA l = some cs → F2 (VR α) l vs → F2 (PR α) cs vs
  | [], cs, _, h, .nil => by simp only [capsA] at h; cases h; exact .nil
  | x :: r, cs, _, h, .cons h1 h2 => by
    unfold capsA at h
    split at h
    · cases ‹_ :: _ = []›
    · rename_i p r' he
      cases he
      split at h
      · rename_i l hl; cases h; exact .cons h1 (capsA_sim hl h2)
      · cases h
    · cases h

theorem sim_makeFunc (hR : R P base H α w) (hE : EnvR α lk a) {o : Oper} {fn : Fn} {first caps : Array Operand} (ho : o.op = .makeFunc fn first caps) {eqs : Eqs} {v : AV} {H' : Heap} (h : op_makeFunc fn first caps P eqs lk H = some (.val v H')) :
    Res P base H α w ((execOp a.eval o).run P w) v H' := by
  unfold op_makeFunc at h
  split at h
  · rename_i f vs hf hvs
    split at h
    · rename_i cs hcs
      cases h
      have h1 := capsA_sim hcs (rhos_sim hE hvs)
      have hf' : first = #[] := by cases first; simp_all
      refine Res.pure hR (u := .func (.func f) #[] (caps.map a.eval)) ?_ ⟨_, rfl, by simpa using h1⟩
      subst hf'
      simp [execOp, ho, Instr.makeFunc]
    · cases h
  · cases h

/-! ### arithmetic, comparisons -/
theorem binI_sim {op : BinOp} {k : IntKind} {x y : Int} {b : AT} (hs : isShift op = false) (h : binI op k x y = some b) (t : TypeId) (X Y : Operand) :
    (do eqGuard op t X Y (.int k x) (.int k y); binOp op t (.int k x) (.int k y) : Sem Value).run P w = .ok (match b with | .bool c => .bool c | .int k n => .int k n | _ => undef) w ∧ ((∃ c, b = .bool c) ∨ ∃ n, b = .int k n) := by
  have hg : (eqGuard op t X Y (.int k x) (.int k y)).run P w = .ok () w := by
    unfold eqGuard
    cases op <;> rfl
  simp only [Sem.run_bind, hg, Result.andThen_ok]
  cases op <;> simp only [binI, bitsV, isShift, Bool.true_eq_false] at h hs <;> (try (split at h)) <;> (try cases h) <;>
    simp_all [binOp, Op.intArith, Op.intDiv, Op.intCmp, Op.intBits, wrapA_eq]

theorem shiftI_sim {op : BinOp} {k k' : IntKind} {x y : Int} {b : AT} (hs : isShift op = true) (h : shiftI op k x y = some b) (t : TypeId) (X Y : Operand) :
    (do eqGuard op t X Y (.int k x) (.int k' y); binOp op t (.int k x) (.int k' y) : Sem Value).run P w = .ok (match b with | .int k n => .int k n | _ => undef) w ∧ ∃ n, b = .int k n := by
  have hg : (eqGuard op t X Y (.int k x) (.int k' y)).run P w = .ok () w := by
    unfold eqGuard
    cases op <;> rfl
  simp only [Sem.run_bind, hg, Result.andThen_ok]
  unfold shiftI at h
  split at h
  · cases h
  · rename_i hy
    cases op <;> simp only [isShift, Bool.false_eq_true] at hs <;> cases h <;> simp [binOp, Op.shift, hy]
theorem binS_sim {op : BinOp} {x y : List UInt8} {b : AT} (h : binS op x y = some b) (s t : ByteArray) (hs : s.data.toList = x) (ht : t.data.toList = y) (ty : TypeId) (X Y : Operand) :
    ∃ u, (do eqGuard op ty X Y (.string s) (.string t); binOp op ty (.string s) (.string t) : Sem Value).run P w = .ok u w ∧ AR α b u := by
  have hg : (eqGuard op ty X Y (.string s) (.string t)).run P w = .ok () w := by
    unfold eqGuard
    cases op <;> rfl
  simp only [Sem.run_bind, hg, Result.andThen_ok]
  subst hs ht
  have es : s.size = s.data.toList.length := by simp
  have et : t.size = t.data.toList.length := by simp
  cases op <;> simp only [binS, eqS_eq] at h <;> (try cases h) <;> (try (split at h)) <;> (try cases h) <;>
    simp [binOp, Op.stringOp, ByteArray.toList_eq, AR]
  rename_i hl
  rw [es, et, if_neg (by have e : IntKind.i64.max = 9223372036854775807 := rfl; omega)]
  exact ⟨_, rfl, _, rfl, by simp⟩
theorem equalIn_bool (d : Nat) {t : TypeId} (ht : P.underlying t = some .bool) (x y : Bool) : (Op.equalIn (d + 1) t (.bool x) (.bool y)).run P w = .ok (x == y) w := by
  simp [Op.equalIn, run_underlying ht]
/-- What is asked of a struct type's '=='. -/
def EqOk (P : Program) (t : TypeId) (s : List Sh) : Prop :=
  P.eqGuardType P.depth t = false ∧ ∀ (α : Al) (w : World) (xs ys : List AT) (x y : Array Value) (b : Bool), F2 (AR α) xs x.toList → F2 (AR α) ys y.toList → xs.map shp = s → ys.map shp = s →
    eqL xs ys = some b → (Op.equal t (.agg x) (.agg y)).run P w = .ok b w
def EqsOk (P : Program) (eqs : Eqs) : Prop := ∀ t s, shOf t eqs = some s → EqOk P t s
theorem sim_binOp (hQ : ∀ t s, shOf t eqs = some s → EqOk P t s) (hR : R P base H α w) (hE : EnvR α lk a) {o : Oper} {op : BinOp} {t : TypeId} {x y : Operand} {yt : TypeId} (ho : o.op = .binOp op t x y yt) {v : AV} {H' : Heap}
    (h : op_binOp op t x y yt P eqs lk H = some (.val v H')) : Res P base H α w ((execOp a.eval o).run P w) v H' := by
  unfold op_binOp at h
  split at h
  · rename_i u z hu hz
    split at h
    · rename_i b hb
      cases h
      have h1 := rho_sim hE hu
      have h2 := rho_sim hE hz
      have key : ∃ q, (do eqGuard op t x y (a.eval x) (a.eval y); binOp op t (a.eval x) (a.eval y) : Sem Value).run P w = .ok q w ∧ AR α b q := by
        unfold binA at hb
        split at hb
        · rename_i k n k' n'
          have e1 : a.eval x = .int k n := h1
          have e2 : a.eval y = .int k' n' := h2
          rw [e1, e2]
          cases hsh : isShift op
          · rw [hsh] at hb
            simp only [cond_false] at hb
            split at hb
            · rename_i hk; subst hk
              obtain ⟨h3, h4⟩ := binI_sim (P := P) (w := w) hsh hb t x y
              refine ⟨_, h3, ?_⟩
              rcases h4 with ⟨c, rfl⟩ | ⟨n, rfl⟩ <;> rfl
            · cases hb
          · rw [hsh] at hb
            simp only [cond_true] at hb
            obtain ⟨h3, n, rfl⟩ := shiftI_sim (P := P) (w := w) (k' := k') hsh hb t x y
            exact ⟨_, h3, rfl⟩
        · rename_i l m
          obtain ⟨s, e1, hs⟩ := h1
          obtain ⟨s', e2, hs'⟩ := h2
          rw [e1, e2]
          exact binS_sim hb s s' hs hs' t x y
        · rename_i c d
          have e1 : a.eval x = .bool c := h1
          have e2 : a.eval y = .bool d := h2
          rw [e1, e2]
          cases hbd : isBoolD (P.underlying t)
          · rw [hbd] at hb; cases hb
          · rw [hbd] at hb
            have hbt : P.underlying t = some .bool := by
              unfold isBoolD at hbd
              split at hbd
              · assumption
              · cases hbd
            simp only [cond_true] at hb
            have hg : (eqGuard op t x y (.bool c) (.bool d)).run P w = .ok () w := by
              unfold eqGuard
              cases op <;> rfl
            simp only [Sem.run_bind, hg, Result.andThen_ok]
            have heq : (Op.equal t (.bool c) (.bool d)).run P w = .ok (c == d) w := equalIn_bool 9999 hbt c d
            split at hb <;> cases hb <;> simp [binOp, heq, AR]
        · rename_i xs ys
          obtain ⟨arr, e1, f1⟩ := h1
          obtain ⟨arr', e2, f2⟩ := h2
          rw [e1, e2]
          split at hb
          · rename_i s hs
            split at hb
            · rename_i hsh
              obtain ⟨g1, g2⟩ := hQ _ _ hs
              have hg : (eqGuard op t x y (.agg arr) (.agg arr')).run P w = .ok () w := by
                unfold eqGuard
                cases op <;> simp [program, Sem.run, g1]
              simp only [Sem.run_bind, hg, Result.andThen_ok]
              split at hb <;> cases hb
              · rename_i c hc
                have g3 := g2 α w xs ys arr arr' c f1 f2 hsh.1 hsh.2 hc
                simp [binOp, g3, AR]
              · rename_i c hc
                have g3 := g2 α w xs ys arr arr' c f1 f2 hsh.1 hsh.2 hc
                simp [binOp, g3, AR]
            · cases hb
          · cases hb
        · cases hb
      obtain ⟨q, h3, h4⟩ := key
      refine Res.pure hR (u := q) ?_ h4
      simp only [Sem.run_bind] at h3
      simp only [execOp, ho, Sem.run_bind, h3, Result.andThen_ok, Sem.run_pure]
    · cases h
  · cases h

theorem sim_unOp (hR : R P base H α w) (hE : EnvR α lk a) {o : Oper} {op : UnOp} {t : TypeId} {x : Operand} (ho : o.op = .unOp op t x) {eqs : Eqs} {v : AV} {H' : Heap}
    (h : op_unOp op t x P eqs lk H = some (.val v H')) : Res P base H α w ((execOp a.eval o).run P w) v H' := by
  unfold op_unOp at h
  split at h
  · rename_i u hu
    split at h
    · rename_i b hb
      cases h
      have h1 := rho_sim hE hu
      have key : ∃ q, (Op.unary op (a.eval x)).run P w = .ok q w ∧ AR α b q := by
        unfold unA at hb
        split at hb
        · rename_i k n
          have e1 : a.eval x = .int k n := h1
          rw [e1]
          split at hb
          · cases hb; exact ⟨.int k (k.wrap (0 - n)), by simp [Op.unary, Op.intArith], by rw [wrapA_eq]; rfl⟩
          · split at hb
            · rename_i m hm; cases hb
              simp only [bitsV] at hm
              cases hm
              exact ⟨_, rfl, rfl⟩
            · cases hb
          · cases hb
        · rename_i c
          have e1 : a.eval x = .bool c := h1
          rw [e1]
          split at hb
          · cases hb; exact ⟨_, rfl, rfl⟩
          · cases hb
        · cases hb
      obtain ⟨q, h3, h4⟩ := key
      refine Res.pure hR (u := q) ?_ h4
      simp only [execOp, ho, Sem.run_bind, h3, Result.andThen_ok, Sem.run_pure]
    · cases h
  · cases h
end
end Go.Ea
