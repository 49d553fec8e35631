/-
  THE ENGINE, part 14: what the evaluator gives is a contract. Over any program. Written in this session.
-/
import Derived.Test.YtceakkomleaibaaEc1
namespace Go.Ea

section
variable {P : Program} {eqs : Eqs} {N : Nat}

theorem rd_same (op : Op) (hc : clsOf op = .rd) {lk : Env} {H H' : Heap} {v : AV} (h : opA op P eqs lk H = some (.val v H')) : H' = H := by
  cases op <;> simp only [clsOf, reduceCtorEq] at hc
  case load t x =>
    have h : op_load t x P eqs lk H = some (.val v H') := h
    unfold op_load at h
    (repeat' split at h) <;> cases h <;> rfl
  case lookup t x i ok =>
    have h : op_lookup t x i ok P eqs lk H = some (.val v H') := h
    unfold op_lookup at h
    (repeat' split at h) <;> cases h <;> rfl
  case convert s d x =>
    have h : op_convert s d x P eqs lk H = some (.val v H') := h
    unfold op_convert at h
    (repeat' split at h) <;> cases h <;> rfl
  case call c =>
    have h : op_call c P eqs lk H = some (.val v H') := h
    unfold op_call at h
    split at h
    · rename_i b hb
      rw [hb] at hc
      split at h
      · split at h
        · rename_i v' H2 hbu
          cases h
          unfold builtinA at hbu
          (repeat' split at hbu) <;> first | (cases hbu; rfl) | (cases hbu; done) | (cases hc; done)
        · cases h
      · cases h
    · split at h <;> cases h
    · cases h
theorem mk_push (op : Op) (hc : clsOf op = .mk) {lk : Env} {H H' : Heap} {v : AV} (h : opA op P eqs lk H = some (.val v H')) : ∃ obj, H' = H.push obj := by
  cases op <;> simp only [clsOf, reduceCtorEq] at hc
  case alloc T =>
    have h : op_alloc T P eqs lk H = some (.val v H') := h
    unfold op_alloc at h
    (repeat' split at h) <;> cases h <;> exact ⟨_, rfl⟩
  case box T x =>
    have h : op_box T x P eqs lk H = some (.val v H') := h
    unfold op_box at h
    (repeat' split at h) <;> cases h <;> exact ⟨_, rfl⟩
  case buildSlice T n ps =>
    have h : op_buildSlice T n ps P eqs lk H = some (.val v H') := h
    unfold op_buildSlice at h
    simp only [cond_eq_ite] at h
    (repeat' split at h) <;> cases h <;> exact ⟨_, rfl⟩
  case makeSlice T l c =>
    have h : op_makeSlice T l c P eqs lk H = some (.val v H') := h
    unfold op_makeSlice at h
    (repeat' split at h) <;> cases h <;> exact ⟨_, rfl⟩
  case makeMap T r =>
    have h : op_makeMap T r P eqs lk H = some (.val v H') := h
    unfold op_makeMap at h
    (repeat' split at h) <;> cases h <;> exact ⟨_, rfl⟩
  case call c => (repeat' split at hc) <;> cases hc

def OrcOk (P : Program) (K : Orc) : Prop := ∀ f args H v H', K f args H = some (v, H') → FnOk P f ∧ Sim P f args H fun u G => u = v ∧ G = H'
variable {K : Orc}
theorem evOp_sound (hK : OrcOk P K) {op : Op} {env : Tr AV} {H H' : Heap} {v : AV} (h : evOp P eqs K op env H = some (v, H')) {Q : AV → Heap → Prop} (hQ : Q v H') : opP P eqs op env.get H Q := by
  unfold evOp at h
  split at h
  · rename_i v' H2 h1; cases h; exact ⟨_, h1, hQ⟩
  · rename_i f args h1
    obtain ⟨g1, g2⟩ := hK _ _ _ _ _ h
    exact ⟨_, h1, g1, g2.mono fun u G ⟨e1, e2⟩ => by subst e1; subst e2; exact hQ⟩
  · cases h

theorem evOps_sound (hK : OrcOk P K) {ops : List Oper} {Q : Env → Heap → Prop} : ∀ {l : List Oper} {env env' : Tr AV} {H H' : Heap}, evOps P eqs K ops l env H = some (env', H') → (∀ o ∈ l, dOk N o.dst = true) → Q env'.get H' → wpO P eqs N ops Q l env.get H
  | [], env, env', H, H', h, _, hQ => by cases h; exact hQ
  | o :: r, env, env', H, H', h, hd, hQ => by
    have h : (match wantA ops env.get o with
      | some true => match evOp P eqs K o.op env H with
        | some (v, H') => evOps P eqs K ops r (putE env o.dst v) H'
        | none => none
      | some false => evOps P eqs K ops r (putE env o.dst .undef) H
      | none => none) = some (env', H') := h
    have hd' : ∀ o ∈ r, dOk N o.dst = true := fun o ho => hd o (by simp [ho])
    refine ⟨hd o (by simp), ?_⟩
    split at h
    · rename_i hw
      split at h
      · rename_i v H2 he
        refine ⟨true, hw, ?_⟩
        rw [if_pos rfl]
        refine evOp_sound hK he ?_
        rw [← putE_get]
        exact evOps_sound hK h hd' hQ
      · cases h
    · rename_i hw
      refine ⟨false, hw, ?_⟩
      rw [if_neg (by simp), ← putE_get]
      exact evOps_sound hK h hd' hQ
    · cases h

noncomputable def pdE (pd : PendE) : Pend := pd.map fun p => (p.1, p.2.1.get, p.2.2)
theorem rechk_sound {ops : List Oper} {pl : Plan} {n0 i : Nat} {H : Heap} {mk : List (Nat × AObj)} : ∀ {pd : PendE}, rechk P eqs ops pl n0 i H mk pd = true → ∀ p ∈ pdE pd, bef pl i p.1 = false → recheck P eqs ops pl n0 H mk p
  | [], _, p, hp, _ => by cases hp
  | q :: r, h, p, hp, hb => by
    have h : ((bef pl i q.1 || match ops[q.1]? with
      | some o => match opA o.op P eqs q.2.1.get (matP pl (bef pl q.1) n0 mk H) with
        | some (.val v _) => isCls (clsOf o.op) .rd && eqAV v q.2.2
        | _ => false
      | none => false) && rechk P eqs ops pl n0 i H mk r) = true := h
    rw [Bool.and_eq_true] at h
    obtain ⟨h1, h2⟩ := h
    rcases List.mem_cons.1 hp with rfl | hp
    · simp only [] at hb
      rw [hb, Bool.false_or] at h1
      split at h1
      · rename_i o ho
        split at h1
        · rename_i v H2 hv
          rw [Bool.and_eq_true, isCls_iff] at h1
          have e := eqAV_sound h1.2
          have e2 := rd_same _ h1.1 hv
          subst e2
          exact ⟨o, ho, by rw [hv, e]⟩
        · cases h1
      · cases h1
    · exact rechk_sound h2 p hp hb
theorem pdE_filter (pd : PendE) (f : Nat → Bool) : pdE (pd.filter fun x => f x.1) = (pdE pd).filter fun x => f x.1 := by
  induction pd with
  | nil => rfl
  | cons p r ih =>
    simp only [pdE, List.filter_cons, List.map_cons] at ih ⊢
    cases f p.1 <;> simp [ih]

theorem evD_sound (hK : OrcOk P K) {ops : List Oper} {pl : Plan} {n0 : Nat} {Q : Env → Heap → Prop} (hd : ∀ o ∈ ops, dOk N o.dst = true) : ∀ {l : List Nat} {env env' : Tr AV} {H H' : Heap} {mk : List (Nat × AObj)} {pd : PendE},
    evD P eqs K ops pl n0 l env H mk pd = some (env', H') → Q env'.get H' → wpD P eqs N ops pl n0 Q l env.get H mk (pdE pd)
  | [], env, env', H, H', mk, pd, h, hQ => by cases h; exact hQ
  | i :: r, env, env', H, H', m, pd, h, hQ => by
    have h : (match ops[i]? with
      | some o => match wantA ops env.get o with
        | some true => match clsOf o.op with
          | .loc => match opA o.op P eqs env.get H with
            | some (.val v _) => evD P eqs K ops pl n0 r (putE env o.dst v) H m pd
            | _ => none
          | .rd => match opA o.op P eqs env.get (matP pl (bef pl i) n0 m H) with
            | some (.val v _) => evD P eqs K ops pl n0 r (putE env o.dst v) H m ((i, env, v) :: pd)
            | _ => none
          | .mk => match opA o.op P eqs env.get ⟨n0 + pl.rk.getD i 0, .nil⟩ with
            | some (.val v H') => match H'.get (n0 + pl.rk.getD i 0) with
              | some obj => evD P eqs K ops pl n0 r (putE env o.dst v) H ((i, obj) :: m) pd
              | none => none
            | _ => none
          | .md => match evOp P eqs K o.op env (matP pl (bef pl i) n0 m H) with
            | some (v, H') => bif rechk P eqs ops pl n0 i H' (m.filter fun x => !bef pl i x.1) pd then
                evD P eqs K ops pl n0 r (putE env o.dst v) H' (m.filter fun x => !bef pl i x.1) (pd.filter fun x => !bef pl i x.1) else none
            | none => none
        | some false => evD P eqs K ops pl n0 r (putE env o.dst .undef) H m pd
        | none => none
      | none => none) = some (env', H') := h
    split at h
    · rename_i o ho
      refine ⟨o, ho, hd o (List.mem_of_getElem? ho), ?_⟩
      split at h
      · rename_i hw
        refine ⟨true, hw, ?_⟩
        rw [if_pos rfl]
        split at h
        · rename_i hc
          rw [hc]
          split at h
          · rename_i v H1 hv
            refine ⟨v, loc_any _ hc hv H, ?_⟩
            rw [← putE_get]
            exact evD_sound hK hd h hQ
          · cases h
        · rename_i hc
          rw [hc]
          split at h
          · rename_i v H1 hv
            have e := rd_same _ hc hv
            subst e
            refine ⟨v, hv, ?_⟩
            rw [← putE_get]
            exact evD_sound (pd := (i, env, v) :: pd) hK hd h hQ
          · cases h
        · rename_i hc
          rw [hc]
          split at h
          · rename_i v H1 hv
            obtain ⟨obj, e⟩ := mk_push _ hc hv
            subst e
            rw [Heap.get_push, if_pos rfl] at h
            refine ⟨v, obj, hv, ?_⟩
            rw [← putE_get]
            exact evD_sound hK hd h hQ
          · cases h
        · rename_i hc
          rw [hc]
          split at h
          · rename_i v H1 hv
            cases hr : rechk P eqs ops pl n0 i H1 (m.filter fun x => !bef pl i x.1) pd with
            | false => rw [hr] at h; cases h
            | true =>
              rw [hr, cond_true] at h
              refine evOp_sound hK hv ⟨rechk_sound hr, ?_⟩
              rw [← putE_get, ← pdE_filter pd (fun x => !bef pl i x)]
              exact evD_sound hK hd h hQ
          · cases h
      · rename_i hw
        refine ⟨false, hw, ?_⟩
        rw [if_neg (by simp), ← putE_get]
        exact evD_sound hK hd h hQ
      · cases h
    · cases h

theorem evC_sound (hQ : EqsOk P eqs) (hK : OrcOk P K) {pls : Nat → Plan} {n : Nat} : ∀ {c : Code} {env env' : Tr AV} {H H' : Heap} {x : Ex} {QA : PostA}, codeOk pls N c = true → evC P eqs K pls n c env H = some (x, env', H') → QA x env'.get H' → wpC P eqs N c QA env.get H
  | .skip, env, env', H, H', x, QA, _, h, hQA => by cases h; exact hQA
  | .exit id, env, env', H, H', x, QA, _, h, hQA => by cases h; exact hQA
  | .ret, env, env', H, H', x, QA, _, h, hQA => by cases h; exact hQA
  | .region id ops draw, env, env', H, H', x, QA, hc, h, hQA => by
    simp only [codeOk, Bool.and_eq_true, List.all_eq_true] at hc
    cases draw with
    | false =>
      have h : (match evOps P eqs K ops.toList ops.toList env H with
        | some (env', H') => some (Ex.normal, env', H')
        | none => none) = some (x, env', H') := h
      split at h
      · rename_i e1 H1 he
        cases h
        show wpO ..
        exact evOps_sound hK he hc.1 hQA
      · cases h
    | true =>
      have h : (match evD P eqs K ops.toList (pls id) H.n (pls id).sched env (resv H (pls id).M) [] [] with
        | some (env', H') => some (Ex.normal, env', H')
        | none => none) = some (x, env', H') := h
      split at h
      · rename_i e1 H1 he
        cases h
        show RegD ..
        exact regD_of_plan hQ (by simpa using hc.2) (evD_sound hK hc.1 he hQA)
      · cases h
  | .seq a b, env, env', H, H', x, QA, hc, h, hQA => by
    simp only [codeOk, Bool.and_eq_true] at hc
    have h : (match evC P eqs K pls n a env H with
      | some (.normal, env', H') => evC P eqs K pls n b env' H'
      | some (.exit i, env', H') => some (.exit i, env', H')
      | some (.ret, env', H') => some (.ret, env', H')
      | none => none) = some (x, env', H') := h
    show wpC P eqs N a (thenA (wpC P eqs N b QA) QA) env.get H
    split at h
    · rename_i e1 H1 he
      exact evC_sound (c := a) hQ hK hc.1 he (show wpC P eqs N b QA _ _ from evC_sound (c := b) hQ hK hc.2 h hQA)
    · rename_i i e1 H1 he; cases h; exact evC_sound (c := a) hQ hK hc.1 he hQA
    · rename_i e1 H1 he; cases h; exact evC_sound (c := a) hQ hK hc.1 he hQA
    · cases h
  | .cond c a b, env, env', H, H', x, QA, hc, h, hQA => by
    simp only [codeOk, Bool.and_eq_true] at hc
    have h : (match rho env.get c with
      | some (.one (.at (.bool t))) => bif t then evC P eqs K pls n a env H else evC P eqs K pls n b env H
      | _ => none) = some (x, env', H') := h
    split at h
    · rename_i t ht
      refine ⟨t, ht, ?_⟩
      cases t with
      | true => exact evC_sound hQ hK hc.1 h hQA
      | false => exact evC_sound hQ hK hc.2 h hQA
    · cases h
  | .block id c, env, env', H, H', x, QA, hc, h, hQA => by
    have hc : codeOk pls N c = true := hc
    have h : (match evC P eqs K pls n c env H with
      | some (.exit i, env', H') => bif Nat.beq i id then some (.normal, env', H') else some (.exit i, env', H')
      | some (.normal, env', H') => some (.normal, env', H')
      | some (.ret, env', H') => some (.ret, env', H')
      | none => none) = some (x, env', H') := h
    show wpC P eqs N c (inBlockA id QA) env.get H
    split at h
    · rename_i i e1 H1 he
      refine evC_sound (c := c) hQ hK hc he ?_
      show if i = id then _ else _
      cases hb : Nat.beq i id with
      | true =>
        rw [hb] at h; cases h
        rw [if_pos (Nat.eq_of_beq_eq_true hb)]; exact hQA
      | false =>
        rw [hb] at h; cases h
        rw [if_neg (Nat.ne_of_beq_eq_false hb)]; exact hQA
    · rename_i e1 H1 he; cases h; exact evC_sound (c := c) hQ hK hc he hQA
    · rename_i e1 H1 he; cases h; exact evC_sound (c := c) hQ hK hc he hQA
    · cases h
  | .loop c, env, env', H, H', x, QA, hc, h, hQA => by
    have hc : codeOk pls N c = true := hc
    refine ⟨n, ?_⟩
    have h : evL (evC P eqs K pls n c) n env H = some (x, env', H') := h
    have key : ∀ (k : Nat) (env : Tr AV) (H : Heap), evL (evC P eqs K pls n c) k env H = some (x, env', H') → roundsA (wpC P eqs N c) QA k env.get H := by
      intro k
      induction k with
      | zero => intro env H h; cases h
      | succ k ih =>
        intro env H h
        have h : (match evC P eqs K pls n c env H with
          | some (.normal, env', H') => evL (evC P eqs K pls n c) k env' H'
          | some (.exit i, env', H') => some (.exit i, env', H')
          | some (.ret, env', H') => some (.ret, env', H')
          | none => none) = some (x, env', H') := h
        show wpC P eqs N c (thenA (roundsA (wpC P eqs N c) QA k) QA) env.get H
        split at h
        · rename_i e1 H1 he
          exact evC_sound (c := c) hQ hK hc he (show roundsA (wpC P eqs N c) QA k _ _ from ih _ _ h)
        · rename_i i e1 H1 he; cases h; exact evC_sound (c := c) hQ hK hc he hQA
        · rename_i e1 H1 he; cases h; exact evC_sound (c := c) hQ hK hc he hQA
        · cases h
    exact key n env H h
  | .rangeFunc _ _ _ _, _, _, _, _, _, _, _, h, _ => by cases h
  | .goto _, _, _, _, _, _, _, _, h, _ => by cases h
  | .label _, _, _, _, _, _, _, _, h, _ => by cases h
  | .scope _, _, _, _, _, _, _, _, h, _ => by cases h
  | .refuse _, _, _, _, _, _, _, _, h, _ => by cases h

theorem initE_get (args : List AV) : (initE args).get = argsF args := by
  have key : ∀ (l : List AV) (k : Nat) (env : Tr AV) (j : Nat), ((l.foldl (fun (p : Nat × Tr AV) v => (p.1 + 1, p.2.put p.1 v)) (k, env)).2).get j = if k ≤ j ∧ j < k + l.length then l[j - k]? else env.get j := by
    intro l
    induction l with
    | nil => intro k env j; simp only [List.foldl_nil, List.length_nil]; rw [if_neg (by omega)]
    | cons v r ih =>
      intro k env j
      rw [List.foldl_cons, ih]
      simp only [List.length_cons, Tr.get_put]
      by_cases h1 : k + 1 ≤ j ∧ j < k + 1 + r.length
      · rw [if_pos h1, if_pos (by omega), show j - k = (j - (k + 1)) + 1 from by omega]; simp
      · rw [if_neg h1]
        by_cases h2 : j = k
        · subst h2; rw [if_pos rfl, if_pos (by omega)]; simp
        · rw [if_neg h2, if_neg (by omega)]
  funext j
  unfold initE argsF
  rw [key]
  by_cases h : j < args.length
  · rw [if_pos (by omega)]; simp
  · rw [if_neg (by omega)]
    rw [List.getElem?_eq_none (by omega)]
    rfl

theorem dOk_mono {N N' : Nat} {d : Option Nat} (h : dOk N d = true) (hn : N ≤ N') : dOk N' d = true := by
  cases d with
  | none => rfl
  | some d => simp only [dOk, Nat.blt_eq] at h ⊢; omega
theorem codeOk_mono {pls : Nat → Plan} {N N' : Nat} (hn : N ≤ N') : ∀ {c : Code}, codeOk pls N c = true → codeOk pls N' c = true
  | .region id ops draw, h => by
    simp only [codeOk, Bool.and_eq_true, List.all_eq_true] at h ⊢
    exact ⟨fun o ho => dOk_mono (h.1 o ho) hn, h.2⟩
  | .seq a b, h => by
    simp only [codeOk, Bool.and_eq_true] at h ⊢
    exact ⟨codeOk_mono hn h.1, codeOk_mono hn h.2⟩
  | .cond _ a b, h => by
    simp only [codeOk, Bool.and_eq_true] at h ⊢
    exact ⟨codeOk_mono hn h.1, codeOk_mono hn h.2⟩
  | .block _ c, h => codeOk_mono (c := c) hn h
  | .loop c, h => codeOk_mono (c := c) hn h
  | .skip, _ | .exit _, _ | .ret, _ | .rangeFunc _ _ _ _, _ | .goto _, _ | .label _, _ | .scope _, _ | .refuse _, _ => rfl
theorem fnsOk_spec {pls : Nat → Option (Nat → Plan)} : ∀ {l : List Func} {f : Nat}, fnsOk pls f l = true → ∀ {k : Nat} {fn : Func}, l[k]? = some fn → ∀ pl c, pls (f + k) = some pl → fn.body = some c → (fn.name == "runtime.NumGoroutine") = false ∧ codeOk pl fn.ntmps c = true
  | [], _, _, k, fn, hk => by simp at hk
  | x :: r, f, h, k, fn, hk => by
    simp only [fnsOk, Bool.and_eq_true] at h
    obtain ⟨h2, h3⟩ := h
    cases k with
    | zero =>
      simp at hk; subst hk
      intro pl c hp hc
      rw [Nat.add_zero] at hp
      rw [hp, hc] at h2
      simpa using h2
    | succ k =>
      have := fnsOk_spec h3 (k := k) (fn := fn) (by simpa using hk)
      rw [show f + 1 + k = f + (k + 1) from by omega] at this
      exact this

/-- THE EVALUATOR IS SOUND. -/
theorem runA_sound (hm : P.follows .mixedOrders = true) (hQ : EqsOk P eqs) {pls : Nat → Option (Nat → Plan)} (hf : fnsOk pls 0 P.funcs.toList = true) : ∀ n, OrcOk P (runA P eqs pls n)
  | 0, f, args, H, v, H', h => by cases h
  | n + 1, f, args, H, v, H', h => by
    have h : (match P.funcs[f]? with
      | some fn => match pls f, fn.body with
        | some pl, some c => match evC P eqs (runA P eqs pls n) pl n c (initE args) H with
          | some (.exit _, _, _) => none
          | some (_, env, H') => match resA P env.get H' fn.results.toList with
            | some l => some (mkRes l, H')
            | none => none
          | none => none
        | _, _ => none
      | none => none) = some (v, H') := h
    split at h
    · rename_i fn hfn
      have k0 := fnsOk_spec hf (k := f) (fn := fn) (by rw [Array.getElem?_toList]; exact hfn)
      rw [Nat.zero_add] at k0
      split at h
      · rename_i pl c hp hc
        obtain ⟨k1, k2⟩ := k0 pl c hp hc
        refine ⟨⟨fn, hfn, k1, by rw [hc]; rfl⟩, ?_⟩
        have hco := codeOk_mono (N' := args.length + (fn.ntmps - args.length)) (by omega) k2
        split at h
        · cases h
        · rename_i x env H2 hx he
          split at h
          · rename_i l hl
            cases h
            refine Sim.of_body hm hQ hfn hc ?_
            rw [← initE_get]
            refine evC_sound hQ (runA_sound hm hQ hf n) hco he ⟨?_, l, hl, rfl, rfl⟩
            cases x with
            | exit i => exact (hx i rfl).elim
            | _ => trivial
          · cases h
        · cases h
      · cases h
    · cases h
end
end Go.Ea
