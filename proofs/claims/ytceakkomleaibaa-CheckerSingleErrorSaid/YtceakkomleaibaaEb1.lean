/-
  THE ENGINE, part 10: regions whose order is drawn: every order comes to what one order comes to. Over any program. Written in this session.
-/
import Derived.Test.YtceakkomleaibaaEa1
import Derived.Laws.StructEq
section
namespace Go.Ea

section
variable (P : Program) (eqs : Eqs) (N : Nat) (ops : List Oper) (pl : Plan) (base : Nat) (K : Env → Heap → Prop) (lk0 : Env) (H0 : Heap) (α0 : Al) (w0 : World)
def idOf (x : Nat) : Nat := H0.n + pl.rk.getD x 0
/-- What is known of an operation that the looked-at order has done, and the real one has not. -/
structure Fact (lk : Env) (H : Heap) (mk : List (Nat × AObj)) (pd : Pend) (x : Nat) (o : Oper) (lkx : Env) (v : AV) (t : Bool) : Prop where
  op : ops[x]? = some o
  dst : dOk N o.dst = true
  look1 : ∀ s ∈ looks ops o, ∀ k, k < ops.length → bef pl x k = true → gdst ops k = some s → lkx s = lk s
  look2 : ∀ s ∈ looks ops o, (∀ k, k < ops.length → bef pl x k = true → gdst ops k ≠ some s) → lkx s = lk0 s
  want : wantA ops lkx o = some t
  val : ∀ d, o.dst = some d → lk d = some v
  cls : if t = true then match clsOf o.op with
      | .loc => ∃ H1, opA o.op P eqs lkx H1 = some (.val v H1)
      | .rd => (x, lkx, v) ∈ pd ∧ opA o.op P eqs lkx (matP pl (bef pl x) H0.n mk H) = some (.val v (matP pl (bef pl x) H0.n mk H))
      | .mk => ∃ obj, opA o.op P eqs lkx ⟨idOf pl H0 x, .nil⟩ = some (.val v (Heap.push ⟨idOf pl H0 x, .nil⟩ obj)) ∧ (x, obj) ∈ mk
      | .md => False
    else v = .undef ∧ ∀ obj, (x, obj) ∉ mk
/-- A slot whose writer waits. -/
def Waits (b : Nat → Bool) (rest : List Nat) (s : Nat) : Prop := ∃ k, k < ops.length ∧ gdst ops k = some s ∧ k ∉ rest ∧ b k = false
structure Inv (b : Nat → Bool) (rest : List Nat) (lk : Env) (H : Heap) (mk : List (Nat × AObj)) (pd : Pend) (Hb : Heap) (α : Al) (a : Act) (w : World) : Prop where
  ob : wpD P eqs N ops pl H0.n K rest lk H mk pd
  oks : okS ops pl rest = true
  nb : ∀ i ∈ rest, b i = false
  cl : ∀ i j, i < ops.length → b i = true → bef pl i j = true → b j = true
  pre : ∀ k, k < ops.length → k ∉ rest → ∀ m ∈ rest, bef pl k m = false
  lk7 : ∀ s, (∀ k, k < ops.length → gdst ops k = some s → k ∈ rest) → lk s = lk0 s
  facts : ∀ x, x < ops.length → x ∉ rest → b x = false → ∃ o lkx v t, Fact P eqs N ops pl lk0 H0 lk H mk pd x o lkx v t
  env1 : ∀ s v, Waits ops b rest s → lk0 s = some v → ∃ u, a.tmps[s]? = some u ∧ VR α v u
  env2 : ∀ s v, ¬ Waits ops b rest s → lk s = some v → ∃ u, a.tmps[s]? = some u ∧ VR α v u
  size : a.tmps.size = N
  defers : a.defers = []
  mkl : ∀ x obj, (x, obj) ∈ mk → x < ops.length ∧ x ∉ rest ∧ clsAt ops x = .mk
  mkd : ∀ x obj, (x, obj) ∈ mk → H.get (idOf pl H0 x) = some .dead
  mku : ∀ x o1 o2, (x, o1) ∈ mk → (x, o2) ∈ mk → o1 = o2
  rst : ∀ x ∈ rest, clsAt ops x = .mk → H.get (idOf pl H0 x) = some .dead ∧ Hb.get (idOf pl H0 x) = some .unborn
  hn : Hb.n = H.n
  hmk : ∀ x obj, (x, obj) ∈ mk → Hb.get (idOf pl H0 x) = some (if b x = true then obj else .unborn)
  hob : ∀ j o, H.get j = some o → o = .dead ∨ Hb.get j = some o
  r : R P base Hb α w
  ext : Ext H0 α0 w0 Hb α w
  dd : ∀ j, H0.get j = some .dead → H.get j = some .dead
end

section
variable {P : Program} {eqs : Eqs} {N : Nat} {ops : List Oper} {pl : Plan} {base : Nat} {K : Env → Heap → Prop} {lk0 : Env} {H0 : Heap} {α0 : Al} {w0 : World}
variable {b : Nat → Bool} {lk : Env} {H : Heap} {mk : List (Nat × AObj)} {pd : Pend} {Hb : Heap} {α : Al} {a : Act} {w : World}

theorem gdst_of {i : Nat} {o : Oper} (h : ops[i]? = some o) : gdst ops i = o.dst := by simp [gdst, h]
theorem looksAt_of {i : Nat} {o : Oper} (h : ops[i]? = some o) : looksAt ops i = looks ops o := by simp [looksAt, h]
theorem clsAt_of {i : Nat} {o : Oper} (h : ops[i]? = some o) : clsAt ops i = clsOf o.op := by simp [clsAt, h]
theorem putF_ne {d : Option Nat} {v : AV} {s : Nat} (h : d ≠ some s) : putF lk d v s = lk s := by
  cases d with
  | none => rfl
  | some d => rw [putF_some, if_neg (fun e => h (by rw [e]))]
theorem putF_self (d : Nat) (v : AV) : putF lk (some d) v d = some v := by rw [putF_some, if_pos rfl]

/-- The looked-at order does one more. -/
theorem Inv.advance (hok : Ok ops pl) {i : Nat} {r : List Nat} (h : Inv P eqs N ops pl base K lk0 H0 α0 w0 b (i :: r) lk H mk pd Hb α a w) (hc : clsAt ops i ≠ .md) :
    ∃ lk' mk' pd', Inv P eqs N ops pl base K lk0 H0 α0 w0 b r lk' H mk' pd' Hb α a w := by
  have oc := okS_cons h.oks
  have hib : b i = false := h.nb i (by simp)
  have hir : i ∉ r := fun hm => (oc.pair i hm).ne rfl
  obtain ⟨o, ho, hd, t, ht, hob⟩ := h.ob
  have hgd := gdst_of ho
  have uniq : ∀ k s, k < ops.length → gdst ops i = some s → gdst ops k = some s → k = i := fun k s hk h1 h2 => by
    by_cases e : k = i
    · exact e
    · exact absurd h2 ((hok.pair oc.lt hk (Ne.symm e)).dst s h1)
  -- what does not depend on the class
  have gen : ∀ (v : AV) (mk' : List (Nat × AObj)) (pd' : Pend), wpD P eqs N ops pl H0.n K r (putF lk o.dst v) H mk' pd' → (mk' = mk ∨ ∃ obj, mk' = (i, obj) :: mk ∧ clsAt ops i = .mk) → (∀ p ∈ pd, p ∈ pd') →
      (if t = true then match clsOf o.op with
        | .loc => ∃ H1, opA o.op P eqs lk H1 = some (.val v H1)
        | .rd => (i, lk, v) ∈ pd' ∧ opA o.op P eqs lk (matP pl (bef pl i) H0.n mk' H) = some (.val v (matP pl (bef pl i) H0.n mk' H))
        | .mk => ∃ obj, opA o.op P eqs lk ⟨idOf pl H0 i, .nil⟩ = some (.val v (Heap.push ⟨idOf pl H0 i, .nil⟩ obj)) ∧ (i, obj) ∈ mk'
        | .md => False
      else v = .undef ∧ ∀ obj, (i, obj) ∉ mk') → Inv P eqs N ops pl base K lk0 H0 α0 w0 b r (putF lk o.dst v) H mk' pd' Hb α a w := by
    intro v mk' pd' g1 g2 g3 g4
    have hmat : ∀ x, x < ops.length → x ∉ i :: r → matP pl (bef pl x) H0.n mk' H = matP pl (bef pl x) H0.n mk H := by
      intro x hx hxr
      rcases g2 with rfl | ⟨obj, rfl, _⟩
      · rfl
      · exact matP_cons_false (h.pre x hx hxr i (by simp))
    have hsub : ∀ x obj, (x, obj) ∈ mk → (x, obj) ∈ mk' := by
      intro x obj hm
      rcases g2 with rfl | ⟨ob, rfl, _⟩
      · exact hm
      · exact List.mem_cons_of_mem _ hm
    have hinv : ∀ x obj, (x, obj) ∈ mk' → (x, obj) ∈ mk ∨ (x = i ∧ clsAt ops i = .mk) := by
      intro x obj hm
      rcases g2 with rfl | ⟨ob, rfl, hcm⟩
      · exact .inl hm
      · rcases List.mem_cons.1 hm with e | e
        · cases e; exact .inr ⟨rfl, hcm⟩
        · exact .inl e
    have hinot : ∀ obj, (i, obj) ∉ mk := fun obj hm => (h.mkl i obj hm).2.1 (by simp)
    refine ⟨g1, oc.rest, fun k hk => h.nb k (by simp [hk]), h.cl, ?_, ?_, ?_, ?_, ?_, h.size, h.defers, ?_, ?_, ?_, fun x hx => h.rst x (by simp [hx]), h.hn, ?_, h.hob, h.r, h.ext, h.dd⟩
    · -- pre
      intro k hk hkr m hm
      by_cases e : k = i
      · subst e; exact oc.nb m hm
      · exact h.pre k hk (by simp [e, hkr]) m (by simp [hm])
    · -- lk7
      intro s hs
      have hne : o.dst ≠ some s := fun e => hir (hs i oc.lt (by rw [hgd, e]))
      rw [putF_ne hne]
      exact h.lk7 s fun k hk hg => by simp [hs k hk hg]
    · -- facts
      intro x hx hxr hbx
      by_cases e : x = i
      · subst e
        refine ⟨o, lk, v, t, ho, hd, ?_, ?_, ht, ?_, g4⟩
        · intro s hs k hk hb hg
          have hne : o.dst ≠ some s := fun e => by
            have := uniq k s hk (by rw [hgd, e]) hg
            subst this; rw [oc.self] at hb; cases hb
          rw [putF_ne hne]
        · intro s hs hno
          refine h.lk7 s fun k hk hg => ?_
          by_cases e : k = x
          · simp [e]
          · by_cases hkr : k ∈ r
            · simp [hkr]
            · exfalso
              rcases (hok.pair oc.lt hk (Ne.symm e)).slot with g | g | ⟨_, g⟩
              · rw [h.pre k hk (by simp [e, hkr]) x (by simp)] at g; cases g
              · exact hno k hk g hg
              · exact g s hg (by rw [looksAt_of ho]; exact hs)
        · intro d hd'; rw [hd', putF_self]
      · have hxr' : x ∉ i :: r := by simp [e, hxr]
        obtain ⟨o', lkx, v', t', f⟩ := h.facts x hx hxr' hbx
        have hdist : ∀ s, gdst ops x = some s → o.dst ≠ some s := fun s h1 h2 => e (uniq x s hx (by rw [hgd, h2]) h1)
        refine ⟨o', lkx, v', t', f.op, f.dst, ?_, f.look2, f.want, ?_, ?_⟩
        · intro s hs k hk hb hg
          have hne : o.dst ≠ some s := fun e' => by
            have := uniq k s hk (by rw [hgd, e']) hg
            subst this; rw [h.pre x hx hxr' k (by simp)] at hb; cases hb
          rw [putF_ne hne]; exact f.look1 s hs k hk hb hg
        · intro d hd'
          rw [putF_ne (hdist d (by rw [gdst_of f.op, hd']))]; exact f.val d hd'
        · have fc := f.cls
          split at fc
          · rename_i ht'
            rw [if_pos ht']
            split at fc
            · exact fc
            · rw [hmat x hx hxr']; exact ⟨g3 _ fc.1, fc.2⟩
            · obtain ⟨obj, q1, q2⟩ := fc; exact ⟨obj, q1, hsub _ _ q2⟩
            · exact fc
          · rename_i ht'
            rw [if_neg ht']
            refine ⟨fc.1, fun obj hm => ?_⟩
            rcases hinv x obj hm with hm | ⟨e', _⟩
            · exact fc.2 obj hm
            · exact e e'
    · -- env1
      intro s v' hw hs
      obtain ⟨k, hk, hg, hkr, hkb⟩ := hw
      by_cases e : k = i
      · subst e
        refine h.env2 s v' ?_ ?_
        · rintro ⟨k', hk', hg', hkr', _⟩
          exact hkr' (by rw [uniq k' s hk' hg hg']; simp)
        · rw [h.lk7 s fun k' hk' hg' => by rw [uniq k' s hk' hg hg']; simp]; exact hs
      · exact h.env1 s v' ⟨k, hk, hg, by simp [e, hkr], hkb⟩ hs
    · -- env2
      intro s v' hw hs
      have hne : o.dst ≠ some s := fun e => hw ⟨i, oc.lt, by rw [hgd, e], hir, hib⟩
      rw [putF_ne hne] at hs
      exact h.env2 s v' (fun ⟨k, hk, hg, hkr, hkb⟩ => hw ⟨k, hk, hg, fun hm => hkr (by simp [hm]), hkb⟩) hs
    · intro x obj hm
      rcases hinv x obj hm with hm | ⟨rfl, hcm⟩
      · obtain ⟨q1, q2, q3⟩ := h.mkl x obj hm
        exact ⟨q1, fun hm' => q2 (by simp [hm']), q3⟩
      · exact ⟨oc.lt, hir, hcm⟩
    · intro x obj hm
      rcases hinv x obj hm with hm | ⟨rfl, hcm⟩
      · exact h.mkd x obj hm
      · exact (h.rst x (by simp) hcm).1
    · intro x o1 o2 h1 h2
      rcases g2 with rfl | ⟨ob, rfl, _⟩
      · exact h.mku x o1 o2 h1 h2
      · rcases List.mem_cons.1 h1 with e1 | e1
        · rcases List.mem_cons.1 h2 with e2 | e2
          · cases e1; cases e2; rfl
          · cases e1; exact absurd e2 (hinot _)
        · rcases List.mem_cons.1 h2 with e2 | e2
          · cases e2; exact absurd e1 (hinot _)
          · exact h.mku x o1 o2 e1 e2
    · intro x obj hm
      rcases g2 with rfl | ⟨ob, rfl, hcm⟩
      · exact h.hmk x obj hm
      · rcases List.mem_cons.1 hm with e | e
        · cases e
          rw [hib, if_neg (by simp)]
          exact (h.rst i (by simp) hcm).2
        · exact h.hmk x obj e
  cases t with
  | false =>
    rw [if_neg (by simp)] at hob
    exact ⟨_, mk, pd, gen .undef mk pd hob (.inl rfl) (fun _ h => h) (by rw [if_neg (by simp)]; exact ⟨rfl, fun obj hm => (h.mkl i obj hm).2.1 (by simp)⟩)⟩
  | true =>
    rw [if_pos rfl] at hob
    rw [clsAt_of ho] at hc
    cases hcl : clsOf o.op with
    | loc =>
      rw [hcl] at hob
      obtain ⟨v, h1, h2⟩ := hob
      exact ⟨_, mk, pd, gen v mk pd h2 (.inl rfl) (fun _ h => h) (by rw [if_pos rfl, hcl]; exact ⟨_, h1⟩)⟩
    | rd =>
      rw [hcl] at hob
      obtain ⟨v, h1, h2⟩ := hob
      exact ⟨_, mk, _, gen v mk _ h2 (.inl rfl) (fun _ h => by simp [h]) (by rw [if_pos rfl, hcl]; exact ⟨by simp, h1⟩)⟩
    | mk =>
      rw [hcl] at hob
      obtain ⟨v, obj, h1, h2⟩ := hob
      exact ⟨_, _, pd, gen v _ pd h2 (.inr ⟨obj, rfl, by rw [clsAt_of ho]; exact hcl⟩) (fun _ h => h) (by rw [if_pos rfl, hcl]; exact ⟨obj, h1, by simp⟩)⟩
    | md => exact absurd hcl hc
def Stop (ops : List Oper) : List Nat → Prop
  | [] => True
  | i :: _ => clsAt ops i = .md
theorem Inv.stop (hok : Ok ops pl) : ∀ {rest : List Nat} {lk : Env} {mk : List (Nat × AObj)} {pd : Pend}, Inv P eqs N ops pl base K lk0 H0 α0 w0 b rest lk H mk pd Hb α a w →
    ∃ rest' lk' mk' pd', Stop ops rest' ∧ Inv P eqs N ops pl base K lk0 H0 α0 w0 b rest' lk' H mk' pd' Hb α a w
  | [], lk, m, pd, h => ⟨[], lk, m, pd, trivial, h⟩
  | i :: r, lk, m, pd, h => by
    by_cases hc : clsAt ops i = .md
    · exact ⟨i :: r, lk, m, pd, hc, h⟩
    · obtain ⟨lk', mk', pd', h'⟩ := h.advance hok hc
      exact Inv.stop hok h'
end
end Go.Ea
end

/-
  THE ENGINE, part 11: regions whose order is drawn, continued: each step of a real order; the rule. Over any program. Written in this session.
-/
section
namespace Go.Ea

section
variable {P : Program} {eqs : Eqs} {N : Nat} {ops : List Oper} {pl : Plan} {base : Nat} {K : Env → Heap → Prop} {lk0 : Env} {H0 : Heap} {α0 : Al} {w0 : World}
variable {b : Nat → Bool} {lk : Env} {H : Heap} {mk : List (Nat × AObj)} {pd : Pend} {Hb : Heap} {α : Al} {a : Act} {w : World} {rest : List Nat}

def and1 (b : Nat → Bool) (x : Nat) : Nat → Bool := fun i => b i || Nat.beq i x
theorem and1_self (b : Nat → Bool) (x : Nat) : and1 b x x = true := by simp [and1]
theorem and1_ne {b : Nat → Bool} {x i : Nat} (h : i ≠ x) : and1 b x i = b i := by
  have : Nat.beq i x = false := by rw [Bool.eq_false_iff]; intro e; exact h (Nat.eq_of_beq_eq_true e)
  simp [and1, this]
theorem and1_false {b : Nat → Bool} {x i : Nat} (h : and1 b x i = false) : b i = false ∧ i ≠ x := by
  have hne : i ≠ x := fun e => by subst e; rw [and1_self] at h; cases h
  exact ⟨by rw [and1_ne hne] at h; exact h, hne⟩
theorem put_get {d : Option Nat} {u : Value} (hd : dOk N d = true) (hs : a.tmps.size = N) (s : Nat) : (a.put d u).tmps[s]? = if d = some s then some u else a.tmps[s]? := by
  cases d with
  | none => simp [Act.put]
  | some d =>
    have hd' : d < N := by simpa [dOk, Nat.blt_eq] using hd
    simp only [Act.put, Option.some.injEq]
    by_cases e : d = s
    · subst e; rw [if_pos rfl, Array.getElem?_setIfInBounds_self_of_lt (by rw [hs]; exact hd')]
    · rw [if_neg e, Array.getElem?_setIfInBounds_ne e]
theorem put_size (d : Option Nat) (u : Value) : (a.put d u).tmps.size = a.tmps.size := by cases d <;> simp [Act.put]
theorem put_defers' (d : Option Nat) (u : Value) : (a.put d u).defers = a.defers := by cases d <;> rfl

/-- The environment cut to what an operation looks at. -/
noncomputable def cutL (l : List Nat) (lk : Env) : Env := fun s => if s ∈ l then lk s else none
theorem cut_eq {l : List Nat} {lk : Env} : ∀ t ∈ l, lk t = cutL l lk t := fun t ht => by simp [cutL, ht]
theorem cut_env {l : List Nat} (h : ∀ s ∈ l, ∀ v, lk s = some v → ∃ u, a.tmps[s]? = some u ∧ VR α v u) : EnvR α (cutL l lk) a := fun t av ht => by
  unfold cutL at ht
  split at ht
  · exact h t ‹_› av ht
  · cases ht

theorem Inv.id_lt (h : Inv P eqs N ops pl base K lk0 H0 α0 w0 b rest lk H mk pd Hb α a w) : ∀ x obj, (x, obj) ∈ mk → H0.n + pl.rk.getD x 0 < H.n := fun x obj hm => Heap.get_lt (h.mkd x obj hm)

/-- What a waiting operation looks at stands in the slots. -/
theorem Inv.sees (hok : Ok ops pl) (h : Inv P eqs N ops pl base K lk0 H0 α0 w0 b rest lk H mk pd Hb α a w) {x : Nat} {o : Oper} {lkx : Env} {v : AV} {t : Bool} (hx : x < ops.length) (hbx : b x = false)
    (hpre : ∀ j, bef pl x j = true → b j = true) (f : Fact P eqs N ops pl lk0 H0 lk H mk pd x o lkx v t) : ∀ s ∈ looks ops o, ∀ v, lkx s = some v → ∃ u, a.tmps[s]? = some u ∧ VR α v u := by
  intro s hs v hv
  have uniq : ∀ k k', k < ops.length → k' < ops.length → gdst ops k = some s → gdst ops k' = some s → k = k' := fun k k' hk hk' h1 h2 => by
    by_cases e : k = k'
    · exact e
    · exact absurd h2 ((hok.pair hk hk' e).dst s h1)
  by_cases hw : Waits ops b rest s
  · have hw' := hw
    obtain ⟨k, hk, hg, hkr, hkb⟩ := hw
    refine h.env1 s v hw' ?_
    rw [← f.look2 s hs fun k' hk' hb hg' => ?_]
    · exact hv
    · have := uniq k k' hk hk' hg hg'
      subst this
      rw [hpre k hb] at hkb; cases hkb
  · by_cases he : ∃ k, k < ops.length ∧ bef pl x k = true ∧ gdst ops k = some s
    · obtain ⟨k, hk, hb, hg⟩ := he
      exact h.env2 s v hw (by rw [← f.look1 s hs k hk hb hg]; exact hv)
    · refine h.env2 s v hw ?_
      rw [h.lk7 s fun k hk hg => ?_, ← f.look2 s hs fun k hk hb hg => he ⟨k, hk, hb, hg⟩]
      · exact hv
      · by_cases hkr : k ∈ rest
        · exact hkr
        · exfalso
          have hbk : b k = true := by
            cases hbk : b k with
            | true => rfl
            | false => exact absurd ⟨k, hk, hg, hkr, hbk⟩ hw
          have hne : x ≠ k := fun e => by subst e; rw [hbk] at hbx; cases hbx
          rcases (hok.pair hx hk hne).slot with g | g | ⟨_, g⟩
          · rw [h.cl k x hk hbk g] at hbx; cases hbx
          · exact he ⟨k, hk, g, hg⟩
          · exact g s hg (by rw [looksAt_of f.op]; exact hs)

/-- A waiting operation has been done. -/
theorem Inv.pended (hok : Ok ops pl) (h : Inv P eqs N ops pl base K lk0 H0 α0 w0 b rest lk H mk pd Hb α a w) {x : Nat} {o : Oper} {lkx : Env} {v : AV} {t : Bool} (hx : x < ops.length) (hxr : x ∉ rest)
    (hpre : ∀ j, bef pl x j = true → b j = true) (f : Fact P eqs N ops pl lk0 H0 lk H mk pd x o lkx v t) {u : Value} {Hb' : Heap} {α' : Al} {w' : World} (hv : VR α' v u) (hs : Sub α α') (hR : R P base Hb' α' w')
    (hX : Ext H0 α0 w0 Hb' α' w') (hH : (Hb' = Hb ∧ ∀ obj, (x, obj) ∉ mk) ∨ ∃ obj, Hb' = Hb.set (idOf pl H0 x) obj ∧ (x, obj) ∈ mk) :
    Inv P eqs N ops pl base K lk0 H0 α0 w0 (and1 b x) rest lk H mk pd Hb' α' (a.put o.dst u) w' := by
  have hgd := gdst_of f.op
  have old : ∀ {s v}, (∃ u, a.tmps[s]? = some u ∧ VR α v u) → o.dst ≠ some s → ∃ u', (a.put o.dst u).tmps[s]? = some u' ∧ VR α' v u' := by
    rintro s v ⟨u', h1, h2⟩ hne
    exact ⟨u', by rw [put_get f.dst h.size, if_neg hne]; exact h1, h2.mono hs⟩
  have hge : ∀ j, j ≠ idOf pl H0 x → Hb'.get j = Hb.get j := by
    intro j hj
    rcases hH with ⟨rfl, _⟩ | ⟨obj, rfl, hm⟩
    · rfl
    · rw [Heap.get_set _ _ _ _ (Heap.get_lt (h.hmk x obj hm)), if_neg hj]
  have hidne : ∀ y, y < ops.length → clsAt ops y = .mk → clsAt ops x = .mk → y ≠ x → idOf pl H0 y ≠ idOf pl H0 x := by
    intro y hy h1 h2 hne e
    exact (hok.pair hy hx hne).rk h1 h2 (by unfold idOf at e; omega)
  have hkeep : ∀ y, y < ops.length → clsAt ops y = .mk → y ≠ x → Hb'.get (idOf pl H0 y) = Hb.get (idOf pl H0 y) := by
    intro y hy h1 hne
    rcases hH with ⟨rfl, _⟩ | ⟨obj, _, hm⟩
    · rfl
    · exact hge _ (hidne y hy h1 (h.mkl x obj hm).2.2 hne)
  refine ⟨h.ob, h.oks, fun i hi => by rw [and1_ne (fun e => hxr (by rw [← e]; exact hi))]; exact h.nb i hi, ?_, h.pre, h.lk7, fun y hy hyr hyb => h.facts y hy hyr (and1_false hyb).1, ?_, ?_, by rw [put_size]; exact h.size,
    by rw [put_defers']; exact h.defers, h.mkl, h.mkd, h.mku, ?_, ?_, ?_, ?_, hR, hX, h.dd⟩
  · intro i j hi hb hij
    by_cases e : i = x
    · subst e
      have := hpre j hij
      simp [and1, this]
    · rw [and1_ne e] at hb
      have := h.cl i j hi hb hij
      simp [and1, this]
  · rintro s v' ⟨k, hk, hg, hkr, hkb⟩ hs'
    obtain ⟨hkb, hkx⟩ := and1_false hkb
    refine old (h.env1 s v' ⟨k, hk, hg, hkr, hkb⟩ hs') fun e => ?_
    exact (hok.pair hk hx hkx).dst s hg (by rw [hgd, e])
  · intro s v' hw hs'
    by_cases e : o.dst = some s
    · have := f.val s e
      rw [hs'] at this; cases this
      exact ⟨u, by rw [put_get f.dst h.size, if_pos e], hv⟩
    · refine old (h.env2 s v' ?_ hs') e
      rintro ⟨k, hk, hg, hkr, hkb⟩
      by_cases ek : k = x
      · subst ek; exact e (by rw [← hgd, hg])
      · exact hw ⟨k, hk, hg, hkr, by rw [and1_ne ek]; exact hkb⟩
  · intro y hy hc
    have hyl : y < ops.length := (okS_each h.oks y hy).1
    rw [hkeep y hyl hc (fun e => hxr (by rw [← e]; exact hy))]
    exact h.rst y hy hc
  · rcases hH with ⟨rfl, _⟩ | ⟨obj, rfl, hm⟩
    · exact h.hn
    · exact h.hn
  · intro y ob hm
    by_cases e : y = x
    · subst e
      rw [and1_self, if_pos rfl]
      rcases hH with ⟨_, hno⟩ | ⟨obj, rfl, hm'⟩
      · exact absurd hm (hno ob)
      · rw [h.mku y ob obj hm hm', Heap.get_set _ _ _ _ (Heap.get_lt (h.hmk y obj hm')), if_pos rfl]
    · have hl := h.mkl y ob hm
      rw [hkeep y hl.1 hl.2.2 e, and1_ne e]; exact h.hmk y ob hm
  · intro j o' hj
    by_cases e : j = idOf pl H0 x
    · rcases hH with ⟨rfl, _⟩ | ⟨obj, _, hm⟩
      · exact h.hob j o' hj
      · rw [e, h.mkd x obj hm] at hj; cases hj; exact .inl rfl
    · rw [hge j e]; exact h.hob j o' hj

/-- The view for an operation. -/
theorem Inv.view (h : Inv P eqs N ops pl base K lk0 H0 α0 w0 b rest lk H mk pd Hb α a w) {x : Nat} (hpre : ∀ j, bef pl x j = true → b j = true) : Weak (matP pl (bef pl x) H0.n mk H) Hb := by
  refine ⟨by rw [matP_n, h.hn], fun j o hj => ?_⟩
  rcases matP_get h.id_lt hj with ⟨y, h1, h2, h3⟩ | h1
  · have := h.hmk y o h1
    rw [hpre y h2, if_pos rfl] at this
    rw [← h3]; exact .inr this
  · exact h.hob j o h1

/-- A waiting operation is done. -/
theorem Inv.pend (hQ : EqsOk P eqs) (hok : Ok ops pl) (h : Inv P eqs N ops pl base K lk0 H0 α0 w0 b rest lk H mk pd Hb α a w) {x : Nat} (hx : x < ops.length) (hxr : x ∉ rest) (hbx : b x = false)
    (hpre : ∀ j, bef pl x j = true → b j = true) {opsA : Array Oper} (hops : opsA.toList = ops) {Kt : Act → World → Prop} {Q : Exit → Act → World → Prop}
    (hK : ∀ Hb' α' a' w', Inv P eqs N ops pl base K lk0 H0 α0 w0 (and1 b x) rest lk H mk pd Hb' α' a' w' → Kt a' w') : wpOp P opsA Q x Kt a w := by
  obtain ⟨o, lkx, v, t, f⟩ := h.facts x hx hxr hbx
  have hE := cut_env (h.sees hok hx hbx hpre f)
  have hoA : opsA[x]? = some o := by rw [← Array.getElem?_toList, hops]; exact f.op
  have hwant : Region.wanted o (yielded opsA a.tmps) = t := by
    refine wantA_sim hE ?_
    rw [hops, ← wantA_looks (cut_eq (l := looks ops o) (lk := lkx))]; exact f.want
  unfold wpOp
  rw [hoA]
  simp only [hwant]
  have fc := f.cls
  cases t with
  | false =>
    rw [if_neg (by simp)] at fc
    rw [if_neg (by simp)]
    obtain ⟨rfl, hno⟩ := fc
    exact hK _ _ _ _ (h.pended hok hx hxr hpre f (VR_undef α) (Sub.refl _) h.r h.ext (.inl ⟨rfl, hno⟩))
  | true =>
    rw [if_pos rfl] at fc
    rw [if_pos rfl]
    refine .inl ?_
    have nomk : clsOf o.op ≠ .mk → ∀ obj, (x, obj) ∉ mk := fun hc obj hm => hc (by rw [← clsAt_of f.op]; exact (h.mkl x obj hm).2.2)
    cases hcl : clsOf o.op with
    | loc =>
      rw [hcl] at fc
      obtain ⟨H1, fc⟩ := fc
      have fc := loc_any o.op hcl fc Hb
      rw [opA_looks cut_eq] at fc
      obtain ⟨nx, u, w', α', g1, g2, g3, g4, g5⟩ := op_sim hQ h.r hE fc
      have := hK _ _ _ _ (h.pended hok hx hxr hpre f g3 g5.sub g4 (h.ext.trans g5) (.inl ⟨rfl, nomk (by rw [hcl]; simp)⟩))
      unfold Oper.wp
      rw [g1]
      rcases g2 with g2 | ⟨g2, g6⟩
      · subst g2; exact this
      · subst g2; subst g6; exact this
    | rd =>
      rw [hcl] at fc
      obtain ⟨_, fc⟩ := fc
      rw [opA_looks cut_eq] at fc
      have hw := h.view hpre
      obtain ⟨nx, u, w', α', g1, g2, g3, g4, g5⟩ := op_sim hQ (h.r.weak hw) hE fc
      have back : ∀ j o, Hb.get j = some o → o = .dead ∨ (matP pl (bef pl x) H0.n mk H).get j = some o ∨ (j < (matP pl (bef pl x) H0.n mk H).n ∧ (matP pl (bef pl x) H0.n mk H).get j = some .dead ∧ Hb.get j = some o) := by
        intro j o' hj
        have hlt : j < (matP pl (bef pl x) H0.n mk H).n := by rw [hw.n]; exact Heap.get_lt hj
        obtain ⟨o2, ho2⟩ := Heap.get_of_lt hlt
        rcases hw.obj j o2 ho2 with rfl | e
        · exact .inr (.inr ⟨hlt, ho2, hj⟩)
        · rw [hj] at e; cases e; exact .inr (.inl ho2)
      have r2 := h.r.back hw g4 g5 hw.n.symm back
      have x2 := Ext.back hw g5 hw.n.symm back fun _ hj => hj
      have := hK _ _ _ _ (h.pended hok hx hxr hpre f g3 g5.sub r2 (h.ext.trans x2) (.inl ⟨rfl, nomk (by rw [hcl]; simp)⟩))
      unfold Oper.wp
      rw [g1]
      rcases g2 with g2 | ⟨g2, g6⟩
      · subst g2; exact this
      · subst g2; subst g6; exact this
    | mk =>
      rw [hcl] at fc
      obtain ⟨obj, fc, hm⟩ := fc
      rw [opA_looks cut_eq] at fc
      have hub := h.hmk x obj hm
      rw [hbx, if_neg (by simp)] at hub
      have hnone : α (idOf pl H0 x) = none := h.r.obj _ _ hub
      obtain ⟨u, O, L, g1, g2, g3, g4, g5⟩ := mk_any (base := base) (w := w) o.op hcl rfl fc h.r.bs hnone hE
      have := hK _ _ _ _ (h.pended hok hx hxr hpre f g3 (sub_upd hnone) (h.r.born hub g2 g4) (h.ext.born (by unfold idOf; omega) (Heap.get_lt hub) hnone g2 g5) (.inr ⟨obj, rfl, hm⟩))
      unfold Oper.wp
      rw [g1]
      exact this
    | md => rw [hcl] at fc; exact fc.elim

/-- The head, an operation that turns the heap, has been done. -/
theorem Inv.headed (hok : Ok ops pl) {m : Nat} {r : List Nat} (h : Inv P eqs N ops pl base K lk0 H0 α0 w0 b (m :: r) lk H mk pd Hb α a w) {o : Oper} (ho : ops[m]? = some o) (hcm : clsAt ops m = .md) (hd : dOk N o.dst = true)
    (hpre : ∀ j, bef pl m j = true → b j = true) {v : AV} {u : Value} {H' : Heap} {mk' : List (Nat × AObj)} {pd' : Pend} {Hb' : Heap} {α' : Al} {w' : World}
    (hob : wpD P eqs N ops pl H0.n K r (putF lk o.dst v) H' mk' pd') (hm1 : ∀ y obj, (y, obj) ∈ mk' → (y, obj) ∈ mk) (hm2 : ∀ y obj, (y, obj) ∈ mk → b y = false → (y, obj) ∈ mk')
    (hp : ∀ p ∈ pd, b p.1 = false → p ∈ pd' ∧ (recheck P eqs ops pl H0.n H mk p → recheck P eqs ops pl H0.n H' mk' p))
    (hd1 : ∀ y obj, (y, obj) ∈ mk' → H'.get (idOf pl H0 y) = some .dead ∧ Hb'.get (idOf pl H0 y) = Hb.get (idOf pl H0 y))
    (hd2 : ∀ y ∈ r, clsAt ops y = .mk → H'.get (idOf pl H0 y) = some .dead ∧ Hb'.get (idOf pl H0 y) = some .unborn) (hn : Hb'.n = H'.n) (hb' : ∀ j o, H'.get j = some o → o = .dead ∨ Hb'.get j = some o)
    (hv : VR α' v u) (hs : Sub α α') (hR : R P base Hb' α' w') (hX : Ext H0 α0 w0 Hb' α' w') (hdd : ∀ j, H0.get j = some .dead → H'.get j = some .dead) :
    Inv P eqs N ops pl base K lk0 H0 α0 w0 (and1 b m) r (putF lk o.dst v) H' mk' pd' Hb' α' (a.put o.dst u) w' := by
  have oc := okS_cons h.oks
  have hgd := gdst_of ho
  have hmr : m ∉ r := fun hm => (oc.pair m hm).ne rfl
  have uniq : ∀ k s, k < ops.length → gdst ops m = some s → gdst ops k = some s → k = m := fun k s hk h1 h2 => by
    by_cases e : k = m
    · exact e
    · exact absurd h2 ((hok.pair oc.lt hk (Ne.symm e)).dst s h1)
  have old : ∀ {s v}, (∃ u, a.tmps[s]? = some u ∧ VR α v u) → o.dst ≠ some s → ∃ u', (a.put o.dst u).tmps[s]? = some u' ∧ VR α' v u' := by
    rintro s v ⟨u', h1, h2⟩ hne
    exact ⟨u', by rw [put_get hd h.size, if_neg hne]; exact h1, h2.mono hs⟩
  refine ⟨hob, oc.rest, ?_, ?_, ?_, ?_, ?_, ?_, ?_, by rw [put_size]; exact h.size, by rw [put_defers']; exact h.defers, ?_, fun y obj hm => (hd1 y obj hm).1, fun y o1 o2 g1 g2 => h.mku y o1 o2 (hm1 _ _ g1) (hm1 _ _ g2), hd2, hn, ?_, hb', hR, hX, hdd⟩
  · intro i hi
    rw [and1_ne (fun e => hmr (by rw [← e]; exact hi))]
    exact h.nb i (by simp [hi])
  · intro i j hi hb hij
    by_cases e : i = m
    · subst e
      have := hpre j hij
      simp [and1, this]
    · rw [and1_ne e] at hb
      have := h.cl i j hi hb hij
      simp [and1, this]
  · intro k hk hkr y hy
    by_cases e : k = m
    · subst e; exact oc.nb y hy
    · exact h.pre k hk (by simp [e, hkr]) y (by simp [hy])
  · intro s hs'
    have hne : o.dst ≠ some s := fun e => hmr (hs' m oc.lt (by rw [hgd, e]))
    rw [putF_ne hne]
    exact h.lk7 s fun k hk hg => by simp [hs' k hk hg]
  · intro x hx hxr hbx
    obtain ⟨hbx, hxm⟩ := and1_false hbx
    have hxr' : x ∉ m :: r := by simp [hxm, hxr]
    obtain ⟨o', lkx, v', t', f⟩ := h.facts x hx hxr' hbx
    have hdist : ∀ s, gdst ops x = some s → o.dst ≠ some s := fun s h1 h2 => hxm (uniq x s hx (by rw [hgd, h2]) h1)
    refine ⟨o', lkx, v', t', f.op, f.dst, ?_, f.look2, f.want, ?_, ?_⟩
    · intro s hs' k hk hb hg
      have hne : o.dst ≠ some s := fun e' => by
        have := uniq k s hk (by rw [hgd, e']) hg
        subst this; rw [h.pre x hx hxr' k (by simp)] at hb; cases hb
      rw [putF_ne hne]; exact f.look1 s hs' k hk hb hg
    · intro d hd'
      rw [putF_ne (hdist d (by rw [gdst_of f.op, hd']))]; exact f.val d hd'
    · have fc := f.cls
      split at fc
      · rename_i ht'
        rw [if_pos ht']
        split at fc
        · exact fc
        · obtain ⟨q1, q2⟩ := hp _ fc.1 hbx
          obtain ⟨o2, k1, k2⟩ := q2 ⟨o', f.op, fc.2⟩
          rw [f.op] at k1; cases k1
          exact ⟨q1, k2⟩
        · obtain ⟨obj, q1, q2⟩ := fc; exact ⟨obj, q1, hm2 _ _ q2 hbx⟩
        · exact fc
      · rename_i ht'
        rw [if_neg ht']
        exact ⟨fc.1, fun obj hm => fc.2 obj (hm1 _ _ hm)⟩
  · rintro s v' ⟨k, hk, hg, hkr, hkb⟩ hs'
    obtain ⟨hkb, hkm⟩ := and1_false hkb
    refine old (h.env1 s v' ⟨k, hk, hg, by simp [hkm, hkr], hkb⟩ hs') fun e => hkm (uniq k s hk (by rw [hgd, e]) hg)
  · intro s v' hw hs'
    by_cases e : o.dst = some s
    · rw [e, putF_self] at hs'
      cases hs'
      exact ⟨u, by rw [put_get hd h.size, if_pos e], hv⟩
    · rw [putF_ne e] at hs'
      refine old (h.env2 s v' ?_ hs') e
      rintro ⟨k, hk, hg, hkr, hkb⟩
      have hkm : k ≠ m := fun e => hkr (by simp [e])
      exact hw ⟨k, hk, hg, fun hm => hkr (by simp [hm]), by rw [and1_ne hkm]; exact hkb⟩
  · intro y obj hm
    obtain ⟨q1, q2, q3⟩ := h.mkl y obj (hm1 _ _ hm)
    exact ⟨q1, fun hm' => q2 (by simp [hm']), q3⟩
  · intro y obj hm
    have hy := h.mkl y obj (hm1 _ _ hm)
    rw [(hd1 y obj hm).2, and1_ne (fun e => by subst e; rw [hcm] at hy; cases hy.2.2)]
    exact h.hmk y obj (hm1 _ _ hm)

theorem Inv.head (hQ : EqsOk P eqs) (hok : Ok ops pl) {m : Nat} {r : List Nat} (h : Inv P eqs N ops pl base K lk0 H0 α0 w0 b (m :: r) lk H mk pd Hb α a w) (hcm : clsAt ops m = .md)
    (hpre : ∀ j, bef pl m j = true → b j = true) {opsA : Array Oper} (hops : opsA.toList = ops) {Kt : Act → World → Prop} {Q : Exit → Act → World → Prop}
    (hK : ∀ lk' H' mk' pd' Hb' α' a' w', Inv P eqs N ops pl base K lk0 H0 α0 w0 (and1 b m) r lk' H' mk' pd' Hb' α' a' w' → Kt a' w') : wpOp P opsA Q m Kt a w := by
  have oc := okS_cons h.oks
  obtain ⟨o, ho, hd, t, ht, hob⟩ := h.ob
  have hbm : b m = false := h.nb m (by simp)
  -- what it looks at stands in the slots
  have hE : EnvR α (cutL (looks ops o) lk) a := by
    refine cut_env fun s hs v hv => ?_
    refine h.env2 s v ?_ hv
    rintro ⟨k, hk, hg, hkr, hkb⟩
    have hne : m ≠ k := fun e => hkr (by simp [e])
    rcases (hok.pair oc.lt hk hne).slot with g | g | ⟨_, g⟩
    · rw [h.pre k hk hkr m (by simp)] at g; cases g
    · rw [hpre k g] at hkb; cases hkb
    · exact g s hg (by rw [looksAt_of ho]; exact hs)
  have hoA : opsA[m]? = some o := by rw [← Array.getElem?_toList, hops]; exact ho
  have hwant : Region.wanted o (yielded opsA a.tmps) = t := by
    refine wantA_sim hE ?_
    rw [hops, ← wantA_looks (cut_eq (l := looks ops o) (lk := lk))]; exact ht
  have hmk1 : ∀ y obj, (y, obj) ∈ mk → idOf pl H0 y < H.n := h.id_lt
  unfold wpOp
  rw [hoA]
  simp only [hwant]
  cases t with
  | false =>
    rw [if_neg (by simp)] at hob
    rw [if_neg (by simp)]
    exact hK _ _ _ _ _ _ _ _ (h.headed hok ho hcm hd hpre hob (fun _ _ h => h) (fun _ _ h _ => h) (fun p hp _ => ⟨hp, fun h => h⟩) (fun y obj hm => ⟨h.mkd y obj hm, rfl⟩) (fun y hy hc => h.rst y (by simp [hy]) hc) h.hn h.hob
      (VR_undef α) (Sub.refl _) h.r h.ext h.dd)
  | true =>
    rw [if_pos rfl] at hob
    rw [if_pos rfl]
    refine .inl ?_
    rw [clsAt_of ho] at hcm
    rw [hcm] at hob
    have hop := opP_looks (cut_eq (l := looks ops o) (lk := lk)) hob
    have hw := h.view hpre
    refine opP_sim hQ (H := matP pl (bef pl m) H0.n mk H) (lk := cutL (looks ops o) lk) (St.mk (P := P) (N := N) (base := base) (h.r.weak hw) hE h.size h.defers) hop fun v u H' α' w' g1 g2 g3 g4 => ?_
    obtain ⟨g5, g6⟩ := g1
    obtain ⟨Hb', e1, e2⟩ := exists_heap (fun j => match (matP pl (bef pl m) H0.n mk H).get j with
      | some .dead => (Hb.get j).getD .dead
      | _ => (H'.get j).getD .dead) H'.n
    have hkeepv : ∀ y, y < ops.length → clsAt ops y = .mk → bef pl m y = false → (matP pl (bef pl m) H0.n mk H).get (idOf pl H0 y) = H.get (idOf pl H0 y) := by
      intro y hy hc hb
      refine matP_keep h.id_lt fun z obj hz hbz e => ?_
      have hne : z ≠ y := fun e => by subst e; rw [hb] at hbz; cases hbz
      have hz' := h.mkl z obj hz
      exact (hok.pair hz'.1 hy hne).rk hz'.2.2 hc (by unfold idOf at e; omega)
    have hdead : ∀ j, (matP pl (bef pl m) H0.n mk H).get j = some .dead → H'.get j = some .dead ∧ Hb'.get j = Hb.get j := by
      intro j hj
      have hj' := g4.dead j hj
      refine ⟨hj', ?_⟩
      rw [e2 j (Heap.get_lt hj')]
      simp only [hj]
      obtain ⟨o2, ho2⟩ := Heap.get_of_lt (H := Hb) (i := j) (by rw [← hw.n]; exact Heap.get_lt hj)
      rw [ho2]; rfl
    have hlive : ∀ j o', Hb'.get j = some o' → (matP pl (bef pl m) H0.n mk H).get j ≠ some .dead → H'.get j = some o' := by
      intro j o' hj hnd
      have hjl : j < H'.n := by rw [← e1]; exact Heap.get_lt hj
      rw [e2 j hjl] at hj
      obtain ⟨o2, ho2⟩ := Heap.get_of_lt hjl
      rw [ho2] at hj ⊢
      split at hj
      · exact absurd ‹_› hnd
      · exact hj
    have hO : ∀ j o', Hb'.get j = some o' → o' = .dead ∨ H'.get j = some o' ∨ (j < (matP pl (bef pl m) H0.n mk H).n ∧ (matP pl (bef pl m) H0.n mk H).get j = some .dead ∧ Hb.get j = some o') := by
      intro j o' hj
      by_cases hnd : (matP pl (bef pl m) H0.n mk H).get j = some .dead
      · rw [(hdead j hnd).2] at hj
        exact .inr (.inr ⟨Heap.get_lt hnd, hnd, hj⟩)
      · exact .inr (.inl (hlive j o' hj hnd))
    have r2 := h.r.back hw g3 g4 e1 hO
    have x2 := Ext.back hw g4 e1 hO fun j hj => by
      have hjl : j < (matP pl (bef pl m) H0.n mk H).n := by rw [hw.n]; exact Heap.get_lt hj
      obtain ⟨o2, ho2⟩ := Heap.get_of_lt hjl
      have : o2 = .dead := by
        rcases hw.obj j o2 ho2 with e | e
        · exact e
        · rw [hj] at e; cases e; rfl
      subst this
      rw [(hdead j ho2).2]; exact hj
    refine hK _ _ _ _ _ _ _ _ (h.headed hok ho (by rw [clsAt_of ho]; exact hcm) hd hpre g6 (fun y obj hm => (List.mem_filter.1 hm).1) (fun y obj hm hby => ?_) (fun p hp hbp => ?_) (fun y obj hm => ?_) (fun y hy hc => ?_) e1 ?_ g2 g4.sub r2 (h.ext.trans x2) fun j hj => g4.dead j (by
      have := Heap.get_lt hj
      rw [matP_keep h.id_lt fun z obj _ _ => by omega]; exact h.dd j hj))
    · refine List.mem_filter.2 ⟨hm, ?_⟩
      cases hb : bef pl m y with
      | false => rfl
      | true => rw [hpre y hb] at hby; cases hby
    · have hb : bef pl m p.1 = false := by
        cases hb : bef pl m p.1 with
        | false => rfl
        | true => rw [hpre _ hb] at hbp; cases hbp
      exact ⟨List.mem_filter.2 ⟨hp, by simp [hb]⟩, fun _ => g5 p hp hb⟩
    · obtain ⟨hm1, hm2⟩ := List.mem_filter.1 hm
      have hl := h.mkl y obj hm1
      have hv := hkeepv y hl.1 hl.2.2 (by simpa using hm2)
      rw [h.mkd y obj hm1] at hv
      exact hdead _ hv
    · have hyl := (okS_each oc.rest y hy).1
      have hv := hkeepv y hyl hc (oc.nb y hy)
      obtain ⟨q1, q2⟩ := h.rst y (by simp [hy]) hc
      rw [q1] at hv
      obtain ⟨k1, k2⟩ := hdead _ hv
      exact ⟨k1, by rw [k2]; exact q2⟩
    · intro j o' hj
      by_cases hnd : (matP pl (bef pl m) H0.n mk H).get j = some .dead
      · rw [(hdead j hnd).1] at hj; cases hj; exact .inl rfl
      · have hjl := Heap.get_lt hj
        refine .inr ?_
        rw [e2 j hjl]
        split
        · exact absurd ‹_› hnd
        · rw [hj]; rfl

/-- All is done. -/
theorem Inv.fin (h : Inv P eqs N ops pl base K lk0 H0 α0 w0 b [] lk H mk pd Hb α a w) (hall : ∀ i, i < ops.length → b i = true) :
    ∃ Hf, K lk Hf ∧ St P N base Hf α w lk a ∧ Ext H0 α0 w0 Hf α w := by
  have hw : Weak (matP pl (fun _ => true) H0.n mk H) Hb := by
    refine ⟨by rw [matP_n, h.hn], fun j o hj => ?_⟩
    rcases matP_get h.id_lt hj with ⟨y, h1, _, h3⟩ | h1
    · have := h.hmk y o h1
      rw [hall y (h.mkl y o h1).1, if_pos rfl] at this
      rw [← h3]; exact .inr this
    · exact h.hob j o h1
  refine ⟨_, h.ob, ⟨h.r.weak hw, fun s v hs => h.env2 s v ?_ hs, h.size, h.defers⟩, h.ext.weak hw fun j hj => by
    have := Heap.get_lt hj
    rw [matP_keep h.id_lt fun z obj _ _ => by omega]; exact h.dd j hj⟩
  rintro ⟨k, hk, _, _, hkb⟩
  rw [hall k hk] at hkb; cases hkb
end
end Go.Ea
end

/-
  THE ENGINE, part 12: the rule for regions whose order is drawn. Over any program. Written in this session.
-/
section
namespace Go.Ea

section
variable {P : Program} {eqs : Eqs} {N : Nat} {pl : Plan} {base : Nat} {K : Env → Heap → Prop} {lk0 : Env} {H0 : Heap} {α0 : Al} {w0 : World}

/-- Which ones are listed. -/
def lst (listed : Array Bool) : Nat → Bool := fun i => listed.getD i false
theorem lst_set {listed : Array Bool} {i : Nat} (hi : i < listed.size) : lst (listed.setIfInBounds i true) = and1 (lst listed) i := by
  funext j
  unfold lst
  by_cases e : j = i
  · subst e; rw [and1_self]; simp [hi]
  · rw [and1_ne e]; simp [Array.getElem?_setIfInBounds_ne (Ne.symm e)]

theorem inv_any (hQ : EqsOk P eqs) {ops : Array Oper} (hok : Ok ops.toList pl)
    {Q : Exit → Act → World → Prop} (hK : ∀ lk' H' α' a' w', K lk' H' → St P N base H' α' w' lk' a' → Ext H0 α0 w0 H' α' w' → Q .normal a' w') :
    ∀ (fuel : Nat) (listed : Array Bool) (U : List Nat) (rest : List Nat) (lk : Env) (H : Heap) (mk : List (Nat × AObj)) (pd : Pend) (Hb : Heap) (α : Al) (a : Act) (w : World),
      listed.size = ops.size → U.Nodup → (∀ i, i ∈ U ↔ i < ops.size ∧ lst listed i = false) → U.length ≤ fuel → (∀ i o, ops[i]? = some o → lst listed i = true → ∀ e ∈ o.after, Region.binds .any e = true → lst listed e.on = true) →
      Stop ops.toList rest → Inv P eqs N ops.toList pl base K lk0 H0 α0 w0 (lst listed) rest lk H mk pd Hb α a w → wpAny P .any ops Q fuel listed a w := by
  intro fuel
  induction fuel with
  | zero =>
    intro listed U rest lk H mk pd Hb α a w hsz hnd hU hlen hcl hstop h
    have hU0 : U = [] := by cases U with
      | nil => rfl
      | cons _ _ => simp at hlen
    have hall : ∀ i, i < ops.size → lst listed i = true := fun i hi => by
      cases e : lst listed i with
      | true => rfl
      | false => have := (hU i).2 ⟨hi, e⟩; rw [hU0] at this; cases this
    refine ⟨?_, ?_⟩
    · cases hr : Region.ready .any ops listed with
      | nil => rfl
      | cons j _ =>
        have hj : j ∈ Region.ready .any ops listed := by rw [hr]; simp
        obtain ⟨h1, o, ho, _⟩ := mem_ready.1 hj
        have hjl := (Array.getElem?_eq_some_iff.1 ho).1
        have h2 := hall j hjl
        unfold lst at h2
        rw [Array.getD_eq_getD_getElem?, Array.getElem?_eq_getElem (by rw [hsz]; exact hjl)] at h1 h2
        simp at h1 h2
        rw [h1] at h2; cases h2
    · have hre : rest = [] := by
        cases rest with
        | nil => rfl
        | cons m r =>
          have := h.nb m (by simp)
          rw [hall m (by simpa using (okS_cons h.oks).lt)] at this; cases this
      subst hre
      obtain ⟨Hf, k1, k2, k3⟩ := h.fin (fun i hi => hall i (by simpa using hi))
      exact hK _ _ _ _ _ k1 k2 k3
  | succ fuel ih =>
    intro listed U rest lk H mk pd Hb α a w hsz hnd hU hlen hcl hstop h
    refine ⟨fun hr => ?_, fun i hi => ?_⟩
    · -- nothing is ready: all is done
      have hall : ∀ l, okS ops.toList pl l = true → (∀ k, k < ops.size → k ∉ l → lst listed k = true) → ∀ i ∈ l, lst listed i = true := by
        intro l
        induction l with
        | nil => intro _ _ i hi; cases hi
        | cons x r ihl =>
          intro hs hd
          have hc := okS_cons hs
          have hio : x < ops.size := by simpa using hc.lt
          have hx : lst listed x = true := by
            cases e : lst listed x with
            | true => rfl
            | false =>
              exfalso
              have ho := Array.getElem?_eq_getElem hio
              have : x ∈ Region.ready .any ops listed := by
                refine mem_ready.2 ⟨?_, _, ho, fun e' he hb => ?_⟩
                · unfold lst at e
                  rw [Array.getD_eq_getD_getElem?, Array.getElem?_eq_getElem (by rw [hsz]; exact hio)] at e ⊢
                  exact e
                · obtain ⟨hl1, hl2⟩ := hok.edge x _ (by rw [Array.getElem?_toList]; exact ho) e' he hb
                  refine hd e'.on (by simpa using hl1) fun hm => ?_
                  rcases List.mem_cons.1 hm with h0 | h0
                  · have := hc.self; rw [h0] at hl2; rw [hl2] at this; cases this
                  · have := hc.nb _ h0; rw [hl2] at this; cases this
              rw [hr] at this; cases this
          intro i hi
          rcases List.mem_cons.1 hi with rfl | hi
          · exact hx
          · refine ihl hc.rest (fun k hk hkr => ?_) i hi
            by_cases e : k = x
            · rw [e]; exact hx
            · exact hd k hk (fun hm => (List.mem_cons.1 hm).elim e hkr)
      have hall : ∀ i, i < ops.size → lst listed i = true := fun i hi => by
        by_cases hm : i ∈ pl.sched
        · exact hall pl.sched hok.okS (fun k hk hkr => absurd (hok.all k (by simpa using hk)) hkr) i hm
        · exact absurd (hok.all i (by simpa using hi)) hm
      have hre : rest = [] := by
        cases rest with
        | nil => rfl
        | cons m r =>
          have := h.nb m (by simp)
          rw [hall m (by simpa using (okS_cons h.oks).lt)] at this; cases this
      subst hre
      obtain ⟨Hf, k1, k2, k3⟩ := h.fin (fun i hi => hall i (by simpa using hi))
      exact hK _ _ _ _ _ k1 k2 k3
    · obtain ⟨h1, o, ho, hpr⟩ := mem_ready.1 hi
      have hio := (Array.getElem?_eq_some_iff.1 ho).1
      have hib : lst listed i = false := by
        unfold lst
        rw [Array.getD_eq_getD_getElem?, Array.getElem?_eq_getElem (by rw [hsz]; exact hio)] at h1 ⊢
        exact h1
      have hoL : ops.toList[i]? = some o := by rw [Array.getElem?_toList]; exact ho
      have hpre : ∀ j, bef pl i j = true → lst listed j = true := by
        intro j hj
        obtain ⟨e, he, hb, hor⟩ := hok.bef i o hoL j hj
        have hon : lst listed e.on = true := hpr e he hb
        rcases hor with rfl | hor
        · exact hon
        · exact h.cl e.on j (by have := (hok.edge i o hoL e he hb).1; simpa using this) hon hor
      have hiU : i ∈ U := (hU i).2 ⟨hio, hib⟩
      have next : ∀ rest' lk' H' mk' pd' Hb' α' a' w', Inv P eqs N ops.toList pl base K lk0 H0 α0 w0 (and1 (lst listed) i) rest' lk' H' mk' pd' Hb' α' a' w' →
          wpAny P .any ops Q fuel (listed.setIfInBounds i true) a' w' := by
        intro rest' lk' H' mk' pd' Hb' α' a' w' h'
        rw [← lst_set (by rw [hsz]; exact hio)] at h'
        obtain ⟨rest2, lk2, mk2, pd2, hst, h2⟩ := h'.stop hok
        refine ih _ (U.erase i) rest2 lk2 H' mk2 pd2 Hb' α' a' w' (by simp [hsz]) (hnd.erase i) (fun j => ?_) (by rw [List.length_erase_of_mem hiU]; omega) (fun j oj hj hl e he hb => ?_) hst h2
        · rw [hnd.mem_erase_iff, hU j, lst_set (by rw [hsz]; exact hio)]
          constructor
          · rintro ⟨q1, q2, q3⟩; exact ⟨q2, by rw [and1_ne q1]; exact q3⟩
          · rintro ⟨q1, q2⟩; obtain ⟨q3, q4⟩ := and1_false q2; exact ⟨q4, q1, q3⟩
        · rw [lst_set (by rw [hsz]; exact hio)] at hl ⊢
          by_cases ej : j = i
          · subst ej
            rw [ho] at hj; cases hj
            have : lst listed e.on = true := hpr e he hb
            simp [and1, this]
          · rw [and1_ne ej] at hl
            have := hcl j oj hj hl e he hb
            simp [and1, this]
      by_cases hir : i ∈ rest
      · cases rest with
        | nil => cases hir
        | cons m r =>
          have hmi : i = m := by
            rcases List.mem_cons.1 hir with e | e
            · exact e
            · exfalso
              have hb := (okS_cons h.oks).md hstop i e
              have := hpre m hb
              rw [h.nb m (by simp)] at this; cases this
          subst hmi
          exact h.head hQ hok hstop hpre rfl fun lk' H' mk' pd' Hb' α' a' w' h' => next _ _ _ _ _ _ _ _ _ h'
      · exact h.pend hQ hok (by simpa using hio) hir hib hpre rfl fun Hb' α' a' w' h' => next _ _ _ _ _ _ _ _ _ h'

/-- THE RULE. -/
theorem regD_of_plan (hQ : EqsOk P eqs) {ops : Array Oper} {lk : Env} {H : Heap} (hok : okP ops.toList pl = true) (h : wpD P eqs N ops.toList pl H.n K pl.sched lk (resv H pl.M) [] []) : RegD P N ops K lk H := by
  intro base α a w Q hS hK
  have hok := okP_spec hok
  -- places kept free
  obtain ⟨Hu, e1, e2⟩ := exists_heap (fun j => if j < H.n then (H.get j).getD .dead else .unborn) (H.n + pl.M)
  have hlo : ∀ j, j < H.n → Hu.get j = H.get j := fun j hj => by
    rw [e2 j (by omega), if_pos hj]
    obtain ⟨o, ho⟩ := Heap.get_of_lt hj
    rw [ho]; rfl
  have hhi : ∀ j, H.n ≤ j → j < H.n + pl.M → Hu.get j = some .unborn := fun j h1 h2 => by rw [e2 j h2, if_neg (by omega)]
  have low : ∀ {j o}, Hu.get j = some o → o.live = true → H.get j = some o := fun {j o} hj hl => by
    by_cases hjn : j < H.n
    · rw [← hlo j hjn]; exact hj
    · have := Heap.get_lt hj
      rw [hhi j (by omega) (by omega)] at hj; cases hj; cases hl
  have hRu : R P base Hu α w := by
    refine ⟨hS.r.bs, fun i hi => hS.r.dom i (by omega), fun j o hj => ?_, fun i j oi oj Li Lj hij hi hri hj hlj hLi hLj => hS.r.sep i j oi oj Li Lj hij (low hi (AObj.live_of_rw hri)) hri (low hj hlj) hlj hLi hLj⟩
    by_cases hjn : j < H.n
    · exact hS.r.obj j o (by rw [← hlo j hjn]; exact hj)
    · have := Heap.get_lt hj
      rw [hhi j (by omega) (by omega)] at hj; cases hj
      exact hS.r.dom j (by omega)
  have sets : ∀ (f : AObj → Bool), f .dead = false → f .unborn = false → ∀ k, blkset f Hu α k → blkset f H α k := by
    intro f h1 h2 k hk
    obtain ⟨j, o, L, g1, g2, g3, g4⟩ := hk
    by_cases hjn : j < H.n
    · exact ⟨j, o, L, by rw [← hlo j hjn]; exact g1, g2, g3, g4⟩
    · have := Heap.get_lt g1
      rw [hhi j (by omega) (by omega)] at g1; cases g1; rw [h2] at g2; cases g2
  have hXu : Ext H α w Hu α w := ⟨rfl, rfl, rfl, Nat.le_refl _, by omega, Sub.refl _, fun _ _ => rfl, fun _ _ _ => rfl, fun k _ hk => sets _ rfl rfl k hk, fun k _ hk => sets _ rfl rfl k hk, fun j hj => (by rw [hlo j (Heap.get_lt hj)]; exact hj), fun _ => rfl⟩
  have hid : ∀ x, x < ops.toList.length → H.n ≤ idOf pl H x ∧ idOf pl H x < H.n + pl.M := fun x hx => by
    have := hok.rk hx
    unfold idOf; omega
  have hl0 : ∀ i, lst (Array.replicate ops.size false) i = false := fun i => by
    unfold lst
    rw [Array.getD_eq_getD_getElem?]
    simp only [Array.getElem?_replicate]
    split <;> rfl
  have inv0 : Inv P eqs N ops.toList pl base K lk H α w (lst (Array.replicate ops.size false)) pl.sched lk (resv H pl.M) [] [] Hu α a w := by
    refine ⟨h, hok.okS, fun i _ => hl0 i, fun i j _ hb => (by rw [hl0 i] at hb; cases hb), fun k hk hkr => absurd (hok.all k hk) hkr, fun _ _ => rfl, fun x hx hxr => absurd (hok.all x hx) hxr, ?_, fun s v _ hs => hS.env s v hs, hS.size, hS.defers,
      fun _ _ h => (by cases h), fun _ _ h => (by cases h), fun _ _ _ h => (by cases h), fun x hx hc => ?_, by rw [resv_n]; exact e1, fun _ _ h => (by cases h), fun j o hj => ?_, hRu, hXu, fun j hj => ?_⟩
    · rintro s v ⟨k, hk, _, hkr, _⟩ _
      exact absurd (hok.all k hk) hkr
    · have hx' := hid x (okS_each hok.okS x hx).1
      exact ⟨by rw [resv_get, if_neg (by omega), if_pos (by omega)], hhi _ hx'.1 hx'.2⟩
    · rw [resv_get] at hj
      split at hj
      · rename_i hjn
        rw [hlo j hjn]; exact .inr hj
      · split at hj
        · cases hj; exact .inl rfl
        · cases hj
    · rw [resv_get, if_pos (Heap.get_lt hj)]; exact hj
  obtain ⟨rest2, lk2, mk2, pd2, hst, h2⟩ := inv0.stop hok
  refine inv_any hQ hok hK ops.size _ (List.range ops.size) rest2 lk2 _ mk2 pd2 Hu α a w (by simp) List.nodup_range (fun i => by rw [hl0 i]; simp) (by simp) (fun i o _ hl => by rw [hl0 i] at hl; cases hl) hst h2
end
end Go.Ea
end

/-
  THE ENGINE, part 13: an evaluator for closed calls, and that what it gives is a contract. Over any program. Written in this session.
-/
section
namespace Go.Ea

/-! ### equal values -/
noncomputable def eqAT : AT → AT → Bool
  | .bool a, .bool b => a == b
  | .int k a, .int k' b => decide (k = k') && decide (a = b)
  | .str x, .str y => eqS x y
  | .ptr a, .ptr b => decide (a = b)
  | .slice a n, .slice b m => decide (a = b) && Nat.beq n m
  | .map a, .map b => decide (a = b)
  | .fn f cs, .fn g ds => Nat.beq f g && decide (cs = ds)
  | .nilFn, .nilFn => true
  | .nilIf, .nilIf => true
  | _, _ => false
theorem eqAT_sound {a b : AT} (h : eqAT a b = true) : a = b := by
  cases a <;> cases b <;> simp_all [eqAT, eqS_eq]
noncomputable def eqATs : List AT → List AT → Bool
  | [], [] => true
  | a :: l, b :: m => eqAT a b && eqATs l m
  | _, _ => false
theorem eqATs_sound : ∀ {l m : List AT}, eqATs l m = true → l = m
  | [], [], _ => rfl
  | a :: l, b :: m, h => by
    simp only [eqATs, Bool.and_eq_true] at h
    rw [eqAT_sound h.1, eqATs_sound h.2]
  | [], _ :: _, h => by cases h
  | _ :: _, [], h => by cases h
noncomputable def eqA1 : A1 → A1 → Bool
  | .at a, .at b => eqAT a b
  | .agg l, .agg m => eqATs l m
  | _, _ => false
theorem eqA1_sound {a b : A1} (h : eqA1 a b = true) : a = b := by
  cases a <;> cases b <;> simp only [eqA1] at h
  · rw [eqAT_sound h]
  · cases h
  · cases h
  · rw [eqATs_sound h]
noncomputable def eqA1s : List A1 → List A1 → Bool
  | [], [] => true
  | a :: l, b :: m => eqA1 a b && eqA1s l m
  | _, _ => false
theorem eqA1s_sound : ∀ {l m : List A1}, eqA1s l m = true → l = m
  | [], [], _ => rfl
  | a :: l, b :: m, h => by
    simp only [eqA1s, Bool.and_eq_true] at h
    rw [eqA1_sound h.1, eqA1s_sound h.2]
  | [], _ :: _, h => by cases h
  | _ :: _, [], h => by cases h
noncomputable def eqAV : AV → AV → Bool
  | .one a, .one b => eqA1 a b
  | .tup l, .tup m => eqA1s l m
  | _, _ => false
theorem eqAV_sound {a b : AV} (h : eqAV a b = true) : a = b := by
  cases a <;> cases b <;> simp only [eqAV] at h
  · rw [eqA1_sound h]
  · cases h
  · cases h
  · rw [eqA1s_sound h]

/-! ### the evaluator -/
abbrev Orc := Nat → List AV → Heap → Option (AV × Heap)
abbrev PendE := List (Nat × Tr AV × AV)
noncomputable def putE (env : Tr AV) : Option Nat → AV → Tr AV
  | some d, v => env.put d v
  | none, _ => env
theorem putE_get (env : Tr AV) (d : Option Nat) (v : AV) : (putE env d v).get = putF env.get d v := by
  cases d with
  | none => rfl
  | some d => funext j; exact Tr.get_put env d j v
section
variable (P : Program) (eqs : Eqs) (K : Orc)
noncomputable def evOp (op : Op) (env : Tr AV) (H : Heap) : Option (AV × Heap) := match opA op P eqs env.get H with
  | some (.val v H') => some (v, H')
  | some (.call f args) => K f args H
  | none => none
noncomputable def evOps (ops : List Oper) (l : List Oper) : Tr AV → Heap → Option (Tr AV × Heap) :=
  List.rec (motive := fun _ => Tr AV → Heap → Option (Tr AV × Heap)) (fun env H => some (env, H))
    (fun o _ ih env H => match wantA ops env.get o with
      | some true => match evOp P eqs K o.op env H with
        | some (v, H') => ih (putE env o.dst v) H'
        | none => none
      | some false => ih (putE env o.dst .undef) H
      | none => none) l
noncomputable def rechk (ops : List Oper) (pl : Plan) (n0 : Nat) (i : Nat) (H : Heap) (mk : List (Nat × AObj)) (pd : PendE) : Bool :=
  List.rec (motive := fun _ => Bool) true (fun p _ ih => (bef pl i p.1 || match ops[p.1]? with
    | some o => match opA o.op P eqs p.2.1.get (matP pl (bef pl p.1) n0 mk H) with
      | some (.val v _) => isCls (clsOf o.op) .rd && eqAV v p.2.2
      | _ => false
    | none => false) && ih) pd
noncomputable def evD (ops : List Oper) (pl : Plan) (n0 : Nat) (l : List Nat) : Tr AV → Heap → List (Nat × AObj) → PendE → Option (Tr AV × Heap) :=
  List.rec (motive := fun _ => Tr AV → Heap → List (Nat × AObj) → PendE → Option (Tr AV × Heap)) (fun env H mk _ => some (env, matP pl (fun _ => true) n0 mk H))
    (fun i _ ih env H mk pd => match ops[i]? with
      | some o => match wantA ops env.get o with
        | some true => match clsOf o.op with
          | .loc => match opA o.op P eqs env.get H with
            | some (.val v _) => ih (putE env o.dst v) H mk pd
            | _ => none
          | .rd => match opA o.op P eqs env.get (matP pl (bef pl i) n0 mk H) with
            | some (.val v _) => ih (putE env o.dst v) H mk ((i, env, v) :: pd)
            | _ => none
          | .mk => match opA o.op P eqs env.get ⟨n0 + pl.rk.getD i 0, .nil⟩ with
            | some (.val v H') => match H'.get (n0 + pl.rk.getD i 0) with
              | some obj => ih (putE env o.dst v) H ((i, obj) :: mk) pd
              | none => none
            | _ => none
          | .md => match evOp P eqs K o.op env (matP pl (bef pl i) n0 mk H) with
            | some (v, H') => bif rechk P eqs ops pl n0 i H' (mk.filter fun x => !bef pl i x.1) pd then
                ih (putE env o.dst v) H' (mk.filter fun x => !bef pl i x.1) (pd.filter fun x => !bef pl i x.1) else none
            | none => none
        | some false => ih (putE env o.dst .undef) H mk pd
        | none => none
      | none => none) l
noncomputable def evL (body : Tr AV → Heap → Option (Ex × Tr AV × Heap)) (n : Nat) : Tr AV → Heap → Option (Ex × Tr AV × Heap) :=
  Nat.rec (motive := fun _ => Tr AV → Heap → Option (Ex × Tr AV × Heap)) (fun _ _ => none)
    (fun _ ih env H => match body env H with
    | some (.normal, env', H') => ih env' H'
    | some (.exit i, env', H') => some (.exit i, env', H')
    | some (.ret, env', H') => some (.ret, env', H')
    | none => none) n
noncomputable def evC (pls : Nat → Plan) (n : Nat) (c : Code) : Tr AV → Heap → Option (Ex × Tr AV × Heap) :=
  Code.rec (motive := fun _ => Tr AV → Heap → Option (Ex × Tr AV × Heap))
    (fun env H => some (.normal, env, H))
    (fun id ops draw env H => match draw with
      | false => match evOps P eqs K ops.toList ops.toList env H with
        | some (env', H') => some (.normal, env', H')
        | none => none
      | true => match evD P eqs K ops.toList (pls id) H.n (pls id).sched env (resv H (pls id).M) [] [] with
        | some (env', H') => some (.normal, env', H')
        | none => none)
    (fun _ _ iha ihb env H => match iha env H with
      | some (.normal, env', H') => ihb env' H'
      | some (.exit i, env', H') => some (.exit i, env', H')
      | some (.ret, env', H') => some (.ret, env', H')
      | none => none)
    (fun c _ _ ihx ihy env H => match rho env.get c with
      | some (.one (.at (.bool t))) => bif t then ihx env H else ihy env H
      | _ => none)
    (fun id _ ih env H => match ih env H with
      | some (.exit i, env', H') => bif Nat.beq i id then some (.normal, env', H') else some (.exit i, env', H')
      | some (.normal, env', H') => some (.normal, env', H')
      | some (.ret, env', H') => some (.ret, env', H')
      | none => none)
    (fun _ ih env H => evL ih n env H)
    (fun _ _ _ _ _ _ _ _ => none)
    (fun id env H => some (.exit id, env, H))
    (fun _ _ _ _ => none)
    (fun _ _ _ => none)
    (fun _ _ _ => none)
    (fun env H => some (.ret, env, H))
    (fun _ _ _ => none) c
end
noncomputable def initE (args : List AV) : Tr AV := (args.foldl (fun (p : Nat × Tr AV) v => (p.1 + 1, p.2.put p.1 v)) (0, .nil)).2
noncomputable def runA (P : Program) (eqs : Eqs) (pls : Nat → Option (Nat → Plan)) (n : Nat) : Orc :=
  Nat.rec (motive := fun _ => Orc) (fun _ _ _ => none) (fun n ih f args H => match P.funcs[f]? with
    | some fn => match pls f, fn.body with
      | some pl, some c => match evC P eqs ih pl n c (initE args) H with
        | some (.exit _, _, _) => none
        | some (_, env, H') => match resA P env.get H' fn.results.toList with
          | some l => some (mkRes l, H')
          | none => none
        | none => none
      | _, _ => none
    | none => none) n

/-! ### what is looked at once for a program -/
def codeOk (pls : Nat → Plan) (N : Nat) : Code → Bool
  | .region id ops draw => (ops.toList.all fun o => dOk N o.dst) && (!draw || okP ops.toList (pls id))
  | .seq x y => codeOk pls N x && codeOk pls N y
  | .cond _ x y => codeOk pls N x && codeOk pls N y
  | .block _ c => codeOk pls N c
  | .loop c => codeOk pls N c
  | _ => true
def fnsOk (pls : Nat → Option (Nat → Plan)) : Nat → List Func → Bool
  | _, [] => true
  | f, fn :: r => (match pls f, fn.body with
    | some pl, some c => !(fn.name == "runtime.NumGoroutine") && codeOk pl fn.ntmps c
    | _, _ => true) && fnsOk pls (f + 1) r
def noPlan : Plan := ⟨[], [], 0, []⟩
abbrev Tab := List (Nat × List (Nat × Plan))
noncomputable def rowOf (f : Nat) (t : Tab) : List (Nat × Plan) :=
  List.rec (motive := fun _ => List (Nat × Plan)) [] (fun x _ ih => bif Nat.beq x.1 f then x.2 else ih) t
noncomputable def plOf (l : List (Nat × Plan)) (id : Nat) : Plan :=
  List.rec (motive := fun _ => Plan) noPlan (fun x _ ih => bif Nat.beq x.1 id then x.2 else ih) l
/-- The plans of a table, but for functions that are left out. -/
noncomputable def plsOf (t : Tab) (out : List Nat) (f : Nat) : Option (Nat → Plan) := bif out.any (fun k => Nat.beq k f) then none else some (plOf (rowOf f t))
end Go.Ea
end

/-
  THE ENGINE, part 14: what the evaluator gives is a contract. Over any program. Written in this session.
-/
section
namespace Go.Ea

section
variable {P : Program} {eqs : Eqs} {N : Nat}

theorem rd_same (op : Op) (hc : clsOf op = .rd) {lk : Env} {H H' : Heap} {v : AV} (h : opA op P eqs lk H = some (.val v H')) : H' = H := by
  cases op <;> simp only [clsOf, reduceCtorEq] at hc
  case load t x =>
    have h : op_load t x P eqs lk H = some (.val v H') := h
    unfold op_load at h
    (repeat' split at h) <;> cases h <;> rfl
  case lookup t x i ok =>
    have h : op_lookup t x i ok P eqs lk H = some (.val v H') := h
    unfold op_lookup at h
    (repeat' split at h) <;> cases h <;> rfl
  case convert s d x =>
    have h : op_convert s d x P eqs lk H = some (.val v H') := h
    unfold op_convert at h
    (repeat' split at h) <;> cases h <;> rfl
  case call c =>
    have h : op_call c P eqs lk H = some (.val v H') := h
    unfold op_call at h
    split at h
    · rename_i b hb
      rw [hb] at hc
      split at h
      · split at h
        · rename_i v' H2 hbu
          cases h
          unfold builtinA at hbu
          (repeat' split at hbu) <;> first | (cases hbu; rfl) | (cases hbu; done) | (cases hc; done)
        · cases h
      · cases h
    · split at h <;> cases h
    · cases h
theorem mk_push (op : Op) (hc : clsOf op = .mk) {lk : Env} {H H' : Heap} {v : AV} (h : opA op P eqs lk H = some (.val v H')) : ∃ obj, H' = H.push obj := by
  cases op <;> simp only [clsOf, reduceCtorEq] at hc
  case alloc T =>
    have h : op_alloc T P eqs lk H = some (.val v H') := h
    unfold op_alloc at h
    (repeat' split at h) <;> cases h <;> exact ⟨_, rfl⟩
  case box T x =>
    have h : op_box T x P eqs lk H = some (.val v H') := h
    unfold op_box at h
    (repeat' split at h) <;> cases h <;> exact ⟨_, rfl⟩
  case buildSlice T n ps =>
    have h : op_buildSlice T n ps P eqs lk H = some (.val v H') := h
    unfold op_buildSlice at h
    simp only [cond_eq_ite] at h
    (repeat' split at h) <;> cases h <;> exact ⟨_, rfl⟩
  case makeSlice T l c =>
    have h : op_makeSlice T l c P eqs lk H = some (.val v H') := h
    unfold op_makeSlice at h
    (repeat' split at h) <;> cases h <;> exact ⟨_, rfl⟩
  case makeMap T r =>
    have h : op_makeMap T r P eqs lk H = some (.val v H') := h
    unfold op_makeMap at h
    (repeat' split at h) <;> cases h <;> exact ⟨_, rfl⟩
  case call c => (repeat' split at hc) <;> cases hc

def OrcOk (P : Program) (K : Orc) : Prop := ∀ f args H v H', K f args H = some (v, H') → FnOk P f ∧ Sim P f args H fun u G => u = v ∧ G = H'
variable {K : Orc}
theorem evOp_sound (hK : OrcOk P K) {op : Op} {env : Tr AV} {H H' : Heap} {v : AV} (h : evOp P eqs K op env H = some (v, H')) {Q : AV → Heap → Prop} (hQ : Q v H') : opP P eqs op env.get H Q := by
  unfold evOp at h
  split at h
  · rename_i v' H2 h1; cases h; exact ⟨_, h1, hQ⟩
  · rename_i f args h1
    obtain ⟨g1, g2⟩ := hK _ _ _ _ _ h
    exact ⟨_, h1, g1, g2.mono fun u G ⟨e1, e2⟩ => by subst e1; subst e2; exact hQ⟩
  · cases h

theorem evOps_sound (hK : OrcOk P K) {ops : List Oper} {Q : Env → Heap → Prop} : ∀ {l : List Oper} {env env' : Tr AV} {H H' : Heap}, evOps P eqs K ops l env H = some (env', H') → (∀ o ∈ l, dOk N o.dst = true) → Q env'.get H' → wpO P eqs N ops Q l env.get H
  | [], env, env', H, H', h, _, hQ => by cases h; exact hQ
  | o :: r, env, env', H, H', h, hd, hQ => by
    have h : (match wantA ops env.get o with
      | some true => match evOp P eqs K o.op env H with
        | some (v, H') => evOps P eqs K ops r (putE env o.dst v) H'
        | none => none
      | some false => evOps P eqs K ops r (putE env o.dst .undef) H
      | none => none) = some (env', H') := h
    have hd' : ∀ o ∈ r, dOk N o.dst = true := fun o ho => hd o (by simp [ho])
    refine ⟨hd o (by simp), ?_⟩
    split at h
    · rename_i hw
      split at h
      · rename_i v H2 he
        refine ⟨true, hw, ?_⟩
        rw [if_pos rfl]
        refine evOp_sound hK he ?_
        rw [← putE_get]
        exact evOps_sound hK h hd' hQ
      · cases h
    · rename_i hw
      refine ⟨false, hw, ?_⟩
      rw [if_neg (by simp), ← putE_get]
      exact evOps_sound hK h hd' hQ
    · cases h

noncomputable def pdE (pd : PendE) : Pend := pd.map fun p => (p.1, p.2.1.get, p.2.2)
theorem rechk_sound {ops : List Oper} {pl : Plan} {n0 i : Nat} {H : Heap} {mk : List (Nat × AObj)} : ∀ {pd : PendE}, rechk P eqs ops pl n0 i H mk pd = true → ∀ p ∈ pdE pd, bef pl i p.1 = false → recheck P eqs ops pl n0 H mk p
  | [], _, p, hp, _ => by cases hp
  | q :: r, h, p, hp, hb => by
    have h : ((bef pl i q.1 || match ops[q.1]? with
      | some o => match opA o.op P eqs q.2.1.get (matP pl (bef pl q.1) n0 mk H) with
        | some (.val v _) => isCls (clsOf o.op) .rd && eqAV v q.2.2
        | _ => false
      | none => false) && rechk P eqs ops pl n0 i H mk r) = true := h
    rw [Bool.and_eq_true] at h
    obtain ⟨h1, h2⟩ := h
    rcases List.mem_cons.1 hp with rfl | hp
    · simp only [] at hb
      rw [hb, Bool.false_or] at h1
      split at h1
      · rename_i o ho
        split at h1
        · rename_i v H2 hv
          rw [Bool.and_eq_true, isCls_iff] at h1
          have e := eqAV_sound h1.2
          have e2 := rd_same _ h1.1 hv
          subst e2
          exact ⟨o, ho, by rw [hv, e]⟩
        · cases h1
      · cases h1
    · exact rechk_sound h2 p hp hb
theorem pdE_filter (pd : PendE) (f : Nat → Bool) : pdE (pd.filter fun x => f x.1) = (pdE pd).filter fun x => f x.1 := by
  induction pd with
  | nil => rfl
  | cons p r ih =>
    simp only [pdE, List.filter_cons, List.map_cons] at ih ⊢
    cases f p.1 <;> simp [ih]

theorem evD_sound (hK : OrcOk P K) {ops : List Oper} {pl : Plan} {n0 : Nat} {Q : Env → Heap → Prop} (hd : ∀ o ∈ ops, dOk N o.dst = true) : ∀ {l : List Nat} {env env' : Tr AV} {H H' : Heap} {mk : List (Nat × AObj)} {pd : PendE},
    evD P eqs K ops pl n0 l env H mk pd = some (env', H') → Q env'.get H' → wpD P eqs N ops pl n0 Q l env.get H mk (pdE pd)
  | [], env, env', H, H', mk, pd, h, hQ => by cases h; exact hQ
  | i :: r, env, env', H, H', m, pd, h, hQ => by
    have h : (match ops[i]? with
      | some o => match wantA ops env.get o with
        | some true => match clsOf o.op with
          | .loc => match opA o.op P eqs env.get H with
            | some (.val v _) => evD P eqs K ops pl n0 r (putE env o.dst v) H m pd
            | _ => none
          | .rd => match opA o.op P eqs env.get (matP pl (bef pl i) n0 m H) with
            | some (.val v _) => evD P eqs K ops pl n0 r (putE env o.dst v) H m ((i, env, v) :: pd)
            | _ => none
          | .mk => match opA o.op P eqs env.get ⟨n0 + pl.rk.getD i 0, .nil⟩ with
            | some (.val v H') => match H'.get (n0 + pl.rk.getD i 0) with
              | some obj => evD P eqs K ops pl n0 r (putE env o.dst v) H ((i, obj) :: m) pd
              | none => none
            | _ => none
          | .md => match evOp P eqs K o.op env (matP pl (bef pl i) n0 m H) with
            | some (v, H') => bif rechk P eqs ops pl n0 i H' (m.filter fun x => !bef pl i x.1) pd then
                evD P eqs K ops pl n0 r (putE env o.dst v) H' (m.filter fun x => !bef pl i x.1) (pd.filter fun x => !bef pl i x.1) else none
            | none => none
        | some false => evD P eqs K ops pl n0 r (putE env o.dst .undef) H m pd
        | none => none
      | none => none) = some (env', H') := h
    split at h
    · rename_i o ho
      refine ⟨o, ho, hd o (List.mem_of_getElem? ho), ?_⟩
      split at h
      · rename_i hw
        refine ⟨true, hw, ?_⟩
        rw [if_pos rfl]
        split at h
        · rename_i hc
          rw [hc]
          split at h
          · rename_i v H1 hv
            refine ⟨v, loc_any _ hc hv H, ?_⟩
            rw [← putE_get]
            exact evD_sound hK hd h hQ
          · cases h
        · rename_i hc
          rw [hc]
          split at h
          · rename_i v H1 hv
            have e := rd_same _ hc hv
            subst e
            refine ⟨v, hv, ?_⟩
            rw [← putE_get]
            exact evD_sound (pd := (i, env, v) :: pd) hK hd h hQ
          · cases h
        · rename_i hc
          rw [hc]
          split at h
          · rename_i v H1 hv
            obtain ⟨obj, e⟩ := mk_push _ hc hv
            subst e
            rw [Heap.get_push, if_pos rfl] at h
            refine ⟨v, obj, hv, ?_⟩
            rw [← putE_get]
            exact evD_sound hK hd h hQ
          · cases h
        · rename_i hc
          rw [hc]
          split at h
          · rename_i v H1 hv
            cases hr : rechk P eqs ops pl n0 i H1 (m.filter fun x => !bef pl i x.1) pd with
            | false => rw [hr] at h; cases h
            | true =>
              rw [hr, cond_true] at h
              refine evOp_sound hK hv ⟨rechk_sound hr, ?_⟩
              rw [← putE_get, ← pdE_filter pd (fun x => !bef pl i x)]
              exact evD_sound hK hd h hQ
          · cases h
      · rename_i hw
        refine ⟨false, hw, ?_⟩
        rw [if_neg (by simp), ← putE_get]
        exact evD_sound hK hd h hQ
      · cases h
    · cases h

theorem evC_sound (hQ : EqsOk P eqs) (hK : OrcOk P K) {pls : Nat → Plan} {n : Nat} : ∀ {c : Code} {env env' : Tr AV} {H H' : Heap} {x : Ex} {QA : PostA}, codeOk pls N c = true → evC P eqs K pls n c env H = some (x, env', H') → QA x env'.get H' → wpC P eqs N c QA env.get H
  | .skip, env, env', H, H', x, QA, _, h, hQA => by cases h; exact hQA
  | .exit id, env, env', H, H', x, QA, _, h, hQA => by cases h; exact hQA
  | .ret, env, env', H, H', x, QA, _, h, hQA => by cases h; exact hQA
  | .region id ops draw, env, env', H, H', x, QA, hc, h, hQA => by
    simp only [codeOk, Bool.and_eq_true, List.all_eq_true] at hc
    cases draw with
    | false =>
      have h : (match evOps P eqs K ops.toList ops.toList env H with
        | some (env', H') => some (Ex.normal, env', H')
        | none => none) = some (x, env', H') := h
      split at h
      · rename_i e1 H1 he
        cases h
        show wpO ..
        exact evOps_sound hK he hc.1 hQA
      · cases h
    | true =>
      have h : (match evD P eqs K ops.toList (pls id) H.n (pls id).sched env (resv H (pls id).M) [] [] with
        | some (env', H') => some (Ex.normal, env', H')
        | none => none) = some (x, env', H') := h
      split at h
      · rename_i e1 H1 he
        cases h
        show RegD ..
        exact regD_of_plan hQ (by simpa using hc.2) (evD_sound hK hc.1 he hQA)
      · cases h
  | .seq a b, env, env', H, H', x, QA, hc, h, hQA => by
    simp only [codeOk, Bool.and_eq_true] at hc
    have h : (match evC P eqs K pls n a env H with
      | some (.normal, env', H') => evC P eqs K pls n b env' H'
      | some (.exit i, env', H') => some (.exit i, env', H')
      | some (.ret, env', H') => some (.ret, env', H')
      | none => none) = some (x, env', H') := h
    show wpC P eqs N a (thenA (wpC P eqs N b QA) QA) env.get H
    split at h
    · rename_i e1 H1 he
      exact evC_sound (c := a) hQ hK hc.1 he (show wpC P eqs N b QA _ _ from evC_sound (c := b) hQ hK hc.2 h hQA)
    · rename_i i e1 H1 he; cases h; exact evC_sound (c := a) hQ hK hc.1 he hQA
    · rename_i e1 H1 he; cases h; exact evC_sound (c := a) hQ hK hc.1 he hQA
    · cases h
  | .cond c a b, env, env', H, H', x, QA, hc, h, hQA => by
    simp only [codeOk, Bool.and_eq_true] at hc
    have h : (match rho env.get c with
      | some (.one (.at (.bool t))) => bif t then evC P eqs K pls n a env H else evC P eqs K pls n b env H
      | _ => none) = some (x, env', H') := h
    split at h
    · rename_i t ht
      refine ⟨t, ht, ?_⟩
      cases t with
      | true => exact evC_sound hQ hK hc.1 h hQA
      | false => exact evC_sound hQ hK hc.2 h hQA
    · cases h
  | .block id c, env, env', H, H', x, QA, hc, h, hQA => by
    have hc : codeOk pls N c = true := hc
    have h : (match evC P eqs K pls n c env H with
      | some (.exit i, env', H') => bif Nat.beq i id then some (.normal, env', H') else some (.exit i, env', H')
      | some (.normal, env', H') => some (.normal, env', H')
      | some (.ret, env', H') => some (.ret, env', H')
      | none => none) = some (x, env', H') := h
    show wpC P eqs N c (inBlockA id QA) env.get H
    split at h
    · rename_i i e1 H1 he
      refine evC_sound (c := c) hQ hK hc he ?_
      show if i = id then _ else _
      cases hb : Nat.beq i id with
      | true =>
        rw [hb] at h; cases h
        rw [if_pos (Nat.eq_of_beq_eq_true hb)]; exact hQA
      | false =>
        rw [hb] at h; cases h
        rw [if_neg (Nat.ne_of_beq_eq_false hb)]; exact hQA
    · rename_i e1 H1 he; cases h; exact evC_sound (c := c) hQ hK hc he hQA
    · rename_i e1 H1 he; cases h; exact evC_sound (c := c) hQ hK hc he hQA
    · cases h
  | .loop c, env, env', H, H', x, QA, hc, h, hQA => by
    have hc : codeOk pls N c = true := hc
    refine ⟨n, ?_⟩
    have h : evL (evC P eqs K pls n c) n env H = some (x, env', H') := h
    have key : ∀ (k : Nat) (env : Tr AV) (H : Heap), evL (evC P eqs K pls n c) k env H = some (x, env', H') → roundsA (wpC P eqs N c) QA k env.get H := by
      intro k
      induction k with
      | zero => intro env H h; cases h
      | succ k ih =>
        intro env H h
        have h : (match evC P eqs K pls n c env H with
          | some (.normal, env', H') => evL (evC P eqs K pls n c) k env' H'
          | some (.exit i, env', H') => some (.exit i, env', H')
          | some (.ret, env', H') => some (.ret, env', H')
          | none => none) = some (x, env', H') := h
        show wpC P eqs N c (thenA (roundsA (wpC P eqs N c) QA k) QA) env.get H
        split at h
        · rename_i e1 H1 he
          exact evC_sound (c := c) hQ hK hc he (show roundsA (wpC P eqs N c) QA k _ _ from ih _ _ h)
        · rename_i i e1 H1 he; cases h; exact evC_sound (c := c) hQ hK hc he hQA
        · rename_i e1 H1 he; cases h; exact evC_sound (c := c) hQ hK hc he hQA
        · cases h
    exact key n env H h
  | .rangeFunc _ _ _ _, _, _, _, _, _, _, _, h, _ => by cases h
  | .goto _, _, _, _, _, _, _, _, h, _ => by cases h
  | .label _, _, _, _, _, _, _, _, h, _ => by cases h
  | .scope _, _, _, _, _, _, _, _, h, _ => by cases h
  | .refuse _, _, _, _, _, _, _, _, h, _ => by cases h

theorem initE_get (args : List AV) : (initE args).get = argsF args := by
  have key : ∀ (l : List AV) (k : Nat) (env : Tr AV) (j : Nat), ((l.foldl (fun (p : Nat × Tr AV) v => (p.1 + 1, p.2.put p.1 v)) (k, env)).2).get j = if k ≤ j ∧ j < k + l.length then l[j - k]? else env.get j := by
    intro l
    induction l with
    | nil => intro k env j; simp only [List.foldl_nil, List.length_nil]; rw [if_neg (by omega)]
    | cons v r ih =>
      intro k env j
      rw [List.foldl_cons, ih]
      simp only [List.length_cons, Tr.get_put]
      by_cases h1 : k + 1 ≤ j ∧ j < k + 1 + r.length
      · rw [if_pos h1, if_pos (by omega), show j - k = (j - (k + 1)) + 1 from by omega]; simp
      · rw [if_neg h1]
        by_cases h2 : j = k
        · subst h2; rw [if_pos rfl, if_pos (by omega)]; simp
        · rw [if_neg h2, if_neg (by omega)]
  funext j
  unfold initE argsF
  rw [key]
  by_cases h : j < args.length
  · rw [if_pos (by omega)]; simp
  · rw [if_neg (by omega)]
    rw [List.getElem?_eq_none (by omega)]
    rfl

theorem dOk_mono {N N' : Nat} {d : Option Nat} (h : dOk N d = true) (hn : N ≤ N') : dOk N' d = true := by
  cases d with
  | none => rfl
  | some d => simp only [dOk, Nat.blt_eq] at h ⊢; omega
theorem codeOk_mono {pls : Nat → Plan} {N N' : Nat} (hn : N ≤ N') : ∀ {c : Code}, codeOk pls N c = true → codeOk pls N' c = true
  | .region id ops draw, h => by
    simp only [codeOk, Bool.and_eq_true, List.all_eq_true] at h ⊢
    exact ⟨fun o ho => dOk_mono (h.1 o ho) hn, h.2⟩
  | .seq a b, h => by
    simp only [codeOk, Bool.and_eq_true] at h ⊢
    exact ⟨codeOk_mono hn h.1, codeOk_mono hn h.2⟩
  | .cond _ a b, h => by
    simp only [codeOk, Bool.and_eq_true] at h ⊢
    exact ⟨codeOk_mono hn h.1, codeOk_mono hn h.2⟩
  | .block _ c, h => codeOk_mono (c := c) hn h
  | .loop c, h => codeOk_mono (c := c) hn h
  | .skip, _ | .exit _, _ | .ret, _ | .rangeFunc _ _ _ _, _ | .goto _, _ | .label _, _ | .scope _, _ | .refuse _, _ => rfl
theorem fnsOk_spec {pls : Nat → Option (Nat → Plan)} : ∀ {l : List Func} {f : Nat}, fnsOk pls f l = true → ∀ {k : Nat} {fn : Func}, l[k]? = some fn → ∀ pl c, pls (f + k) = some pl → fn.body = some c → (fn.name == "runtime.NumGoroutine") = false ∧ codeOk pl fn.ntmps c = true
  | [], _, _, k, fn, hk => by simp at hk
  | x :: r, f, h, k, fn, hk => by
    simp only [fnsOk, Bool.and_eq_true] at h
    obtain ⟨h2, h3⟩ := h
    cases k with
    | zero =>
      simp at hk; subst hk
      intro pl c hp hc
      rw [Nat.add_zero] at hp
      rw [hp, hc] at h2
      simpa using h2
    | succ k =>
      have := fnsOk_spec h3 (k := k) (fn := fn) (by simpa using hk)
      rw [show f + 1 + k = f + (k + 1) from by omega] at this
      exact this

/-- THE EVALUATOR IS SOUND. -/
theorem runA_sound (hm : P.follows .mixedOrders = true) (hQ : EqsOk P eqs) {pls : Nat → Option (Nat → Plan)} (hf : fnsOk pls 0 P.funcs.toList = true) : ∀ n, OrcOk P (runA P eqs pls n)
  | 0, f, args, H, v, H', h => by cases h
  | n + 1, f, args, H, v, H', h => by
    have h : (match P.funcs[f]? with
      | some fn => match pls f, fn.body with
        | some pl, some c => match evC P eqs (runA P eqs pls n) pl n c (initE args) H with
          | some (.exit _, _, _) => none
          | some (_, env, H') => match resA P env.get H' fn.results.toList with
            | some l => some (mkRes l, H')
            | none => none
          | none => none
        | _, _ => none
      | none => none) = some (v, H') := h
    split at h
    · rename_i fn hfn
      have k0 := fnsOk_spec hf (k := f) (fn := fn) (by rw [Array.getElem?_toList]; exact hfn)
      rw [Nat.zero_add] at k0
      split at h
      · rename_i pl c hp hc
        obtain ⟨k1, k2⟩ := k0 pl c hp hc
        refine ⟨⟨fn, hfn, k1, by rw [hc]; rfl⟩, ?_⟩
        have hco := codeOk_mono (N' := args.length + (fn.ntmps - args.length)) (by omega) k2
        split at h
        · cases h
        · rename_i x env H2 hx he
          split at h
          · rename_i l hl
            cases h
            refine Sim.of_body hm hQ hfn hc ?_
            rw [← initE_get]
            refine evC_sound hQ (runA_sound hm hQ hf n) hco he ⟨?_, l, hl, rfl, rfl⟩
            cases x with
            | exit i => exact (hx i rfl).elim
            | _ => trivial
          · cases h
        · cases h
      · cases h
    · cases h
end
end Go.Ea
end

/-
  THE ENGINE, part 15: '==' of plain structs; from a closed call to what a row asks. Over any program. Written in this session.
-/
section
namespace Go.Ea

section
variable {P : Program}
def shT : Sh → Option TypeDesc → Bool
  | .int _, some (.int _) => true
  | .str, some .string => true
  | .bool, some .bool => true
  | _, _ => false
def fieldsOk (P : Program) : List Field → List Sh → Nat → Bool
  | [], [], _ => true
  | f :: fs, s :: r, i => Nat.beq f.offset i && !(f.name == "_") && shT s (P.underlying f.type) && (match sizeO P f.type with | some _ => true | none => false) && fieldsOk P fs r (i + 1)
  | _, _, _ => false
theorem eqA_run (d : Nat) {α : Al} {w : World} {t : TypeId} {a b : AT} {x y : Value} {s : Sh} {r : Bool} (ht : shT s (P.underlying t) = true) (ha : AR α a x) (hb : AR α b y) (h1 : shp a = s) (h2 : shp b = s) (h : eqA a b = some r) :
    (Op.equalIn (d + 1) t x y).run P w = .ok r w := by
  cases a <;> cases b <;> simp only [eqA, reduceCtorEq] at h
  · simp only [shp] at h1; subst h1
    cases hu : P.underlying t with
    | none => rw [hu] at ht; cases ht
    | some D =>
      rw [hu] at ht
      cases D <;> first | (cases ht; done) | skip
      simp only [AR] at ha hb
      subst ha hb
      cases h
      simp [Op.equalIn, run_underlying hu]
  · simp only [shp] at h1 h2; subst h1
    cases hu : P.underlying t with
    | none => rw [hu] at ht; cases ht
    | some D =>
      rw [hu] at ht
      cases D <;> first | (cases ht; done) | skip
      simp only [AR] at ha hb
      subst ha hb
      cases h2
      cases h
      simp [Op.equalIn, run_underlying hu]
  · simp only [shp] at h1; subst h1
    cases hu : P.underlying t with
    | none => rw [hu] at ht; cases ht
    | some D =>
      rw [hu] at ht
      cases D <;> first | (cases ht; done) | skip
      obtain ⟨sx, rfl, hx⟩ := ha
      obtain ⟨sy, rfl, hy⟩ := hb
      cases h
      rw [eqS_eq, ← hx, ← hy]
      have := ba_beq sx sy
      simp [Op.equalIn, run_underlying hu, this]
theorem eqF_run (d : Nat) {α : Al} {w : World} {x y : Array Value} {xs ys : List AT} (hx : F2 (AR α) xs x.toList) (hy : F2 (AR α) ys y.toList) : ∀ {fs : List Field} {s : List Sh} {i : Nat} {r : Bool}, fieldsOk P fs s i = true →
    (xs.drop i).map shp = s → (ys.drop i).map shp = s → eqL (xs.drop i) (ys.drop i) = some r → (Op.eqFields (d + 1) x y fs).run P w = .ok r w
  | [], [], i, r, _, h1, h2, h => by
    rw [List.map_eq_nil_iff] at h1 h2
    rw [h1, h2] at h
    cases h
    simp [Op.eqFields]
  | f :: fs, s :: q, i, r, hf, h1, h2, h => by
    simp only [fieldsOk, Bool.and_eq_true, Nat.beq_eq, Bool.not_eq_true'] at hf
    obtain ⟨⟨⟨⟨f1, f2⟩, f3⟩, f4⟩, f5⟩ := hf
    cases hxd : xs.drop i with
    | nil => rw [hxd] at h1; cases h1
    | cons a xr =>
      cases hyd : ys.drop i with
      | nil => rw [hyd] at h2; cases h2
      | cons b yr =>
        rw [hxd, hyd] at h
        rw [hxd] at h1
        rw [hyd] at h2
        simp only [List.map_cons, List.cons.injEq] at h1 h2
        have ex : xs[i]? = some a := by
          have := congrArg (fun l => l[0]?) hxd
          simpa using this
        have ey : ys[i]? = some b := by
          have := congrArg (fun l => l[0]?) hyd
          simpa using this
        have xr' : xs.drop (i + 1) = xr := by rw [← List.tail_drop, hxd]; rfl
        have yr' : ys.drop (i + 1) = yr := by rw [← List.tail_drop, hyd]; rfl
        simp only [eqL] at h
        split at h
        · rename_i r1 r2 e1 e2
          cases h
          obtain ⟨D, hD⟩ : ∃ D, P.underlying f.type = some D := by
            cases hu : P.underlying f.type with
            | none => rw [hu] at f3; cases s <;> cases f3
            | some D => exact ⟨D, rfl⟩
          obtain ⟨n, hn⟩ : ∃ n, sizeO P f.type = some n := by
            cases hs : sizeO P f.type with
            | none => rw [hs] at f4; cases f4
            | some n => exact ⟨n, rfl⟩
          have hagg : isAggD D = false := by
            rw [hD] at f3
            cases D <;> cases s <;> first | rfl | (cases f3; done)
          have pa : ∀ {l : List AT} {q : AT}, l[i]? = some q → partA P f.type l i = some (.at q) := by
            intro l q hl
            unfold partA
            rw [hD, hn]
            simp only [hagg, cond_false, hl]
          obtain ⟨u, u1, u2⟩ := partA_part (w := w) (pa ex) hx
          obtain ⟨v, v1, v2⟩ := partA_part (w := w) (pa ey) hy
          have rest := eqF_run (w := w) d hx hy (i := i + 1) (r := r2) f5 (by rw [xr']; exact h1.2) (by rw [yr']; exact h2.2) (by rw [xr', yr']; exact e2)
          have hn' : f.name ≠ "_" := by simpa using f2
          have heq := eqA_run (P := P) d (w := w) f3 u2 v2 h1.1 h2.1 e1
          rw [← f1] at u1 v1
          rw [Op.eqFields]
          simp only [if_pos hn', Sem.run_bind, u1, v1, heq, Result.andThen_ok]
          cases r1
          · simp
          · simpa using rest
        · cases h
  | [], _ :: _, _, _, hf, _, _, _ => by cases hf
  | _ :: _, [], _, _, hf, _, _, _ => by cases hf
theorem eqOk_of {t : TypeId} {fs : Array Field} {s : List Sh} (hg : P.eqGuardType P.depth t = false) (hu : P.underlying t = some (.struct fs)) (hp : P.stoodInHeld t = false) (hf : fieldsOk P fs.toList s 0 = true) : EqOk P t s := by
  refine ⟨hg, fun α w xs ys x y b hx hy h1 h2 h => ?_⟩
  have hfs : P.fieldsOf t = fs := by simp [Program.fieldsOf, hu]
  show (Op.equalIn (9999 + 1) t (.agg x) (.agg y)).run P w = .ok b w
  rw [run_equalIn_struct (P := P) w 9999 t x y (by rw [hfs]; exact hu) hp, hfs]
  exact eqF_run 9998 hx hy hf (by simpa using h1) (by simpa using h2) (by simpa using h)
def eqsOkB (P : Program) : Eqs → Bool
  | [] => true
  | (t, s) :: r => !P.eqGuardType P.depth t && !P.stoodInHeld t && (match P.underlying t with
    | some (.struct fs) => fieldsOk P fs.toList s 0
    | _ => false) && eqsOkB P r
theorem eqsOk_of : ∀ {eqs : Eqs}, eqsOkB P eqs = true → EqsOk P eqs
  | [], _, t, s, h => by cases h
  | (u, q) :: r, hb, t, s, h => by
    simp only [eqsOkB, Bool.and_eq_true, Bool.not_eq_true'] at hb
    obtain ⟨⟨⟨h1, h2⟩, h3⟩, h4⟩ := hb
    simp only [shOf] at h
    cases e : Nat.beq u t with
    | false => rw [e] at h; exact eqsOk_of h4 t s h
    | true =>
      rw [e] at h
      cases h
      have e := Nat.eq_of_beq_eq_true e
      subst e
      split at h3
      · rename_i fs hu
        exact eqOk_of h1 hu h2 h3
      · cases h3
end

/-! ### closed calls -/
def okA : Option (AV × Heap) → Bool
  | some (.one (.at (.bool true)), _) => true
  | _ => false
theorem okA_spec {x : Option (AV × Heap)} (h : okA x = true) : ∃ H', x = some (at' (.bool true), H') := by
  unfold okA at h
  split at h
  · exact ⟨_, rfl⟩
  · cases h
theorem R.start (P : Program) (w : World) : R P w.heap.size Heap.empty (fun _ => none) w := by
  refine ⟨Nat.le_refl _, fun _ _ => rfl, fun i o h => ?_, fun i j oi oj Li Lj _ h => ?_⟩
  · rw [Heap.get_ge _ (Nat.zero_le i)] at h; cases h
  · rw [Heap.get_ge _ (Nat.zero_le i)] at h; cases h
theorem Ext.grown {H H' : Heap} {α α' : Al} {w w' : World} (h : Ext H α w H' α' w') (hr : ∀ k, ¬ rwset H α k) : RowKit.Grown w w' := by
  refine ⟨⟨h.os, h.output, fun i hi => ?_⟩, h.fz, h.size⟩
  rw [h.blk i hi (hr i)]
  cases w.heap[i]? with
  | none => rfl
  | some o => cases o with
    | cells c t f => exact ⟨rfl, rfl, rfl, fun _ _ => rfl⟩
    | map es k => exact .inr ⟨rfl, rfl⟩
    | _ => rfl
theorem noRw_empty (α : Al) (k : Nat) : ¬ rwset Heap.empty α k := by
  rintro ⟨i, o, L, h, _⟩
  rw [Heap.get_ge _ (Nat.zero_le i)] at h; cases h
/-- A function without arguments that is true. -/
theorem closed_true {P : Program} {f : FuncId} {H' : Heap} (h : Sim P f [] Heap.empty fun u G => u = at' (.bool true) ∧ G = H') (w : World) : Calls P f #[] w fun e w' => e = .returned (.bool true) ∧ RowKit.Grown w w' := by
  refine (h w.heap.size (fun _ => none) w #[] (R.start P w) .nil).mono fun e w' ⟨v, v', H2, α', h1, ⟨h2, _⟩, h3, _, h5⟩ => ?_
  subst h2
  simp only [VR, V1, AR] at h3
  subst h3
  exact ⟨h1, h5.grown (noRw_empty _)⟩
end Go.Ea
end

/-
  THE ENGINE, part 16: a long closed run in pieces: a piece's result is laid down as a literal, and the next run takes it as known. Over any program. Written in this session.
-/
section
namespace Go.Ea

noncomputable def setAll : List (Nat × AObj) → Heap → Heap
  | [], H => H
  | (i, o) :: r, H => (setAll r H).set i o
def look (j : Nat) : List (Nat × AObj) → Option AObj
  | [] => none
  | (i, o) :: r => bif Nat.beq i j then some o else look j r
theorem setAll_n : ∀ (l : List (Nat × AObj)) (H : Heap), (setAll l H).n = H.n
  | [], _ => rfl
  | (_, _) :: r, H => setAll_n r H
theorem setAll_get : ∀ {l : List (Nat × AObj)} {H : Heap} (j : Nat), (∀ p ∈ l, p.1 < H.n) → (setAll l H).get j = match look j l with
    | some o => some o
    | none => H.get j
  | [], _, _, _ => rfl
  | (i, o) :: r, H, j, h => by
    unfold setAll look
    rw [Heap.get_set _ _ _ _ (by rw [setAll_n]; exact h (i, o) (by simp)), setAll_get j fun p hp => h p (by simp [hp])]
    by_cases e : j = i
    · subst e; simp
    · have : Nat.beq i j = false := by rw [Bool.eq_false_iff]; intro hh; exact e (Nat.eq_of_beq_eq_true hh).symm
      rw [if_neg e, this]; rfl
theorem look_mem : ∀ {l : List (Nat × AObj)} {j : Nat} {o : AObj}, look j l = some o → (j, o) ∈ l
  | [], _, _, h => by cases h
  | (i, o') :: r, j, o, h => by
    unfold look at h
    cases e : Nat.beq i j with
    | true => rw [e] at h; cases h; rw [Nat.eq_of_beq_eq_true e]; simp
    | false => rw [e] at h; exact List.mem_cons_of_mem _ (look_mem h)
theorem look_none : ∀ {l : List (Nat × AObj)} {j : Nat}, look j l = none → ∀ o, (j, o) ∉ l
  | [], _, _, _, hm => by cases hm
  | (i, o') :: r, j, h, o, hm => by
    unfold look at h
    cases e : Nat.beq i j with
    | true => rw [e] at h; cases h
    | false =>
      rw [e] at h
      rcases List.mem_cons.1 hm with e' | e'
      · cases e'; simp at e
      · exact look_none h o e'

noncomputable def eqEs : List (AT × A1) → List (AT × A1) → Bool
  | [], [] => true
  | a :: l, b :: m => eqAT a.1 b.1 && eqA1 a.2 b.2 && eqEs l m
  | _, _ => false
theorem eqEs_sound : ∀ {l m : List (AT × A1)}, eqEs l m = true → l = m
  | [], [], _ => rfl
  | (a, x) :: l, (b, y) :: m, h => by
    simp only [eqEs, Bool.and_eq_true] at h
    rw [eqAT_sound h.1.1, eqA1_sound h.1.2, eqEs_sound h.2]
  | [], _ :: _, h => by cases h
  | _ :: _, [], h => by cases h
noncomputable def eqOb : AObj → AObj → Bool
  | .cells t k cs, .cells t' k' cs' => Nat.beq t t' && Nat.beq k k' && eqATs cs cs'
  | .map es, .map es' => eqEs es es'
  | _, _ => false
theorem eqOb_sound {a b : AObj} (h : eqOb a b = true) : a = b := by
  cases a <;> cases b <;> simp only [eqOb, Bool.false_eq_true] at h
  · rw [Bool.and_eq_true, Bool.and_eq_true] at h
    have e1 := Nat.eq_of_beq_eq_true h.1.1
    have e2 := Nat.eq_of_beq_eq_true h.1.2
    rw [e1, e2, eqATs_sound h.2]
  · rw [eqEs_sound h]
noncomputable def eqAVs : List AV → List AV → Bool
  | [], [] => true
  | a :: l, b :: m => eqAV a b && eqAVs l m
  | _, _ => false
theorem eqAVs_sound : ∀ {l m : List AV}, eqAVs l m = true → l = m
  | [], [], _ => rfl
  | a :: l, b :: m, h => by
    simp only [eqAVs, Bool.and_eq_true] at h
    rw [eqAV_sound h.1, eqAVs_sound h.2]
  | [], _ :: _, h => by cases h
  | _ :: _, [], h => by cases h

/-- A known call: at a heap of n0 objects that holds lin, it gives v, and the heap has n1 objects, of which l0 is known. -/
structure Ent where
  f : Nat
  args : List AV
  n0 : Nat
  lin : List (Nat × AObj)
  v : AV
  n1 : Nat
  l0 : List (Nat × AObj)
def idIn (l : List (Nat × AObj)) (i : Nat) : Bool := match look i l with
  | some _ => true
  | none => false
def entB (e : Ent) : Bool := Nat.ble e.n0 e.n1 && (e.lin.all fun p => Nat.blt p.1 e.n0 && idIn e.l0 p.1) && e.l0.all fun p => Nat.blt p.1 e.n1
noncomputable def inE (e : Ent) : Heap := setAll e.lin (resv Heap.empty e.n0)
noncomputable def outE (e : Ent) (H : Heap) : Heap := setAll e.l0 (resv H (e.n1 - e.n0))
noncomputable def holds (l : List (Nat × AObj)) (H : Heap) : Bool :=
  List.rec (motive := fun _ => Bool) true (fun p _ ih => (match H.get p.1 with
    | some o => match p.2 with
      | .dead => true
      | _ => eqOb o p.2
    | none => false) && ih) l
theorem holds_spec : ∀ {l : List (Nat × AObj)} {H : Heap}, holds l H = true → ∀ i o, (i, o) ∈ l → o = .dead ∨ H.get i = some o
  | [], _, _, _, _, hm => by cases hm
  | p :: r, H, h, i, o, hm => by
    have h : ((match H.get p.1 with
      | some o => match p.2 with
        | .dead => true
        | _ => eqOb o p.2
      | none => false) && holds r H) = true := h
    rw [Bool.and_eq_true] at h
    rcases List.mem_cons.1 hm with rfl | hm
    · have h1 := h.1
      simp only [] at h1
      split at h1
      · rename_i o' ho
        split at h1
        · exact .inl rfl
        · right; rw [ho, eqOb_sound h1]
      · cases h1
    · exact holds_spec h.2 i o hm
structure EntOk (P : Program) (e : Ent) : Prop where
  st : entB e = true
  fn : FnOk P e.f
  sim : Sim P e.f e.args (inE e) fun u X => u = e.v ∧ X = outE e (inE e)
section
variable {P : Program} {eqs : Eqs} {e : Ent}
theorem entB_spec (h : entB e = true) : e.n0 ≤ e.n1 ∧ (∀ p ∈ e.lin, p.1 < e.n0 ∧ ∃ o, look p.1 e.l0 = some o) ∧ ∀ p ∈ e.l0, p.1 < e.n1 := by
  simp only [entB, Bool.and_eq_true, List.all_eq_true, Nat.ble_eq, Nat.blt_eq] at h
  refine ⟨h.1.1, fun p hp => ⟨(h.1.2 p hp).1, ?_⟩, h.2⟩
  have := (h.1.2 p hp).2
  unfold idIn at this
  split at this
  · exact ⟨_, ‹_›⟩
  · cases this
theorem inE_n : (inE e).n = e.n0 := by unfold inE; rw [setAll_n, resv_n]; simp [Heap.empty]
theorem outE_n (h : entB e = true) {H : Heap} (hn : H.n = e.n0) : (outE e H).n = e.n1 := by
  have := (entB_spec h).1
  unfold outE; rw [setAll_n, resv_n, hn]; omega
theorem outE_get (h : entB e = true) {H : Heap} (hn : H.n = e.n0) (j : Nat) : (outE e H).get j = match look j e.l0 with
    | some o => some o
    | none => (resv H (e.n1 - e.n0)).get j := by
  obtain ⟨h1, _, h3⟩ := entB_spec h
  exact setAll_get j fun p hp => by rw [resv_n, hn]; have := h3 p hp; omega
theorem inE_get (h : entB e = true) (j : Nat) : (inE e).get j = match look j e.lin with
    | some o => some o
    | none => (resv Heap.empty e.n0).get j :=
  setAll_get j fun p hp => by rw [resv_n]; have := ((entB_spec h).2.1 p hp).1; simp only [Heap.empty]; omega
theorem inE_weak (h : entB e = true) {H : Heap} (hn : H.n = e.n0) (hh : holds e.lin H = true) : Weak (inE e) H := by
  refine ⟨by rw [inE_n, hn], fun j o hj => ?_⟩
  rw [inE_get h] at hj
  split at hj
  · rename_i o' hl
    cases hj
    exact holds_spec hh j o (look_mem hl)
  · rw [resv_get, if_neg (by simp [Heap.empty])] at hj
    split at hj
    · cases hj; exact .inl rfl
    · cases hj
theorem EntOk.at (he : EntOk P e) {H : Heap} (hn : H.n = e.n0) (hh : holds e.lin H = true) : Sim P e.f e.args H fun u X => u = e.v ∧ X = outE e H := by
  intro base α w xs hR ha
  have hw := inE_weak he.st hn hh
  refine (he.sim base α w xs (hR.weak hw) ha).mono fun x w' ⟨v, v', H', α', q1, ⟨q2, q3⟩, q4, q5, q6⟩ => ?_
  subst q3
  obtain ⟨b1, b2, b3⟩ := entB_spec he.st
  have n1 : (outE e H).n = (outE e (inE e)).n := by rw [outE_n he.st hn, outE_n he.st inE_n]
  have low : ∀ j, look j e.l0 = none → j < H.n → (inE e).get j = some .dead := by
    intro j hl hj
    rw [inE_get he.st]
    split
    · rename_i o ho
      obtain ⟨o2, h2⟩ := (b2 _ (look_mem ho)).2
      simp only [] at h2
      rw [hl] at h2; cases h2
    · rw [resv_get, if_neg (by simp [Heap.empty]), if_pos (by simp only [Heap.empty]; omega)]
  have hO : ∀ j o, (outE e H).get j = some o → o = .dead ∨ (outE e (inE e)).get j = some o ∨ (j < (inE e).n ∧ (inE e).get j = some .dead ∧ H.get j = some o) := by
    intro j o hj
    rw [outE_get he.st hn] at hj
    rw [outE_get he.st inE_n]
    split at hj
    · exact .inr (.inl hj)
    · rename_i hl
      rw [resv_get] at hj
      split at hj
      · rename_i hlt; exact .inr (.inr ⟨by rw [inE_n, ← hn]; exact hlt, low j hl hlt, hj⟩)
      · split at hj
        · cases hj; exact .inl rfl
        · cases hj
  refine ⟨v, v', outE e H, α', q1, ⟨q2, rfl⟩, q4, hR.back hw q5 q6 n1 hO, Ext.back hw q6 n1 hO fun j hj => ?_⟩
  have hlt := Heap.get_lt hj
  cases hl : look j e.l0 with
  | none => rw [outE_get he.st hn, hl]; simp only []; rw [resv_get, if_pos hlt]; exact hj
  | some o =>
    rw [outE_get he.st hn, hl]
    obtain ⟨o2, ho2⟩ := Heap.get_of_lt (H := inE e) (i := j) (by rw [inE_n, ← hn]; exact hlt)
    have hd : o2 = .dead := by
      rcases hw.obj j o2 ho2 with e' | e'
      · exact e'
      · rw [hj] at e'; cases e'; rfl
    subst hd
    have := q6.dead j ho2
    rw [outE_get he.st inE_n, hl] at this
    exact this
end
noncomputable def hit (e : Ent) (f : Nat) (args : List AV) (H : Heap) : Bool := Nat.beq f e.f && Nat.beq H.n e.n0 && eqAVs args e.args && holds e.lin H
noncomputable def tbE (es : List Ent) : Orc := List.rec (motive := fun _ => Orc) (fun _ _ _ => none) (fun e _ ih f args H => match hit e f args H with
  | true => some (e.v, outE e H)
  | false => ih f args H) es
theorem tbE_ok {P : Program} : ∀ {es : List Ent}, (∀ e ∈ es, EntOk P e) → OrcOk P (tbE es)
  | [], _, f, args, H, v, H', h => by cases h
  | e :: r, hes, f, args, H, v, H', h => by
    have h : (match hit e f args H with
      | true => some (e.v, outE e H)
      | false => tbE r f args H) = some (v, H') := h
    split at h
    · rename_i hh
      cases h
      simp only [hit, Bool.and_eq_true] at hh
      obtain ⟨⟨⟨h1, h2⟩, h3⟩, h4⟩ := hh
      have h1 := Nat.eq_of_beq_eq_true h1
      have h2 := Nat.eq_of_beq_eq_true h2
      have h3 := eqAVs_sound h3
      subst h1; subst h3
      have he := hes e (by simp)
      exact ⟨he.fn, he.at h2 h4⟩
    · exact tbE_ok (fun x hx => hes x (by simp [hx])) _ _ _ _ _ h
noncomputable def runT (P : Program) (eqs : Eqs) (pls : Nat → Option (Nat → Plan)) (tb : Orc) (n : Nat) : Orc :=
  Nat.rec (motive := fun _ => Orc) (fun _ _ _ => none) (fun n ih f args H => match tb f args H with
    | some r => some r
    | none => match P.funcs[f]? with
      | some fn => match pls f, fn.body with
        | some pl, some c => match evC P eqs ih pl n c (initE args) H with
          | some (.exit _, _, _) => none
          | some (_, env, H') => match resA P env.get H' fn.results.toList with
            | some l => some (mkRes l, H')
            | none => none
          | none => none
        | _, _ => none
      | none => none) n
theorem runT_sound {P : Program} {eqs : Eqs} (hm : P.follows .mixedOrders = true) (hQ : EqsOk P eqs) {pls : Nat → Option (Nat → Plan)} (hf : fnsOk pls 0 P.funcs.toList = true) {tb : Orc} (htb : OrcOk P tb) : ∀ n, OrcOk P (runT P eqs pls tb n)
  | 0, f, args, H, v, H', h => by cases h
  | n + 1, f, args, H, v, H', h => by
    have h : (match tb f args H with
      | some r => some r
      | none => match P.funcs[f]? with
        | some fn => match pls f, fn.body with
          | some pl, some c => match evC P eqs (runT P eqs pls tb n) pl n c (initE args) H with
            | some (.exit _, _, _) => none
            | some (_, env, H') => match resA P env.get H' fn.results.toList with
              | some l => some (mkRes l, H')
              | none => none
            | none => none
          | _, _ => none
        | none => none) = some (v, H') := h
    split at h
    · rename_i r hr
      cases h
      exact htb _ _ _ _ _ hr
    split at h
    · rename_i fn hfn
      have k0 := fnsOk_spec hf (k := f) (fn := fn) (by rw [Array.getElem?_toList]; exact hfn)
      rw [Nat.zero_add] at k0
      split at h
      · rename_i pl c hp hc
        obtain ⟨k1, k2⟩ := k0 pl c hp hc
        refine ⟨⟨fn, hfn, k1, by rw [hc]; rfl⟩, ?_⟩
        have hco := codeOk_mono (N' := args.length + (fn.ntmps - args.length)) (by omega) k2
        split at h
        · cases h
        · rename_i x env H2 hx he
          split at h
          · rename_i l hl
            cases h
            refine Sim.of_body hm hQ hfn hc ?_
            rw [← initE_get]
            refine evC_sound hQ (runT_sound hm hQ hf htb n) hco he ⟨?_, l, hl, rfl, rfl⟩
            cases x with
            | exit i => exact (hx i rfl).elim
            | _ => trivial
          · cases h
        · cases h
      · cases h
    · cases h
/-- A run came to what the entry says. -/
noncomputable def chkR (e : Ent) (x : Option (AV × Heap)) : Bool := match x with
  | some (v, H) => eqAV v e.v && Nat.beq H.n e.n1 && holds e.l0 H
  | none => false
theorem Sim.weak {P : Program} {f : FuncId} {args : List AV} {H : Heap} {Q Q' : AV → Heap → Prop} (h : Sim P f args H Q) (hq : ∀ v H', Q v H' → ∃ H2, Weak H2 H' ∧ Q' v H2) : Sim P f args H Q' := by
  intro base α w xs hR ha
  refine (h base α w xs hR ha).mono fun x w' ⟨v, v', H', α', q1, q2, q3, q4, q5⟩ => ?_
  obtain ⟨H2, hw, hQ'⟩ := hq v H' q2
  refine ⟨v, v', H2, α', q1, hQ', q3, q4.weak hw, q5.weak hw fun j hj => ?_⟩
  have h1 := q5.dead j hj
  obtain ⟨o, ho⟩ := Heap.get_of_lt (H := H2) (i := j) (by rw [hw.n]; exact Heap.get_lt h1)
  rcases hw.obj j o ho with e | e
  · subst e; exact ho
  · rw [h1] at e; cases e; exact ho
theorem entOk_of {P : Program} {K : Orc} (hK : OrcOk P K) {e : Ent} (hb : entB e = true) (h : chkR e (K e.f e.args (inE e)) = true) : EntOk P e := by
  unfold chkR at h
  split at h
  · rename_i v H hx
    simp only [Bool.and_eq_true] at h
    obtain ⟨⟨h1, h2⟩, h3⟩ := h
    obtain ⟨k1, k2⟩ := hK _ _ _ _ _ hx
    refine ⟨hb, k1, k2.weak ?_⟩
    rintro u X ⟨rfl, rfl⟩
    refine ⟨outE e (inE e), ⟨by rw [outE_n hb inE_n]; exact (Nat.eq_of_beq_eq_true h2).symm, fun j o hj => ?_⟩, eqAV_sound h1, rfl⟩
    rw [outE_get hb inE_n] at hj
    split at hj
    · rename_i o' hl
      cases hj
      exact holds_spec h3 j o (look_mem hl)
    · rename_i hl
      rw [resv_get] at hj
      split at hj
      · rename_i hlt
        rw [inE_get hb] at hj
        split at hj
        · rename_i o2 ho2
          obtain ⟨o3, h3⟩ := ((entB_spec hb).2.1 _ (look_mem ho2)).2
          simp only [] at h3
          rw [hl] at h3; cases h3
        · rw [resv_get, if_neg (by simp [Heap.empty])] at hj
          split at hj
          · cases hj; exact .inl rfl
          · cases hj
      · split at hj
        · cases hj; exact .inl rfl
        · cases hj
  · cases h
end Go.Ea
end
