/-
  THE ENGINE, part 10: regions whose order is drawn: every order comes to what one order comes to. Over any program. Written in this session.
-/
import Derived.Test.YtceakkomleaibaaEa9
namespace Go.Ea

section
variable (P : Program) (eqs : Eqs) (N : Nat) (ops : List Oper) (pl : Plan) (base : Nat) (K : Env → Heap → Prop) (lk0 : Env) (H0 : Heap) (α0 : Al) (w0 : World)
def idOf (x : Nat) : Nat := H0.n + pl.rk.getD x 0
/-- What is known of an operation that the looked-at order has done, and the real one has not. -/
structure Fact (lk : Env) (H : Heap) (mk : List (Nat × AObj)) (pd : Pend) (x : Nat) (o : Oper) (lkx : Env) (v : AV) (t : Bool) : Prop where
  op : ops[x]? = some o
  dst : dOk N o.dst = true
  look1 : ∀ s ∈ looks ops o, ∀ k, k < ops.length → bef pl x k = true → gdst ops k = some s → lkx s = lk s
  look2 : ∀ s ∈ looks ops o, (∀ k, k < ops.length → bef pl x k = true → gdst ops k ≠ some s) → lkx s = lk0 s
  want : wantA ops lkx o = some t
  val : ∀ d, o.dst = some d → lk d = some v
  cls : if t = true then match clsOf o.op with
      | .loc => ∃ H1, opA o.op P eqs lkx H1 = some (.val v H1)
      | .rd => (x, lkx, v) ∈ pd ∧ opA o.op P eqs lkx (matP pl (bef pl x) H0.n mk H) = some (.val v (matP pl (bef pl x) H0.n mk H))
      | .mk => ∃ obj, opA o.op P eqs lkx ⟨idOf pl H0 x, .nil⟩ = some (.val v (Heap.push ⟨idOf pl H0 x, .nil⟩ obj)) ∧ (x, obj) ∈ mk
      | .md => False
    else v = .undef ∧ ∀ obj, (x, obj) ∉ mk
/-- A slot whose writer waits. -/
def Waits (b : Nat → Bool) (rest : List Nat) (s : Nat) : Prop := ∃ k, k < ops.length ∧ gdst ops k = some s ∧ k ∉ rest ∧ b k = false
structure Inv (b : Nat → Bool) (rest : List Nat) (lk : Env) (H : Heap) (mk : List (Nat × AObj)) (pd : Pend) (Hb : Heap) (α : Al) (a : Act) (w : World) : Prop where
  ob : wpD P eqs N ops pl H0.n K rest lk H mk pd
  oks : okS ops pl rest = true
  nb : ∀ i ∈ rest, b i = false
  cl : ∀ i j, i < ops.length → b i = true → bef pl i j = true → b j = true
  pre : ∀ k, k < ops.length → k ∉ rest → ∀ m ∈ rest, bef pl k m = false
  lk7 : ∀ s, (∀ k, k < ops.length → gdst ops k = some s → k ∈ rest) → lk s = lk0 s
  facts : ∀ x, x < ops.length → x ∉ rest → b x = false → ∃ o lkx v t, Fact P eqs N ops pl lk0 H0 lk H mk pd x o lkx v t
  env1 : ∀ s v, Waits ops b rest s → lk0 s = some v → ∃ u, a.tmps[s]? = some u ∧ VR α v u
  env2 : ∀ s v, ¬ Waits ops b rest s → lk s = some v → ∃ u, a.tmps[s]? = some u ∧ VR α v u
  size : a.tmps.size = N
  defers : a.defers = []
  mkl : ∀ x obj, (x, obj) ∈ mk → x < ops.length ∧ x ∉ rest ∧ clsAt ops x = .mk
  mkd : ∀ x obj, (x, obj) ∈ mk → H.get (idOf pl H0 x) = some .dead
  mku : ∀ x o1 o2, (x, o1) ∈ mk → (x, o2) ∈ mk → o1 = o2
  rst : ∀ x ∈ rest, clsAt ops x = .mk → H.get (idOf pl H0 x) = some .dead ∧ Hb.get (idOf pl H0 x) = some .unborn
  hn : Hb.n = H.n
  hmk : ∀ x obj, (x, obj) ∈ mk → Hb.get (idOf pl H0 x) = some (if b x = true then obj else .unborn)
  hob : ∀ j o, H.get j = some o → o = .dead ∨ Hb.get j = some o
  r : R P base Hb α w
  ext : Ext H0 α0 w0 Hb α w
  dd : ∀ j, H0.get j = some .dead → H.get j = some .dead
end

section
variable {P : Program} {eqs : Eqs} {N : Nat} {ops : List Oper} {pl : Plan} {base : Nat} {K : Env → Heap → Prop} {lk0 : Env} {H0 : Heap} {α0 : Al} {w0 : World}
variable {b : Nat → Bool} {lk : Env} {H : Heap} {mk : List (Nat × AObj)} {pd : Pend} {Hb : Heap} {α : Al} {a : Act} {w : World}

theorem gdst_of {i : Nat} {o : Oper} (h : ops[i]? = some o) : gdst ops i = o.dst := by simp [gdst, h]
theorem looksAt_of {i : Nat} {o : Oper} (h : ops[i]? = some o) : looksAt ops i = looks ops o := by simp [looksAt, h]
theorem clsAt_of {i : Nat} {o : Oper} (h : ops[i]? = some o) : clsAt ops i = clsOf o.op := by simp [clsAt, h]
theorem putF_ne {d : Option Nat} {v : AV} {s : Nat} (h : d ≠ some s) : putF lk d v s = lk s := by
  cases d with
  | none => rfl
  | some d => rw [putF_some, if_neg (fun e => h (by rw [e]))]
theorem putF_self (d : Nat) (v : AV) : putF lk (some d) v d = some v := by rw [putF_some, if_pos rfl]

/-- The looked-at order does one more. -/
theorem Inv.advance (hok : Ok ops pl) {i : Nat} {r : List Nat} (h : Inv P eqs N ops pl base K lk0 H0 α0 w0 b (i :: r) lk H mk pd Hb α a w) (hc : clsAt ops i ≠ .md) :
    ∃ lk' mk' pd', Inv P eqs N ops pl base K lk0 H0 α0 w0 b r lk' H mk' pd' Hb α a w := by
  have oc := okS_cons h.oks
  have hib : b i = false := h.nb i (by simp)
  have hir : i ∉ r := fun hm => (oc.pair i hm).ne rfl
  obtain ⟨o, ho, hd, t, ht, hob⟩ := h.ob
  have hgd := gdst_of ho
  have uniq : ∀ k s, k < ops.length → gdst ops i = some s → gdst ops k = some s → k = i := fun k s hk h1 h2 => by
    by_cases e : k = i
    · exact e
    · exact absurd h2 ((hok.pair oc.lt hk (Ne.symm e)).dst s h1)
  -- what does not depend on the class
  have gen : ∀ (v : AV) (mk' : List (Nat × AObj)) (pd' : Pend), wpD P eqs N ops pl H0.n K r (putF lk o.dst v) H mk' pd' → (mk' = mk ∨ ∃ obj, mk' = (i, obj) :: mk ∧ clsAt ops i = .mk) → (∀ p ∈ pd, p ∈ pd') →
      (if t = true then match clsOf o.op with
        | .loc => ∃ H1, opA o.op P eqs lk H1 = some (.val v H1)
        | .rd => (i, lk, v) ∈ pd' ∧ opA o.op P eqs lk (matP pl (bef pl i) H0.n mk' H) = some (.val v (matP pl (bef pl i) H0.n mk' H))
        | .mk => ∃ obj, opA o.op P eqs lk ⟨idOf pl H0 i, .nil⟩ = some (.val v (Heap.push ⟨idOf pl H0 i, .nil⟩ obj)) ∧ (i, obj) ∈ mk'
        | .md => False
      else v = .undef ∧ ∀ obj, (i, obj) ∉ mk') → Inv P eqs N ops pl base K lk0 H0 α0 w0 b r (putF lk o.dst v) H mk' pd' Hb α a w := by
    intro v mk' pd' g1 g2 g3 g4
    have hmat : ∀ x, x < ops.length → x ∉ i :: r → matP pl (bef pl x) H0.n mk' H = matP pl (bef pl x) H0.n mk H := by
      intro x hx hxr
      rcases g2 with rfl | ⟨obj, rfl, _⟩
      · rfl
      · exact matP_cons_false (h.pre x hx hxr i (by simp))
    have hsub : ∀ x obj, (x, obj) ∈ mk → (x, obj) ∈ mk' := by
      intro x obj hm
      rcases g2 with rfl | ⟨ob, rfl, _⟩
      · exact hm
      · exact List.mem_cons_of_mem _ hm
    have hinv : ∀ x obj, (x, obj) ∈ mk' → (x, obj) ∈ mk ∨ (x = i ∧ clsAt ops i = .mk) := by
      intro x obj hm
      rcases g2 with rfl | ⟨ob, rfl, hcm⟩
      · exact .inl hm
      · rcases List.mem_cons.1 hm with e | e
        · cases e; exact .inr ⟨rfl, hcm⟩
        · exact .inl e
    have hinot : ∀ obj, (i, obj) ∉ mk := fun obj hm => (h.mkl i obj hm).2.1 (by simp)
    refine ⟨g1, oc.rest, fun k hk => h.nb k (by simp [hk]), h.cl, ?_, ?_, ?_, ?_, ?_, h.size, h.defers, ?_, ?_, ?_, fun x hx => h.rst x (by simp [hx]), h.hn, ?_, h.hob, h.r, h.ext, h.dd⟩
    · -- pre
      intro k hk hkr m hm
      by_cases e : k = i
      · subst e; exact oc.nb m hm
      · exact h.pre k hk (by simp [e, hkr]) m (by simp [hm])
    · -- lk7
      intro s hs
      have hne : o.dst ≠ some s := fun e => hir (hs i oc.lt (by rw [hgd, e]))
      rw [putF_ne hne]
      exact h.lk7 s fun k hk hg => by simp [hs k hk hg]
    · -- facts
      intro x hx hxr hbx
      by_cases e : x = i
      · subst e
        refine ⟨o, lk, v, t, ho, hd, ?_, ?_, ht, ?_, g4⟩
        · intro s hs k hk hb hg
          have hne : o.dst ≠ some s := fun e => by
            have := uniq k s hk (by rw [hgd, e]) hg
            subst this; rw [oc.self] at hb; cases hb
          rw [putF_ne hne]
        · intro s hs hno
          refine h.lk7 s fun k hk hg => ?_
          by_cases e : k = x
          · simp [e]
          · by_cases hkr : k ∈ r
            · simp [hkr]
            · exfalso
              rcases (hok.pair oc.lt hk (Ne.symm e)).slot with g | g | ⟨_, g⟩
              · rw [h.pre k hk (by simp [e, hkr]) x (by simp)] at g; cases g
              · exact hno k hk g hg
              · exact g s hg (by rw [looksAt_of ho]; exact hs)
        · intro d hd'; rw [hd', putF_self]
      · have hxr' : x ∉ i :: r := by simp [e, hxr]
        obtain ⟨o', lkx, v', t', f⟩ := h.facts x hx hxr' hbx
        have hdist : ∀ s, gdst ops x = some s → o.dst ≠ some s := fun s h1 h2 => e (uniq x s hx (by rw [hgd, h2]) h1)
        refine ⟨o', lkx, v', t', f.op, f.dst, ?_, f.look2, f.want, ?_, ?_⟩
        · intro s hs k hk hb hg
          have hne : o.dst ≠ some s := fun e' => by
            have := uniq k s hk (by rw [hgd, e']) hg
            subst this; rw [h.pre x hx hxr' k (by simp)] at hb; cases hb
          rw [putF_ne hne]; exact f.look1 s hs k hk hb hg
        · intro d hd'
          rw [putF_ne (hdist d (by rw [gdst_of f.op, hd']))]; exact f.val d hd'
        · have fc := f.cls
          split at fc
          · rename_i ht'
            rw [if_pos ht']
            split at fc
            · exact fc
            · rw [hmat x hx hxr']; exact ⟨g3 _ fc.1, fc.2⟩
            · obtain ⟨obj, q1, q2⟩ := fc; exact ⟨obj, q1, hsub _ _ q2⟩
            · exact fc
          · rename_i ht'
            rw [if_neg ht']
            refine ⟨fc.1, fun obj hm => ?_⟩
            rcases hinv x obj hm with hm | ⟨e', _⟩
            · exact fc.2 obj hm
            · exact e e'
    · -- env1
      intro s v' hw hs
      obtain ⟨k, hk, hg, hkr, hkb⟩ := hw
      by_cases e : k = i
      · subst e
        refine h.env2 s v' ?_ ?_
        · rintro ⟨k', hk', hg', hkr', _⟩
          exact hkr' (by rw [uniq k' s hk' hg hg']; simp)
        · rw [h.lk7 s fun k' hk' hg' => by rw [uniq k' s hk' hg hg']; simp]; exact hs
      · exact h.env1 s v' ⟨k, hk, hg, by simp [e, hkr], hkb⟩ hs
    · -- env2
      intro s v' hw hs
      have hne : o.dst ≠ some s := fun e => hw ⟨i, oc.lt, by rw [hgd, e], hir, hib⟩
      rw [putF_ne hne] at hs
      exact h.env2 s v' (fun ⟨k, hk, hg, hkr, hkb⟩ => hw ⟨k, hk, hg, fun hm => hkr (by simp [hm]), hkb⟩) hs
    · intro x obj hm
      rcases hinv x obj hm with hm | ⟨rfl, hcm⟩
      · obtain ⟨q1, q2, q3⟩ := h.mkl x obj hm
        exact ⟨q1, fun hm' => q2 (by simp [hm']), q3⟩
      · exact ⟨oc.lt, hir, hcm⟩
    · intro x obj hm
      rcases hinv x obj hm with hm | ⟨rfl, hcm⟩
      · exact h.mkd x obj hm
      · exact (h.rst x (by simp) hcm).1
    · intro x o1 o2 h1 h2
      rcases g2 with rfl | ⟨ob, rfl, _⟩
      · exact h.mku x o1 o2 h1 h2
      · rcases List.mem_cons.1 h1 with e1 | e1
        · rcases List.mem_cons.1 h2 with e2 | e2
          · cases e1; cases e2; rfl
          · cases e1; exact absurd e2 (hinot _)
        · rcases List.mem_cons.1 h2 with e2 | e2
          · cases e2; exact absurd e1 (hinot _)
          · exact h.mku x o1 o2 e1 e2
    · intro x obj hm
      rcases g2 with rfl | ⟨ob, rfl, hcm⟩
      · exact h.hmk x obj hm
      · rcases List.mem_cons.1 hm with e | e
        · cases e
          rw [hib, if_neg (by simp)]
          exact (h.rst i (by simp) hcm).2
        · exact h.hmk x obj e
  cases t with
  | false =>
    rw [if_neg (by simp)] at hob
    exact ⟨_, mk, pd, gen .undef mk pd hob (.inl rfl) (fun _ h => h) (by rw [if_neg (by simp)]; exact ⟨rfl, fun obj hm => (h.mkl i obj hm).2.1 (by simp)⟩)⟩
  | true =>
    rw [if_pos rfl] at hob
    rw [clsAt_of ho] at hc
    cases hcl : clsOf o.op with
    | loc =>
      rw [hcl] at hob
      obtain ⟨v, h1, h2⟩ := hob
      exact ⟨_, mk, pd, gen v mk pd h2 (.inl rfl) (fun _ h => h) (by rw [if_pos rfl, hcl]; exact ⟨_, h1⟩)⟩
    | rd =>
      rw [hcl] at hob
      obtain ⟨v, h1, h2⟩ := hob
      exact ⟨_, mk, _, gen v mk _ h2 (.inl rfl) (fun _ h => by simp [h]) (by rw [if_pos rfl, hcl]; exact ⟨by simp, h1⟩)⟩
    | mk =>
      rw [hcl] at hob
      obtain ⟨v, obj, h1, h2⟩ := hob
      exact ⟨_, _, pd, gen v _ pd h2 (.inr ⟨obj, rfl, by rw [clsAt_of ho]; exact hcl⟩) (fun _ h => h) (by rw [if_pos rfl, hcl]; exact ⟨obj, h1, by simp⟩)⟩
    | md => exact absurd hcl hc
def Stop (ops : List Oper) : List Nat → Prop
  | [] => True
  | i :: _ => clsAt ops i = .md
theorem Inv.stop (hok : Ok ops pl) : ∀ {rest : List Nat} {lk : Env} {mk : List (Nat × AObj)} {pd : Pend}, Inv P eqs N ops pl base K lk0 H0 α0 w0 b rest lk H mk pd Hb α a w →
    ∃ rest' lk' mk' pd', Stop ops rest' ∧ Inv P eqs N ops pl base K lk0 H0 α0 w0 b rest' lk' H mk' pd' Hb α a w
  | [], lk, m, pd, h => ⟨[], lk, m, pd, trivial, h⟩
  | i :: r, lk, m, pd, h => by
    by_cases hc : clsAt ops i = .md
    · exact ⟨i :: r, lk, m, pd, hc, h⟩
    · obtain ⟨lk', mk', pd', h'⟩ := h.advance hok hc
      exact Inv.stop hok h'
end
end Go.Ea
