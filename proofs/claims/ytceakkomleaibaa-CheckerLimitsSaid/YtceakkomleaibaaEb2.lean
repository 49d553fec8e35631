/-
  THE ENGINE, part 11: regions whose order is drawn, continued: each step of a real order; the rule. Over any program. Written in this session.
-/
import Derived.Test.YtceakkomleaibaaEb1
namespace Go.Ea

section
variable {P : Program} {eqs : Eqs} {N : Nat} {ops : List Oper} {pl : Plan} {base : Nat} {K : Env → Heap → Prop} {lk0 : Env} {H0 : Heap} {α0 : Al} {w0 : World}
variable {b : Nat → Bool} {lk : Env} {H : Heap} {mk : List (Nat × AObj)} {pd : Pend} {Hb : Heap} {α : Al} {a : Act} {w : World} {rest : List Nat}

def and1 (b : Nat → Bool) (x : Nat) : Nat → Bool := fun i => b i || Nat.beq i x
theorem and1_self (b : Nat → Bool) (x : Nat) : and1 b x x = true := by simp [and1]
theorem and1_ne {b : Nat → Bool} {x i : Nat} (h : i ≠ x) : and1 b x i = b i := by
  have : Nat.beq i x = false := by rw [Bool.eq_false_iff]; intro e; exact h (Nat.eq_of_beq_eq_true e)
  simp [and1, this]
theorem and1_false {b : Nat → Bool} {x i : Nat} (h : and1 b x i = false) : b i = false ∧ i ≠ x := by
  have hne : i ≠ x := fun e => by subst e; rw [and1_self] at h; cases h
  exact ⟨by rw [and1_ne hne] at h; exact h, hne⟩
theorem put_get {d : Option Nat} {u : Value} (hd : dOk N d = true) (hs : a.tmps.size = N) (s : Nat) : (a.put d u).tmps[s]? = if d = some s then some u else a.tmps[s]? := by
  cases d with
  | none => simp [Act.put]
  | some d =>
    have hd' : d < N := by simpa [dOk, Nat.blt_eq] using hd
    simp only [Act.put, Option.some.injEq]
    by_cases e : d = s
    · subst e; rw [if_pos rfl, Array.getElem?_setIfInBounds_self_of_lt (by rw [hs]; exact hd')]
    · rw [if_neg e, Array.getElem?_setIfInBounds_ne e]
theorem put_size (d : Option Nat) (u : Value) : (a.put d u).tmps.size = a.tmps.size := by cases d <;> simp [Act.put]
theorem put_defers' (d : Option Nat) (u : Value) : (a.put d u).defers = a.defers := by cases d <;> rfl

/-- The environment cut to what an operation looks at. -/
noncomputable def cutL (l : List Nat) (lk : Env) : Env := fun s => if s ∈ l then lk s else none
theorem cut_eq {l : List Nat} {lk : Env} : ∀ t ∈ l, lk t = cutL l lk t := fun t ht => by simp [cutL, ht]
theorem cut_env {l : List Nat} (h : ∀ s ∈ l, ∀ v, lk s = some v → ∃ u, a.tmps[s]? = some u ∧ VR α v u) : EnvR α (cutL l lk) a := fun t av ht => by
  unfold cutL at ht
  split at ht
  · exact h t ‹_› av ht
  · cases ht

theorem Inv.id_lt (h : Inv P eqs N ops pl base K lk0 H0 α0 w0 b rest lk H mk pd Hb α a w) : ∀ x obj, (x, obj) ∈ mk → H0.n + pl.rk.getD x 0 < H.n := fun x obj hm => Heap.get_lt (h.mkd x obj hm)

/-- What a waiting operation looks at stands in the slots. -/
theorem Inv.sees (hok : Ok ops pl) (h : Inv P eqs N ops pl base K lk0 H0 α0 w0 b rest lk H mk pd Hb α a w) {x : Nat} {o : Oper} {lkx : Env} {v : AV} {t : Bool} (hx : x < ops.length) (hbx : b x = false)
    (hpre : ∀ j, bef pl x j = true → b j = true) (f : Fact P eqs N ops pl lk0 H0 lk H mk pd x o lkx v t) : ∀ s ∈ looks ops o, ∀ v, lkx s = some v → ∃ u, a.tmps[s]? = some u ∧ VR α v u := by
  intro s hs v hv
  have uniq : ∀ k k', k < ops.length → k' < ops.length → gdst ops k = some s → gdst ops k' = some s → k = k' := fun k k' hk hk' h1 h2 => by
    by_cases e : k = k'
    · exact e
    · exact absurd h2 ((hok.pair hk hk' e).dst s h1)
  by_cases hw : Waits ops b rest s
  · have hw' := hw
    obtain ⟨k, hk, hg, hkr, hkb⟩ := hw
    refine h.env1 s v hw' ?_
    rw [← f.look2 s hs fun k' hk' hb hg' => ?_]
    · exact hv
    · have := uniq k k' hk hk' hg hg'
      subst this
      rw [hpre k hb] at hkb; cases hkb
  · by_cases he : ∃ k, k < ops.length ∧ bef pl x k = true ∧ gdst ops k = some s
    · obtain ⟨k, hk, hb, hg⟩ := he
      exact h.env2 s v hw (by rw [← f.look1 s hs k hk hb hg]; exact hv)
    · refine h.env2 s v hw ?_
      rw [h.lk7 s fun k hk hg => ?_, ← f.look2 s hs fun k hk hb hg => he ⟨k, hk, hb, hg⟩]
      · exact hv
      · by_cases hkr : k ∈ rest
        · exact hkr
        · exfalso
          have hbk : b k = true := by
            cases hbk : b k with
            | true => rfl
            | false => exact absurd ⟨k, hk, hg, hkr, hbk⟩ hw
          have hne : x ≠ k := fun e => by subst e; rw [hbk] at hbx; cases hbx
          rcases (hok.pair hx hk hne).slot with g | g | ⟨_, g⟩
          · rw [h.cl k x hk hbk g] at hbx; cases hbx
          · exact he ⟨k, hk, g, hg⟩
          · exact g s hg (by rw [looksAt_of f.op]; exact hs)

/-- A waiting operation has been done. -/
theorem Inv.pended (hok : Ok ops pl) (h : Inv P eqs N ops pl base K lk0 H0 α0 w0 b rest lk H mk pd Hb α a w) {x : Nat} {o : Oper} {lkx : Env} {v : AV} {t : Bool} (hx : x < ops.length) (hxr : x ∉ rest)
    (hpre : ∀ j, bef pl x j = true → b j = true) (f : Fact P eqs N ops pl lk0 H0 lk H mk pd x o lkx v t) {u : Value} {Hb' : Heap} {α' : Al} {w' : World} (hv : VR α' v u) (hs : Sub α α') (hR : R P base Hb' α' w')
    (hX : Ext H0 α0 w0 Hb' α' w') (hH : (Hb' = Hb ∧ ∀ obj, (x, obj) ∉ mk) ∨ ∃ obj, Hb' = Hb.set (idOf pl H0 x) obj ∧ (x, obj) ∈ mk) :
    Inv P eqs N ops pl base K lk0 H0 α0 w0 (and1 b x) rest lk H mk pd Hb' α' (a.put o.dst u) w' := by
  have hgd := gdst_of f.op
  have old : ∀ {s v}, (∃ u, a.tmps[s]? = some u ∧ VR α v u) → o.dst ≠ some s → ∃ u', (a.put o.dst u).tmps[s]? = some u' ∧ VR α' v u' := by
    rintro s v ⟨u', h1, h2⟩ hne
    exact ⟨u', by rw [put_get f.dst h.size, if_neg hne]; exact h1, h2.mono hs⟩
  have hge : ∀ j, j ≠ idOf pl H0 x → Hb'.get j = Hb.get j := by
    intro j hj
    rcases hH with ⟨rfl, _⟩ | ⟨obj, rfl, hm⟩
    · rfl
    · rw [Heap.get_set _ _ _ _ (Heap.get_lt (h.hmk x obj hm)), if_neg hj]
  have hidne : ∀ y, y < ops.length → clsAt ops y = .mk → clsAt ops x = .mk → y ≠ x → idOf pl H0 y ≠ idOf pl H0 x := by
    intro y hy h1 h2 hne e
    exact (hok.pair hy hx hne).rk h1 h2 (by unfold idOf at e; omega)
  have hkeep : ∀ y, y < ops.length → clsAt ops y = .mk → y ≠ x → Hb'.get (idOf pl H0 y) = Hb.get (idOf pl H0 y) := by
    intro y hy h1 hne
    rcases hH with ⟨rfl, _⟩ | ⟨obj, _, hm⟩
    · rfl
    · exact hge _ (hidne y hy h1 (h.mkl x obj hm).2.2 hne)
  refine ⟨h.ob, h.oks, fun i hi => by rw [and1_ne (fun e => hxr (by rw [← e]; exact hi))]; exact h.nb i hi, ?_, h.pre, h.lk7, fun y hy hyr hyb => h.facts y hy hyr (and1_false hyb).1, ?_, ?_, by rw [put_size]; exact h.size,
    by rw [put_defers']; exact h.defers, h.mkl, h.mkd, h.mku, ?_, ?_, ?_, ?_, hR, hX, h.dd⟩
  · intro i j hi hb hij
    by_cases e : i = x
    · subst e
      have := hpre j hij
      simp [and1, this]
    · rw [and1_ne e] at hb
      have := h.cl i j hi hb hij
      simp [and1, this]
  · rintro s v' ⟨k, hk, hg, hkr, hkb⟩ hs'
    obtain ⟨hkb, hkx⟩ := and1_false hkb
    refine old (h.env1 s v' ⟨k, hk, hg, hkr, hkb⟩ hs') fun e => ?_
    exact (hok.pair hk hx hkx).dst s hg (by rw [hgd, e])
  · intro s v' hw hs'
    by_cases e : o.dst = some s
    · have := f.val s e
      rw [hs'] at this; cases this
      exact ⟨u, by rw [put_get f.dst h.size, if_pos e], hv⟩
    · refine old (h.env2 s v' ?_ hs') e
      rintro ⟨k, hk, hg, hkr, hkb⟩
      by_cases ek : k = x
      · subst ek; exact e (by rw [← hgd, hg])
      · exact hw ⟨k, hk, hg, hkr, by rw [and1_ne ek]; exact hkb⟩
  · intro y hy hc
    have hyl : y < ops.length := (okS_each h.oks y hy).1
    rw [hkeep y hyl hc (fun e => hxr (by rw [← e]; exact hy))]
    exact h.rst y hy hc
  · rcases hH with ⟨rfl, _⟩ | ⟨obj, rfl, hm⟩
    · exact h.hn
    · exact h.hn
  · intro y ob hm
    by_cases e : y = x
    · subst e
      rw [and1_self, if_pos rfl]
      rcases hH with ⟨_, hno⟩ | ⟨obj, rfl, hm'⟩
      · exact absurd hm (hno ob)
      · rw [h.mku y ob obj hm hm', Heap.get_set _ _ _ _ (Heap.get_lt (h.hmk y obj hm')), if_pos rfl]
    · have hl := h.mkl y ob hm
      rw [hkeep y hl.1 hl.2.2 e, and1_ne e]; exact h.hmk y ob hm
  · intro j o' hj
    by_cases e : j = idOf pl H0 x
    · rcases hH with ⟨rfl, _⟩ | ⟨obj, _, hm⟩
      · exact h.hob j o' hj
      · rw [e, h.mkd x obj hm] at hj; cases hj; exact .inl rfl
    · rw [hge j e]; exact h.hob j o' hj

/-- The view for an operation. -/
theorem Inv.view (h : Inv P eqs N ops pl base K lk0 H0 α0 w0 b rest lk H mk pd Hb α a w) {x : Nat} (hpre : ∀ j, bef pl x j = true → b j = true) : Weak (matP pl (bef pl x) H0.n mk H) Hb := by
  refine ⟨by rw [matP_n, h.hn], fun j o hj => ?_⟩
  rcases matP_get h.id_lt hj with ⟨y, h1, h2, h3⟩ | h1
  · have := h.hmk y o h1
    rw [hpre y h2, if_pos rfl] at this
    rw [← h3]; exact .inr this
  · exact h.hob j o h1

/-- A waiting operation is done. -/
theorem Inv.pend (hQ : EqsOk P eqs) (hok : Ok ops pl) (h : Inv P eqs N ops pl base K lk0 H0 α0 w0 b rest lk H mk pd Hb α a w) {x : Nat} (hx : x < ops.length) (hxr : x ∉ rest) (hbx : b x = false)
    (hpre : ∀ j, bef pl x j = true → b j = true) {opsA : Array Oper} (hops : opsA.toList = ops) {Kt : Act → World → Prop} {Q : Exit → Act → World → Prop}
    (hK : ∀ Hb' α' a' w', Inv P eqs N ops pl base K lk0 H0 α0 w0 (and1 b x) rest lk H mk pd Hb' α' a' w' → Kt a' w') : wpOp P opsA Q x Kt a w := by
  obtain ⟨o, lkx, v, t, f⟩ := h.facts x hx hxr hbx
  have hE := cut_env (h.sees hok hx hbx hpre f)
  have hoA : opsA[x]? = some o := by rw [← Array.getElem?_toList, hops]; exact f.op
  have hwant : Region.wanted o (yielded opsA a.tmps) = t := by
    refine wantA_sim hE ?_
    rw [hops, ← wantA_looks (cut_eq (l := looks ops o) (lk := lkx))]; exact f.want
  unfold wpOp
  rw [hoA]
  simp only [hwant]
  have fc := f.cls
  cases t with
  | false =>
    rw [if_neg (by simp)] at fc
    rw [if_neg (by simp)]
    obtain ⟨rfl, hno⟩ := fc
    exact hK _ _ _ _ (h.pended hok hx hxr hpre f (VR_undef α) (Sub.refl _) h.r h.ext (.inl ⟨rfl, hno⟩))
  | true =>
    rw [if_pos rfl] at fc
    rw [if_pos rfl]
    refine .inl ?_
    have nomk : clsOf o.op ≠ .mk → ∀ obj, (x, obj) ∉ mk := fun hc obj hm => hc (by rw [← clsAt_of f.op]; exact (h.mkl x obj hm).2.2)
    cases hcl : clsOf o.op with
    | loc =>
      rw [hcl] at fc
      obtain ⟨H1, fc⟩ := fc
      have fc := loc_any o.op hcl fc Hb
      rw [opA_looks cut_eq] at fc
      obtain ⟨nx, u, w', α', g1, g2, g3, g4, g5⟩ := op_sim hQ h.r hE fc
      have := hK _ _ _ _ (h.pended hok hx hxr hpre f g3 g5.sub g4 (h.ext.trans g5) (.inl ⟨rfl, nomk (by rw [hcl]; simp)⟩))
      unfold Oper.wp
      rw [g1]
      rcases g2 with g2 | ⟨g2, g6⟩
      · subst g2; exact this
      · subst g2; subst g6; exact this
    | rd =>
      rw [hcl] at fc
      obtain ⟨_, fc⟩ := fc
      rw [opA_looks cut_eq] at fc
      have hw := h.view hpre
      obtain ⟨nx, u, w', α', g1, g2, g3, g4, g5⟩ := op_sim hQ (h.r.weak hw) hE fc
      have back : ∀ j o, Hb.get j = some o → o = .dead ∨ (matP pl (bef pl x) H0.n mk H).get j = some o ∨ (j < (matP pl (bef pl x) H0.n mk H).n ∧ (matP pl (bef pl x) H0.n mk H).get j = some .dead ∧ Hb.get j = some o) := by
        intro j o' hj
        have hlt : j < (matP pl (bef pl x) H0.n mk H).n := by rw [hw.n]; exact Heap.get_lt hj
        obtain ⟨o2, ho2⟩ := Heap.get_of_lt hlt
        rcases hw.obj j o2 ho2 with rfl | e
        · exact .inr (.inr ⟨hlt, ho2, hj⟩)
        · rw [hj] at e; cases e; exact .inr (.inl ho2)
      have r2 := h.r.back hw g4 g5 hw.n.symm back
      have x2 := Ext.back hw g5 hw.n.symm back fun _ hj => hj
      have := hK _ _ _ _ (h.pended hok hx hxr hpre f g3 g5.sub r2 (h.ext.trans x2) (.inl ⟨rfl, nomk (by rw [hcl]; simp)⟩))
      unfold Oper.wp
      rw [g1]
      rcases g2 with g2 | ⟨g2, g6⟩
      · subst g2; exact this
      · subst g2; subst g6; exact this
    | mk =>
      rw [hcl] at fc
      obtain ⟨obj, fc, hm⟩ := fc
      rw [opA_looks cut_eq] at fc
      have hub := h.hmk x obj hm
      rw [hbx, if_neg (by simp)] at hub
      have hnone : α (idOf pl H0 x) = none := h.r.obj _ _ hub
      obtain ⟨u, O, L, g1, g2, g3, g4, g5⟩ := mk_any (base := base) (w := w) o.op hcl rfl fc h.r.bs hnone hE
      have := hK _ _ _ _ (h.pended hok hx hxr hpre f g3 (sub_upd hnone) (h.r.born hub g2 g4) (h.ext.born (by unfold idOf; omega) (Heap.get_lt hub) hnone g2 g5) (.inr ⟨obj, rfl, hm⟩))
      unfold Oper.wp
      rw [g1]
      exact this
    | md => rw [hcl] at fc; exact fc.elim

/-- The head, an operation that turns the heap, has been done. -/
theorem Inv.headed (hok : Ok ops pl) {m : Nat} {r : List Nat} (h : Inv P eqs N ops pl base K lk0 H0 α0 w0 b (m :: r) lk H mk pd Hb α a w) {o : Oper} (ho : ops[m]? = some o) (hcm : clsAt ops m = .md) (hd : dOk N o.dst = true)
    (hpre : ∀ j, bef pl m j = true → b j = true) {v : AV} {u : Value} {H' : Heap} {mk' : List (Nat × AObj)} {pd' : Pend} {Hb' : Heap} {α' : Al} {w' : World}
    (hob : wpD P eqs N ops pl H0.n K r (putF lk o.dst v) H' mk' pd') (hm1 : ∀ y obj, (y, obj) ∈ mk' → (y, obj) ∈ mk) (hm2 : ∀ y obj, (y, obj) ∈ mk → b y = false → (y, obj) ∈ mk')
    (hp : ∀ p ∈ pd, b p.1 = false → p ∈ pd' ∧ (recheck P eqs ops pl H0.n H mk p → recheck P eqs ops pl H0.n H' mk' p))
    (hd1 : ∀ y obj, (y, obj) ∈ mk' → H'.get (idOf pl H0 y) = some .dead ∧ Hb'.get (idOf pl H0 y) = Hb.get (idOf pl H0 y))
    (hd2 : ∀ y ∈ r, clsAt ops y = .mk → H'.get (idOf pl H0 y) = some .dead ∧ Hb'.get (idOf pl H0 y) = some .unborn) (hn : Hb'.n = H'.n) (hb' : ∀ j o, H'.get j = some o → o = .dead ∨ Hb'.get j = some o)
    (hv : VR α' v u) (hs : Sub α α') (hR : R P base Hb' α' w') (hX : Ext H0 α0 w0 Hb' α' w') (hdd : ∀ j, H0.get j = some .dead → H'.get j = some .dead) :
    Inv P eqs N ops pl base K lk0 H0 α0 w0 (and1 b m) r (putF lk o.dst v) H' mk' pd' Hb' α' (a.put o.dst u) w' := by
  have oc := okS_cons h.oks
  have hgd := gdst_of ho
  have hmr : m ∉ r := fun hm => (oc.pair m hm).ne rfl
  have uniq : ∀ k s, k < ops.length → gdst ops m = some s → gdst ops k = some s → k = m := fun k s hk h1 h2 => by
    by_cases e : k = m
    · exact e
    · exact absurd h2 ((hok.pair oc.lt hk (Ne.symm e)).dst s h1)
  have old : ∀ {s v}, (∃ u, a.tmps[s]? = some u ∧ VR α v u) → o.dst ≠ some s → ∃ u', (a.put o.dst u).tmps[s]? = some u' ∧ VR α' v u' := by
    rintro s v ⟨u', h1, h2⟩ hne
    exact ⟨u', by rw [put_get hd h.size, if_neg hne]; exact h1, h2.mono hs⟩
  refine ⟨hob, oc.rest, ?_, ?_, ?_, ?_, ?_, ?_, ?_, by rw [put_size]; exact h.size, by rw [put_defers']; exact h.defers, ?_, fun y obj hm => (hd1 y obj hm).1, fun y o1 o2 g1 g2 => h.mku y o1 o2 (hm1 _ _ g1) (hm1 _ _ g2), hd2, hn, ?_, hb', hR, hX, hdd⟩
  · intro i hi
    rw [and1_ne (fun e => hmr (by rw [← e]; exact hi))]
    exact h.nb i (by simp [hi])
  · intro i j hi hb hij
    by_cases e : i = m
    · subst e
      have := hpre j hij
      simp [and1, this]
    · rw [and1_ne e] at hb
      have := h.cl i j hi hb hij
      simp [and1, this]
  · intro k hk hkr y hy
    by_cases e : k = m
    · subst e; exact oc.nb y hy
    · exact h.pre k hk (by simp [e, hkr]) y (by simp [hy])
  · intro s hs'
    have hne : o.dst ≠ some s := fun e => hmr (hs' m oc.lt (by rw [hgd, e]))
    rw [putF_ne hne]
    exact h.lk7 s fun k hk hg => by simp [hs' k hk hg]
  · intro x hx hxr hbx
    obtain ⟨hbx, hxm⟩ := and1_false hbx
    have hxr' : x ∉ m :: r := by simp [hxm, hxr]
    obtain ⟨o', lkx, v', t', f⟩ := h.facts x hx hxr' hbx
    have hdist : ∀ s, gdst ops x = some s → o.dst ≠ some s := fun s h1 h2 => hxm (uniq x s hx (by rw [hgd, h2]) h1)
    refine ⟨o', lkx, v', t', f.op, f.dst, ?_, f.look2, f.want, ?_, ?_⟩
    · intro s hs' k hk hb hg
      have hne : o.dst ≠ some s := fun e' => by
        have := uniq k s hk (by rw [hgd, e']) hg
        subst this; rw [h.pre x hx hxr' k (by simp)] at hb; cases hb
      rw [putF_ne hne]; exact f.look1 s hs' k hk hb hg
    · intro d hd'
      rw [putF_ne (hdist d (by rw [gdst_of f.op, hd']))]; exact f.val d hd'
    · have fc := f.cls
      split at fc
      · rename_i ht'
        rw [if_pos ht']
        split at fc
        · exact fc
        · obtain ⟨q1, q2⟩ := hp _ fc.1 hbx
          obtain ⟨o2, k1, k2⟩ := q2 ⟨o', f.op, fc.2⟩
          rw [f.op] at k1; cases k1
          exact ⟨q1, k2⟩
        · obtain ⟨obj, q1, q2⟩ := fc; exact ⟨obj, q1, hm2 _ _ q2 hbx⟩
        · exact fc
      · rename_i ht'
        rw [if_neg ht']
        exact ⟨fc.1, fun obj hm => fc.2 obj (hm1 _ _ hm)⟩
  · rintro s v' ⟨k, hk, hg, hkr, hkb⟩ hs'
    obtain ⟨hkb, hkm⟩ := and1_false hkb
    refine old (h.env1 s v' ⟨k, hk, hg, by simp [hkm, hkr], hkb⟩ hs') fun e => hkm (uniq k s hk (by rw [hgd, e]) hg)
  · intro s v' hw hs'
    by_cases e : o.dst = some s
    · rw [e, putF_self] at hs'
      cases hs'
      exact ⟨u, by rw [put_get hd h.size, if_pos e], hv⟩
    · rw [putF_ne e] at hs'
      refine old (h.env2 s v' ?_ hs') e
      rintro ⟨k, hk, hg, hkr, hkb⟩
      have hkm : k ≠ m := fun e => hkr (by simp [e])
      exact hw ⟨k, hk, hg, fun hm => hkr (by simp [hm]), by rw [and1_ne hkm]; exact hkb⟩
  · intro y obj hm
    obtain ⟨q1, q2, q3⟩ := h.mkl y obj (hm1 _ _ hm)
    exact ⟨q1, fun hm' => q2 (by simp [hm']), q3⟩
  · intro y obj hm
    have hy := h.mkl y obj (hm1 _ _ hm)
    rw [(hd1 y obj hm).2, and1_ne (fun e => by subst e; rw [hcm] at hy; cases hy.2.2)]
    exact h.hmk y obj (hm1 _ _ hm)

theorem Inv.head (hQ : EqsOk P eqs) (hok : Ok ops pl) {m : Nat} {r : List Nat} (h : Inv P eqs N ops pl base K lk0 H0 α0 w0 b (m :: r) lk H mk pd Hb α a w) (hcm : clsAt ops m = .md)
    (hpre : ∀ j, bef pl m j = true → b j = true) {opsA : Array Oper} (hops : opsA.toList = ops) {Kt : Act → World → Prop} {Q : Exit → Act → World → Prop}
    (hK : ∀ lk' H' mk' pd' Hb' α' a' w', Inv P eqs N ops pl base K lk0 H0 α0 w0 (and1 b m) r lk' H' mk' pd' Hb' α' a' w' → Kt a' w') : wpOp P opsA Q m Kt a w := by
  have oc := okS_cons h.oks
  obtain ⟨o, ho, hd, t, ht, hob⟩ := h.ob
  have hbm : b m = false := h.nb m (by simp)
  -- what it looks at stands in the slots
  have hE : EnvR α (cutL (looks ops o) lk) a := by
    refine cut_env fun s hs v hv => ?_
    refine h.env2 s v ?_ hv
    rintro ⟨k, hk, hg, hkr, hkb⟩
    have hne : m ≠ k := fun e => hkr (by simp [e])
    rcases (hok.pair oc.lt hk hne).slot with g | g | ⟨_, g⟩
    · rw [h.pre k hk hkr m (by simp)] at g; cases g
    · rw [hpre k g] at hkb; cases hkb
    · exact g s hg (by rw [looksAt_of ho]; exact hs)
  have hoA : opsA[m]? = some o := by rw [← Array.getElem?_toList, hops]; exact ho
  have hwant : Region.wanted o (yielded opsA a.tmps) = t := by
    refine wantA_sim hE ?_
    rw [hops, ← wantA_looks (cut_eq (l := looks ops o) (lk := lk))]; exact ht
  have hmk1 : ∀ y obj, (y, obj) ∈ mk → idOf pl H0 y < H.n := h.id_lt
  unfold wpOp
  rw [hoA]
  simp only [hwant]
  cases t with
  | false =>
    rw [if_neg (by simp)] at hob
    rw [if_neg (by simp)]
    exact hK _ _ _ _ _ _ _ _ (h.headed hok ho hcm hd hpre hob (fun _ _ h => h) (fun _ _ h _ => h) (fun p hp _ => ⟨hp, fun h => h⟩) (fun y obj hm => ⟨h.mkd y obj hm, rfl⟩) (fun y hy hc => h.rst y (by simp [hy]) hc) h.hn h.hob
      (VR_undef α) (Sub.refl _) h.r h.ext h.dd)
  | true =>
    rw [if_pos rfl] at hob
    rw [if_pos rfl]
    refine .inl ?_
    rw [clsAt_of ho] at hcm
    rw [hcm] at hob
    have hop := opP_looks (cut_eq (l := looks ops o) (lk := lk)) hob
    have hw := h.view hpre
    refine opP_sim hQ (H := matP pl (bef pl m) H0.n mk H) (lk := cutL (looks ops o) lk) (St.mk (P := P) (N := N) (base := base) (h.r.weak hw) hE h.size h.defers) hop fun v u H' α' w' g1 g2 g3 g4 => ?_
    obtain ⟨g5, g6⟩ := g1
    obtain ⟨Hb', e1, e2⟩ := exists_heap (fun j => match (matP pl (bef pl m) H0.n mk H).get j with
      | some .dead => (Hb.get j).getD .dead
      | _ => (H'.get j).getD .dead) H'.n
    have hkeepv : ∀ y, y < ops.length → clsAt ops y = .mk → bef pl m y = false → (matP pl (bef pl m) H0.n mk H).get (idOf pl H0 y) = H.get (idOf pl H0 y) := by
      intro y hy hc hb
      refine matP_keep h.id_lt fun z obj hz hbz e => ?_
      have hne : z ≠ y := fun e => by subst e; rw [hb] at hbz; cases hbz
      have hz' := h.mkl z obj hz
      exact (hok.pair hz'.1 hy hne).rk hz'.2.2 hc (by unfold idOf at e; omega)
    have hdead : ∀ j, (matP pl (bef pl m) H0.n mk H).get j = some .dead → H'.get j = some .dead ∧ Hb'.get j = Hb.get j := by
      intro j hj
      have hj' := g4.dead j hj
      refine ⟨hj', ?_⟩
      rw [e2 j (Heap.get_lt hj')]
      simp only [hj]
      obtain ⟨o2, ho2⟩ := Heap.get_of_lt (H := Hb) (i := j) (by rw [← hw.n]; exact Heap.get_lt hj)
      rw [ho2]; rfl
    have hlive : ∀ j o', Hb'.get j = some o' → (matP pl (bef pl m) H0.n mk H).get j ≠ some .dead → H'.get j = some o' := by
      intro j o' hj hnd
      have hjl : j < H'.n := by rw [← e1]; exact Heap.get_lt hj
      rw [e2 j hjl] at hj
      obtain ⟨o2, ho2⟩ := Heap.get_of_lt hjl
      rw [ho2] at hj ⊢
      split at hj
      · exact absurd ‹_› hnd
      · exact hj
    have hO : ∀ j o', Hb'.get j = some o' → o' = .dead ∨ H'.get j = some o' ∨ (j < (matP pl (bef pl m) H0.n mk H).n ∧ (matP pl (bef pl m) H0.n mk H).get j = some .dead ∧ Hb.get j = some o') := by
      intro j o' hj
      by_cases hnd : (matP pl (bef pl m) H0.n mk H).get j = some .dead
      · rw [(hdead j hnd).2] at hj
        exact .inr (.inr ⟨Heap.get_lt hnd, hnd, hj⟩)
      · exact .inr (.inl (hlive j o' hj hnd))
    have r2 := h.r.back hw g3 g4 e1 hO
    have x2 := Ext.back hw g4 e1 hO fun j hj => by
      have hjl : j < (matP pl (bef pl m) H0.n mk H).n := by rw [hw.n]; exact Heap.get_lt hj
      obtain ⟨o2, ho2⟩ := Heap.get_of_lt hjl
      have : o2 = .dead := by
        rcases hw.obj j o2 ho2 with e | e
        · exact e
        · rw [hj] at e; cases e; rfl
      subst this
      rw [(hdead j ho2).2]; exact hj
    refine hK _ _ _ _ _ _ _ _ (h.headed hok ho (by rw [clsAt_of ho]; exact hcm) hd hpre g6 (fun y obj hm => (List.mem_filter.1 hm).1) (fun y obj hm hby => ?_) (fun p hp hbp => ?_) (fun y obj hm => ?_) (fun y hy hc => ?_) e1 ?_ g2 g4.sub r2 (h.ext.trans x2) fun j hj => g4.dead j (by
      have := Heap.get_lt hj
      rw [matP_keep h.id_lt fun z obj _ _ => by omega]; exact h.dd j hj))
    · refine List.mem_filter.2 ⟨hm, ?_⟩
      cases hb : bef pl m y with
      | false => rfl
      | true => rw [hpre y hb] at hby; cases hby
    · have hb : bef pl m p.1 = false := by
        cases hb : bef pl m p.1 with
        | false => rfl
        | true => rw [hpre _ hb] at hbp; cases hbp
      exact ⟨List.mem_filter.2 ⟨hp, by simp [hb]⟩, fun _ => g5 p hp hb⟩
    · obtain ⟨hm1, hm2⟩ := List.mem_filter.1 hm
      have hl := h.mkl y obj hm1
      have hv := hkeepv y hl.1 hl.2.2 (by simpa using hm2)
      rw [h.mkd y obj hm1] at hv
      exact hdead _ hv
    · have hyl := (okS_each oc.rest y hy).1
      have hv := hkeepv y hyl hc (oc.nb y hy)
      obtain ⟨q1, q2⟩ := h.rst y (by simp [hy]) hc
      rw [q1] at hv
      obtain ⟨k1, k2⟩ := hdead _ hv
      exact ⟨k1, by rw [k2]; exact q2⟩
    · intro j o' hj
      by_cases hnd : (matP pl (bef pl m) H0.n mk H).get j = some .dead
      · rw [(hdead j hnd).1] at hj; cases hj; exact .inl rfl
      · have hjl := Heap.get_lt hj
        refine .inr ?_
        rw [e2 j hjl]
        split
        · exact absurd ‹_› hnd
        · rw [hj]; rfl

/-- All is done. -/
theorem Inv.fin (h : Inv P eqs N ops pl base K lk0 H0 α0 w0 b [] lk H mk pd Hb α a w) (hall : ∀ i, i < ops.length → b i = true) :
    ∃ Hf, K lk Hf ∧ St P N base Hf α w lk a ∧ Ext H0 α0 w0 Hf α w := by
  have hw : Weak (matP pl (fun _ => true) H0.n mk H) Hb := by
    refine ⟨by rw [matP_n, h.hn], fun j o hj => ?_⟩
    rcases matP_get h.id_lt hj with ⟨y, h1, _, h3⟩ | h1
    · have := h.hmk y o h1
      rw [hall y (h.mkl y o h1).1, if_pos rfl] at this
      rw [← h3]; exact .inr this
    · exact h.hob j o h1
  refine ⟨_, h.ob, ⟨h.r.weak hw, fun s v hs => h.env2 s v ?_ hs, h.size, h.defers⟩, h.ext.weak hw fun j hj => by
    have := Heap.get_lt hj
    rw [matP_keep h.id_lt fun z obj _ _ => by omega]; exact h.dd j hj⟩
  rintro ⟨k, hk, _, _, hkb⟩
  rw [hall k hk] at hkb; cases hkb
end
end Go.Ea
