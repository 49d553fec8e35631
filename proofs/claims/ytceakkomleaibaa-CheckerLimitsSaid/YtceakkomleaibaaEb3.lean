/-
  THE ENGINE, part 12: the rule for regions whose order is drawn. Over any program. Written in this session.
-/
import Derived.Test.YtceakkomleaibaaEb2
namespace Go.Ea

section
variable {P : Program} {eqs : Eqs} {N : Nat} {pl : Plan} {base : Nat} {K : Env → Heap → Prop} {lk0 : Env} {H0 : Heap} {α0 : Al} {w0 : World}

/-- Which ones are listed. -/
def lst (listed : Array Bool) : Nat → Bool := fun i => listed.getD i false
theorem lst_set {listed : Array Bool} {i : Nat} (hi : i < listed.size) : lst (listed.setIfInBounds i true) = and1 (lst listed) i := by
  funext j
  unfold lst
  by_cases e : j = i
  · subst e; rw [and1_self]; simp [hi]
  · rw [and1_ne e]; simp [Array.getElem?_setIfInBounds_ne (Ne.symm e)]

theorem inv_any (hQ : EqsOk P eqs) {ops : Array Oper} (hok : Ok ops.toList pl)
    {Q : Exit → Act → World → Prop} (hK : ∀ lk' H' α' a' w', K lk' H' → St P N base H' α' w' lk' a' → Ext H0 α0 w0 H' α' w' → Q .normal a' w') :
    ∀ (fuel : Nat) (listed : Array Bool) (U : List Nat) (rest : List Nat) (lk : Env) (H : Heap) (mk : List (Nat × AObj)) (pd : Pend) (Hb : Heap) (α : Al) (a : Act) (w : World),
      listed.size = ops.size → U.Nodup → (∀ i, i ∈ U ↔ i < ops.size ∧ lst listed i = false) → U.length ≤ fuel → (∀ i o, ops[i]? = some o → lst listed i = true → ∀ e ∈ o.after, Region.binds .any e = true → lst listed e.on = true) →
      Stop ops.toList rest → Inv P eqs N ops.toList pl base K lk0 H0 α0 w0 (lst listed) rest lk H mk pd Hb α a w → wpAny P .any ops Q fuel listed a w := by
  intro fuel
  induction fuel with
  | zero =>
    intro listed U rest lk H mk pd Hb α a w hsz hnd hU hlen hcl hstop h
    have hU0 : U = [] := by cases U with
      | nil => rfl
      | cons _ _ => simp at hlen
    have hall : ∀ i, i < ops.size → lst listed i = true := fun i hi => by
      cases e : lst listed i with
      | true => rfl
      | false => have := (hU i).2 ⟨hi, e⟩; rw [hU0] at this; cases this
    refine ⟨?_, ?_⟩
    · cases hr : Region.ready .any ops listed with
      | nil => rfl
      | cons j _ =>
        have hj : j ∈ Region.ready .any ops listed := by rw [hr]; simp
        obtain ⟨h1, o, ho, _⟩ := mem_ready.1 hj
        have hjl := (Array.getElem?_eq_some_iff.1 ho).1
        have h2 := hall j hjl
        unfold lst at h2
        rw [Array.getD_eq_getD_getElem?, Array.getElem?_eq_getElem (by rw [hsz]; exact hjl)] at h1 h2
        simp at h1 h2
        rw [h1] at h2; cases h2
    · have hre : rest = [] := by
        cases rest with
        | nil => rfl
        | cons m r =>
          have := h.nb m (by simp)
          rw [hall m (by simpa using (okS_cons h.oks).lt)] at this; cases this
      subst hre
      obtain ⟨Hf, k1, k2, k3⟩ := h.fin (fun i hi => hall i (by simpa using hi))
      exact hK _ _ _ _ _ k1 k2 k3
  | succ fuel ih =>
    intro listed U rest lk H mk pd Hb α a w hsz hnd hU hlen hcl hstop h
    refine ⟨fun hr => ?_, fun i hi => ?_⟩
    · -- nothing is ready: all is done
      have hall : ∀ n i, i < n → i < ops.size → lst listed i = true := by
        intro n
        induction n with
        | zero => intro i hi; omega
        | succ n ihn =>
          intro i hi hio
          cases e : lst listed i with
          | true => rfl
          | false =>
            exfalso
            have ho := Array.getElem?_eq_getElem hio
            have : i ∈ Region.ready .any ops listed := by
              refine mem_ready.2 ⟨?_, _, ho, fun e' he hb => ?_⟩
              · unfold lst at e
                rw [Array.getD_eq_getD_getElem?, Array.getElem?_eq_getElem (by rw [hsz]; exact hio)] at e ⊢
                exact e
              · have hlt := hok.edge i _ (by rw [Array.getElem?_toList]; exact ho) e' he hb
                exact ihn e'.on (by omega) (by omega)
            rw [hr] at this; cases this
      have hall : ∀ i, i < ops.size → lst listed i = true := fun i hi => hall (i + 1) i (by omega) hi
      have hre : rest = [] := by
        cases rest with
        | nil => rfl
        | cons m r =>
          have := h.nb m (by simp)
          rw [hall m (by simpa using (okS_cons h.oks).lt)] at this; cases this
      subst hre
      obtain ⟨Hf, k1, k2, k3⟩ := h.fin (fun i hi => hall i (by simpa using hi))
      exact hK _ _ _ _ _ k1 k2 k3
    · obtain ⟨h1, o, ho, hpr⟩ := mem_ready.1 hi
      have hio := (Array.getElem?_eq_some_iff.1 ho).1
      have hib : lst listed i = false := by
        unfold lst
        rw [Array.getD_eq_getD_getElem?, Array.getElem?_eq_getElem (by rw [hsz]; exact hio)] at h1 ⊢
        exact h1
      have hoL : ops.toList[i]? = some o := by rw [Array.getElem?_toList]; exact ho
      have hpre : ∀ j, bef pl i j = true → lst listed j = true := by
        intro j hj
        obtain ⟨e, he, hb, hor⟩ := hok.bef i o hoL j hj
        have hon : lst listed e.on = true := hpr e he hb
        rcases hor with rfl | hor
        · exact hon
        · exact h.cl e.on j (by have := hok.edge i o hoL e he hb; simp; omega) hon hor
      have hiU : i ∈ U := (hU i).2 ⟨hio, hib⟩
      have next : ∀ rest' lk' H' mk' pd' Hb' α' a' w', Inv P eqs N ops.toList pl base K lk0 H0 α0 w0 (and1 (lst listed) i) rest' lk' H' mk' pd' Hb' α' a' w' →
          wpAny P .any ops Q fuel (listed.setIfInBounds i true) a' w' := by
        intro rest' lk' H' mk' pd' Hb' α' a' w' h'
        rw [← lst_set (by rw [hsz]; exact hio)] at h'
        obtain ⟨rest2, lk2, mk2, pd2, hst, h2⟩ := h'.stop hok
        refine ih _ (U.erase i) rest2 lk2 H' mk2 pd2 Hb' α' a' w' (by simp [hsz]) (hnd.erase i) (fun j => ?_) (by rw [List.length_erase_of_mem hiU]; omega) (fun j oj hj hl e he hb => ?_) hst h2
        · rw [hnd.mem_erase_iff, hU j, lst_set (by rw [hsz]; exact hio)]
          constructor
          · rintro ⟨q1, q2, q3⟩; exact ⟨q2, by rw [and1_ne q1]; exact q3⟩
          · rintro ⟨q1, q2⟩; obtain ⟨q3, q4⟩ := and1_false q2; exact ⟨q4, q1, q3⟩
        · rw [lst_set (by rw [hsz]; exact hio)] at hl ⊢
          by_cases ej : j = i
          · subst ej
            rw [ho] at hj; cases hj
            have : lst listed e.on = true := hpr e he hb
            simp [and1, this]
          · rw [and1_ne ej] at hl
            have := hcl j oj hj hl e he hb
            simp [and1, this]
      by_cases hir : i ∈ rest
      · cases rest with
        | nil => cases hir
        | cons m r =>
          have hmi : i = m := by
            rcases List.mem_cons.1 hir with e | e
            · exact e
            · exfalso
              have hb := (okS_cons h.oks).md hstop i e
              have := hpre m hb
              rw [h.nb m (by simp)] at this; cases this
          subst hmi
          exact h.head hQ hok hstop hpre rfl fun lk' H' mk' pd' Hb' α' a' w' h' => next _ _ _ _ _ _ _ _ _ h'
      · exact h.pend hQ hok (by simpa using hio) hir hib hpre rfl fun Hb' α' a' w' h' => next _ _ _ _ _ _ _ _ _ h'

/-- THE RULE. -/
theorem regD_of_plan (hQ : EqsOk P eqs) {ops : Array Oper} {lk : Env} {H : Heap} (hok : okP ops.toList pl = true) (h : wpD P eqs N ops.toList pl H.n K pl.sched lk (resv H pl.M) [] []) : RegD P N ops K lk H := by
  intro base α a w Q hS hK
  have hok := okP_spec hok
  -- places kept free
  obtain ⟨Hu, e1, e2⟩ := exists_heap (fun j => if j < H.n then (H.get j).getD .dead else .unborn) (H.n + pl.M)
  have hlo : ∀ j, j < H.n → Hu.get j = H.get j := fun j hj => by
    rw [e2 j (by omega), if_pos hj]
    obtain ⟨o, ho⟩ := Heap.get_of_lt hj
    rw [ho]; rfl
  have hhi : ∀ j, H.n ≤ j → j < H.n + pl.M → Hu.get j = some .unborn := fun j h1 h2 => by rw [e2 j h2, if_neg (by omega)]
  have low : ∀ {j o}, Hu.get j = some o → o.live = true → H.get j = some o := fun {j o} hj hl => by
    by_cases hjn : j < H.n
    · rw [← hlo j hjn]; exact hj
    · have := Heap.get_lt hj
      rw [hhi j (by omega) (by omega)] at hj; cases hj; cases hl
  have hRu : R P base Hu α w := by
    refine ⟨hS.r.bs, fun i hi => hS.r.dom i (by omega), fun j o hj => ?_, fun i j oi oj Li Lj hij hi hri hj hlj hLi hLj => hS.r.sep i j oi oj Li Lj hij (low hi (AObj.live_of_rw hri)) hri (low hj hlj) hlj hLi hLj⟩
    by_cases hjn : j < H.n
    · exact hS.r.obj j o (by rw [← hlo j hjn]; exact hj)
    · have := Heap.get_lt hj
      rw [hhi j (by omega) (by omega)] at hj; cases hj
      exact hS.r.dom j (by omega)
  have sets : ∀ (f : AObj → Bool), f .dead = false → f .unborn = false → ∀ k, blkset f Hu α k → blkset f H α k := by
    intro f h1 h2 k hk
    obtain ⟨j, o, L, g1, g2, g3, g4⟩ := hk
    by_cases hjn : j < H.n
    · exact ⟨j, o, L, by rw [← hlo j hjn]; exact g1, g2, g3, g4⟩
    · have := Heap.get_lt g1
      rw [hhi j (by omega) (by omega)] at g1; cases g1; rw [h2] at g2; cases g2
  have hXu : Ext H α w Hu α w := ⟨rfl, rfl, rfl, Nat.le_refl _, by omega, Sub.refl _, fun _ _ => rfl, fun _ _ _ => rfl, fun k _ hk => sets _ rfl rfl k hk, fun k _ hk => sets _ rfl rfl k hk, fun j hj => (by rw [hlo j (Heap.get_lt hj)]; exact hj), fun _ => rfl⟩
  have hid : ∀ x, x < ops.toList.length → H.n ≤ idOf pl H x ∧ idOf pl H x < H.n + pl.M := fun x hx => by
    have := hok.rk hx
    unfold idOf; omega
  have hl0 : ∀ i, lst (Array.replicate ops.size false) i = false := fun i => by
    unfold lst
    rw [Array.getD_eq_getD_getElem?]
    simp only [Array.getElem?_replicate]
    split <;> rfl
  have inv0 : Inv P eqs N ops.toList pl base K lk H α w (lst (Array.replicate ops.size false)) pl.sched lk (resv H pl.M) [] [] Hu α a w := by
    refine ⟨h, hok.okS, fun i _ => hl0 i, fun i j _ hb => (by rw [hl0 i] at hb; cases hb), fun k hk hkr => absurd (hok.all k hk) hkr, fun _ _ => rfl, fun x hx hxr => absurd (hok.all x hx) hxr, ?_, fun s v _ hs => hS.env s v hs, hS.size, hS.defers,
      fun _ _ h => (by cases h), fun _ _ h => (by cases h), fun _ _ _ h => (by cases h), fun x hx hc => ?_, by rw [resv_n]; exact e1, fun _ _ h => (by cases h), fun j o hj => ?_, hRu, hXu, fun j hj => ?_⟩
    · rintro s v ⟨k, hk, _, hkr, _⟩ _
      exact absurd (hok.all k hk) hkr
    · have hx' := hid x (okS_each hok.okS x hx).1
      exact ⟨by rw [resv_get, if_neg (by omega), if_pos (by omega)], hhi _ hx'.1 hx'.2⟩
    · rw [resv_get] at hj
      split at hj
      · rename_i hjn
        rw [hlo j hjn]; exact .inr hj
      · split at hj
        · cases hj; exact .inl rfl
        · cases hj
    · rw [resv_get, if_pos (Heap.get_lt hj)]; exact hj
  obtain ⟨rest2, lk2, mk2, pd2, hst, h2⟩ := inv0.stop hok
  refine inv_any hQ hok hK ops.size _ (List.range ops.size) rest2 lk2 _ mk2 pd2 Hu α a w (by simp) List.nodup_range (fun i => by rw [hl0 i]; simp) (by simp) (fun i o _ hl => by rw [hl0 i] at hl; cases hl) hst h2
end
end Go.Ea
