/-
  THE ENGINE, part 16: a long closed run in pieces: a piece's result is laid down as a literal, and the next run takes it as known. Over any program. Written in this session.
-/
import Derived.Test.YtceakkomleaibaaEc3
namespace Go.Ea

noncomputable def setAll : List (Nat × AObj) → Heap → Heap
  | [], H => H
  | (i, o) :: r, H => (setAll r H).set i o
def look (j : Nat) : List (Nat × AObj) → Option AObj
  | [] => none
  | (i, o) :: r => bif Nat.beq i j then some o else look j r
theorem setAll_n : ∀ (l : List (Nat × AObj)) (H : Heap), (setAll l H).n = H.n
  | [], _ => rfl
  | (_, _) :: r, H => setAll_n r H
theorem setAll_get : ∀ {l : List (Nat × AObj)} {H : Heap} (j : Nat), (∀ p ∈ l, p.1 < H.n) → (setAll l H).get j = match look j l with
    | some o => some o
    | none => H.get j
  | [], _, _, _ => rfl
  | (i, o) :: r, H, j, h => by
    unfold setAll look
    rw [Heap.get_set _ _ _ _ (by rw [setAll_n]; exact h (i, o) (by simp)), setAll_get j fun p hp => h p (by simp [hp])]
    by_cases e : j = i
    · subst e; simp
    · have : Nat.beq i j = false := by rw [Bool.eq_false_iff]; intro hh; exact e (Nat.eq_of_beq_eq_true hh).symm
      rw [if_neg e, this]; rfl
theorem look_mem : ∀ {l : List (Nat × AObj)} {j : Nat} {o : AObj}, look j l = some o → (j, o) ∈ l
  | [], _, _, h => by cases h
  | (i, o') :: r, j, o, h => by
    unfold look at h
    cases e : Nat.beq i j with
    | true => rw [e] at h; cases h; rw [Nat.eq_of_beq_eq_true e]; simp
    | false => rw [e] at h; exact List.mem_cons_of_mem _ (look_mem h)
theorem look_none : ∀ {l : List (Nat × AObj)} {j : Nat}, look j l = none → ∀ o, (j, o) ∉ l
  | [], _, _, _, hm => by cases hm
  | (i, o') :: r, j, h, o, hm => by
    unfold look at h
    cases e : Nat.beq i j with
    | true => rw [e] at h; cases h
    | false =>
      rw [e] at h
      rcases List.mem_cons.1 hm with e' | e'
      · cases e'; simp at e
      · exact look_none h o e'

noncomputable def eqEs : List (AT × A1) → List (AT × A1) → Bool
  | [], [] => true
  | a :: l, b :: m => eqAT a.1 b.1 && eqA1 a.2 b.2 && eqEs l m
  | _, _ => false
theorem eqEs_sound : ∀ {l m : List (AT × A1)}, eqEs l m = true → l = m
  | [], [], _ => rfl
  | (a, x) :: l, (b, y) :: m, h => by
    simp only [eqEs, Bool.and_eq_true] at h
    rw [eqAT_sound h.1.1, eqA1_sound h.1.2, eqEs_sound h.2]
  | [], _ :: _, h => by cases h
  | _ :: _, [], h => by cases h
noncomputable def eqOb : AObj → AObj → Bool
  | .cells t k cs, .cells t' k' cs' => Nat.beq t t' && Nat.beq k k' && eqATs cs cs'
  | .map es, .map es' => eqEs es es'
  | _, _ => false
theorem eqOb_sound {a b : AObj} (h : eqOb a b = true) : a = b := by
  cases a <;> cases b <;> simp only [eqOb, Bool.false_eq_true] at h
  · rw [Bool.and_eq_true, Bool.and_eq_true] at h
    have e1 := Nat.eq_of_beq_eq_true h.1.1
    have e2 := Nat.eq_of_beq_eq_true h.1.2
    rw [e1, e2, eqATs_sound h.2]
  · rw [eqEs_sound h]
noncomputable def eqAVs : List AV → List AV → Bool
  | [], [] => true
  | a :: l, b :: m => eqAV a b && eqAVs l m
  | _, _ => false
theorem eqAVs_sound : ∀ {l m : List AV}, eqAVs l m = true → l = m
  | [], [], _ => rfl
  | a :: l, b :: m, h => by
    simp only [eqAVs, Bool.and_eq_true] at h
    rw [eqAV_sound h.1, eqAVs_sound h.2]
  | [], _ :: _, h => by cases h
  | _ :: _, [], h => by cases h

/-- A known call: at a heap of n0 objects that holds lin, it gives v, and the heap has n1 objects, of which l0 is known. -/
structure Ent where
  f : Nat
  args : List AV
  n0 : Nat
  lin : List (Nat × AObj)
  v : AV
  n1 : Nat
  l0 : List (Nat × AObj)
def idIn (l : List (Nat × AObj)) (i : Nat) : Bool := match look i l with
  | some _ => true
  | none => false
def entB (e : Ent) : Bool := Nat.ble e.n0 e.n1 && (e.lin.all fun p => Nat.blt p.1 e.n0 && idIn e.l0 p.1) && e.l0.all fun p => Nat.blt p.1 e.n1
noncomputable def inE (e : Ent) : Heap := setAll e.lin (resv Heap.empty e.n0)
noncomputable def outE (e : Ent) (H : Heap) : Heap := setAll e.l0 (resv H (e.n1 - e.n0))
noncomputable def holds (l : List (Nat × AObj)) (H : Heap) : Bool :=
  List.rec (motive := fun _ => Bool) true (fun p _ ih => (match H.get p.1 with
    | some o => match p.2 with
      | .dead => true
      | _ => eqOb o p.2
    | none => false) && ih) l
theorem holds_spec : ∀ {l : List (Nat × AObj)} {H : Heap}, holds l H = true → ∀ i o, (i, o) ∈ l → o = .dead ∨ H.get i = some o
  | [], _, _, _, _, hm => by cases hm
  | p :: r, H, h, i, o, hm => by
    have h : ((match H.get p.1 with
      | some o => match p.2 with
        | .dead => true
        | _ => eqOb o p.2
      | none => false) && holds r H) = true := h
    rw [Bool.and_eq_true] at h
    rcases List.mem_cons.1 hm with rfl | hm
    · have h1 := h.1
      simp only [] at h1
      split at h1
      · rename_i o' ho
        split at h1
        · exact .inl rfl
        · right; rw [ho, eqOb_sound h1]
      · cases h1
    · exact holds_spec h.2 i o hm
structure EntOk (P : Program) (e : Ent) : Prop where
  st : entB e = true
  fn : FnOk P e.f
  sim : Sim P e.f e.args (inE e) fun u X => u = e.v ∧ X = outE e (inE e)
section
variable {P : Program} {eqs : Eqs} {e : Ent}
theorem entB_spec (h : entB e = true) : e.n0 ≤ e.n1 ∧ (∀ p ∈ e.lin, p.1 < e.n0 ∧ ∃ o, look p.1 e.l0 = some o) ∧ ∀ p ∈ e.l0, p.1 < e.n1 := by
  simp only [entB, Bool.and_eq_true, List.all_eq_true, Nat.ble_eq, Nat.blt_eq] at h
  refine ⟨h.1.1, fun p hp => ⟨(h.1.2 p hp).1, ?_⟩, h.2⟩
  have := (h.1.2 p hp).2
  unfold idIn at this
  split at this
  · exact ⟨_, ‹_›⟩
  · cases this
theorem inE_n : (inE e).n = e.n0 := by unfold inE; rw [setAll_n, resv_n]; simp [Heap.empty]
theorem outE_n (h : entB e = true) {H : Heap} (hn : H.n = e.n0) : (outE e H).n = e.n1 := by
  have := (entB_spec h).1
  unfold outE; rw [setAll_n, resv_n, hn]; omega
theorem outE_get (h : entB e = true) {H : Heap} (hn : H.n = e.n0) (j : Nat) : (outE e H).get j = match look j e.l0 with
    | some o => some o
    | none => (resv H (e.n1 - e.n0)).get j := by
  obtain ⟨h1, _, h3⟩ := entB_spec h
  exact setAll_get j fun p hp => by rw [resv_n, hn]; have := h3 p hp; omega
theorem inE_get (h : entB e = true) (j : Nat) : (inE e).get j = match look j e.lin with
    | some o => some o
    | none => (resv Heap.empty e.n0).get j :=
  setAll_get j fun p hp => by rw [resv_n]; have := ((entB_spec h).2.1 p hp).1; simp only [Heap.empty]; omega
theorem inE_weak (h : entB e = true) {H : Heap} (hn : H.n = e.n0) (hh : holds e.lin H = true) : Weak (inE e) H := by
  refine ⟨by rw [inE_n, hn], fun j o hj => ?_⟩
  rw [inE_get h] at hj
  split at hj
  · rename_i o' hl
    cases hj
    exact holds_spec hh j o (look_mem hl)
  · rw [resv_get, if_neg (by simp [Heap.empty])] at hj
    split at hj
    · cases hj; exact .inl rfl
    · cases hj
theorem EntOk.at (he : EntOk P e) {H : Heap} (hn : H.n = e.n0) (hh : holds e.lin H = true) : Sim P e.f e.args H fun u X => u = e.v ∧ X = outE e H := by
  intro base α w xs hR ha
  have hw := inE_weak he.st hn hh
  refine (he.sim base α w xs (hR.weak hw) ha).mono fun x w' ⟨v, v', H', α', q1, ⟨q2, q3⟩, q4, q5, q6⟩ => ?_
  subst q3
  obtain ⟨b1, b2, b3⟩ := entB_spec he.st
  have n1 : (outE e H).n = (outE e (inE e)).n := by rw [outE_n he.st hn, outE_n he.st inE_n]
  have low : ∀ j, look j e.l0 = none → j < H.n → (inE e).get j = some .dead := by
    intro j hl hj
    rw [inE_get he.st]
    split
    · rename_i o ho
      obtain ⟨o2, h2⟩ := (b2 _ (look_mem ho)).2
      simp only [] at h2
      rw [hl] at h2; cases h2
    · rw [resv_get, if_neg (by simp [Heap.empty]), if_pos (by simp only [Heap.empty]; omega)]
  have hO : ∀ j o, (outE e H).get j = some o → o = .dead ∨ (outE e (inE e)).get j = some o ∨ (j < (inE e).n ∧ (inE e).get j = some .dead ∧ H.get j = some o) := by
    intro j o hj
    rw [outE_get he.st hn] at hj
    rw [outE_get he.st inE_n]
    split at hj
    · exact .inr (.inl hj)
    · rename_i hl
      rw [resv_get] at hj
      split at hj
      · rename_i hlt; exact .inr (.inr ⟨by rw [inE_n, ← hn]; exact hlt, low j hl hlt, hj⟩)
      · split at hj
        · cases hj; exact .inl rfl
        · cases hj
  refine ⟨v, v', outE e H, α', q1, ⟨q2, rfl⟩, q4, hR.back hw q5 q6 n1 hO, Ext.back hw q6 n1 hO fun j hj => ?_⟩
  have hlt := Heap.get_lt hj
  cases hl : look j e.l0 with
  | none => rw [outE_get he.st hn, hl]; simp only []; rw [resv_get, if_pos hlt]; exact hj
  | some o =>
    rw [outE_get he.st hn, hl]
    obtain ⟨o2, ho2⟩ := Heap.get_of_lt (H := inE e) (i := j) (by rw [inE_n, ← hn]; exact hlt)
    have hd : o2 = .dead := by
      rcases hw.obj j o2 ho2 with e' | e'
      · exact e'
      · rw [hj] at e'; cases e'; rfl
    subst hd
    have := q6.dead j ho2
    rw [outE_get he.st inE_n, hl] at this
    exact this
end
noncomputable def hit (e : Ent) (f : Nat) (args : List AV) (H : Heap) : Bool := Nat.beq f e.f && Nat.beq H.n e.n0 && eqAVs args e.args && holds e.lin H
noncomputable def tbE (es : List Ent) : Orc := List.rec (motive := fun _ => Orc) (fun _ _ _ => none) (fun e _ ih f args H => match hit e f args H with
  | true => some (e.v, outE e H)
  | false => ih f args H) es
theorem tbE_ok {P : Program} : ∀ {es : List Ent}, (∀ e ∈ es, EntOk P e) → OrcOk P (tbE es)
  | [], _, f, args, H, v, H', h => by cases h
  | e :: r, hes, f, args, H, v, H', h => by
    have h : (match hit e f args H with
      | true => some (e.v, outE e H)
      | false => tbE r f args H) = some (v, H') := h
    split at h
    · rename_i hh
      cases h
      simp only [hit, Bool.and_eq_true] at hh
      obtain ⟨⟨⟨h1, h2⟩, h3⟩, h4⟩ := hh
      have h1 := Nat.eq_of_beq_eq_true h1
      have h2 := Nat.eq_of_beq_eq_true h2
      have h3 := eqAVs_sound h3
      subst h1; subst h3
      have he := hes e (by simp)
      exact ⟨he.fn, he.at h2 h4⟩
    · exact tbE_ok (fun x hx => hes x (by simp [hx])) _ _ _ _ _ h
noncomputable def runT (P : Program) (eqs : Eqs) (pls : Nat → Option (Nat → Plan)) (tb : Orc) (n : Nat) : Orc :=
  Nat.rec (motive := fun _ => Orc) (fun _ _ _ => none) (fun n ih f args H => match tb f args H with
    | some r => some r
    | none => match P.funcs[f]? with
      | some fn => match pls f, fn.body with
        | some pl, some c => match evC P eqs ih pl n c (initE args) H with
          | some (.exit _, _, _) => none
          | some (_, env, H') => match resA P env.get H' fn.results.toList with
            | some l => some (mkRes l, H')
            | none => none
          | none => none
        | _, _ => none
      | none => none) n
theorem runT_sound {P : Program} {eqs : Eqs} (hm : P.follows .mixedOrders = true) (hQ : EqsOk P eqs) {pls : Nat → Option (Nat → Plan)} (hf : fnsOk pls 0 P.funcs.toList = true) {tb : Orc} (htb : OrcOk P tb) : ∀ n, OrcOk P (runT P eqs pls tb n)
  | 0, f, args, H, v, H', h => by cases h
  | n + 1, f, args, H, v, H', h => by
    have h : (match tb f args H with
      | some r => some r
      | none => match P.funcs[f]? with
        | some fn => match pls f, fn.body with
          | some pl, some c => match evC P eqs (runT P eqs pls tb n) pl n c (initE args) H with
            | some (.exit _, _, _) => none
            | some (_, env, H') => match resA P env.get H' fn.results.toList with
              | some l => some (mkRes l, H')
              | none => none
            | none => none
          | _, _ => none
        | none => none) = some (v, H') := h
    split at h
    · rename_i r hr
      cases h
      exact htb _ _ _ _ _ hr
    split at h
    · rename_i fn hfn
      have k0 := fnsOk_spec hf (k := f) (fn := fn) (by rw [Array.getElem?_toList]; exact hfn)
      rw [Nat.zero_add] at k0
      split at h
      · rename_i pl c hp hc
        obtain ⟨k1, k2⟩ := k0 pl c hp hc
        refine ⟨⟨fn, hfn, k1, by rw [hc]; rfl⟩, ?_⟩
        have hco := codeOk_mono (N' := args.length + (fn.ntmps - args.length)) (by omega) k2
        split at h
        · cases h
        · rename_i x env H2 hx he
          split at h
          · rename_i l hl
            cases h
            refine Sim.of_body hm hQ hfn hc ?_
            rw [← initE_get]
            refine evC_sound hQ (runT_sound hm hQ hf htb n) hco he ⟨?_, l, hl, rfl, rfl⟩
            cases x with
            | exit i => exact (hx i rfl).elim
            | _ => trivial
          · cases h
        · cases h
      · cases h
    · cases h
/-- A run came to what the entry says. -/
noncomputable def chkR (e : Ent) (x : Option (AV × Heap)) : Bool := match x with
  | some (v, H) => eqAV v e.v && Nat.beq H.n e.n1 && holds e.l0 H
  | none => false
theorem Sim.weak {P : Program} {f : FuncId} {args : List AV} {H : Heap} {Q Q' : AV → Heap → Prop} (h : Sim P f args H Q) (hq : ∀ v H', Q v H' → ∃ H2, Weak H2 H' ∧ Q' v H2) : Sim P f args H Q' := by
  intro base α w xs hR ha
  refine (h base α w xs hR ha).mono fun x w' ⟨v, v', H', α', q1, q2, q3, q4, q5⟩ => ?_
  obtain ⟨H2, hw, hQ'⟩ := hq v H' q2
  refine ⟨v, v', H2, α', q1, hQ', q3, q4.weak hw, q5.weak hw fun j hj => ?_⟩
  have h1 := q5.dead j hj
  obtain ⟨o, ho⟩ := Heap.get_of_lt (H := H2) (i := j) (by rw [hw.n]; exact Heap.get_lt h1)
  rcases hw.obj j o ho with e | e
  · subst e; exact ho
  · rw [h1] at e; cases e; exact ho
theorem entOk_of {P : Program} {K : Orc} (hK : OrcOk P K) {e : Ent} (hb : entB e = true) (h : chkR e (K e.f e.args (inE e)) = true) : EntOk P e := by
  unfold chkR at h
  split at h
  · rename_i v H hx
    simp only [Bool.and_eq_true] at h
    obtain ⟨⟨h1, h2⟩, h3⟩ := h
    obtain ⟨k1, k2⟩ := hK _ _ _ _ _ hx
    refine ⟨hb, k1, k2.weak ?_⟩
    rintro u X ⟨rfl, rfl⟩
    refine ⟨outE e (inE e), ⟨by rw [outE_n hb inE_n]; exact (Nat.eq_of_beq_eq_true h2).symm, fun j o hj => ?_⟩, eqAV_sound h1, rfl⟩
    rw [outE_get hb inE_n] at hj
    split at hj
    · rename_i o' hl
      cases hj
      exact holds_spec h3 j o (look_mem hl)
    · rename_i hl
      rw [resv_get] at hj
      split at hj
      · rename_i hlt
        rw [inE_get hb] at hj
        split at hj
        · rename_i o2 ho2
          obtain ⟨o3, h3⟩ := ((entB_spec hb).2.1 _ (look_mem ho2)).2
          simp only [] at h3
          rw [hl] at h3; cases h3
        · rw [resv_get, if_neg (by simp [Heap.empty])] at hj
          split at hj
          · cases hj; exact .inl rfl
          · cases hj
      · split at hj
        · cases hj; exact .inl rfl
        · cases hj
  · cases h
end Go.Ea
