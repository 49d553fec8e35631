/-
  THE ENGINE, part 18: the steps of a walk as equivalences, for 'simp only'. Over any program. Written in this session.
-/
import Derived.Test.YtceakkomleaibaaEd1
namespace Go.Ea
section
variable {P : Program} {eqs : Eqs} {N : Nat} {lk : Env} {H : Heap} {K : AV → Heap → Prop} {Ke : Env → Heap → Prop} {ops : List Oper}

theorem opP_val {op : Op} {v : AV} {H' : Heap} (h : opA op P eqs lk H = some (.val v H')) : opP P eqs op lk H K ↔ K v H' := by
  unfold opP
  rw [h]
  constructor
  · rintro ⟨r, h1, h2⟩; cases h1; exact h2
  · intro hk; exact ⟨_, rfl, hk⟩
theorem opP_call {c : Call} {f : Nat} {args : List AV} (h : op_call c P eqs lk H = some (.call f args)) (hf : FnOk P f) {Q : AV → Heap → Prop} (hs : Sim P f args H Q) (hk : ∀ v H', Q v H' → K v H') : opP P eqs (.call c) lk H K :=
  ⟨_, h, hf, hs.mono hk⟩
theorem wpO_cons {o : Oper} {r : List Oper} : wpO P eqs N ops Ke (o :: r) lk H ↔ dOk N o.dst = true ∧ ∃ t, wantA ops lk o = some t ∧ if t = true then opP P eqs o.op lk H fun v H' => wpO P eqs N ops Ke r (putF lk o.dst v) H' else wpO P eqs N ops Ke r (putF lk o.dst .undef) H := Iff.rfl
theorem wpO_nil : wpO P eqs N ops Ke [] lk H ↔ Ke lk H := Iff.rfl
/-- One operation without a guard. -/
theorem wpO_op {o : Oper} {r : List Oper} (hd : dOk N o.dst = true) (hg : o.guard = none) : wpO P eqs N ops Ke (o :: r) lk H ↔ opP P eqs o.op lk H fun v H' => wpO P eqs N ops Ke r (putF lk o.dst v) H' := by
  have hw : wantA ops lk o = some true := by unfold wantA; rw [hg]
  rw [wpO_cons]
  constructor
  · rintro ⟨_, t, ht, h⟩; rw [hw] at ht; cases ht; rw [if_pos rfl] at h; exact h
  · intro h; exact ⟨hd, true, hw, by rw [if_pos rfl]; exact h⟩
/-- One operation that its guard lets run. -/
theorem wpO_yes {o : Oper} {r : List Oper} (hd : dOk N o.dst = true) (hw : wantA ops lk o = some true) : wpO P eqs N ops Ke (o :: r) lk H ↔ opP P eqs o.op lk H fun v H' => wpO P eqs N ops Ke r (putF lk o.dst v) H' := by
  rw [wpO_cons]
  constructor
  · rintro ⟨_, t, ht, h⟩; rw [hw] at ht; cases ht; rw [if_pos rfl] at h; exact h
  · intro h; exact ⟨hd, true, hw, by rw [if_pos rfl]; exact h⟩
theorem wpO_no {o : Oper} {r : List Oper} (hd : dOk N o.dst = true) (hw : wantA ops lk o = some false) : wpO P eqs N ops Ke (o :: r) lk H ↔ wpO P eqs N ops Ke r (putF lk o.dst .undef) H := by
  rw [wpO_cons]
  constructor
  · rintro ⟨_, t, ht, h⟩; rw [hw] at ht; cases ht; rw [if_neg (by simp)] at h; exact h
  · intro h; exact ⟨hd, false, hw, by rw [if_neg (by simp)]; exact h⟩
/-- A step that gives a value. -/
theorem stepV {o : Oper} {r : List Oper} {v : AV} {H' : Heap} (hd : dOk N o.dst = true) (hw : wantA ops lk o = some true) (h : opA o.op P eqs lk H = some (.val v H')) (hk : wpO P eqs N ops Ke r (putF lk o.dst v) H') : wpO P eqs N ops Ke (o :: r) lk H :=
  (wpO_yes hd hw).2 ((opP_val h).2 hk)
/-- A step that gives a test whose answer is known by a hypothesis. -/
theorem stepB {o : Oper} {r : List Oper} {c : Bool} {H' : Heap} (t : Bool) (hd : dOk N o.dst = true) (hw : wantA ops lk o = some true) (h : opA o.op P eqs lk H = some (.val (at' (.bool c)) H')) (hc : c = t)
    (hk : wpO P eqs N ops Ke r (putF lk o.dst (at' (.bool t))) H') : wpO P eqs N ops Ke (o :: r) lk H :=
  stepV hd hw h (by subst hc; exact hk)
/-- A step that gives a number that is also written so. -/
theorem stepI {o : Oper} {r : List Oper} {k : IntKind} {x : Int} {H' : Heap} (y : Int) (hd : dOk N o.dst = true) (hw : wantA ops lk o = some true) (h : opA o.op P eqs lk H = some (.val (at' (.int k x)) H')) (hc : x = y)
    (hk : wpO P eqs N ops Ke r (putF lk o.dst (at' (.int k y))) H') : wpO P eqs N ops Ke (o :: r) lk H :=
  stepV hd hw h (by subst hc; exact hk)
theorem wrapA_small {k : IntKind} {n : Nat} (h : n < half k) : wrapA k (n : Int) = n := by
  show (bif Nat.blt n (half k) then (n : Int) else k.wrap n) = n
  rw [show Nat.blt n (half k) = true from by simpa [Nat.blt_eq] using h]; rfl
/-- A step that its guard holds back. -/
theorem stepN {o : Oper} {r : List Oper} (hd : dOk N o.dst = true) (hw : wantA ops lk o = some false) (hk : wpO P eqs N ops Ke r (putF lk o.dst .undef) H) : wpO P eqs N ops Ke (o :: r) lk H :=
  (wpO_no hd hw).2 hk
/-- A step that calls. -/
theorem stepC {o : Oper} {r : List Oper} {f : Nat} {args : List AV} {Q : AV → Heap → Prop} (hd : dOk N o.dst = true) (hw : wantA ops lk o = some true) (h : opA o.op P eqs lk H = some (.call f args)) (hf : FnOk P f) (hs : Sim P f args H Q)
    (hk : ∀ v H', Q v H' → wpO P eqs N ops Ke r (putF lk o.dst v) H') : wpO P eqs N ops Ke (o :: r) lk H :=
  (wpO_yes hd hw).2 ⟨_, h, hf, hs.mono hk⟩
/-- A step that calls what gives one value and leaves the heap. -/
theorem stepF {o : Oper} {r : List Oper} {f : Nat} {args : List AV} {v : AV} (hd : dOk N o.dst = true) (hw : wantA ops lk o = some true) (h : opA o.op P eqs lk H = some (.call f args)) (hf : FnOk P f) (hs : Sim P f args H fun u G => u = v ∧ G = H)
    (hk : wpO P eqs N ops Ke r (putF lk o.dst v) H) : wpO P eqs N ops Ke (o :: r) lk H :=
  stepC hd hw h hf hs fun u G ⟨h1, h2⟩ => by subst h1; subst h2; exact hk
theorem inR_nat {i n : Nat} (h : i < n) : inR (i : Int) n = true := by
  rw [inR_iff]; omega
/-- Slots written out. -/
def envL : List (Nat × AV) → Env
  | [], _ => none
  | (t, v) :: r, j => bif Nat.beq j t then some v else envL r j
def Has (lk : Env) : List (Nat × AV) → Prop
  | [] => True
  | (t, v) :: r => lk t = some v ∧ Has lk r
theorem Has.sub : ∀ {l : List (Nat × AV)}, Has lk l → ∀ t v, envL l t = some v → lk t = some v
  | [], _, t, v, h => by cases h
  | (u, x) :: r, hh, t, v, h => by
    unfold envL at h
    cases e : Nat.beq t u with
    | true => rw [e] at h; cases h; rw [Nat.eq_of_beq_eq_true e]; exact hh.1
    | false => rw [e] at h; exact Has.sub hh.2 t v h
theorem Tri.has {c : Code} {Q : PostA} {l : List (Nat × AV)} (hl : Has lk l) (h : Tri P N c (envL l) H Q) : Tri P N c lk H Q := h.env hl.sub
theorem index_str {t : TypeId} {x ix : Operand} {s : List UInt8} {n : Nat} {b : UInt8} (hu : P.underlying t = some .string) (hx : rho lk x = some (at' (.str s))) (hi : rho lk ix = some (at' (.int .i64 n))) (hb : s[n]? = some b) :
    opA (.index t x ix) P eqs lk H = some (.val (at' (.int .u8 b.toNat)) H) := by
  show op_index t x ix P eqs lk H = _
  unfold op_index
  rw [hx, hi]
  simp only [hu, intA, inR_nat (List.getElem?_eq_some_iff.1 hb).1, cond_true, Int.toNat_natCast, hb]
end
end Go.Ea
