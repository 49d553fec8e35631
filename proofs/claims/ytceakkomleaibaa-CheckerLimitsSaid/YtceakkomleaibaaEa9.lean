/-
  THE ENGINE, part 9: regions whose order is drawn: one order is looked at (wpD), and every order comes to the same. Over any program. Written in this session.
-/
import Derived.Test.YtceakkomleaibaaEa8
namespace Go.Ea

def opdT : Operand → List Nat
  | .tmp t => [t]
  | _ => []
/-- The slots an operation looks at. -/
def looks (ops : List Oper) (o : Oper) : List Nat := o.op.operands.toList.flatMap opdT ++ match o.guard with
  | some (g, _) => (gdst ops g).toList
  | none => []
structure Plan where
  ms : List Nat
  rk : List Nat
  M : Nat
  sched : List Nat
section
variable (ops : List Oper) (pl : Plan)
/-- j comes before i. -/
def bef (i j : Nat) : Bool := Nat.testBit (pl.ms.getD i 0) j
def clsAt (i : Nat) : Cls := match ops[i]? with
  | some o => clsOf o.op
  | none => .md
def isCls (c : Cls) : Cls → Bool
  | .loc => match c with | .loc => true | _ => false
  | .rd => match c with | .rd => true | _ => false
  | .mk => match c with | .mk => true | _ => false
  | .md => match c with | .md => true | _ => false
def looksAt (i : Nat) : List Nat := match ops[i]? with
  | some o => looks ops o
  | none => []
def dstIn (i : Nat) (l : List Nat) : Bool := match gdst ops i with
  | some d => l.any fun t => Nat.beq t d
  | none => false
def sameDst (i k : Nat) : Bool := match gdst ops i, gdst ops k with
  | some d, some e => Nat.beq d e
  | _, _ => false
def pairOk (i k : Nat) : Bool :=
  !Nat.beq i k && !sameDst ops i k && (!(isCls (clsAt ops i) .mk && isCls (clsAt ops k) .mk) || !Nat.beq (pl.rk.getD i 0) (pl.rk.getD k 0)) &&
  (bef pl k i || (!dstIn ops i (looksAt ops k) && !dstIn ops k (looksAt ops i)))
def okS : List Nat → Bool
  | [] => true
  | i :: r => !bef pl i i && (r.all fun k => !bef pl i k && pairOk ops pl i k) && (!isCls (clsAt ops i) .md || r.all fun k => bef pl k i) && Nat.blt (pl.rk.getD i 0) pl.M && Nat.blt i ops.length && okS r
def edgeMask (o : Oper) : Nat := o.after.toList.foldl (fun s e => bif Region.binds .any e then s ||| (2 ^ e.on ||| pl.ms.getD e.on 0) else s) 0
def okE : List Oper → Nat → Bool
  | [], _ => true
  | o :: r, i => Nat.beq (pl.ms.getD i 0) (edgeMask pl o) && (o.after.toList.all fun e => !Region.binds .any e || Nat.blt e.on i) && okE r (i + 1)
def okP : Bool := okE pl ops 0 && okS ops pl pl.sched && (List.range ops.length).all fun i => pl.sched.any fun k => Nat.beq k i

noncomputable def matP (p : Nat → Bool) (n0 : Nat) : List (Nat × AObj) → Heap → Heap
  | [], H => H
  | (x, obj) :: r, H => bif p x then (matP p n0 r H).set (n0 + pl.rk.getD x 0) obj else matP p n0 r H
noncomputable def resv (H : Heap) : Nat → Heap
  | 0 => H
  | n + 1 => (resv H n).push .dead
end
section
variable (P : Program) (eqs : Eqs) (N : Nat) (ops : List Oper) (pl : Plan) (n0 : Nat) (K : Env → Heap → Prop)
abbrev Pend := List (Nat × Env × AV)
def recheck (H : Heap) (mk : List (Nat × AObj)) (p : Nat × Env × AV) : Prop :=
  ∃ o, ops[p.1]? = some o ∧ opA o.op P eqs p.2.1 (matP pl (bef pl p.1) n0 mk H) = some (.val p.2.2 (matP pl (bef pl p.1) n0 mk H))
/-- One order is looked at. What waits is looked at again after each operation that turns the heap. -/
def wpD : List Nat → Env → Heap → List (Nat × AObj) → Pend → Prop
  | [], lk, H, mk, _ => K lk (matP pl (fun _ => true) n0 mk H)
  | i :: r, lk, H, mk, pd => ∃ o, ops[i]? = some o ∧ dOk N o.dst = true ∧ ∃ t, wantA ops lk o = some t ∧
    if t = true then match clsOf o.op with
      | .loc => ∃ v, opA o.op P eqs lk H = some (.val v H) ∧ wpD r (putF lk o.dst v) H mk pd
      | .rd => ∃ v, opA o.op P eqs lk (matP pl (bef pl i) n0 mk H) = some (.val v (matP pl (bef pl i) n0 mk H)) ∧ wpD r (putF lk o.dst v) H mk ((i, lk, v) :: pd)
      | .mk => ∃ v obj, opA o.op P eqs lk ⟨n0 + pl.rk.getD i 0, .nil⟩ = some (.val v (Heap.push ⟨n0 + pl.rk.getD i 0, .nil⟩ obj)) ∧ wpD r (putF lk o.dst v) H ((i, obj) :: mk) pd
      | .md => opP P eqs o.op lk (matP pl (bef pl i) n0 mk H) fun v H' =>
          (∀ p ∈ pd, bef pl i p.1 = false → recheck P eqs ops pl n0 H' (mk.filter fun x => !bef pl i x.1) p) ∧
          wpD r (putF lk o.dst v) H' (mk.filter fun x => !bef pl i x.1) (pd.filter fun x => !bef pl i x.1)
    else wpD r (putF lk o.dst .undef) H mk pd
end

/-! ### static facts -/
section
variable {ops : List Oper} {pl : Plan}
theorem isCls_iff (c d : Cls) : isCls c d = true ↔ c = d := by cases c <;> cases d <;> simp [isCls]
theorem dstIn_false {i : Nat} {l : List Nat} (h : dstIn ops i l = false) {d : Nat} (hd : gdst ops i = some d) : d ∉ l := by
  intro hm
  unfold dstIn at h
  rw [hd] at h
  simp only [List.any_eq_false, Nat.beq_eq] at h
  exact h d hm rfl
theorem sameDst_false {i k : Nat} (h : sameDst ops i k = false) {d : Nat} (h1 : gdst ops i = some d) : gdst ops k ≠ some d := by
  intro h2
  unfold sameDst at h
  rw [h1, h2] at h
  simp at h
structure Pair (ops : List Oper) (pl : Plan) (i k : Nat) : Prop where
  ne : i ≠ k
  dst : ∀ d, gdst ops i = some d → gdst ops k ≠ some d
  rk : clsAt ops i = .mk → clsAt ops k = .mk → pl.rk.getD i 0 ≠ pl.rk.getD k 0
  slot : bef pl k i = true ∨ bef pl i k = true ∨ ((∀ d, gdst ops i = some d → d ∉ looksAt ops k) ∧ ∀ d, gdst ops k = some d → d ∉ looksAt ops i)
theorem Pair.symm {i k : Nat} (h : Pair ops pl i k) : Pair ops pl k i :=
  ⟨h.ne.symm, fun d h1 h2 => h.dst d h2 h1, fun h1 h2 e => h.rk h2 h1 e.symm, by
    rcases h.slot with h | h | h
    · exact .inr (.inl h)
    · exact .inl h
    · exact .inr (.inr ⟨h.2, h.1⟩)⟩
theorem pairOk_spec {i k : Nat} (h : pairOk ops pl i k = true) : Pair ops pl i k := by
  unfold pairOk at h
  simp only [Bool.and_eq_true, Bool.or_eq_true, Bool.not_eq_true', Bool.and_eq_false_iff] at h
  obtain ⟨⟨⟨h1, h2⟩, h3⟩, h4⟩ := h
  refine ⟨fun e => ?_, fun d hd => sameDst_false h2 hd, fun g1 g2 e => ?_, ?_⟩
  · subst e; simp at h1
  · rcases h3 with (h3 | h3) | h3
    · rw [g1] at h3; cases h3
    · rw [g2] at h3; cases h3
    · rw [e] at h3; simp at h3
  · rcases h4 with h4 | ⟨h4, h5⟩
    · exact .inl h4
    · exact .inr (.inr ⟨fun d hd => dstIn_false h4 hd, fun d hd => dstIn_false h5 hd⟩)
structure OkCons (ops : List Oper) (pl : Plan) (i : Nat) (r : List Nat) : Prop where
  self : bef pl i i = false
  nb : ∀ k ∈ r, bef pl i k = false
  pair : ∀ k ∈ r, Pair ops pl i k
  md : clsAt ops i = .md → ∀ k ∈ r, bef pl k i = true
  rk : pl.rk.getD i 0 < pl.M
  lt : i < ops.length
  rest : okS ops pl r = true
theorem okS_cons {i : Nat} {r : List Nat} (h : okS ops pl (i :: r) = true) : OkCons ops pl i r := by
  simp only [okS, Bool.and_eq_true, Bool.or_eq_true, Bool.not_eq_true', List.all_eq_true, Nat.blt_eq] at h
  obtain ⟨⟨⟨⟨⟨h1, h2⟩, h3⟩, h4⟩, h5⟩, h6⟩ := h
  refine ⟨h1, fun k hk => (h2 k hk).1, fun k hk => pairOk_spec (h2 k hk).2, fun hc k hk => ?_, h4, h5, h6⟩
  rcases h3 with h3 | h3
  · rw [hc] at h3; cases h3
  · exact h3 k hk
theorem okS_pairs : ∀ {l : List Nat}, okS ops pl l = true → ∀ i ∈ l, ∀ k ∈ l, i ≠ k → Pair ops pl i k
  | [], _, i, hi, _, _, _ => by cases hi
  | x :: r, h, i, hi, k, hk, hne => by
    have hc := okS_cons h
    rcases List.mem_cons.1 hi with rfl | hi'
    · rcases List.mem_cons.1 hk with rfl | hk'
      · exact absurd rfl hne
      · exact hc.pair k hk'
    · rcases List.mem_cons.1 hk with rfl | hk'
      · exact (hc.pair i hi').symm
      · exact okS_pairs hc.rest i hi' k hk' hne
theorem okS_each : ∀ {l : List Nat}, okS ops pl l = true → ∀ i ∈ l, i < ops.length ∧ bef pl i i = false ∧ pl.rk.getD i 0 < pl.M
  | [], _, i, hi => by cases hi
  | x :: r, h, i, hi => by
    have hc := okS_cons h
    rcases List.mem_cons.1 hi with rfl | hi'
    · exact ⟨hc.lt, hc.self, hc.rk⟩
    · exact okS_each hc.rest i hi'
theorem okE_spec : ∀ {l : List Oper} {i : Nat}, okE pl l i = true → ∀ (k : Nat) (o : Oper), l[k]? = some o → pl.ms.getD (i + k) 0 = edgeMask pl o ∧ ∀ e ∈ o.after, Region.binds .any e = true → e.on < i + k
  | [], i, _, k, o, hk => by simp at hk
  | x :: r, i, h, k, o, hk => by
    simp only [okE, Bool.and_eq_true, List.all_eq_true, Bool.or_eq_true, Bool.not_eq_true', Nat.blt_eq, Nat.beq_eq] at h
    obtain ⟨⟨h1, h2⟩, h3⟩ := h
    cases k with
    | zero =>
      simp at hk; subst hk
      exact ⟨h1, fun e he hb => (h2 e (by simpa using he)).resolve_left (by rw [hb]; simp)⟩
    | succ k =>
      have := okE_spec h3 k o (by simpa using hk)
      rw [show i + 1 + k = i + (k + 1) from by omega] at this
      exact this
theorem mask_spec {j : Nat} : ∀ {l : List Edge} {s : Nat}, Nat.testBit (l.foldl (fun s e => bif Region.binds .any e then s ||| (2 ^ e.on ||| pl.ms.getD e.on 0) else s) s) j = true →
    Nat.testBit s j = true ∨ ∃ e ∈ l, Region.binds .any e = true ∧ (e.on = j ∨ bef pl e.on j = true)
  | [], s, h => .inl h
  | e :: l, s, h => by
    rw [List.foldl_cons] at h
    rcases mask_spec h with h1 | ⟨e', h1, h2⟩
    · cases hb : Region.binds .any e with
      | false => rw [hb] at h1; exact .inl h1
      | true =>
        rw [hb] at h1
        simp only [cond_true, Nat.testBit_or, Bool.or_eq_true] at h1
        rcases h1 with h1 | h1 | h1
        · exact .inl h1
        · rw [Nat.testBit_two_pow] at h1
          exact .inr ⟨e, by simp, hb, .inl (by simpa using h1)⟩
        · exact .inr ⟨e, by simp, hb, .inr h1⟩
    · exact .inr ⟨e', by simp [h1], h2⟩
structure Ok (ops : List Oper) (pl : Plan) : Prop where
  edge : ∀ i o, ops[i]? = some o → ∀ e ∈ o.after, Region.binds .any e = true → e.on < i
  bef : ∀ i o, ops[i]? = some o → ∀ j, bef pl i j = true → ∃ e ∈ o.after, Region.binds .any e = true ∧ (e.on = j ∨ Go.Ea.bef pl e.on j = true)
  okS : okS ops pl pl.sched = true
  all : ∀ i, i < ops.length → i ∈ pl.sched
theorem okP_spec (h : okP ops pl = true) : Ok ops pl := by
  simp only [okP, Bool.and_eq_true, List.all_eq_true, List.any_eq_true, Nat.beq_eq] at h
  obtain ⟨⟨h1, h2⟩, h3⟩ := h
  refine ⟨fun i o ho e he hb => by simpa using (okE_spec h1 i o ho).2 e he hb, fun i o ho j hj => ?_, h2, fun i hi => ?_⟩
  · have := (okE_spec h1 i o ho).1
    rw [Nat.zero_add] at this
    unfold Go.Ea.bef at hj
    rw [this] at hj
    rcases mask_spec hj with h | ⟨e, g1, g2⟩
    · simp at h
    · exact ⟨e, by simpa using g1, g2⟩
  · obtain ⟨k, g1, g2⟩ := h3 i (by simpa using hi)
    rw [← g2]; exact g1
theorem Ok.pair (hok : Ok ops pl) {i k : Nat} (hi : i < ops.length) (hk : k < ops.length) (hne : i ≠ k) : Pair ops pl i k := okS_pairs hok.okS i (hok.all i hi) k (hok.all k hk) hne
theorem Ok.rk (hok : Ok ops pl) {i : Nat} (hi : i < ops.length) : pl.rk.getD i 0 < pl.M := (okS_each hok.okS i (hok.all i hi)).2.2
theorem Ok.self (hok : Ok ops pl) {i : Nat} (hi : i < ops.length) : Go.Ea.bef pl i i = false := (okS_each hok.okS i (hok.all i hi)).2.1
end

/-! ### the heap's views -/
theorem matP_n (pl : Plan) (p : Nat → Bool) (n0 : Nat) : ∀ (mk : List (Nat × AObj)) (H : Heap), (matP pl p n0 mk H).n = H.n
  | [], H => rfl
  | (x, obj) :: r, H => by
    unfold matP
    cases p x with
    | true => simp only [cond_true, Heap.n_set]; exact matP_n pl p n0 r H
    | false => simp only [cond_false]; exact matP_n pl p n0 r H
theorem matP_get {pl : Plan} {p : Nat → Bool} {n0 : Nat} : ∀ {mk : List (Nat × AObj)} {H : Heap} {j : Nat} {o : AObj}, (∀ x obj, (x, obj) ∈ mk → n0 + pl.rk.getD x 0 < H.n) → (matP pl p n0 mk H).get j = some o →
    (∃ x, (x, o) ∈ mk ∧ p x = true ∧ n0 + pl.rk.getD x 0 = j) ∨ H.get j = some o
  | [], H, j, o, _, h => .inr h
  | (x, obj) :: r, H, j, o, hb, h => by
    unfold matP at h
    cases hp : p x with
    | true =>
      rw [hp, cond_true, Heap.get_set _ _ _ _ (by rw [matP_n]; exact hb x obj (by simp))] at h
      split at h
      · rename_i e; cases h; exact .inl ⟨x, by simp, hp, e.symm⟩
      · rcases matP_get (fun y ob hy => hb y ob (by simp [hy])) h with ⟨y, h1, h2⟩ | h1
        · exact .inl ⟨y, by simp [h1], h2⟩
        · exact .inr h1
    | false =>
      rw [hp, cond_false] at h
      rcases matP_get (fun y ob hy => hb y ob (by simp [hy])) h with ⟨y, h1, h2⟩ | h1
      · exact .inl ⟨y, by simp [h1], h2⟩
      · exact .inr h1
theorem matP_keep {pl : Plan} {p : Nat → Bool} {n0 : Nat} : ∀ {mk : List (Nat × AObj)} {H : Heap} {j : Nat}, (∀ x obj, (x, obj) ∈ mk → n0 + pl.rk.getD x 0 < H.n) → (∀ x obj, (x, obj) ∈ mk → p x = true → n0 + pl.rk.getD x 0 ≠ j) →
    (matP pl p n0 mk H).get j = H.get j
  | [], H, j, _, _ => rfl
  | (x, obj) :: r, H, j, hb, h => by
    unfold matP
    cases hp : p x with
    | true =>
      rw [cond_true, Heap.get_set _ _ _ _ (by rw [matP_n]; exact hb x obj (by simp)), if_neg (Ne.symm (h x obj (by simp) hp))]
      exact matP_keep (fun y ob hy => hb y ob (by simp [hy])) fun y ob hy => h y ob (by simp [hy])
    | false =>
      rw [cond_false]
      exact matP_keep (fun y ob hy => hb y ob (by simp [hy])) fun y ob hy => h y ob (by simp [hy])
theorem matP_cons_false {pl : Plan} {p : Nat → Bool} {n0 : Nat} {mk : List (Nat × AObj)} {H : Heap} {x : Nat} {obj : AObj} (h : p x = false) : matP pl p n0 ((x, obj) :: mk) H = matP pl p n0 mk H := by
  conv => lhs; unfold matP
  rw [h]; rfl
theorem resv_n (H : Heap) : ∀ n, (resv H n).n = H.n + n
  | 0 => rfl
  | n + 1 => by unfold resv; rw [Heap.n_push, resv_n H n]; omega
theorem resv_get (H : Heap) : ∀ n j, (resv H n).get j = if j < H.n then H.get j else if j < H.n + n then some .dead else none
  | 0, j => by
    unfold resv
    by_cases h : j < H.n
    · rw [if_pos h]
    · rw [if_neg h, if_neg (by omega), Heap.get_ge _ (by omega)]
  | n + 1, j => by
    unfold resv
    rw [Heap.get_push, resv_n, resv_get H n j]
    by_cases h : j < H.n
    · rw [if_neg (by omega), if_pos h, if_pos h]
    · rw [if_neg h, if_neg h]
      by_cases h2 : j = H.n + n
      · rw [if_pos h2, if_pos (by omega)]
      · rw [if_neg h2]
        by_cases h3 : j < H.n + n
        · rw [if_pos h3, if_pos (by omega)]
        · rw [if_neg h3, if_neg (by omega)]

/-! ### looking at slots -/
section
variable {P : Program} {eqs : Eqs} {lk lk' : Env} {H : Heap}
theorem rho_looks {x : Operand} (h : ∀ t ∈ opdT x, lk t = lk' t) : rho lk x = rho lk' x := by
  cases x with
  | tmp t => exact h t (by simp [opdT])
  | _ => rfl
theorem opA_looks {ops : List Oper} {o : Oper} (h : ∀ t ∈ looks ops o, lk t = lk' t) : opA o.op P eqs lk H = opA o.op P eqs lk' H :=
  opA_congr o.op fun x hx => rho_looks fun t ht => h t (List.mem_append_left _ (List.mem_flatMap.2 ⟨x, by simpa using hx, ht⟩))
theorem wantA_looks {ops : List Oper} {o : Oper} (h : ∀ t ∈ looks ops o, lk t = lk' t) : wantA ops lk o = wantA ops lk' o := by
  unfold wantA
  cases hg : o.guard with
  | none => rfl
  | some g =>
    obtain ⟨j, b⟩ := g
    simp only []
    cases hd : gdst ops j with
    | none => rfl
    | some t =>
      simp only []
      rw [h t (List.mem_append_right _ (by rw [hg]; simp [hd]))]
theorem opP_looks {ops : List Oper} {o : Oper} {K : AV → Heap → Prop} (h : ∀ t ∈ looks ops o, lk t = lk' t) (hp : opP P eqs o.op lk H K) : opP P eqs o.op lk' H K := by
  obtain ⟨r, h1, h2⟩ := hp
  exact ⟨r, by rw [← opA_looks h]; exact h1, h2⟩
end
end Go.Ea
