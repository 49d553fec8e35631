/-
  THE ENGINE, part 22: rows that grow by append; literals of one element. Over any program. Written in this session.
-/
import Derived.Test.YtceakkomleaibaaEe2
namespace Go.Ea
section
variable {P : Program} {eqs : Eqs} {N : Nat} {lk : Env} {H : Heap} {K : AV → Heap → Prop}
theorem RowA.nil (G : Heap) (lo : Nat) (T : TypeId) : RowA G lo T 0 [] (.slice none 0) := .inl ⟨rfl, rfl, rfl⟩
theorem RowA.mono {G G' : Heap} {lo lo' : Nat} {T : TypeId} {n : Nat} {cs : List AT} {a : AT} (h : RowA G lo T n cs a) (hlo : lo' ≤ lo) (hg : ∀ i, lo ≤ i → G.get i = some (.cells T 2 cs) → G'.get i = some (.cells T 2 cs)) : RowA G' lo' T n cs a := by
  rcases h with h | ⟨id, h1, h2, h3⟩
  · exact .inl h
  · exact .inr ⟨id, Nat.le_trans hlo h1, h2, hg id h1 h3⟩
theorem RowA.kp {G G' : Heap} {lo : Nat} {T : TypeId} {n : Nat} {cs : List AT} {a : AT} (h : RowA G lo T n cs a) (hk : Kp [] G G') : RowA G' lo T n cs a := h.mono (Nat.le_refl _) fun _ _ hg => hk.get hg rfl
theorem RowA.push {G : Heap} {lo : Nat} {T : TypeId} {n : Nat} {cs : List AT} {a : AT} {o : AObj} (h : RowA G lo T n cs a) : RowA (G.push o) lo T n cs a := h.mono (Nat.le_refl _) fun _ _ hg => Heap.push_old hg
theorem RowA.set {G : Heap} {lo j : Nat} {T : TypeId} {n : Nat} {cs : List AT} {a : AT} {o ob : AObj} (h : RowA G lo T n cs a) (hj : G.get j = some ob) (hne : ob ≠ .cells T 2 cs) : RowA (G.set j o) lo T n cs a :=
  h.mono (Nat.le_refl _) fun _ _ hg => Heap.set_old hg (Heap.ne_of hg hj fun e => hne e.symm) (Heap.get_lt hj)
theorem Kp.app {H0 H H' : Heap} {lo : Nat} {ob : AObj} (h : Kp [] H0 H) (hlo : H0.n ≤ lo) (hn : H.n ≤ H'.n) (hg : ∀ j o, H.get j = some o → (j < lo ∨ o ≠ ob) → H'.get j = some o) : Kp [] H0 H' :=
  ⟨Nat.le_trans h.n hn, fun i o hi hl _ => hg i o (h.get hi hl) (.inl (by have := Heap.get_lt hi; omega))⟩
/-- append to a row that was built here. -/
theorem oAppRow {c : Call} {t e : TypeId} {i : TypeInfo} {z : Value} {lo n m id2 : Nat} {T2 k2 : Nat} {cs new : List AT} {s x : Operand} {a : AT}
    (hc : c.callee = .builtin .append) (hargs : c.args = #[s, x]) (hts : c.argTypes = #[t, t]) (h1 : rho lk s = some (at' a)) (hr : RowA H lo e n cs a) (h2 : rho lk x = some (at' (.slice (some (id2, 0)) m))) (hg : H.get id2 = some (.cells T2 k2 new)) (h3 : isSliceD (P.underlying t) = some e)
    (h4 : P.info? e = some i) (h5 : i.zero = some z) (hs : Nat.beq i.size 0 = false) (hz : Nat.beq z.cells.size i.size = true) (hnew : new.length = m * i.size) (hm : Nat.beq m 0 = false) (hl : cs.length = n * i.size) (hb : (n + m) * i.bytes ≤ 140737488355328) (hb2 : n + m ≤ 9223372036854775807) (hlo : lo ≤ H.n)
    (hk : ∀ a' H', RowA H' lo e (n + m) (cs ++ new) a' → H.n ≤ H'.n → (∀ j ob, H.get j = some ob → (j < lo ∨ ob ≠ .cells e 2 cs) → H'.get j = some ob) → K (at' a') H') : opP P eqs (.call c) lk H K := by
  have hsrc : srcA P H i.size (at' (.slice (some (id2, 0)) m)) = some (m, new) := by
    rw [srcA_row hg (by omega), List.drop_zero, ← hnew, List.take_length]
  rcases hr with ⟨rfl, rfl, rfl⟩ | ⟨id, q1, rfl, q3⟩
  · refine oV (op_append_nil hc hargs hts h1 h2 h3 h4 h5 hs hz hsrc hm (by simpa using hb) (by omega)) ?_
    have e : at' (.slice (some (H.n, 0)) m) = at' (.slice (some (H.n, 0)) (0 + m)) := by rw [Nat.zero_add]
    rw [e]
    exact hk _ _ (.inr ⟨H.n, hlo, rfl, Heap.push_new⟩) (by simp) fun j ob hj _ => Heap.push_old hj
  · refine oV (op_append_at hc hargs hts h1 h2 h3 h4 h5 hs hz hsrc hm q3 hl hb hb2) ?_
    refine hk _ _ (.inr ⟨H.n, hlo, rfl, ?_⟩) (by simp) fun j ob hj hne => Heap.push_old (Heap.set_old hj ?_ (Heap.get_lt q3))
    · have := Heap.push_new (H := H.set id .dead) (o := .cells e 2 (cs ++ new))
      simpa using this
    · rcases hne with h | h
      · omega
      · exact Heap.ne_of hj q3 h
theorem oBS1 {T e : TypeId} {x : Operand} {n : Nat} {a z : A1} (hx : rho lk x = some (.one a)) (hu : isSliceD (P.underlying T) = some e) (hz : sizeO P e = some n) (h0 : zeroOf P e = some z) (hzl : z.cells.length = n) (h1 : 1 ≤ n) (h2 : n ≤ 16777216) (hl : a.cells.length = n)
    (hk : K (at' (.slice (some (H.n, 0)) 1)) (H.push (.cells e 2 a.cells))) : opP P eqs (.buildSlice T 1 #[(0, x)]) lk H K :=
  oV (v := at' (.slice (some (H.n, 0)) 1)) (H' := H.push (.cells e 2 a.cells)) (by
    show op_buildSlice T 1 #[(0, x)] P eqs lk H = _
    unfold op_buildSlice
    have hp : partsOf lk #[(0, x)].toList = some [(0, .one a)] := by
      show (match rho lk x, some [] with | some a, some l => some ((0, a) :: l) | _, _ => none) = _
      rw [hx]
    rw [hu, hp]
    simp only [hz, h0]
    have e1 : (Nat.ble (1 * n) 16777216 && Nat.ble 1 n && Nat.beq z.cells.length n && Nat.ble 1 9223372036854775807) = true := by
      simp only [Nat.one_mul, hzl, Nat.beq_refl, Bool.and_true, Bool.and_eq_true, Nat.ble_eq]; exact ⟨⟨h2, h1⟩, by decide⟩
    rw [e1]
    have e2 : ∀ l : List AT, l.length = n → fillA (fun i => some (i * n, n)) l [(0, .one a)] = some a.cells := by
      intro l hll
      have : fillA (fun i => some (i * n, n)) l [(0, .one a)] = (bif Nat.beq a.cells.length n && Nat.ble (0 * n + n) l.length then fillA (fun i => some (i * n, n)) (putL l (0 * n) a.cells) [] else none) := rfl
      rw [this, hl, Nat.beq_refl, hll, show Nat.ble (0 * n + n) n = true from by simp]
      show some (putL l (0 * n) a.cells) = _
      unfold putL
      rw [Nat.zero_mul, List.take_zero, List.nil_append, Nat.zero_add, hl, List.drop_eq_nil_of_le (by omega), List.append_nil]
    rw [e2 _ (by simp)]
    rfl) hk
end
/-! ### regions whose order is drawn, once more -/
section
variable {P : Program} {eqs : Eqs} {N : Nat} {lk : Env} {H : Heap} {Q : PostA} {Ke : Env → Heap → Prop} {ops : List Oper} {pl : Plan} {n0 : Nat} {mk : List (Nat × AObj)} {pd : Pend} {i : Nat} {r : List Nat}
def PendAll (P : Program) (eqs : Eqs) (ops : List Oper) (pl : Plan) (n0 : Nat) (H : Heap) (mk : List (Nat × AObj)) (i : Nat) : Pend → Prop
  | [] => True
  | (k, b) :: r => (bef pl i k = true ∨ recheck P eqs ops pl n0 H mk (k, b)) ∧ PendAll P eqs ops pl n0 H mk i r
theorem PendAll.all {mk : List (Nat × AObj)} : ∀ {pd : Pend}, PendAll P eqs ops pl n0 H mk i pd → ∀ p ∈ pd, bef pl i p.1 = false → recheck P eqs ops pl n0 H mk p
  | (k, b) :: r, h, p, hp, hb => by
    rcases List.mem_cons.1 hp with rfl | hp
    · rcases h.1 with h | h
      · rw [h] at hb; cases hb
      · exact h
    · exact PendAll.all h.2 p hp hb
inductive Filt (pl : Plan) (i : Nat) {β : Type} : List (Nat × β) → List (Nat × β) → Prop
  | nil : Filt pl i [] []
  | drop {k : Nat} {b : β} {l m : List (Nat × β)} (h : bef pl i k = true) : Filt pl i l m → Filt pl i ((k, b) :: l) m
  | keep {k : Nat} {b : β} {l m : List (Nat × β)} (h : bef pl i k = false) : Filt pl i l m → Filt pl i ((k, b) :: l) ((k, b) :: m)
theorem Filt.eq {pl : Plan} {i : Nat} {β : Type} : ∀ {l m : List (Nat × β)}, Filt pl i l m → (l.filter fun x => !bef pl i x.1) = m
  | _, _, .nil => rfl
  | _, _, .drop h r => by rw [List.filter_cons, if_neg (by simp [h])]; exact r.eq
  | _, _, .keep h r => by rw [List.filter_cons, if_pos (by simp [h]), r.eq]
theorem Tri.drawnR (hm : P.follows .mixedOrders = true) (hQ : EqsOk P eqs) {id : Nat} {ops : Array Oper} (pl : Plan) (hp : okP ops.toList pl = true) (R : Heap) (hR : resv H pl.M = R) (h : wpD P eqs N ops.toList pl H.n (Q .normal) pl.sched lk R [] []) :
    Tri P N (.region id ops true) lk H Q := Tri.drawn hm hQ pl hp (by rw [hR]; exact h)
theorem Tri.drawn1 (hm : P.follows .mixedOrders = true) (hQ : EqsOk P eqs) {id : Nat} {ops : Array Oper} (pl : Plan) (hp : okP ops.toList pl = true) (hM : pl.M = 1) (h : wpD P eqs N ops.toList pl H.n (Q .normal) pl.sched lk (Heap.push H .dead) [] []) : Tri P N (.region id ops true) lk H Q := Tri.drawnR hm hQ pl hp (Heap.push H .dead) (by rw [hM]; rfl) h
theorem Tri.drawn2 (hm : P.follows .mixedOrders = true) (hQ : EqsOk P eqs) {id : Nat} {ops : Array Oper} (pl : Plan) (hp : okP ops.toList pl = true) (hM : pl.M = 2) (h : wpD P eqs N ops.toList pl H.n (Q .normal) pl.sched lk (Heap.push (Heap.push H .dead) .dead) [] []) : Tri P N (.region id ops true) lk H Q := Tri.drawnR hm hQ pl hp (Heap.push (Heap.push H .dead) .dead) (by rw [hM]; rfl) h
theorem Tri.drawn3 (hm : P.follows .mixedOrders = true) (hQ : EqsOk P eqs) {id : Nat} {ops : Array Oper} (pl : Plan) (hp : okP ops.toList pl = true) (hM : pl.M = 3) (h : wpD P eqs N ops.toList pl H.n (Q .normal) pl.sched lk (Heap.push (Heap.push (Heap.push H .dead) .dead) .dead) [] []) : Tri P N (.region id ops true) lk H Q := Tri.drawnR hm hQ pl hp (Heap.push (Heap.push (Heap.push H .dead) .dead) .dead) (by rw [hM]; rfl) h
theorem Tri.drawn4 (hm : P.follows .mixedOrders = true) (hQ : EqsOk P eqs) {id : Nat} {ops : Array Oper} (pl : Plan) (hp : okP ops.toList pl = true) (hM : pl.M = 4) (h : wpD P eqs N ops.toList pl H.n (Q .normal) pl.sched lk (Heap.push (Heap.push (Heap.push (Heap.push H .dead) .dead) .dead) .dead) [] []) : Tri P N (.region id ops true) lk H Q := Tri.drawnR hm hQ pl hp (Heap.push (Heap.push (Heap.push (Heap.push H .dead) .dead) .dead) .dead) (by rw [hM]; rfl) h
theorem Tri.drawn5 (hm : P.follows .mixedOrders = true) (hQ : EqsOk P eqs) {id : Nat} {ops : Array Oper} (pl : Plan) (hp : okP ops.toList pl = true) (hM : pl.M = 5) (h : wpD P eqs N ops.toList pl H.n (Q .normal) pl.sched lk (Heap.push (Heap.push (Heap.push (Heap.push (Heap.push H .dead) .dead) .dead) .dead) .dead) [] []) : Tri P N (.region id ops true) lk H Q := Tri.drawnR hm hQ pl hp (Heap.push (Heap.push (Heap.push (Heap.push (Heap.push H .dead) .dead) .dead) .dead) .dead) (by rw [hM]; rfl) h
theorem Tri.drawn6 (hm : P.follows .mixedOrders = true) (hQ : EqsOk P eqs) {id : Nat} {ops : Array Oper} (pl : Plan) (hp : okP ops.toList pl = true) (hM : pl.M = 6) (h : wpD P eqs N ops.toList pl H.n (Q .normal) pl.sched lk (Heap.push (Heap.push (Heap.push (Heap.push (Heap.push (Heap.push H .dead) .dead) .dead) .dead) .dead) .dead) [] []) : Tri P N (.region id ops true) lk H Q := Tri.drawnR hm hQ pl hp (Heap.push (Heap.push (Heap.push (Heap.push (Heap.push (Heap.push H .dead) .dead) .dead) .dead) .dead) .dead) (by rw [hM]; rfl) h
theorem Tri.drawn7 (hm : P.follows .mixedOrders = true) (hQ : EqsOk P eqs) {id : Nat} {ops : Array Oper} (pl : Plan) (hp : okP ops.toList pl = true) (hM : pl.M = 7) (h : wpD P eqs N ops.toList pl H.n (Q .normal) pl.sched lk (Heap.push (Heap.push (Heap.push (Heap.push (Heap.push (Heap.push (Heap.push H .dead) .dead) .dead) .dead) .dead) .dead) .dead) [] []) : Tri P N (.region id ops true) lk H Q := Tri.drawnR hm hQ pl hp (Heap.push (Heap.push (Heap.push (Heap.push (Heap.push (Heap.push (Heap.push H .dead) .dead) .dead) .dead) .dead) .dead) .dead) (by rw [hM]; rfl) h
theorem Tri.drawn8 (hm : P.follows .mixedOrders = true) (hQ : EqsOk P eqs) {id : Nat} {ops : Array Oper} (pl : Plan) (hp : okP ops.toList pl = true) (hM : pl.M = 8) (h : wpD P eqs N ops.toList pl H.n (Q .normal) pl.sched lk (Heap.push (Heap.push (Heap.push (Heap.push (Heap.push (Heap.push (Heap.push (Heap.push H .dead) .dead) .dead) .dead) .dead) .dead) .dead) .dead) [] []) : Tri P N (.region id ops true) lk H Q := Tri.drawnR hm hQ pl hp (Heap.push (Heap.push (Heap.push (Heap.push (Heap.push (Heap.push (Heap.push (Heap.push H .dead) .dead) .dead) .dead) .dead) .dead) .dead) .dead) (by rw [hM]; rfl) h
theorem dE0 (h : Ke lk H) : wpD P eqs N ops pl n0 Ke [] lk H [] pd := h
theorem dR0 {o : Oper} {v : AV} (ho : ops[i]? = some o) (hd : dOk N o.dst = true) (hw : wantA ops lk o = some true) (hc : clsOf o.op = .rd) (h : opA o.op P eqs lk H = some (.val v H))
    (hk : wpD P eqs N ops pl n0 Ke r (putF lk o.dst v) H [] ((i, lk, v) :: pd)) : wpD P eqs N ops pl n0 Ke (i :: r) lk H [] pd := dR ho hd hw hc h hk
theorem dRm {o : Oper} {v : AV} (Hv : Heap) (hv : matP pl (bef pl i) n0 mk H = Hv) (ho : ops[i]? = some o) (hd : dOk N o.dst = true) (hw : wantA ops lk o = some true) (hc : clsOf o.op = .rd) (h : opA o.op P eqs lk Hv = some (.val v Hv))
    (hk : wpD P eqs N ops pl n0 Ke r (putF lk o.dst v) H mk ((i, lk, v) :: pd)) : wpD P eqs N ops pl n0 Ke (i :: r) lk H mk pd := by subst hv; exact dR ho hd hw hc h hk
theorem dC0 {o : Oper} {pd' : Pend} (hpd : Filt pl i pd pd') (ho : ops[i]? = some o) (hd : dOk N o.dst = true) (hw : wantA ops lk o = some true) (hc : clsOf o.op = .md)
    (h : opP P eqs o.op lk H fun v H' => PendAll P eqs ops pl n0 H' [] i pd ∧ wpD P eqs N ops pl n0 Ke r (putF lk o.dst v) H' [] pd') : wpD P eqs N ops pl n0 Ke (i :: r) lk H [] pd := by
  have hpd := hpd.eq
  subst hpd
  obtain ⟨x, h1, h2⟩ := h
  refine dC ho hd hw hc ⟨x, h1, ?_⟩
  cases x with
  | val v H' => exact ⟨h2.1.all, h2.2⟩
  | call f args => exact ⟨h2.1, h2.2.mono fun v H' h => ⟨h.1.all, h.2⟩⟩
theorem dCm {o : Oper} {mk' : List (Nat × AObj)} {pd' : Pend} (Hv : Heap) (hmk : Filt pl i mk mk') (hpd : Filt pl i pd pd') (hv : matP pl (bef pl i) n0 mk H = Hv) (ho : ops[i]? = some o) (hd : dOk N o.dst = true) (hw : wantA ops lk o = some true) (hc : clsOf o.op = .md)
    (h : opP P eqs o.op lk Hv fun v H' => PendAll P eqs ops pl n0 H' mk' i pd ∧ wpD P eqs N ops pl n0 Ke r (putF lk o.dst v) H' mk' pd') : wpD P eqs N ops pl n0 Ke (i :: r) lk H mk pd := by
  have hpd := hpd.eq; have hmk := hmk.eq
  subst hpd; subst hmk; subst hv
  obtain ⟨x, h1, h2⟩ := h
  refine dC ho hd hw hc ⟨x, h1, ?_⟩
  cases x with
  | val v H' => exact ⟨h2.1.all, h2.2⟩
  | call f args => exact ⟨h2.1, h2.2.mono fun v H' h => ⟨h.1.all, h.2⟩⟩
/-- All is looked at: what was made on the way stands in the heap. -/
theorem dE (Hv : Heap) (hv : matP pl (fun _ => true) n0 mk H = Hv) (h : Ke lk Hv) : wpD P eqs N ops pl n0 Ke [] lk H mk pd := by subst hv; exact h
end
end Go.Ea
