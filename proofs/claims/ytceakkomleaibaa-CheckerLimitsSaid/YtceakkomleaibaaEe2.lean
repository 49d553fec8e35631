/-
  THE ENGINE, part 21: a contract whose answer is plain leaves the heap as it was; one operation's answer, by kinds; steps in regions whose order is drawn. Over any program. Written in this session.
-/
import Derived.Test.YtceakkomleaibaaEe1
namespace Go.Ea

/-! ### what is made on the way is dropped -/
theorem PR.shrink {α α' : Al} (hs : Sub α α') {p : Nat × Nat} {v v0 : Value} (h0 : PR α p v0) (h : PR α' p v) : PR α p v := by
  obtain ⟨L, h1, _⟩ := h0
  obtain ⟨L', h3, h4⟩ := h
  rw [hs _ _ h1] at h3; cases h3
  exact ⟨L, h1, h4⟩
theorem F2.shrinkP {α α' : Al} (hs : Sub α α') : ∀ {l : List (Nat × Nat)} {m m0 : List Value}, F2 (PR α) l m0 → F2 (PR α') l m → F2 (PR α) l m
  | _, _, _, .nil, .nil => .nil
  | _, _, _, .cons a b, .cons c d => .cons (PR.shrink hs a c) (F2.shrinkP hs b d)
theorem AR.shrink {α α' : Al} (hs : Sub α α') {a : AT} {v v0 : Value} (h0 : AR α a v0) (h : AR α' a v) : AR α a v := by
  match a, h0, h with
  | .bool _, _, h | .int _ _, _, h | .str _, _, h | .ptr none, _, h | .slice none _, _, h | .map none, _, h | .nilFn, _, h | .nilIf, _, h => exact h
  | .ptr (some p), h0, h => exact PR.shrink hs h0 h
  | .slice (some p) n, ⟨L, c, h1, _⟩, ⟨L', c', h3, h4⟩ => rw [hs _ _ h1] at h3; cases h3; exact ⟨L, c', h1, h4⟩
  | .map (some r), ⟨L, h1, _⟩, ⟨L', h3, h4⟩ => rw [hs _ _ h1] at h3; cases h3; exact ⟨L, h1, h4⟩
  | .fn f cs, ⟨a0, _, h2⟩, ⟨arr, h3, h4⟩ => exact ⟨arr, h3, F2.shrinkP hs h2 h4⟩
theorem F2.shrinkA {α α' : Al} (hs : Sub α α') : ∀ {l : List AT} {m m0 : List Value}, F2 (AR α) l m0 → F2 (AR α') l m → F2 (AR α) l m
  | _, _, _, .nil, .nil => .nil
  | _, _, _, .cons a b, .cons c d => .cons (AR.shrink hs a c) (F2.shrinkA hs b d)
theorem V1.shrink {α α' : Al} (hs : Sub α α') {x : A1} {v v0 : Value} (h0 : V1 α x v0) (h : V1 α' x v) : V1 α x v := by
  match x, h0, h with
  | .at a, h0, h => exact AR.shrink hs h0 h
  | .agg cs, ⟨_, _, h2⟩, ⟨arr, h3, h4⟩ => exact ⟨arr, h3, F2.shrinkA hs h2 h4⟩
theorem F2.shrinkM {α α' : Al} (hs : Sub α α') : ∀ {l : List (AT × A1)} {m m0 : List MapEntry}, F2 (fun (e : AT × A1) (m : MapEntry) => AR α e.1 m.key ∧ V1 α e.2 m.val) l m0 → F2 (fun (e : AT × A1) (m : MapEntry) => AR α' e.1 m.key ∧ V1 α' e.2 m.val) l m →
    F2 (fun (e : AT × A1) (m : MapEntry) => AR α e.1 m.key ∧ V1 α e.2 m.val) l m
  | _, _, _, .nil, .nil => .nil
  | _, _, _, .cons a b, .cons c d => .cons ⟨AR.shrink hs a.1 c.1, V1.shrink hs a.2 c.2⟩ (F2.shrinkM hs b d)
theorem OR.shrink {P : Program} {base : Nat} {α α' : Al} (hs : Sub α α') {w w' : World} {i : Nat} {o : AObj} (hl : o.live = true) (h0 : OR P base α w i o) (h : OR P base α' w' i o) : OR P base α w' i o := by
  cases o with
  | dead => trivial
  | unborn => cases hl
  | cells T k cs =>
    obtain ⟨L, c, fz, a1, a2, a3, a4, a5, a6⟩ := h0
    obtain ⟨L', c', fz', b1, b2, b3, b4, b5, b6⟩ := h
    rw [hs _ _ a1] at b1; cases b1
    refine ⟨L, c', fz', a1, b2, b3, fun j a hj => ?_, b5, b6⟩
    obtain ⟨v0, _, e2⟩ := a4 j a hj
    obtain ⟨v, d1, d2⟩ := b4 j a hj
    exact ⟨v, d1, AR.shrink hs e2 d2⟩
  | map es =>
    obtain ⟨L, c, clk, a1, _, _, a4⟩ := h0
    obtain ⟨L', c', clk', b1, b2, b3, b4⟩ := h
    rw [hs _ _ a1] at b1; cases b1
    exact ⟨L, c', clk', a1, b2, b3, F2.shrinkM hs a4 b4⟩
theorem Sim.trim {P : Program} {f : FuncId} {args : List AV} {H : Heap} {Q : AV → Prop} (h : Sim P f args H fun u G => Kp [] H G ∧ plain u = true ∧ Q u) : Sim P f args H fun u G => Q u ∧ G = H := by
  intro base α w xs hR ha
  refine (h base α w xs hR ha).mono fun e w' ⟨v, v', H', α', h1, ⟨hk, hp, hq⟩, h4, h5, h6⟩ => ⟨v, v', H, α, h1, ⟨hq, rfl⟩, VR.plain hp h4, ?_, ?_⟩
  · refine ⟨Nat.le_trans hR.bs h6.size, hR.dom, fun i o ho => ?_, hR.sep⟩
    cases hl : o.live with
    | true => exact OR.shrink h6.sub hl (hR.obj i o ho) (h5.obj i o (hk.get ho hl))
    | false =>
      cases o with
      | dead => trivial
      | unborn => exact hR.obj i _ ho
      | cells T k cs => cases hl
      | map es => cases hl
  · exact ⟨h6.os, h6.tape, h6.output, h6.size, Nat.le_refl _, Sub.refl _, fun _ _ => rfl, h6.blk, fun _ _ h => h, fun _ _ h => h, fun _ h => h, h6.fz⟩

/-! ### one operation -/
section
variable {P : Program} {eqs : Eqs} {N : Nat} {lk : Env} {H H' : Heap} {K : AV → Heap → Prop} {Ke : Env → Heap → Prop} {ops : List Oper} {op : Op}
theorem sO {o : Oper} {r : List Oper} (hd : dOk N o.dst = true) (hw : wantA ops lk o = some true) (h : opP P eqs o.op lk H fun v H' => wpO P eqs N ops Ke r (putF lk o.dst v) H') : wpO P eqs N ops Ke (o :: r) lk H := (wpO_yes hd hw).2 h
theorem sN {o : Oper} {r : List Oper} (hd : dOk N o.dst = true) (hw : wantA ops lk o = some false) (hk : wpO P eqs N ops Ke r (putF lk o.dst .undef) H) : wpO P eqs N ops Ke (o :: r) lk H := (wpO_no hd hw).2 hk
theorem oV {v : AV} (h : opA op P eqs lk H = some (.val v H')) (k : K v H') : opP P eqs op lk H K := (opP_val h).2 k
theorem oB {c : Bool} (h : opA op P eqs lk H = some (.val (at' (.bool c)) H')) (ht : c = true → K (at' (.bool true)) H') (hf : c = false → K (at' (.bool false)) H') : opP P eqs op lk H K :=
  oV h (by cases c with | true => exact ht rfl | false => exact hf rfl)
theorem oP {p : Prop} [Decidable p] (h : opA op P eqs lk H = some (.val (at' (.bool (decide p))) H')) (ht : p → K (at' (.bool true)) H') (hf : ¬ p → K (at' (.bool false)) H') : opP P eqs op lk H K :=
  oB h (fun e => ht (of_decide_eq_true e)) fun e => hf (of_decide_eq_false e)
theorem oE {x y : Int} (h : opA op P eqs lk H = some (.val (at' (.bool (x == y))) H')) (ht : x = y → K (at' (.bool true)) H') (hf : x ≠ y → K (at' (.bool false)) H') : opP P eqs op lk H K :=
  oB h (fun e => ht (by simpa using e)) fun e => hf (by simpa using e)
theorem oNE {x y : Int} (h : opA op P eqs lk H = some (.val (at' (.bool (x != y))) H')) (ht : x ≠ y → K (at' (.bool true)) H') (hf : x = y → K (at' (.bool false)) H') : opP P eqs op lk H K :=
  oB h (fun e => ht (by simpa using e)) fun e => hf (by simpa using e)
theorem eqS_iff {x y : List UInt8} : eqS x y = true ↔ x = y := by rw [eqS_eq]; simp
theorem oS {x y : List UInt8} (h : opA op P eqs lk H = some (.val (at' (.bool (eqS x y))) H')) (ht : x = y → K (at' (.bool true)) H') (hf : x ≠ y → K (at' (.bool false)) H') : opP P eqs op lk H K :=
  oB h (fun e => ht (eqS_iff.1 e)) fun e => hf fun hh => by rw [eqS_iff.2 hh] at e; cases e
theorem oSN {x y : List UInt8} (h : opA op P eqs lk H = some (.val (at' (.bool !(eqS x y))) H')) (ht : x ≠ y → K (at' (.bool true)) H') (hf : x = y → K (at' (.bool false)) H') : opP P eqs op lk H K :=
  oB h (fun e => ht fun hh => by rw [eqS_iff.2 hh] at e; cases e) fun e => hf (eqS_iff.1 (by simpa using e))
theorem wrap64 {n : Nat} (h : n < 9223372036854775808) : wrapA .i64 (n : Int) = n := wrapA_small h
theorem oAdd {n m : Nat} (h : opA op P eqs lk H = some (.val (at' (.int .i64 (wrapA .i64 ((n : Int) + (m : Int))))) H')) (hb : n + m < 9223372036854775808) (k : K (at' (.int .i64 ((n + m : Nat) : Int))) H') : opP P eqs op lk H K :=
  oV h (by rw [← Int.natCast_add, wrap64 hb]; exact k)
theorem oSub {n m : Nat} (h : opA op P eqs lk H = some (.val (at' (.int .i64 (wrapA .i64 ((n : Int) - (m : Int))))) H')) (hm : m ≤ n) (hb : n < 9223372036854775808) (k : K (at' (.int .i64 ((n - m : Nat) : Int))) H') : opP P eqs op lk H K :=
  oV h (by rw [← Int.natCast_sub hm, wrap64 (by omega)]; exact k)
theorem wrap_id {x : Int} (h1 : -9223372036854775808 ≤ x) (h2 : x < 9223372036854775808) : wrapA .i64 x = x := by
  rw [wrapA_eq, wrap_num .i64 x 18446744073709551616 9223372036854775808 (by decide) (by decide)]
  have h3 : IntKind.i64.signed = true := rfl
  rw [h3]
  split
  · rename_i h; obtain ⟨_, h⟩ := h; omega
  · rename_i h; simp only [true_and] at h; omega
theorem oArith {x : Int} (h : opA op P eqs lk H = some (.val (at' (.int .i64 (wrapA .i64 x))) H')) (h1 : -9223372036854775808 ≤ x) (h2 : x < 9223372036854775808) (k : K (at' (.int .i64 x)) H') : opP P eqs op lk H K :=
  oV h (by rw [wrap_id h1 h2]; exact k)
theorem oI {k : IntKind} {x : Int} (y : Int) (h : opA op P eqs lk H = some (.val (at' (.int k x)) H')) (hc : x = y) (hk : K (at' (.int k y)) H') : opP P eqs op lk H K := oV h (by subst hc; exact hk)
theorem oW {v : AV} (v' : AV) (h : opA op P eqs lk H = some (.val v H')) (hc : v = v') (hk : K v' H') : opP P eqs op lk H K := oV h (by subst hc; exact hk)
theorem oCat {t yt : TypeId} {x y : Operand} {s u : List UInt8} (hx : rho lk x = some (at' (.str s))) (hy : rho lk y = some (at' (.str u))) (hb : s.length + u.length ≤ 4611686018427387904) (hk : K (at' (.str (s ++ u))) H) : opP P eqs (.binOp .add t x y yt) lk H K :=
  oV (v := at' (.str (s ++ u))) (H' := H) (by
    show op_binOp .add t x y yt P eqs lk H = _
    unfold op_binOp
    rw [hx, hy]
    have e : binA P eqs .add t (at' (.str s)) (at' (.str u)) = (if s.length + u.length ≤ 4611686018427387904 then some (.str (s ++ u)) else none) := rfl
    simp only [e, if_pos hb]) hk
theorem oRem {t yt : TypeId} {x y : Operand} {n m : Int} {k : IntKind} (hx : rho lk x = some (at' (.int k n))) (hy : rho lk y = some (at' (.int k m))) (hm : m ≠ 0) (hk : K (at' (.int k (n.tmod m))) H) : opP P eqs (.binOp .rem t x y yt) lk H K :=
  oV (v := at' (.int k (n.tmod m))) (H' := H) (by
    show op_binOp .rem t x y yt P eqs lk H = _
    unfold op_binOp
    rw [hx, hy]
    have e : binA P eqs .rem t (at' (.int k n)) (at' (.int k m)) = (if k = k then (if m = 0 then none else some (.int k (n.tmod m))) else none) := rfl
    simp only [e, if_neg hm, if_true]) hk
theorem oQuo {t yt : TypeId} {x y : Operand} {n m : Int} {k : IntKind} (hx : rho lk x = some (at' (.int k n))) (hy : rho lk y = some (at' (.int k m))) (hm : m ≠ 0) (hk : K (at' (.int k (k.wrap (n.tdiv m)))) H) : opP P eqs (.binOp .quo t x y yt) lk H K :=
  oV (v := at' (.int k (k.wrap (n.tdiv m)))) (H' := H) (by
    show op_binOp .quo t x y yt P eqs lk H = _
    unfold op_binOp
    rw [hx, hy]
    have e : binA P eqs .quo t (at' (.int k n)) (at' (.int k m)) = (if k = k then (if m = 0 then none else some (.int k (k.wrap (n.tdiv m)))) else none) := rfl
    simp only [e, if_neg hm, if_true]) hk
theorem oIdx {t : TypeId} {x ix : Operand} {s : List UInt8} {n : Nat} (hx : rho lk x = some (at' (.str s))) (hi : rho lk ix = some (at' (.int .i64 n))) (hu : P.underlying t = some .string) (hn : n < s.length) (hk : ∀ b, s[n]? = some b → K (at' (.int .u8 b.toNat)) H) : opP P eqs (.index t x ix) lk H K :=
  oV (index_str hu hx hi (List.getElem?_eq_getElem hn)) (hk _ (List.getElem?_eq_getElem hn))
theorem bound_nat {d n : Nat} {k : IntKind} {y : Operand} (h : rho lk y = some (at' (.int k (n : Int)))) : boundA lk d (some y) = some n := by
  have e : boundA lk d (some y) = (match rho lk y with | some v => (match intA v with | some n => if 0 ≤ n then some n.toNat else none | none => none) | none => none) := rfl
  rw [e, h]; simp [intA]
theorem slice_str {t : TypeId} {x : Operand} {lo hi : Option Operand} {s : List UInt8} {l h : Nat} (hx : rho lk x = some (at' (.str s))) (hl : boundA lk 0 lo = some l) (hh : boundA lk s.length hi = some h) (hu : P.underlying t = some .string) (h1 : l ≤ h) (h2 : h ≤ s.length) :
    opA (.slice t x lo hi none) P eqs lk H = some (.val (at' (.str ((s.take h).drop l))) H) := by
  show op_slice t x lo hi none P eqs lk H = _
  unfold op_slice
  rw [hx]
  simp only [hu, hl, hh]
  rw [show Nat.ble l h = true from by simpa using h1, show Nat.ble h s.length = true from by simpa using h2]
  rfl
theorem oLo {t : TypeId} {x y : Operand} {s : List UInt8} {n : Nat} {k : IntKind} (hx : rho lk x = some (at' (.str s))) (hy : rho lk y = some (at' (.int k (n : Int)))) (hu : P.underlying t = some .string) (hn : n ≤ s.length) (hk : K (at' (.str (s.drop n))) H) : opP P eqs (.slice t x (some y) none none) lk H K :=
  oV (slice_str hx (l := n) (bound_nat hy) rfl hu hn (Nat.le_refl _)) (by rw [List.take_length]; exact hk)
theorem oHi {t : TypeId} {x y : Operand} {s : List UInt8} {n : Nat} {k : IntKind} (hx : rho lk x = some (at' (.str s))) (hy : rho lk y = some (at' (.int k (n : Int)))) (hu : P.underlying t = some .string) (hn : n ≤ s.length) (hk : K (at' (.str (s.take n))) H) : opP P eqs (.slice t x none (some y) none) lk H K :=
  oV (slice_str hx rfl (h := n) (bound_nat hy) hu (Nat.zero_le _) hn) (by rw [List.drop_zero]; exact hk)
theorem oLoHi {t : TypeId} {x y z : Operand} {s : List UInt8} {n m : Nat} {k k' : IntKind} (hx : rho lk x = some (at' (.str s))) (hy : rho lk y = some (at' (.int k (n : Int)))) (hz : rho lk z = some (at' (.int k' (m : Int)))) (hu : P.underlying t = some .string) (h1 : n ≤ m) (hn : m ≤ s.length) (hk : K (at' (.str ((s.take m).drop n))) H) : opP P eqs (.slice t x (some y) (some z) none) lk H K :=
  oV (slice_str hx (l := n) (bound_nat hy) (h := m) (bound_nat hz) hu h1 hn) hk
theorem slice_row {t e : TypeId} {x : Operand} {lo hi : Option Operand} {id o n l h z : Nat} (hx : rho lk x = some (at' (.slice (some (id, o)) n))) (hl : boundA lk 0 lo = some l) (hh : boundA lk n hi = some h) (hu : isSliceD (P.underlying t) = some e) (hz : sizeO P e = some z) (hz0 : Nat.beq z 0 = false) (h1 : l ≤ h) (h2 : h ≤ n) :
    opA (.slice t x lo hi none) P eqs lk H = some (.val (at' (.slice (some (id, o + l * z)) (h - l))) H) := by
  show op_slice t x lo hi none P eqs lk H = _
  unfold op_slice
  rw [hx]
  simp only [hu, hl, hh, hz, hz0]
  rw [show Nat.ble l h = true from by simpa using h1, show Nat.ble h n = true from by simpa using h2]
  rfl
theorem oC {c : Call} {f : Nat} {args : List AV} {Q : AV → Heap → Prop} (h : opA (.call c) P eqs lk H = some (.call f args)) (hf : FnOk P f) (hs : Sim P f args H Q) (hk : ∀ v H', Q v H' → K v H') : opP P eqs (.call c) lk H K := ⟨_, h, hf, hs.mono hk⟩
theorem oF {c : Call} {f : Nat} {args : List AV} {v : AV} (h : opA (.call c) P eqs lk H = some (.call f args)) (hf : FnOk P f) (hs : Sim P f args H fun u G => u = v ∧ G = H) (hk : K v H) : opP P eqs (.call c) lk H K :=
  oC h hf hs fun u G ⟨h1, h2⟩ => by subst h1; subst h2; exact hk
/-- A call that gives a test. -/
theorem oFB {c : Call} {f : Nat} {args : List AV} {b : Bool} (h : opA (.call c) P eqs lk H = some (.call f args)) (hf : FnOk P f) (hs : Sim P f args H fun u G => u = at' (.bool b) ∧ G = H) (ht : b = true → K (at' (.bool true)) H) (hff : b = false → K (at' (.bool false)) H) : opP P eqs (.call c) lk H K :=
  oF h hf hs (by cases b with | true => exact ht rfl | false => exact hff rfl)
theorem oAlloc {T : TypeId} {x : A1} {cs : List AT} (h : zeroOf P T = some x) (hc : x.cells = cs) (hk : K (at' (.ptr (some (H.n, 0)))) (H.push (.cells T 1 cs))) : opP P eqs (.alloc T) lk H K :=
  oV (v := at' (.ptr (some (H.n, 0)))) (H' := H.push (.cells T 1 cs)) (by show op_alloc T P eqs lk H = _; unfold op_alloc; rw [h]; show some (OpR.val _ (H.push (.cells T 1 x.cells))) = _; rw [hc]) hk
theorem oBox {T : TypeId} {a : Operand} {x : A1} {cs : List AT} (h : rho lk a = some (.one x)) (hc : x.cells = cs) (hk : K (at' (.ptr (some (H.n, 0)))) (H.push (.cells T 1 cs))) : opP P eqs (.box T a) lk H K :=
  oV (v := at' (.ptr (some (H.n, 0)))) (H' := H.push (.cells T 1 cs)) (by show op_box T a P eqs lk H = _; unfold op_box; rw [h]; show some (OpR.val _ (H.push (.cells T 1 x.cells))) = _; rw [hc]) hk
/-- A call that gives a test and turns the heap. -/
theorem oCB {c : Call} {f : Nat} {args : List AV} {b : Bool} {R : Heap → Prop} (h : opA (.call c) P eqs lk H = some (.call f args)) (hf : FnOk P f) (hs : Sim P f args H fun u G => u = at' (.bool b) ∧ R G) (ht : ∀ G, R G → b = true → K (at' (.bool true)) G) (hff : ∀ G, R G → b = false → K (at' (.bool false)) G) : opP P eqs (.call c) lk H K :=
  oC h hf hs fun u G ⟨h1, h2⟩ => by subst h1; cases hb : b with | true => exact ht G h2 hb | false => exact hff G h2 hb
theorem oLoad {T : TypeId} {a : Operand} {id o : Nat} {T' : TypeId} {k : Nat} {cs : List AT} {x : A1} (h1 : rho lk a = some (at' (.ptr (some (id, o))))) (h2 : H.get id = some (.cells T' k cs)) (h3 : partA P T cs o = some x) (hk : K (.one x) H) : opP P eqs (.load T a) lk H K := oV (op_load_at h1 h2 h3) hk
theorem oLoadB {T : TypeId} {a : Operand} {id o : Nat} {T' : TypeId} {k : Nat} {cs : List AT} {c : Bool} (h1 : rho lk a = some (at' (.ptr (some (id, o))))) (h2 : H.get id = some (.cells T' k cs)) (h3 : partA P T cs o = some (.at (.bool c))) (ht : c = true → K (at' (.bool true)) H) (hf : c = false → K (at' (.bool false)) H) : opP P eqs (.load T a) lk H K := oB (op_load_at h1 h2 h3) ht hf
theorem oStore {T : TypeId} {a b : Operand} {id o n : Nat} {T' : TypeId} {k : Nat} {cs cs' : List AT} {x : A1} (h1 : rho lk a = some (at' (.ptr (some (id, o))))) (hb : rho lk b = some (.one x)) (hz : sizeO P T = some n) (h2 : H.get id = some (.cells T' k cs))
    (hx : x.cells.length = n) (hl : o + n ≤ cs.length) (hk0 : Nat.beq k 0 = false) (hcs : putL cs o x.cells = cs') (hk : K .undef (H.set id (.cells T' k cs'))) : opP P eqs (.store T a b) lk H K := oV (op_store_at h1 hb hz h2 hx hl hk0) (by rw [hcs]; exact hk)
theorem oIA {t e : TypeId} {x ix : Operand} {id o n z : Nat} {k : IntKind} {i : Nat} (h1 : rho lk x = some (at' (.slice (some (id, o)) n))) (h2 : rho lk ix = some (at' (.int k i))) (h3 : isSliceD (P.underlying t) = some e) (h4 : sizeO P e = some z) (hi : i < n) (hk : K (at' (.ptr (some (id, o + i * z)))) H) : opP P eqs (.indexAddr t x ix) lk H K :=
  oV (op_indexAddr_at h1 h2 h3 h4 hi) hk
end

/-! ### steps in a region whose order is drawn -/
section
variable {P : Program} {eqs : Eqs} {N : Nat} {lk : Env} {H : Heap} {Ke : Env → Heap → Prop} {ops : List Oper} {pl : Plan} {n0 : Nat} {mk : List (Nat × AObj)} {pd : Pend} {i : Nat} {r : List Nat}
theorem dN {o : Oper} (ho : ops[i]? = some o) (hd : dOk N o.dst = true) (hw : wantA ops lk o = some false) (hk : wpD P eqs N ops pl n0 Ke r (putF lk o.dst .undef) H mk pd) : wpD P eqs N ops pl n0 Ke (i :: r) lk H mk pd :=
  ⟨o, ho, hd, false, hw, by rw [if_neg (by simp)]; exact hk⟩
theorem dL {o : Oper} (ho : ops[i]? = some o) (hd : dOk N o.dst = true) (hw : wantA ops lk o = some true) (hc : clsOf o.op = .loc) (h : opP P eqs o.op lk H fun v _ => wpD P eqs N ops pl n0 Ke r (putF lk o.dst v) H mk pd) : wpD P eqs N ops pl n0 Ke (i :: r) lk H mk pd := by
  refine ⟨o, ho, hd, true, hw, ?_⟩
  rw [if_pos rfl, hc]
  obtain ⟨x, h1, h2⟩ := h
  cases x with
  | val v H' => exact ⟨v, loc_any _ hc h1 H, h2⟩
  | call f args =>
    exfalso
    cases hop : o.op <;> rw [hop] at hc h1 <;> try (cases hc; done)
    case binOp op t x y yt => exact nc_binOp (P := P) (eqs := eqs) (op := op) (t := t) (x := x) (y := y) (yt := yt) h1
    case unOp op t x => exact nc_unOp (P := P) (eqs := eqs) (op := op) (t := t) (x := x) h1
    all_goals first
      | (rename_i c; revert hc; simp only [clsOf]; (repeat' split) <;> (intro hc; cases hc); done)
      | (revert h1; show opA _ P eqs lk H = _ → False; intro h
         first
          | (have h : op_move _ P eqs lk H = _ := h; unfold op_move at h; (repeat' split at h) <;> cases h; done)
          | (have h : op_pick _ _ _ P eqs lk H = _ := h; unfold op_pick at h; (repeat' split at h) <;> cases h; done)
          | (have h : op_build _ _ P eqs lk H = _ := h; unfold op_build at h; (repeat' split at h) <;> cases h; done)
          | (have h : op_nilCheck _ P eqs lk H = _ := h; unfold op_nilCheck at h; (repeat' split at h) <;> cases h; done)
          | (have h : op_fieldAddr _ _ _ P eqs lk H = _ := h; unfold op_fieldAddr at h; (try simp only [cond_eq_ite] at h); (repeat' split at h) <;> cases h; done)
          | (have h : op_field _ _ _ P eqs lk H = _ := h; unfold op_field at h; (repeat' split at h) <;> cases h; done)
          | (have h : op_indexAddr _ _ _ P eqs lk H = _ := h; unfold op_indexAddr at h; (try simp only [cond_eq_ite] at h); (repeat' split at h) <;> cases h; done)
          | (have h : op_index _ _ _ P eqs lk H = _ := h; unfold op_index at h; (try simp only [cond_eq_ite] at h); (repeat' split at h) <;> cases h; done)
          | (have h : op_extract _ _ P eqs lk H = _ := h; unfold op_extract at h; (repeat' split at h) <;> cases h; done)
          | (have h : op_makeFunc _ _ _ P eqs lk H = _ := h; unfold op_makeFunc at h; (repeat' split at h) <;> cases h; done)
          | (have h : op_slice _ _ _ _ _ P eqs lk H = _ := h; unfold op_slice at h; (try simp only [cond_eq_ite] at h); (repeat' split at h) <;> cases h; done))
theorem dR {o : Oper} {v : AV} (ho : ops[i]? = some o) (hd : dOk N o.dst = true) (hw : wantA ops lk o = some true) (hc : clsOf o.op = .rd) (h : opA o.op P eqs lk (matP pl (bef pl i) n0 mk H) = some (.val v (matP pl (bef pl i) n0 mk H)))
    (hk : wpD P eqs N ops pl n0 Ke r (putF lk o.dst v) H mk ((i, lk, v) :: pd)) : wpD P eqs N ops pl n0 Ke (i :: r) lk H mk pd :=
  ⟨o, ho, hd, true, hw, by rw [if_pos rfl, hc]; exact ⟨v, h, hk⟩⟩
theorem dM {o : Oper} {v : AV} {obj : AObj} (ho : ops[i]? = some o) (hd : dOk N o.dst = true) (hw : wantA ops lk o = some true) (hc : clsOf o.op = .mk) (h : opA o.op P eqs lk ⟨n0 + pl.rk.getD i 0, .nil⟩ = some (.val v (Heap.push ⟨n0 + pl.rk.getD i 0, .nil⟩ obj)))
    (hk : wpD P eqs N ops pl n0 Ke r (putF lk o.dst v) H ((i, obj) :: mk) pd) : wpD P eqs N ops pl n0 Ke (i :: r) lk H mk pd :=
  ⟨o, ho, hd, true, hw, by rw [if_pos rfl, hc]; exact ⟨v, obj, h, hk⟩⟩
/-- A call, an append, a store. -/
theorem dC {o : Oper} (ho : ops[i]? = some o) (hd : dOk N o.dst = true) (hw : wantA ops lk o = some true) (hc : clsOf o.op = .md) (h : opP P eqs o.op lk (matP pl (bef pl i) n0 mk H) fun v H' =>
    (∀ p ∈ pd, bef pl i p.1 = false → recheck P eqs ops pl n0 H' (mk.filter fun x => !bef pl i x.1) p) ∧ wpD P eqs N ops pl n0 Ke r (putF lk o.dst v) H' (mk.filter fun x => !bef pl i x.1) (pd.filter fun x => !bef pl i x.1)) : wpD P eqs N ops pl n0 Ke (i :: r) lk H mk pd :=
  ⟨o, ho, hd, true, hw, by rw [if_pos rfl, hc]; exact h⟩
end
/-! ### results, cuts -/
section
variable {P : Program} {N : Nat} {lk : Env} {H : Heap} {Q : PostA}
theorem resA_tmp {t : Nat} {r : List ResultVar} {x : A1} {l : List A1} (h : lk t = some (.one x)) (hr : resA P lk H r = some l) : resA P lk H (.tmp t :: r) = some (x :: l) := by
  unfold resA; rw [h, hr]
theorem resA_cell {c : Nat} {t : TypeId} {r : List ResultVar} {id o : Nat} {T : TypeId} {k : Nat} {cs : List AT} {x : A1} {l : List A1} (h : lk c = some (at' (.ptr (some (id, o))))) (hg : H.get id = some (.cells T k cs)) (hp : partA P t cs o = some x) (hr : resA P lk H r = some l) : resA P lk H (.cell c t :: r) = some (x :: l) := by
  unfold resA; rw [h, hr]; simp only [hg, hp]
theorem Tri.seqI {c1 c2 : Code} (I : Env → Heap → Prop) (h1 : Tri P N c1 lk H (thenA I Q)) (h2 : ∀ lk1 H1, I lk1 H1 → Tri P N c2 lk1 H1 Q) : Tri P N (.seq c1 c2) lk H Q :=
  Tri.seq (h1.mono fun x lk' H' h => by cases x with | normal => exact h2 _ _ h | exit i => exact h | ret => exact h)
theorem drop_at {A : Type} {s : List A} {n : Nat} {b : A} (h : s[n]? = some b) : s.drop n = b :: s.drop (n + 1) := by
  obtain ⟨h1, h2⟩ := List.getElem?_eq_some_iff.1 h
  rw [List.drop_eq_getElem_cons h1, h2]
/-- A row that was built here. -/
def RowA (G : Heap) (lo : Nat) (T : TypeId) (n : Nat) (cs : List AT) (a : AT) : Prop := (n = 0 ∧ cs = [] ∧ a = .slice none 0) ∨ ∃ id, lo ≤ id ∧ a = .slice (some (id, 0)) n ∧ G.get id = some (.cells T 2 cs)
end
end Go.Ea
