/-
  THE ENGINE, part 8: what an operation looks at; which operations leave the heap alone; new objects at places kept free; a view of the heap with objects hidden. Over any program. Written in this session.
-/
import Derived.Test.YtceakkomleaibaaEa7
namespace Go.Ea

section
variable {P : Program} {eqs : Eqs} {N : Nat} {base : Nat} {H : Heap} {α : Al} {w : World} {a : Act} {lk lk' : Env}

theorem rhos_congr : ∀ {l : List Operand}, (∀ x ∈ l, rho lk x = rho lk' x) → rhos lk l = rhos lk' l
  | [], _ => rfl
  | x :: r, h => by
    show (match rho lk x, rhos lk r with
      | some a, some l => some (a :: l)
      | _, _ => none) = _
    rw [h x (by simp), rhos_congr (l := r) fun y hy => h y (by simp [hy])]
    rfl
theorem partsOf_congr : ∀ {l : List (Nat × Operand)}, (∀ x ∈ l, rho lk x.2 = rho lk' x.2) → partsOf lk l = partsOf lk' l
  | [], _ => rfl
  | x :: r, h => by
    show (match rho lk x.2, partsOf lk r with
      | some a, some l => some ((x.1, a) :: l)
      | _, _ => none) = _
    rw [h x (by simp), partsOf_congr (l := r) fun y hy => h y (by simp [hy])]
    rfl
theorem boundA_congr {d : Nat} {o : Option Operand} (h : ∀ x, o = some x → rho lk x = rho lk' x) : boundA lk d o = boundA lk' d o := by
  cases o with
  | none => rfl
  | some x => simp only [boundA, h x rfl]

theorem opA_congr (op : Op) (h : ∀ x ∈ op.operands, rho lk x = rho lk' x) : opA op P eqs lk H = opA op P eqs lk' H := by
  cases op <;> simp only [Op.operands] at h
  case move x => show op_move x P eqs lk H = op_move x P eqs lk' H; unfold op_move; rw [h x (by simp)]
  case assign x => show op_move x P eqs lk H = op_move x P eqs lk' H; unfold op_move; rw [h x (by simp)]
  case pick c x y =>
    show op_pick c x y P eqs lk H = op_pick c x y P eqs lk' H; unfold op_pick
    have h1 := h x (by simp); have h2 := h y (by simp)
    rw [h c (by simp)]
    split
    · rename_i t _; cases t <;> simp only [cond_true, cond_false, h1, h2]
    · rfl
  case box t x => show op_box t x P eqs lk H = op_box t x P eqs lk' H; unfold op_box; rw [h x (by simp)]
  case build t ps => show op_build t ps P eqs lk H = op_build t ps P eqs lk' H; unfold op_build; rw [partsOf_congr (lk' := lk') fun x hx => h x.2 (by simp; exact ⟨x.1, by simpa using hx⟩)]
  case buildSlice t n ps => show op_buildSlice t n ps P eqs lk H = op_buildSlice t n ps P eqs lk' H; unfold op_buildSlice; rw [partsOf_congr (lk' := lk') fun x hx => h x.2 (by simp; exact ⟨x.1, by simpa using hx⟩)]
  case insert t m k x => show op_mapUpdate t m k x P eqs lk H = op_mapUpdate t m k x P eqs lk' H; unfold op_mapUpdate; rw [h m (by simp), h k (by simp), h x (by simp)]
  case mapUpdate t m k x => show op_mapUpdate t m k x P eqs lk H = op_mapUpdate t m k x P eqs lk' H; unfold op_mapUpdate; rw [h m (by simp), h k (by simp), h x (by simp)]
  case load t x => show op_load t x P eqs lk H = op_load t x P eqs lk' H; unfold op_load; rw [h x (by simp)]
  case store t x y => show op_store t x y P eqs lk H = op_store t x y P eqs lk' H; unfold op_store; rw [h x (by simp), h y (by simp)]
  case nilCheck x => show op_nilCheck x P eqs lk H = op_nilCheck x P eqs lk' H; unfold op_nilCheck; rw [h x (by simp)]
  case binOp op t x y yt =>
    show op_binOp op t x y yt P eqs lk H = op_binOp op t x y yt P eqs lk' H; unfold op_binOp; rw [h x (by simp), h y (by simp)]
  case unOp op t x => show op_unOp op t x P eqs lk H = op_unOp op t x P eqs lk' H; unfold op_unOp; rw [h x (by simp)]
  case convert s d x => show op_convert s d x P eqs lk H = op_convert s d x P eqs lk' H; unfold op_convert; rw [h x (by simp)]
  case makeFunc f first caps => show op_makeFunc f first caps P eqs lk H = op_makeFunc f first caps P eqs lk' H; unfold op_makeFunc; rw [rhos_congr (lk' := lk') fun x hx => h x (by simp; exact .inr (by simpa using hx))]
  case makeSlice t l c => show op_makeSlice t l c P eqs lk H = op_makeSlice t l c P eqs lk' H; unfold op_makeSlice; rw [h l (by simp), h c (by simp)]
  case slice t x lo hi mx =>
    show op_slice t x lo hi mx P eqs lk H = op_slice t x lo hi mx P eqs lk' H; unfold op_slice
    have h1 : ∀ d, boundA lk d lo = boundA lk' d lo := fun d => boundA_congr fun y hy => h y (by simp [hy])
    have h2 : ∀ d, boundA lk d hi = boundA lk' d hi := fun d => boundA_congr fun y hy => h y (by simp [hy])
    simp only [h x (by simp), h1, h2]
  case fieldAddr s x f => show op_fieldAddr s x f P eqs lk H = op_fieldAddr s x f P eqs lk' H; unfold op_fieldAddr; rw [h x (by simp)]
  case field t x f => show op_field t x f P eqs lk H = op_field t x f P eqs lk' H; unfold op_field; rw [h x (by simp)]
  case indexAddr t x i => show op_indexAddr t x i P eqs lk H = op_indexAddr t x i P eqs lk' H; unfold op_indexAddr; rw [h x (by simp), h i (by simp)]
  case index t x i => show op_index t x i P eqs lk H = op_index t x i P eqs lk' H; unfold op_index; rw [h x (by simp), h i (by simp)]
  case lookup t x i ok => show op_lookup t x i ok P eqs lk H = op_lookup t x i ok P eqs lk' H; unfold op_lookup; rw [h x (by simp), h i (by simp)]
  case extract x i => show op_extract x i P eqs lk H = op_extract x i P eqs lk' H; unfold op_extract; rw [h x (by simp)]
  case call c =>
    show op_call c P eqs lk H = op_call c P eqs lk' H; unfold op_call
    have h1 : rhos lk c.args.toList = rhos lk' c.args.toList := rhos_congr fun x hx => h x (by simp [Call.operands]; exact .inr (by simpa using hx))
    cases hc : c.callee with
    | builtin b => simp only [h1]
    | value f => simp only [h1, h f (by simp [Call.operands, hc])]
    | invoke _ _ => rfl
  all_goals rfl

/-! ### classes -/
inductive Cls where
  | loc
  | rd
  | mk
  | md
  deriving DecidableEq
def clsOf : Op → Cls
  | .move _ | .assign _ | .pick _ _ _ | .build _ _ | .nilCheck _ | .binOp _ _ _ _ _ | .unOp _ _ _ | .fieldAddr _ _ _ | .field _ _ _ | .indexAddr _ _ _ | .index _ _ _ | .extract _ _ | .makeFunc _ _ _ | .slice _ _ _ _ _ => .loc
  | .load _ _ | .lookup _ _ _ _ | .convert _ _ _ => .rd
  | .alloc _ | .box _ _ | .buildSlice _ _ _ | .makeSlice _ _ _ | .makeMap _ _ => .mk
  | .call c => match c.callee with
    | .builtin .append => .md
    | .builtin _ => .rd
    | _ => .md
  | _ => .md
def reH (H2 : Heap) : OpR → OpR
  | .val v _ => .val v H2
  | .call f args => .call f args
theorem loc_any (op : Op) (hc : clsOf op = .loc) {v : AV} {H1 : Heap} (h : opA op P eqs lk H = some (.val v H1)) (H2 : Heap) : opA op P eqs lk H2 = some (.val v H2) := by
  have key : opA op P eqs lk H2 = (opA op P eqs lk H).map (reH H2) := by
    cases op <;> simp only [clsOf, reduceCtorEq] at hc
    case move x => show op_move x P eqs lk H2 = (op_move x P eqs lk H).map (reH H2); unfold op_move; cases rho lk x <;> rfl
    case assign x => show op_move x P eqs lk H2 = (op_move x P eqs lk H).map (reH H2); unfold op_move; cases rho lk x <;> rfl
    case pick c x y => show op_pick c x y P eqs lk H2 = (op_pick c x y P eqs lk H).map (reH H2); unfold op_pick; (repeat' split) <;> simp_all [reH]
    case build t ps => show op_build t ps P eqs lk H2 = (op_build t ps P eqs lk H).map (reH H2); unfold op_build; (repeat' split) <;> simp_all [reH]
    case nilCheck x => show op_nilCheck x P eqs lk H2 = (op_nilCheck x P eqs lk H).map (reH H2); unfold op_nilCheck; (repeat' split) <;> simp_all [reH]
    case binOp op t x y yt => show op_binOp op t x y yt P eqs lk H2 = (op_binOp op t x y yt P eqs lk H).map (reH H2); unfold op_binOp; (repeat' split) <;> simp_all [reH]
    case unOp op t x => show op_unOp op t x P eqs lk H2 = (op_unOp op t x P eqs lk H).map (reH H2); unfold op_unOp; (repeat' split) <;> simp_all [reH]
    case fieldAddr t x f => show op_fieldAddr t x f P eqs lk H2 = (op_fieldAddr t x f P eqs lk H).map (reH H2); unfold op_fieldAddr; simp only [cond_eq_ite]; (repeat' split) <;> simp_all [reH]
    case field t x f => show op_field t x f P eqs lk H2 = (op_field t x f P eqs lk H).map (reH H2); unfold op_field; (repeat' split) <;> simp_all [reH]
    case indexAddr t x f => show op_indexAddr t x f P eqs lk H2 = (op_indexAddr t x f P eqs lk H).map (reH H2); unfold op_indexAddr; simp only [cond_eq_ite]; (repeat' split) <;> simp_all [reH]
    case index t x f => show op_index t x f P eqs lk H2 = (op_index t x f P eqs lk H).map (reH H2); unfold op_index; simp only [cond_eq_ite]; (repeat' split) <;> simp_all [reH]
    case extract x f => show op_extract x f P eqs lk H2 = (op_extract x f P eqs lk H).map (reH H2); unfold op_extract; (repeat' split) <;> simp_all [reH]
    case makeFunc x f c => show op_makeFunc x f c P eqs lk H2 = (op_makeFunc x f c P eqs lk H).map (reH H2); unfold op_makeFunc; (repeat' split) <;> simp_all [reH]
    case slice t x l f c => show op_slice t x l f c P eqs lk H2 = (op_slice t x l f c P eqs lk H).map (reH H2); unfold op_slice; simp only [cond_eq_ite]; (repeat' split) <;> simp_all [reH]
    case call c => (repeat' split at hc) <;> cases hc
  rw [key, h]; rfl

/-- A new object, at any place that is free. -/
theorem mk_any (op : Op) (hc : clsOf op = .mk) {v : AV} {obj : AObj} {id : Nat} {o : Oper} (ho : o.op = op) (h : opA op P eqs lk ⟨id, .nil⟩ = some (.val v (Heap.push ⟨id, .nil⟩ obj)))
    (hb : base ≤ w.heap.size) (hd : α id = none) (hE : EnvR α lk a) : Fresh P base α w ((execOp a.eval o).run P w) id v obj := by
  have inj : ∀ {o1 o2 : AObj}, Heap.push ⟨id, .nil⟩ o1 = Heap.push ⟨id, .nil⟩ o2 → o1 = o2 := by
    intro o1 o2 h
    have h1 : (Heap.push ⟨id, .nil⟩ o1).get id = some o1 := by rw [Heap.get_push]; simp
    have h2 : (Heap.push ⟨id, .nil⟩ o2).get id = some o2 := by rw [Heap.get_push]; simp
    rw [h] at h1; rw [h1] at h2; cases h2; rfl
  have fin : (∃ obj', Heap.push ⟨id, .nil⟩ obj = Heap.push ⟨id, .nil⟩ obj' ∧ Fresh P base α w ((execOp a.eval o).run P w) id v obj') → Fresh P base α w ((execOp a.eval o).run P w) id v obj := by
    rintro ⟨obj', h1, h2⟩; rw [inj h1]; exact h2
  refine fin ?_
  cases op <;> simp only [clsOf, reduceCtorEq] at hc
  case alloc T => exact mk_alloc (H := ⟨id, .nil⟩) (eqs := eqs) (lk := lk) hb hd ho h
  case box T x => exact mk_box (H := ⟨id, .nil⟩) (eqs := eqs) (lk := lk) hb hd hE ho h
  case buildSlice T n ps => exact mk_buildSlice (H := ⟨id, .nil⟩) (eqs := eqs) (lk := lk) hb hd hE ho h
  case makeSlice t l c => exact mk_makeSlice (H := ⟨id, .nil⟩) (eqs := eqs) (lk := lk) hb hd hE ho h
  case makeMap t r => exact mk_makeMap (H := ⟨id, .nil⟩) (eqs := eqs) (lk := lk) hb hd ho h
  case call c => (repeat' split at hc) <;> cases hc

/-! ### views -/
/-- H hides some of H2's objects. -/
structure Weak (H H2 : Heap) : Prop where
  n : H.n = H2.n
  obj : ∀ j o, H.get j = some o → o = .dead ∨ H2.get j = some o
theorem Weak.set_sub {f : AObj → Bool} (hf : f .dead = false) {H H2 : Heap} (h : Weak H H2) {k : Nat} (hk : blkset f H α k) : blkset f H2 α k := by
  obtain ⟨i, o, L, h1, h2, h3, h4⟩ := hk
  rcases h.obj i o h1 with e | e
  · subst e; rw [hf] at h2; cases h2
  · exact ⟨i, o, L, e, h2, h3, h4⟩
theorem R.weak {H2 : Heap} (hR : R P base H2 α w) (h : Weak H H2) : R P base H α w := by
  refine ⟨hR.bs, fun i hi => hR.dom i (by rw [← h.n]; exact hi), fun i o ho => ?_, fun i j oi oj Li Lj hij hi hri hj hlj hLi hLj => ?_⟩
  · rcases h.obj i o ho with e | e
    · subst e; trivial
    · exact hR.obj i o e
  · rcases h.obj i oi hi with e | e
    · subst e; cases hri
    · rcases h.obj j oj hj with e' | e'
      · subst e'; cases hlj
      · exact hR.sep i j oi oj Li Lj hij e hri e' hlj hLi hLj
/-- The hidden objects come back. -/
theorem R.back {H2 H' H2' : Heap} {α' : Al} {w' : World} (h2 : R P base H2 α w) (hw : Weak H H2) (hR : R P base H' α' w') (hX : Ext H α w H' α' w') (hn : H2'.n = H'.n)
    (hO : ∀ j o, H2'.get j = some o → o = .dead ∨ H'.get j = some o ∨ (j < H.n ∧ H.get j = some .dead ∧ H2.get j = some o)) : R P base H2' α' w' := by
  have lvb : ∀ {j oj Lj}, H2.get j = some oj → oj.live = true → α j = some Lj → Lj.blk < w.heap.size := fun {j oj Lj} h1 h3 h4 => by
    obtain ⟨L, e1, e2⟩ := (h2.obj _ _ h1).lt h3
    rw [h4] at e1; cases e1; exact e2
  refine ⟨hR.bs, fun i hi => hR.dom i (by rw [← hn]; exact hi), fun j o ho => ?_, fun i j oi oj Li Lj hij hi hri hj hlj hLi hLj => ?_⟩
  · rcases hO j o ho with rfl | e | ⟨e1, e2, e3⟩
    · trivial
    · exact hR.obj j o e
    · refine (h2.obj j o e3).move hX.sub (hX.old j e1) fun L hL hl => hX.blk _ (lvb e3 hl hL) ?_
      rintro ⟨i, oi, Li, g1, g2, g3, g4⟩
      have hij : i ≠ j := by rintro rfl; rw [e2] at g1; cases g1; cases g2
      rcases hw.obj i oi g1 with g | g
      · subst g; cases g2
      · exact h2.sep i j oi o Li L hij g g2 e3 hl g3 hL g4
  · rcases hO i oi hi with rfl | e | ⟨e1, e2, e3⟩
    · cases hri
    · rcases hO j oj hj with rfl | g | ⟨g1, g2, g3⟩
      · cases hlj
      · exact hR.sep i j oi oj Li Lj hij e hri g hlj hLi hLj
      · rw [hX.old j g1] at hLj
        have hb := lvb g3 hlj hLj
        intro heq
        obtain ⟨i0, o0, L0, k1, k2, k3, k4⟩ := hX.rw Li.blk (by rw [heq]; exact hb) ⟨i, oi, Li, e, hri, hLi, rfl⟩
        have hij : i0 ≠ j := by rintro rfl; rw [g2] at k1; cases k1; cases k2
        rcases hw.obj i0 o0 k1 with k | k
        · subst k; cases k2
        · exact h2.sep i0 j o0 oj L0 Lj hij k k2 g3 hlj k3 hLj (k4.trans heq)
    · rw [hX.old i e1] at hLi
      have hbi := lvb e3 (AObj.live_of_rw hri) hLi
      rcases hO j oj hj with rfl | g | ⟨g1, g2, g3⟩
      · cases hlj
      · intro heq
        obtain ⟨j0, o0, L0, k1, k2, k3, k4⟩ := hX.lv Lj.blk (by rw [← heq]; exact hbi) ⟨j, oj, Lj, g, hlj, hLj, rfl⟩
        have hij : i ≠ j0 := by rintro rfl; rw [e2] at k1; cases k1; cases k2
        rcases hw.obj j0 o0 k1 with k | k
        · subst k; cases k2
        · exact h2.sep i j0 oi o0 Li L0 hij e3 hri k k2 hLi k3 (heq.trans k4.symm)
      · rw [hX.old j g1] at hLj
        exact h2.sep i j oi oj Li Lj hij e3 hri g3 hlj hLi hLj
theorem Ext.back {H2 H' H2' : Heap} {α' : Al} {w' : World} (hw : Weak H H2) (hX : Ext H α w H' α' w') (hn : H2'.n = H'.n)
    (hO : ∀ j o, H2'.get j = some o → o = .dead ∨ H'.get j = some o ∨ (j < H.n ∧ H.get j = some .dead ∧ H2.get j = some o)) (hD : ∀ j, H2.get j = some .dead → H2'.get j = some .dead) : Ext H2 α w H2' α' w' := by
  have sets : ∀ (f : AObj → Bool), f .dead = false → (∀ k, k < w.heap.size → blkset f H' α' k → blkset f H α k) → ∀ k, k < w.heap.size → blkset f H2' α' k → blkset f H2 α k := by
    intro f hf hs k hk h
    obtain ⟨i, o, L, h1, h2, h3, h4⟩ := h
    rcases hO i o h1 with rfl | e | ⟨e1, e2, e3⟩
    · rw [hf] at h2; cases h2
    · exact hw.set_sub hf (hs k hk ⟨i, o, L, e, h2, h3, h4⟩)
    · rw [hX.old i e1] at h3; exact ⟨i, o, L, e3, h2, h3, h4⟩
  refine ⟨hX.os, hX.tape, hX.output, hX.size, by rw [← hw.n, hn]; exact hX.n, hX.sub, fun i hi => hX.old i (by rw [hw.n]; exact hi), fun k hk hn => hX.blk k hk fun h => hn (hw.set_sub rfl h), sets _ rfl hX.rw, sets _ rfl hX.lv, hD, hX.fz⟩
/-- Something is given up at the end. -/
theorem Ext.weak {H0 : Heap} {α0 : Al} {w0 : World} {H2 : Heap} (hX : Ext H0 α0 w0 H2 α w) (hw : Weak H H2) (hD : ∀ j, H0.get j = some .dead → H.get j = some .dead) : Ext H0 α0 w0 H α w :=
  ⟨hX.os, hX.tape, hX.output, hX.size, by rw [hw.n]; exact hX.n, hX.sub, hX.old, hX.blk, fun k hk h => hX.rw k hk (hw.set_sub rfl h), fun k hk h => hX.lv k hk (hw.set_sub rfl h), hD, hX.fz⟩

/-- An object is born. -/
theorem R.born {id : Nat} {O : Obj} {o : AObj} {L : Loc} (h : R P base H α w) (hi : H.get id = some .unborn) (hL : L.blk = w.heap.size) (hO : OR P base (upd α id L) (w.alloc O) id o) :
    R P base (H.set id o) (upd α id L) (w.alloc O) := by
  have hin := Heap.get_lt hi
  have hnone : α id = none := h.obj _ _ hi
  have hs : Sub α (upd α id L) := sub_upd hnone
  refine ⟨by have := h.bs; simp; omega, fun i hi => ?_, fun i oi hi => ?_, fun i j oi oj Li Lj hij hi hri hj hlj hLi hLj => ?_⟩
  · rw [Heap.n_set] at hi; rw [upd_ne (by omega)]; exact h.dom i hi
  · rw [Heap.get_set _ _ _ _ hin] at hi
    by_cases e : i = id
    · subst e; rw [if_pos rfl] at hi; cases hi; exact hO
    · rw [if_neg e] at hi
      refine (h.obj i oi hi).move hs (upd_ne e) fun L' h1 h2 => ?_
      obtain ⟨L'', h3, h4⟩ := (h.obj i oi hi).lt h2
      rw [h1] at h3; cases h3
      exact heap_alloc_old w O h4
  · have old : ∀ {k ok Lk}, k ≠ id → (H.set id o).get k = some ok → ok.live = true → upd α id L k = some Lk → H.get k = some ok ∧ α k = some Lk ∧ Lk.blk < w.heap.size := fun {k ok Lk} hk h1 h2 h3 => by
      rw [Heap.get_set _ _ _ _ hin, if_neg hk] at h1
      rw [upd_ne hk] at h3
      obtain ⟨L'', h4, h5⟩ := (h.obj k ok h1).lt h2
      rw [h3] at h4; cases h4
      exact ⟨h1, h3, h5⟩
    by_cases ei : i = id
    · obtain ⟨_, _, h7⟩ := old (fun e => hij (ei.trans e.symm)) hj hlj hLj
      subst ei; rw [upd_self] at hLi; cases hLi; omega
    · obtain ⟨h1, h2, h3⟩ := old ei hi (AObj.live_of_rw hri) hLi
      by_cases ej : j = id
      · subst ej; rw [upd_self] at hLj; cases hLj; omega
      · obtain ⟨h4, h5, _⟩ := old ej hj hlj hLj
        exact h.sep i j oi oj Li Lj hij h1 hri h4 hlj h2 h5
theorem Ext.born {H0 : Heap} {α0 : Al} {w0 : World} {id : Nat} {O : Obj} {o : AObj} {L : Loc} (hX : Ext H0 α0 w0 H α w) (hge : H0.n ≤ id) (hi : id < H.n) (hn : α id = none) (hL : L.blk = w.heap.size) (hf : ∀ x, (w.alloc O).frozen? x = w.frozen? x) :
    Ext H0 α0 w0 (H.set id o) (upd α id L) (w.alloc O) := by
  have hsz := hX.size
  have sets : ∀ (f : AObj → Bool), (∀ k, k < w0.heap.size → blkset f H α k → blkset f H0 α0 k) → ∀ k, k < w0.heap.size → blkset f (H.set id o) (upd α id L) k → blkset f H0 α0 k := by
    intro f hs k hk h
    obtain ⟨i, oi, Li, h1, h2, h3, h4⟩ := h
    rw [Heap.get_set _ _ _ _ hi] at h1
    by_cases e : i = id
    · subst e; rw [upd_self] at h3; cases h3; omega
    · rw [if_neg e] at h1; rw [upd_ne e] at h3; exact hs k hk ⟨i, oi, Li, h1, h2, h3, h4⟩
  refine ⟨hX.os, hX.tape, hX.output, by simp; omega, hX.n, hX.sub.trans (sub_upd hn), fun i hi => (upd_ne (by omega)).trans (hX.old i hi), fun k hk hr => (heap_alloc_old w O (by omega)).trans (hX.blk k hk hr), sets _ hX.rw, sets _ hX.lv, fun j hj => ?_, fun x => (hf x).trans (hX.fz x)⟩
  have := Heap.get_lt hj
  rw [Heap.get_set _ _ _ _ hi, if_neg (by omega)]; exact hX.dead j hj
/-- A heap of one's choice. -/
theorem exists_heap (g : Nat → AObj) : ∀ n, ∃ H : Heap, H.n = n ∧ ∀ j, j < n → H.get j = some (g j)
  | 0 => ⟨Heap.empty, rfl, fun j h => absurd h (by omega)⟩
  | n + 1 => by
    obtain ⟨H, h1, h2⟩ := exists_heap g n
    refine ⟨H.push (g n), by simp [h1], fun j hj => ?_⟩
    rw [Heap.get_push, h1]
    by_cases e : j = n
    · subst e; simp
    · rw [if_neg e]; exact h2 j (by omega)
end
end Go.Ea
