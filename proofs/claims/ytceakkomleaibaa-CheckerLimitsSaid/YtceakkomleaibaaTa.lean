/-
  TREES: the syntax trees of the program as plain Lean data, and how they lie in the abstract heap. No seat's program in sight. Written in this session.
-/
import Derived.Test.YtceakkomleaibaaEf1
namespace Go.Ea
set_option linter.unusedVariables false

inductive Exp where
  | mk (kind n : Int) (name : List UInt8) (op : Int) (kids : List Exp)
inductive Stm where
  | mk (kind : Int) (name to : List UInt8) (n : Int) (sub value : Exp) (args : List Exp) (thn els : List Stm)
structure Fn1 where
  name : List UInt8
  params : List (List UInt8)
  locals : List (List UInt8)
  body : List Stm
  value : Exp
structure Ar where
  name : List UInt8
  len : Int
structure Pr where
  arrays : List Ar
  funcs : List Fn1
def Exp.kind : Exp → Int | .mk k _ _ _ _ => k
def Exp.n : Exp → Int | .mk _ n _ _ _ => n
def Exp.name : Exp → List UInt8 | .mk _ _ nm _ _ => nm
def Exp.op : Exp → Int | .mk _ _ _ o _ => o
def Exp.kids : Exp → List Exp | .mk _ _ _ _ l => l
def Stm.kind : Stm → Int | .mk k _ _ _ _ _ _ _ _ => k
def Stm.name : Stm → List UInt8 | .mk _ x _ _ _ _ _ _ _ => x
def Stm.to : Stm → List UInt8 | .mk _ _ x _ _ _ _ _ _ => x
def Stm.n : Stm → Int | .mk _ _ _ x _ _ _ _ _ => x
def Stm.sub : Stm → Exp | .mk _ _ _ _ x _ _ _ _ => x
def Stm.value : Stm → Exp | .mk _ _ _ _ _ x _ _ _ => x
def Stm.args : Stm → List Exp | .mk _ _ _ _ _ _ x _ _ => x
def Stm.thn : Stm → List Stm | .mk _ _ _ _ _ _ _ x _ => x
def Stm.els : Stm → List Stm | .mk _ _ _ _ _ _ _ _ x => x
def Exp.zero : Exp := .mk 0 0 [] 0 []

theorem Exp.ind {Q : Exp → Prop} (h : ∀ k n nm o kids, (∀ e ∈ kids, Q e) → Q (.mk k n nm o kids)) : ∀ e, Q e
  | .mk k n nm o kids => h k n nm o kids fun e he => Exp.ind h e
termination_by e => SizeOf.sizeOf e
decreasing_by
  have := List.sizeOf_lt_of_mem he
  simp only [Exp.mk.sizeOf_spec]; omega
theorem Stm.ind {Q : Stm → Prop} (h : ∀ k nm to n a v args thn els, (∀ s ∈ thn, Q s) → (∀ s ∈ els, Q s) → Q (.mk k nm to n a v args thn els)) : ∀ s, Q s
  | .mk k nm to n a v args thn els => h k nm to n a v args thn els (fun s hs => Stm.ind h s) (fun s hs => Stm.ind h s)
termination_by s => SizeOf.sizeOf s
decreasing_by
  · have := List.sizeOf_lt_of_mem hs
    simp only [Stm.mk.sizeOf_spec]; omega
  · have := List.sizeOf_lt_of_mem hs
    simp only [Stm.mk.sizeOf_spec]; omega

/-! ### rows of what is laid somehow -/
def Lay {β : Type} (z : Nat) (R : β → List AT → Prop) : List β → List AT → Prop
  | [], cs => cs = []
  | x :: r, cs => R x (cs.take z) ∧ Lay z R r (cs.drop z)
def RowQ {β : Type} (H : Heap) (z : Nat) (R : β → List AT → Prop) (xs : List β) (p : Option (Nat × Nat)) : Prop :=
  (p = none → xs = []) ∧ ∀ id o, p = some (id, o) → xs = [] ∨ ∃ T q c, H.get id = some (.cells T q c) ∧ o + xs.length * z ≤ c.length ∧ Lay z R xs ((c.drop o).take (xs.length * z))
section
variable {β : Type} {z : Nat} {R R' : β → List AT → Prop}
theorem Lay.imp : ∀ {xs : List β} {cs : List AT}, (∀ x ∈ xs, ∀ c, R x c → R' x c) → Lay z R xs cs → Lay z R' xs cs
  | [], _, _, h => h
  | x :: r, cs, hi, h => ⟨hi x (by simp) _ h.1, Lay.imp (fun y hy => hi y (by simp [hy])) h.2⟩
theorem Lay.at : ∀ {xs : List β} {cs : List AT} {i : Nat} {x : β}, Lay z R xs cs → xs[i]? = some x → R x ((cs.drop (i * z)).take z)
  | [], _, i, x, _, h => by simp at h
  | y :: r, cs, 0, x, hl, h => by simp at h; subst h; simpa using hl.1
  | y :: r, cs, i + 1, x, hl, h => by
    have := Lay.at hl.2 (by simpa using h)
    rw [List.drop_drop] at this
    rwa [Nat.succ_mul, Nat.add_comm]
theorem RowQ.imp {H H' : Heap} {xs : List β} {p : Option (Nat × Nat)} (h : RowQ H z R xs p) (hk : Kp [] H H') (hi : ∀ x ∈ xs, ∀ c, R x c → R' x c) : RowQ H' z R' xs p :=
  ⟨h.1, fun id o hp => (h.2 id o hp).imp (fun x => x) fun ⟨T, q, c, h1, h2, h3⟩ => ⟨T, q, c, hk.get h1 rfl, h2, h3.imp hi⟩⟩
theorem RowQ.nil {H : Heap} {p : Option (Nat × Nat)} : RowQ H z R [] p := ⟨fun _ => rfl, fun _ _ _ => .inl rfl⟩
theorem RowQ.at {H : Heap} {xs : List β} {p : Option (Nat × Nat)} (h : RowQ H z R xs p) {i : Nat} {x : β} (hx : xs[i]? = some x) :
    ∃ id o T q c, p = some (id, o) ∧ H.get id = some (.cells T q c) ∧ o + i * z + z ≤ c.length ∧ R x ((c.drop (o + i * z)).take z) := by
  have hi := (List.getElem?_eq_some_iff.1 hx).1
  cases hp : p with
  | none => have := h.1 hp; subst this; simp at hx
  | some r =>
    obtain ⟨id, o⟩ := r
    rcases h.2 id o hp with h0 | ⟨T, q, c, h1, h2, h3⟩
    · subst h0; simp at hx
    · have hm : i * z + z ≤ xs.length * z := by rw [← Nat.succ_mul]; exact Nat.mul_le_mul_right _ hi
      refine ⟨id, o, T, q, c, rfl, h1, by omega, ?_⟩
      have := h3.at hx
      rwa [List.drop_take, List.drop_drop, List.take_take, Nat.min_eq_left (by omega)] at this
theorem Lay.snoc : ∀ {xs : List β} {cs new : List AT} {x : β}, Lay z R xs cs → R x new → new.length = z → cs.length = xs.length * z → Lay z R (xs ++ [x]) (cs ++ new)
  | [], cs, new, x, h, hr, hl, _ => by
    have : cs = [] := h
    subst this
    simp only [List.nil_append]
    refine ⟨by rw [List.take_of_length_le (by omega)]; exact hr, ?_⟩
    rw [List.drop_eq_nil_of_le (by omega)]; rfl
  | y :: r, cs, new, x, h, hr, hl, hc => by
    simp only [List.length_cons, Nat.succ_mul] at hc
    refine ⟨?_, ?_⟩
    · rw [List.take_append_of_le_length (by omega)]; exact h.1
    · rw [List.drop_append_of_le_length (by omega)]
      exact Lay.snoc h.2 hr hl (by rw [List.length_drop]; omega)
theorem Lay.len : ∀ {xs : List β} {cs : List AT}, Lay z R xs cs → (∀ x c, R x c → c.length = z) → cs.length = xs.length * z ∨ ∃ y ∈ xs, False
  | [], cs, h, _ => by
    have : cs = [] := h
    subst this; exact .inl (by simp)
  | y :: r, cs, h, hz => by
    rcases Lay.len h.2 hz with h2 | ⟨_, _, h2⟩
    · have h1 := hz _ _ h.1
      rw [List.length_take] at h1
      rw [List.length_drop] at h2
      simp only [List.length_cons, Nat.succ_mul]
      left; omega
    · exact h2.elim
theorem Lay.length {xs : List β} {cs : List AT} (h : Lay z R xs cs) (hz : ∀ x c, R x c → c.length = z) : cs.length = xs.length * z := by
  rcases h.len hz with h | ⟨_, _, h⟩
  · exact h
  · exact h.elim
end
/-- One text. -/
def LT1 (s : List UInt8) (cs : List AT) : Prop := cs = [.str s]
mutual
def LX (H : Heap) : Exp → List AT → Prop
  | .mk k n nm o kids, cs => ∃ p, cs = [.int .i64 k, .int .i64 n, .str nm, .int .i64 o, .slice p kids.length] ∧
      (p = none → kids = []) ∧ ∀ id f, p = some (id, f) → kids = [] ∨ ∃ T q c, H.get id = some (.cells T q c) ∧ f + kids.length * 5 ≤ c.length ∧ LXl H kids ((c.drop f).take (kids.length * 5))
def LXl (H : Heap) : List Exp → List AT → Prop
  | [], cs => cs = []
  | e :: r, cs => LX H e (cs.take 5) ∧ LXl H r (cs.drop 5)
end
theorem LXl_iff {H : Heap} : ∀ {l : List Exp} {cs : List AT}, LXl H l cs ↔ Lay 5 (LX H) l cs
  | [], cs => by simp only [LXl, Lay]
  | e :: r, cs => by simp only [LXl, Lay, LXl_iff (l := r)]
theorem LX_iff {H : Heap} {k n : Int} {nm : List UInt8} {o : Int} {kids : List Exp} {cs : List AT} : LX H (.mk k n nm o kids) cs ↔ ∃ p, cs = [.int .i64 k, .int .i64 n, .str nm, .int .i64 o, .slice p kids.length] ∧ RowQ H 5 (LX H) kids p := by
  simp only [LX, RowQ, LXl_iff]
theorem LX.len {H : Heap} {e : Exp} {cs : List AT} (h : LX H e cs) : cs.length = 5 := by
  cases e; rw [LX_iff] at h; obtain ⟨p, rfl, _⟩ := h; rfl
theorem LX.kp {H H' : Heap} (hk : Kp [] H H') (e : Exp) : ∀ cs, LX H e cs → LX H' e cs := by
  refine Exp.ind (Q := fun e => ∀ cs, LX H e cs → LX H' e cs) (fun k n nm o kids ih => ?_) e
  intro cs h
  rw [LX_iff] at h ⊢
  obtain ⟨p, h1, h2⟩ := h
  exact ⟨p, h1, h2.imp hk ih⟩
mutual
def LM (H : Heap) : Stm → List AT → Prop
  | .mk k nm to n a v args thn els, cs => ∃ ca cv pa pt pe, cs = [.int .i64 k, .str nm, .str to, .int .i64 n] ++ ca ++ cv ++ [.slice pa args.length, .slice pt thn.length, .slice pe els.length] ∧ LX H a ca ∧ LX H v cv ∧ RowQ H 5 (LX H) args pa ∧
      ((pt = none → thn = []) ∧ ∀ id f, pt = some (id, f) → thn = [] ∨ ∃ T q c, H.get id = some (.cells T q c) ∧ f + thn.length * 17 ≤ c.length ∧ LMl H thn ((c.drop f).take (thn.length * 17))) ∧
      ((pe = none → els = []) ∧ ∀ id f, pe = some (id, f) → els = [] ∨ ∃ T q c, H.get id = some (.cells T q c) ∧ f + els.length * 17 ≤ c.length ∧ LMl H els ((c.drop f).take (els.length * 17)))
def LMl (H : Heap) : List Stm → List AT → Prop
  | [], cs => cs = []
  | e :: r, cs => LM H e (cs.take 17) ∧ LMl H r (cs.drop 17)
end
theorem LMl_iff {H : Heap} : ∀ {l : List Stm} {cs : List AT}, LMl H l cs ↔ Lay 17 (LM H) l cs
  | [], cs => by simp only [LMl, Lay]
  | e :: r, cs => by simp only [LMl, Lay, LMl_iff (l := r)]
theorem LM_iff {H : Heap} {k : Int} {nm to : List UInt8} {n : Int} {a v : Exp} {args : List Exp} {thn els : List Stm} {cs : List AT} : LM H (.mk k nm to n a v args thn els) cs ↔
    ∃ ca cv pa pt pe, cs = [.int .i64 k, .str nm, .str to, .int .i64 n] ++ ca ++ cv ++ [.slice pa args.length, .slice pt thn.length, .slice pe els.length] ∧ LX H a ca ∧ LX H v cv ∧ RowQ H 5 (LX H) args pa ∧ RowQ H 17 (LM H) thn pt ∧ RowQ H 17 (LM H) els pe := by
  simp only [LM, RowQ, LMl_iff]
/-- A statement's cells, written out. -/
theorem LM.out {H : Heap} {s : Stm} {cs : List AT} (h : LM H s cs) : ∃ (a1 a2 : Int) (a3 : List UInt8) (a4 : Int) (a5 : Option (Nat × Nat)) (na : Nat) (b1 b2 : Int) (b3 : List UInt8) (b4 : Int) (b5 : Option (Nat × Nat)) (nb : Nat) (pa pt pe : Option (Nat × Nat)),
    cs = [.int .i64 s.kind, .str s.name, .str s.to, .int .i64 s.n, .int .i64 a1, .int .i64 a2, .str a3, .int .i64 a4, .slice a5 na, .int .i64 b1, .int .i64 b2, .str b3, .int .i64 b4, .slice b5 nb, .slice pa s.args.length, .slice pt s.thn.length, .slice pe s.els.length] ∧
    LX H s.sub [.int .i64 a1, .int .i64 a2, .str a3, .int .i64 a4, .slice a5 na] ∧ LX H s.value [.int .i64 b1, .int .i64 b2, .str b3, .int .i64 b4, .slice b5 nb] ∧ RowQ H 5 (LX H) s.args pa ∧ RowQ H 17 (LM H) s.thn pt ∧ RowQ H 17 (LM H) s.els pe := by
  cases s with
  | mk k nm to n a v args thn els =>
    rw [LM_iff] at h
    obtain ⟨ca, cv, pa, pt, pe, rfl, h1, h2, h3, h4, h5⟩ := h
    cases a with
    | mk ak an anm ao akids =>
      cases v with
      | mk vk vn vnm vo vkids =>
        have h1' := LX_iff.1 h1; have h2' := LX_iff.1 h2
        obtain ⟨p1, rfl, _⟩ := h1'
        obtain ⟨p2, rfl, _⟩ := h2'
        exact ⟨ak, an, anm, ao, p1, _, vk, vn, vnm, vo, p2, _, pa, pt, pe, rfl, h1, h2, h3, h4, h5⟩
theorem LX.out {H : Heap} {e : Exp} {cs : List AT} (h : LX H e cs) : ∃ p, cs = [.int .i64 e.kind, .int .i64 e.n, .str e.name, .int .i64 e.op, .slice p e.kids.length] ∧ RowQ H 5 (LX H) e.kids p := by
  cases e; exact LX_iff.1 h
theorem LM.len {H : Heap} {s : Stm} {cs : List AT} (h : LM H s cs) : cs.length = 17 := by
  obtain ⟨_, _, _, _, _, _, _, _, _, _, _, _, _, _, _, rfl, _⟩ := h.out; rfl
theorem LM.kp {H H' : Heap} (hk : Kp [] H H') (s : Stm) : ∀ cs, LM H s cs → LM H' s cs := by
  refine Stm.ind (Q := fun s => ∀ cs, LM H s cs → LM H' s cs) (fun k nm to n a v args thn els ih1 ih2 => ?_) s
  intro cs h
  rw [LM_iff] at h ⊢
  obtain ⟨ca, cv, pa, pt, pe, h1, h2, h3, h4, h5, h6⟩ := h
  exact ⟨ca, cv, pa, pt, pe, h1, h2.kp hk, h3.kp hk, h4.imp hk fun x _ => LX.kp hk x, h5.imp hk ih1, h6.imp hk ih2⟩
def LFn (H : Heap) (f : Fn1) (cs : List AT) : Prop := ∃ pp pl pb cv, cs = [.str f.name, .slice pp f.params.length, .slice pl f.locals.length, .slice pb f.body.length] ++ cv ∧ RowQ H 1 LT1 f.params pp ∧ RowQ H 1 LT1 f.locals pl ∧ RowQ H 17 (LM H) f.body pb ∧ LX H f.value cv
theorem LFn.out {H : Heap} {f : Fn1} {cs : List AT} (h : LFn H f cs) : ∃ (pp pl pb : Option (Nat × Nat)) (b1 b2 : Int) (b3 : List UInt8) (b4 : Int) (b5 : Option (Nat × Nat)) (nb : Nat),
    cs = [.str f.name, .slice pp f.params.length, .slice pl f.locals.length, .slice pb f.body.length, .int .i64 b1, .int .i64 b2, .str b3, .int .i64 b4, .slice b5 nb] ∧ RowQ H 1 LT1 f.params pp ∧ RowQ H 1 LT1 f.locals pl ∧ RowQ H 17 (LM H) f.body pb ∧
    LX H f.value [.int .i64 b1, .int .i64 b2, .str b3, .int .i64 b4, .slice b5 nb] := by
  obtain ⟨pp, pl, pb, cv, rfl, h1, h2, h3, h4⟩ := h
  obtain ⟨p, rfl, _⟩ := h4.out
  exact ⟨pp, pl, pb, _, _, _, _, _, _, rfl, h1, h2, h3, h4⟩
theorem LFn.kp {H H' : Heap} (hk : Kp [] H H') (f : Fn1) (cs : List AT) (h : LFn H f cs) : LFn H' f cs := by
  obtain ⟨pp, pl, pb, cv, h1, h2, h3, h4, h5⟩ := h
  exact ⟨pp, pl, pb, cv, h1, h2.imp hk fun _ _ _ h => h, h3.imp hk fun _ _ _ h => h, h4.imp hk fun s _ => LM.kp hk s, h5.kp hk⟩
theorem LFn.len {H : Heap} {f : Fn1} {cs : List AT} (h : LFn H f cs) : cs.length = 9 := by
  obtain ⟨_, _, _, _, _, _, _, _, _, rfl, _⟩ := h.out; rfl
def LAr (a : Ar) (cs : List AT) : Prop := cs = [.str a.name, .int .i64 a.len]
/-- A program's cells. -/
def LPr (H : Heap) (p : Pr) (cs : List AT) : Prop := ∃ pa pf, cs = [.slice pa p.arrays.length, .slice pf p.funcs.length] ∧ RowQ H 2 LAr p.arrays pa ∧ RowQ H 9 (LFn H) p.funcs pf
theorem LPr.kp {H H' : Heap} (hk : Kp [] H H') {p : Pr} {cs : List AT} (h : LPr H p cs) : LPr H' p cs := by
  obtain ⟨pa, pf, h1, h2, h3⟩ := h
  exact ⟨pa, pf, h1, h2.imp hk fun _ _ _ h => h, h3.imp hk fun f _ => LFn.kp hk f⟩

/-! ### in the order of a walk -/
mutual
def preE : Nat → Exp → List (Exp × Nat)
  | d, .mk k n nm o kids => (.mk k n nm o kids, d) :: preEl (d + 1) kids
def preEl : Nat → List Exp → List (Exp × Nat)
  | _, [] => []
  | d, e :: r => preE d e ++ preEl d r
end
mutual
def preS : Nat → Stm → List (Stm × Nat)
  | d, .mk k nm to n a v args thn els => (.mk k nm to n a v args thn els, d) :: (preSl (d + 1) thn ++ preSl (d + 1) els)
def preSl : Nat → List Stm → List (Stm × Nat)
  | _, [] => []
  | d, s :: r => preS d s ++ preSl d r
end
theorem preE_eq (d : Nat) (e : Exp) : preE d e = (e, d) :: preEl (d + 1) e.kids := by cases e; simp only [preE, Exp.kids]
theorem preS_eq (d : Nat) (s : Stm) : preS d s = (s, d) :: (preSl (d + 1) s.thn ++ preSl (d + 1) s.els) := by cases s; simp only [preS, Stm.thn, Stm.els]
theorem preEl_app (d : Nat) : ∀ l m : List Exp, preEl d (l ++ m) = preEl d l ++ preEl d m
  | [], m => by simp [preEl]
  | e :: r, m => by simp [preEl, preEl_app d r m]
theorem preSl_app (d : Nat) : ∀ l m : List Stm, preSl d (l ++ m) = preSl d l ++ preSl d m
  | [], m => by simp [preSl]
  | e :: r, m => by simp [preSl, preSl_app d r m]
/-- What is asked of each in turn, until one says no. -/
def runL {A S : Type} (step : S → A → Bool × S) : S → List A → Bool × S
  | s, [] => (true, s)
  | s, a :: r => if (step s a).1 = true then runL step (step s a).2 r else (false, (step s a).2)
theorem runL_app {A S : Type} (step : S → A → Bool × S) : ∀ (l m : List A) (s : S), runL step s (l ++ m) = if (runL step s l).1 = true then runL step (runL step s l).2 m else (false, (runL step s l).2)
  | [], m, s => by simp [runL]
  | a :: r, m, s => by
    simp only [List.cons_append, runL]
    split
    · exact runL_app step r m _
    · simp
/-- How high a tree is. -/
noncomputable def htE : Exp → Nat := fun e => SizeOf.sizeOf e
noncomputable def htS : Stm → Nat := fun s => SizeOf.sizeOf s
theorem ht_kid {e : Exp} {k : Exp} (h : k ∈ e.kids) : htE k + 1 ≤ htE e := by
  cases e with
  | mk a b c d kids =>
    have := List.sizeOf_lt_of_mem (show k ∈ kids from h)
    unfold htE
    simp only [Exp.mk.sizeOf_spec]; omega
theorem ht_thn {s k : Stm} (h : k ∈ s.thn) : htS k + 1 ≤ htS s := by
  cases s with
  | mk a b c d e f g thn els =>
    have := List.sizeOf_lt_of_mem (show k ∈ thn from h)
    unfold htS
    simp only [Stm.mk.sizeOf_spec]; omega
theorem ht_els {s k : Stm} (h : k ∈ s.els) : htS k + 1 ≤ htS s := by
  cases s with
  | mk a b c d e f g thn els =>
    have := List.sizeOf_lt_of_mem (show k ∈ els from h)
    unfold htS
    simp only [Stm.mk.sizeOf_spec]; omega
theorem len_size {A : Type} [SizeOf A] : ∀ l : List A, l.length < SizeOf.sizeOf l
  | [] => by simp
  | a :: l => by have := len_size l; simp only [List.length_cons, List.cons.sizeOf_spec]; omega
theorem len_kids {k n : Int} {nm : List UInt8} {o : Int} {kids : List Exp} : kids.length < htE (.mk k n nm o kids) := by
  have := len_size kids
  unfold htE
  simp only [Exp.mk.sizeOf_spec]; omega
theorem len_stm (s : Stm) : s.thn.length < htS s ∧ s.els.length < htS s ∧ s.args.length < htS s := by
  cases s with
  | mk a b c d e f args thn els =>
    have h1 := len_size thn; have h2 := len_size els; have h3 := len_size args
    unfold htS
    simp only [Stm.mk.sizeOf_spec, Stm.thn, Stm.els, Stm.args]; omega
theorem ht_sub (s : Stm) : htE s.sub < htS s ∧ htE s.value < htS s ∧ ∀ x ∈ s.args, htE x < htS s := by
  cases s with
  | mk a b c d e f args thn els =>
    unfold htS htE
    simp only [Stm.mk.sizeOf_spec, Stm.sub, Stm.value, Stm.args]
    refine ⟨by omega, by omega, fun x hx => ?_⟩
    have := List.sizeOf_lt_of_mem hx; omega
theorem Kp.own {own : List Nat} {H H1 H2 : Heap} (h : Kp own H H1) (k : Kp [] H1 H2) : Kp own H H2 := h.trans0 k
theorem Kp.own2 {own : List Nat} {H H1 H2 : Heap} (h : Kp own H H1) (k : Kp own H1 H2) : Kp own H H2 := h.trans k fun _ hi => .inl hi
theorem kpL {own : List Nat} {H H' : Heap} (h : Kp [] H H') : Kp own H H' := h.weaken fun _ hi => by cases hi
end Go.Ea
