/-
  THE ENGINE, part 1: abstract values, the abstract heap, and how both are laid in the model's world. Over any program. Written in this session.
-/
import Derived.WalkKit
import Derived.WalkLawsBesides
import Derived.RowKit3
namespace Go.Ea

inductive F2 {A B : Type} (R : A → B → Prop) : List A → List B → Prop where
  | nil : F2 R [] []
  | cons {a : A} {b : B} {l : List A} {m : List B} : R a b → F2 R l m → F2 R (a :: l) (b :: m)
namespace F2
variable {A B : Type} {R S : A → B → Prop}
theorem imp (h : ∀ a b, R a b → S a b) : ∀ {l : List A} {m : List B}, F2 R l m → F2 S l m
  | _, _, .nil => .nil
  | _, _, .cons h1 h2 => .cons (h _ _ h1) (imp h h2)
theorem length : ∀ {l : List A} {m : List B}, F2 R l m → l.length = m.length
  | _, _, .nil => rfl
  | _, _, .cons _ h2 => by simp [length h2]
theorem get : ∀ {l : List A} {m : List B}, F2 R l m → ∀ {i : Nat} {a : A}, l[i]? = some a → ∃ b, m[i]? = some b ∧ R a b
  | _, _, .nil, i, a, h => by simp at h
  | _, _, .cons h1 h2, 0, a, h => by simp at h; subst h; exact ⟨_, rfl, h1⟩
  | _, _, .cons h1 h2, i + 1, a, h => by simp at h; simpa using get h2 h
theorem mk' : ∀ {l : List A} {m : List B}, l.length = m.length → (∀ (i : Nat) a b, l[i]? = some a → m[i]? = some b → R a b) → F2 R l m
  | [], [], _, _ => .nil
  | a :: l, b :: m, hl, h => .cons (h 0 a b rfl rfl) (mk' (by simpa using hl) fun i x y hx hy => h (i + 1) x y (by simpa using hx) (by simpa using hy))
theorem get2 {l : List A} {m : List B} (h : F2 R l m) {i : Nat} {a : A} {b : B} (ha : l[i]? = some a) (hb : m[i]? = some b) : R a b := by
  obtain ⟨b', h1, h2⟩ := h.get ha
  rw [hb] at h1; cases h1; exact h2
theorem set {l : List A} {m : List B} (h : F2 R l m) (i : Nat) {a : A} {b : B} (hab : R a b) : F2 R (l.set i a) (m.set i b) :=
  mk' (by simp [h.length]) fun j x y hx hy => by
    by_cases e : i = j
    · subst e
      have h1 : i < l.length := by
        rw [List.getElem?_eq_some_iff] at hx; obtain ⟨hh, _⟩ := hx; simpa using hh
      rw [List.getElem?_set_self h1] at hx
      rw [List.getElem?_set_self (by rw [← h.length]; exact h1)] at hy
      cases hx; cases hy; exact hab
    · rw [List.getElem?_set_ne e] at hx hy
      exact h.get2 hx hy
theorem append {l l' : List A} {m m' : List B} (h : F2 R l m) (h' : F2 R l' m') : F2 R (l ++ l') (m ++ m') := by
  induction h with
  | nil => exact h'
  | cons h1 _ ih => exact .cons h1 ih
theorem take {l : List A} {m : List B} (n : Nat) (h : F2 R l m) : F2 R (l.take n) (m.take n) :=
  mk' (by simp [h.length]) fun j x y hx hy => by
    rw [List.getElem?_take] at hx hy
    split at hx
    · exact h.get2 hx (by simpa [*] using hy)
    · cases hx
theorem drop {l : List A} {m : List B} (n : Nat) (h : F2 R l m) : F2 R (l.drop n) (m.drop n) :=
  mk' (by simp [h.length]) fun j x y hx hy => by
    rw [List.getElem?_drop] at hx hy
    exact h.get2 hx hy
theorem repl {a : A} {b : B} (h : R a b) : ∀ n, F2 R (List.replicate n a) (List.replicate n b)
  | 0 => .nil
  | n + 1 => .cons h (repl h n)
end F2
/-- Where an abstract object lies: block, shift, capacity of slices that begin at its head. -/
structure Loc where
  blk : Nat
  off : Nat
  cap : Nat
abbrev Al := Nat → Option Loc

/-- One cell. -/
inductive AT where
  | bool (b : Bool)
  | int (k : IntKind) (n : Int)
  | str (s : List UInt8)
  | ptr (a : Option (Nat × Nat))
  | slice (a : Option (Nat × Nat)) (n : Nat)
  | map (r : Option Nat)
  | fn (f : Nat) (caps : List (Nat × Nat))
  | nilFn
  | nilIf
/-- A cell, or a struct laid flat. -/
inductive A1 where
  | at (a : AT)
  | agg (cs : List AT)
inductive AV where
  | one (x : A1)
  | tup (xs : List A1)
def A1.cells : A1 → List AT
  | .at a => [a]
  | .agg cs => cs
def AV.undef : AV := .tup []

/-! ### the abstract heap: a tree by the digits of the number -/
inductive Tr (β : Type) where
  | nil
  | node (l : Tr β) (v : Option β) (r : Tr β)
namespace Tr
variable {β : Type}
noncomputable def get (t : Tr β) : Nat → Option β :=
  Tr.rec (motive := fun _ => Nat → Option β) (fun _ => none) (fun _ v _ gl gr i => bif Nat.beq i 0 then v else bif Nat.beq (Nat.mod i 2) 1 then gl (Nat.div i 2) else gr (Nat.sub (Nat.div i 2) 1)) t
theorem get_node' (l r : Tr β) (v : Option β) (i : Nat) : (Tr.node l v r).get i = bif Nat.beq i 0 then v else bif Nat.beq (i % 2) 1 then l.get (i / 2) else r.get (i / 2 - 1) := rfl
def lf : Tr β → Tr β | .nil => .nil | .node l _ _ => l
def rg : Tr β → Tr β | .nil => .nil | .node _ _ r => r
def vl : Tr β → Option β | .nil => none | .node _ v _ => v
noncomputable def set (f : Nat) : Tr β → Nat → β → Tr β :=
  Nat.rec (motive := fun _ => Tr β → Nat → β → Tr β) (fun t _ _ => t)
    (fun _ ih t i x => Tr.casesOn (motive := fun _ => Tr β) t
      (bif Nat.beq i 0 then .node .nil (some x) .nil else bif Nat.beq (Nat.mod i 2) 1 then .node (ih .nil (Nat.div i 2) x) none .nil else .node .nil none (ih .nil (Nat.sub (Nat.div i 2) 1) x))
      (fun l v r => bif Nat.beq i 0 then .node l (some x) r else bif Nat.beq (Nat.mod i 2) 1 then .node (ih l (Nat.div i 2) x) v r else .node l v (ih r (Nat.sub (Nat.div i 2) 1) x))) f
theorem set_zero (t : Tr β) (i : Nat) (x : β) : set 0 t i x = t := rfl
theorem set_succ (f : Nat) (t : Tr β) (i : Nat) (x : β) : set (f + 1) t i x = bif Nat.beq i 0 then .node t.lf (some x) t.rg else bif Nat.beq (i % 2) 1 then .node (set f t.lf (i / 2) x) t.vl t.rg else .node t.lf t.vl (set f t.rg (i / 2 - 1) x) := by
  cases t <;> rfl
theorem get_eq (t : Tr β) (i : Nat) : t.get i = if i = 0 then t.vl else if i % 2 = 1 then t.lf.get (i / 2) else t.rg.get (i / 2 - 1) := by
  cases t with
  | nil =>
    simp only [vl, lf, rg]
    show none = if i = 0 then none else if i % 2 = 1 then none else none
    (repeat' split) <;> rfl
  | node l v r =>
    simp only [get_node', vl, lf, rg, cond_eq_ite, Nat.beq_eq]
theorem get_node (l r : Tr β) (v : Option β) (i : Nat) : (Tr.node l v r).get i = if i = 0 then v else if i % 2 = 1 then l.get (i / 2) else r.get (i / 2 - 1) := by
  simp only [get_node', cond_eq_ite, Nat.beq_eq]
theorem get_set (x : β) : ∀ (f : Nat) (t : Tr β) (i j : Nat), i + 1 < 2 ^ f → (set f t i x).get j = if j = i then some x else t.get j := by
  intro f
  induction f with
  | zero => intro t i j h; simp at h
  | succ f ih =>
    intro t i j h
    have h2 : 2 ^ (f + 1) = 2 * 2 ^ f := by rw [Nat.pow_succ]; omega
    rw [get_eq t j]
    simp only [set_succ, cond_eq_ite, Nat.beq_eq]
    by_cases hi0 : i = 0
    · subst hi0
      simp only [if_true, get_node]
      by_cases hj0 : j = 0 <;> simp [hj0]
    · rw [if_neg hi0]
      by_cases hi1 : i % 2 = 1
      · rw [if_pos hi1, get_node]
        by_cases hj0 : j = 0
        · subst hj0; rw [if_pos rfl, if_neg (by omega), if_pos rfl]
        · rw [if_neg hj0]
          by_cases hj1 : j % 2 = 1
          · rw [if_pos hj1, ih _ _ _ (by omega)]
            by_cases e : j = i
            · subst e; simp
            · rw [if_neg (by omega), if_neg e, if_neg hj0, if_pos hj1]
          · rw [if_neg hj1, if_neg (by omega), if_neg hj0, if_neg hj1]
      · rw [if_neg hi1, get_node]
        by_cases hj0 : j = 0
        · subst hj0; rw [if_pos rfl, if_neg (by omega), if_pos rfl]
        · rw [if_neg hj0]
          by_cases hj1 : j % 2 = 1
          · rw [if_pos hj1, if_neg (by omega), if_neg hj0, if_pos hj1]
          · rw [if_neg hj1, ih _ _ _ (by omega)]
            by_cases e : j = i
            · subst e; simp
            · rw [if_neg (by omega), if_neg e, if_neg hj0, if_neg hj1]
/-- Deep enough. -/
noncomputable def put (t : Tr β) (i : Nat) (x : β) : Tr β := set (Nat.log2 (i + 1) + 1) t i x
theorem get_put (t : Tr β) (i j : Nat) (x : β) : (t.put i x).get j = if j = i then some x else t.get j :=
  get_set x _ t i j Nat.lt_log2_self
end Tr

/-- k: 0 = it came in, it is only read; 1 = a variable; 2 = a row that may be appended to. -/
inductive AObj where
  | dead
  | unborn
  | cells (T : TypeId) (k : Nat) (cs : List AT)
  | map (es : List (AT × A1))
def AObj.live : AObj → Bool
  | .dead | .unborn => false
  | _ => true
def AObj.rw : AObj → Bool
  | .dead | .unborn => false
  | .cells _ k _ => k != 0
  | .map _ => true
theorem AObj.live_of_rw {o : AObj} (h : o.rw = true) : o.live = true := by cases o <;> simp_all [AObj.rw, AObj.live]

structure Heap where
  n : Nat
  t : Tr AObj
namespace Heap
noncomputable def get (H : Heap) (i : Nat) : Option AObj := bif Nat.blt i H.n then (match H.t.get i with | some o => some o | none => some .dead) else none
noncomputable def push (H : Heap) (o : AObj) : Heap := ⟨H.n + 1, H.t.put H.n o⟩
noncomputable def set (H : Heap) (i : Nat) (o : AObj) : Heap := ⟨H.n, H.t.put i o⟩
theorem get_def (H : Heap) (i : Nat) : H.get i = if i < H.n then some ((H.t.get i).getD .dead) else none := by
  unfold get
  by_cases h : i < H.n
  · rw [if_pos h, show Nat.blt i H.n = true from by simpa [Nat.blt_eq] using h]
    show (match H.t.get i with | some o => some o | none => some .dead) = _
    cases H.t.get i <;> rfl
  · rw [if_neg h, show Nat.blt i H.n = false from by rw [Bool.eq_false_iff]; intro hh; exact h (by simpa [Nat.blt_eq] using hh)]; rfl
theorem get_lt {H : Heap} {i : Nat} {o : AObj} (h : H.get i = some o) : i < H.n := by
  rw [get_def] at h
  split at h
  · assumption
  · cases h
theorem get_of_lt {H : Heap} {i : Nat} (h : i < H.n) : ∃ o, H.get i = some o := by rw [get_def, if_pos h]; exact ⟨_, rfl⟩
@[simp] theorem n_push (H : Heap) (o : AObj) : (H.push o).n = H.n + 1 := rfl
@[simp] theorem n_set (H : Heap) (i : Nat) (o : AObj) : (H.set i o).n = H.n := rfl
theorem get_push (H : Heap) (o : AObj) (j : Nat) : (H.push o).get j = if j = H.n then some o else H.get j := by
  rw [get_def, get_def, n_push]
  simp only [push, Tr.get_put]
  by_cases e : j = H.n
  · subst e; simp
  · rw [if_neg e, if_neg e]
    by_cases h : j < H.n
    · rw [if_pos (by omega), if_pos h]
    · rw [if_neg (by omega), if_neg h]
theorem get_set (H : Heap) (i : Nat) (o : AObj) (j : Nat) (hi : i < H.n) : (H.set i o).get j = if j = i then some o else H.get j := by
  rw [get_def, get_def, n_set]
  simp only [set, Tr.get_put]
  by_cases e : j = i
  · subst e; simp [hi]
  · rw [if_neg e, if_neg e]
theorem get_ge (H : Heap) {i : Nat} (h : H.n ≤ i) : H.get i = none := by rw [get_def, if_neg (by omega)]
def empty : Heap := ⟨0, .nil⟩
end Heap

/-! ### how values are laid -/
def PR (α : Al) (p : Nat × Nat) (v : Value) : Prop := ∃ L, α p.1 = some L ∧ v = .pointer (some ⟨L.blk, L.off + p.2, none⟩)
def AR (α : Al) : AT → Value → Prop
  | .bool b, v => v = .bool b
  | .int k n, v => v = .int k n
  | .str l, v => ∃ s : ByteArray, v = .string s ∧ s.data.toList = l
  | .ptr none, v => v = .pointer none
  | .ptr (some p), v => PR α p v
  | .slice none n, v => n = 0 ∧ v = .slice none 0 0
  | .slice (some p) n, v => ∃ L c, α p.1 = some L ∧ n ≤ c ∧ c ≤ maxLen ∧ ((v = .slice (some ⟨L.blk, L.off + p.2, none⟩) n c ∧ (p.2 = 0 → c = L.cap)) ∨ (n = 0 ∧ p.2 ≠ 0 ∧ ∃ a, v = .slice a 0 c))
  | .map none, v => v = .map none
  | .map (some r), v => ∃ L, α r = some L ∧ v = .map (some L.blk)
  | .fn f cs, v => ∃ arr : Array Value, v = .func (.func f) #[] arr ∧ F2 (PR α) cs arr.toList
  | .nilFn, v => v = .nilFunc
  | .nilIf, v => v = .nilIface
def V1 (α : Al) : A1 → Value → Prop
  | .at a, v => AR α a v
  | .agg cs, v => ∃ arr : Array Value, v = .agg arr ∧ F2 (AR α) cs arr.toList
def VR (α : Al) : AV → Value → Prop
  | .one x, v => V1 α x v
  | .tup xs, v => ∃ arr : Array Value, v = .tuple arr ∧ F2 (V1 α) xs arr.toList

def Sub (α α' : Al) : Prop := ∀ i L, α i = some L → α' i = some L
theorem Sub.refl (α : Al) : Sub α α := fun _ _ h => h
theorem Sub.trans {α β γ : Al} (h : Sub α β) (k : Sub β γ) : Sub α γ := fun i L e => k i L (h i L e)


theorem PR.mono {α α' : Al} (hs : Sub α α') {p : Nat × Nat} {v : Value} (h : PR α p v) : PR α' p v := by
  obtain ⟨L, h1, h2⟩ := h
  exact ⟨L, hs _ _ h1, h2⟩
theorem AR.mono {α α' : Al} (hs : Sub α α') {a : AT} {v : Value} (h : AR α a v) : AR α' a v := by
  match a, h with
  | .bool _, h | .int _ _, h | .str _, h | .ptr none, h | .slice none _, h | .map none, h | .nilFn, h | .nilIf, h => exact h
  | .ptr (some p), h => exact PR.mono hs h
  | .slice (some p) n, ⟨L, c, h1, h2⟩ => exact ⟨L, c, hs _ _ h1, h2⟩
  | .map (some r), ⟨L, h1, h2⟩ => exact ⟨L, hs _ _ h1, h2⟩
  | .fn f cs, ⟨arr, h1, h2⟩ => exact ⟨arr, h1, F2.imp (fun _ _ => PR.mono hs) h2⟩
theorem V1.mono {α α' : Al} (hs : Sub α α') {a : A1} {v : Value} (h : V1 α a v) : V1 α' a v := by
  match a, h with
  | .at a, h => exact AR.mono hs h
  | .agg cs, ⟨arr, h1, h2⟩ => exact ⟨arr, h1, F2.imp (fun _ _ => AR.mono hs) h2⟩
theorem VR.mono {α α' : Al} (hs : Sub α α') {a : AV} {v : Value} (h : VR α a v) : VR α' a v := by
  match a, h with
  | .one x, h => exact V1.mono hs h
  | .tup xs, ⟨arr, h1, h2⟩ => exact ⟨arr, h1, F2.imp (fun _ _ => V1.mono hs) h2⟩

theorem AR.oneCell {α : Al} {a : AT} {v : Value} (h : AR α a v) : v.oneCell' = true := by
  match a, h with
  | .bool _, h | .int _ _, h | .ptr none, h | .map none, h | .nilFn, h | .nilIf, h => simp only [AR] at h; subst h; rfl
  | .str _, ⟨s, h, _⟩ => subst h; rfl
  | .slice none _, ⟨_, h⟩ => subst h; rfl
  | .ptr (some p), ⟨L, _, h⟩ => subst h; rfl
  | .slice (some p) n, ⟨L, c, _, _, _, h⟩ => rcases h with ⟨h, _⟩ | ⟨_, _, a, h⟩ <;> subst h <;> rfl
  | .map (some r), ⟨L, _, h⟩ => subst h; rfl
  | .fn f cs, ⟨arr, h, _⟩ => subst h; rfl
theorem cells_one {v : Value} (h : v.oneCell' = true) : v.cells = #[v] := by cases v <;> simp_all [Value.oneCell', Value.cells]

/-- What a value's cells say. -/
theorem V1.cells {α : Al} {x : A1} {v : Value} (h : V1 α x v) : F2 (AR α) x.cells v.cells.toList := by
  match x, h with
  | .at a, h =>
    have := cells_one (AR.oneCell h)
    rw [this]
    exact .cons h .nil
  | .agg cs, ⟨arr, h1, h2⟩ => subst h1; exact h2

/-! ### how objects are laid -/
def OR (P : Program) (base : Nat) (α : Al) (w : World) (i : Nat) : AObj → Prop
  | .dead => True
  | .unborn => α i = none
  | .cells T k cs => ∃ L c fz, α i = some L ∧ w.heap[L.blk]? = some (.cells c T fz) ∧ L.off + cs.length ≤ c.size ∧
      (∀ j a, cs[j]? = some a → ∃ v, c[L.off + j]? = some v ∧ AR α a v) ∧ (k ≠ 0 → base ≤ L.blk ∧ fz = (0, 0)) ∧
      (k = 2 → L.off = 0 ∧ L.cap ≤ maxLen ∧ ∃ info, P.info? T = some info ∧ c.size = L.cap * info.size)
  | .map es => ∃ L c clk, α i = some L ∧ w.heap[L.blk]? = some (.map c clk) ∧ base ≤ L.blk ∧
      F2 (fun (e : AT × A1) (m : MapEntry) => AR α e.1 m.key ∧ V1 α e.2 m.val) es c.toList

structure R (P : Program) (base : Nat) (H : Heap) (α : Al) (w : World) : Prop where
  bs : base ≤ w.heap.size
  dom : ∀ i, H.n ≤ i → α i = none
  obj : ∀ i o, H.get i = some o → OR P base α w i o
  sep : ∀ i j oi oj Li Lj, i ≠ j → H.get i = some oi → oi.rw = true → H.get j = some oj → oj.live = true → α i = some Li → α j = some Lj → Li.blk ≠ Lj.blk

/-- The blocks that may be written. -/
def blkset (f : AObj → Bool) (H : Heap) (α : Al) (k : Nat) : Prop := ∃ i o L, H.get i = some o ∧ f o = true ∧ α i = some L ∧ L.blk = k
def rwset (H : Heap) (α : Al) (k : Nat) : Prop := blkset AObj.rw H α k
def lvset (H : Heap) (α : Al) (k : Nat) : Prop := blkset AObj.live H α k

structure Ext (H : Heap) (α : Al) (w : World) (H' : Heap) (α' : Al) (w' : World) : Prop where
  os : w'.os = w.os
  tape : w'.tape = w.tape
  output : w'.output = w.output
  size : w.heap.size ≤ w'.heap.size
  n : H.n ≤ H'.n
  sub : Sub α α'
  old : ∀ i, i < H.n → α' i = α i
  blk : ∀ k, k < w.heap.size → ¬ rwset H α k → w'.heap[k]? = w.heap[k]?
  rw : ∀ k, k < w.heap.size → rwset H' α' k → rwset H α k
  lv : ∀ k, k < w.heap.size → lvset H' α' k → lvset H α k
  dead : ∀ i, H.get i = some .dead → H'.get i = some .dead
  fz : ∀ x, w'.frozen? x = w.frozen? x
theorem Ext.refl (H : Heap) (α : Al) (w : World) : Ext H α w H α w :=
  ⟨rfl, rfl, rfl, Nat.le_refl _, Nat.le_refl _, Sub.refl _, fun _ _ => rfl, fun _ _ _ => rfl, fun _ _ h => h, fun _ _ h => h, fun _ h => h, fun _ => rfl⟩
theorem Ext.trans {H H1 H2 : Heap} {α α1 α2 : Al} {w w1 w2 : World} (h : Ext H α w H1 α1 w1) (k : Ext H1 α1 w1 H2 α2 w2) : Ext H α w H2 α2 w2 :=
  ⟨k.os.trans h.os, k.tape.trans h.tape, k.output.trans h.output, Nat.le_trans h.size k.size, Nat.le_trans h.n k.n, h.sub.trans k.sub, fun i hi => (k.old i (Nat.lt_of_lt_of_le hi h.n)).trans (h.old i hi),
   fun i hi hr => (k.blk i (Nat.lt_of_lt_of_le hi h.size) (fun hh => hr (h.rw i hi hh))).trans (h.blk i hi hr),
   fun i hi hr => h.rw i hi (k.rw i (Nat.lt_of_lt_of_le hi h.size) hr), fun i hi hr => h.lv i hi (k.lv i (Nat.lt_of_lt_of_le hi h.size) hr), fun i hi => k.dead i (h.dead i hi), fun x => (k.fz x).trans (h.fz x)⟩

theorem OR.lt {P : Program} {base : Nat} {α : Al} {w : World} {i : Nat} {o : AObj} (h : OR P base α w i o) (hl : o.live = true) : ∃ L, α i = some L ∧ L.blk < w.heap.size := by
  cases o with
  | dead => cases hl
  | unborn => cases hl
  | cells T k cs => obtain ⟨L, c, fz, h1, h2, _⟩ := h; exact ⟨L, h1, (Array.getElem?_eq_some_iff.1 h2).1⟩
  | map es => obtain ⟨L, c, clk, h1, h2, _⟩ := h; exact ⟨L, h1, (Array.getElem?_eq_some_iff.1 h2).1⟩
theorem OR.base {P : Program} {base : Nat} {α : Al} {w : World} {i : Nat} {o : AObj} (h : OR P base α w i o) (hl : o.rw = true) : ∃ L, α i = some L ∧ base ≤ L.blk := by
  cases o with
  | dead => cases hl
  | unborn => cases hl
  | cells T k cs =>
    obtain ⟨L, c, fz, h1, h2, h3, h4, h5, _⟩ := h
    exact ⟨L, h1, (h5 (by simpa [AObj.rw] using hl)).1⟩
  | map es => obtain ⟨L, c, clk, h1, h2, h3, _⟩ := h; exact ⟨L, h1, h3⟩
/-- An object stays laid where its block stays. -/
theorem OR.move {P : Program} {base : Nat} {α α' : Al} {w w' : World} {i : Nat} {o : AObj} (h : OR P base α w i o) (hs : Sub α α') (he : α' i = α i) (hb : ∀ L, α i = some L → o.live = true → w'.heap[L.blk]? = w.heap[L.blk]?) : OR P base α' w' i o := by
  cases o with
  | dead => trivial
  | unborn => exact he.trans h
  | cells T k cs =>
    obtain ⟨L, c, fz, h1, h2, h3, h4, h5, h6⟩ := h
    exact ⟨L, c, fz, hs _ _ h1, (hb L h1 rfl).trans h2, h3, fun j a hj => by obtain ⟨v, hv, hr⟩ := h4 j a hj; exact ⟨v, hv, hr.mono hs⟩, h5, h6⟩
  | map es =>
    obtain ⟨L, c, clk, h1, h2, h3, h4⟩ := h
    exact ⟨L, c, clk, hs _ _ h1, (hb L h1 rfl).trans h2, h3, F2.imp (fun _ _ hh => ⟨hh.1.mono hs, hh.2.mono hs⟩) h4⟩
/-- Nothing changes in the heap, the world grows. -/
theorem R.move {P : Program} {base : Nat} {H : Heap} {α : Al} {w w' : World} (h : R P base H α w) (hs : w.heap.size ≤ w'.heap.size) (hb : ∀ k, k < w.heap.size → w'.heap[k]? = w.heap[k]?) : R P base H α w' :=
  ⟨Nat.le_trans h.bs hs, h.dom, fun i o ho => (h.obj i o ho).move (Sub.refl _) rfl (fun L hL hl => by
    obtain ⟨L', h1, h2⟩ := (h.obj i o ho).lt hl
    rw [hL] at h1; cases h1
    exact hb _ h2), h.sep⟩
theorem R.drew {P : Program} {base : Nat} {H : Heap} {α : Al} {w : World} (h : R P base H α w) : R P base H α w.drew := h.move (Nat.le_refl _) fun _ _ => rfl
theorem Ext.drew (H : Heap) (α : Al) (w : World) : Ext H α w H α w.drew :=
  ⟨rfl, rfl, rfl, Nat.le_refl _, Nat.le_refl _, Sub.refl _, fun _ _ => rfl, fun _ _ _ => rfl, fun _ _ h => h, fun _ _ h => h, fun _ h => h, fun _ => rfl⟩

/-! ### a new object; an object written; an object that goes -/
theorem frozen_map (w : World) (c : Array MapEntry) (k : Nat) (x : Addr) : (w.alloc (.map c k)).frozen? x = w.frozen? x := by
  by_cases h : x.block = w.heap.size
  · have e1 : (w.alloc (.map c k)).heap[x.block]? = some (.map c k) := by rw [h]; exact heap_alloc_new w _
    have e2 : w.heap[x.block]? = none := by rw [h]; simp
    simp [World.frozen?, e1, e2]
  · exact World.frozen?_alloc_old _ _ _ h
theorem frozen_row {w : World} {g : Nat} {cs : Array Value} (x : Addr) : (w.setRow g cs).frozen? x = w.frozen? x := by
  unfold World.frozen? World.setRow
  simp only [Array.getElem?_modify]
  by_cases h : g = x.block
  · rw [if_pos h]
    cases he : w.heap[x.block]? with
    | none => rfl
    | some o => cases o <;> rfl
  · rw [if_neg h]
theorem frozen_setMap {w : World} {g : Nat} {c : Array MapEntry} {k : Nat} {c0 : Array MapEntry} {k0 : Nat} (h0 : w.heap[g]? = some (.map c0 k0)) (x : Addr) : ({ w with heap := w.heap.setIfInBounds g (.map c k) } : World).frozen? x = w.frozen? x := by
  unfold World.frozen?
  by_cases h : g = x.block
  · subst h
    rw [Array.getElem?_setIfInBounds_self_of_lt (Array.getElem?_eq_some_iff.1 h0).1, h0]
  · rw [Array.getElem?_setIfInBounds_ne h]
def upd (α : Al) (n : Nat) (L : Loc) : Al := fun i => if i = n then some L else α i
theorem sub_upd {α : Al} {n : Nat} {L : Loc} (h : α n = none) : Sub α (upd α n L) := fun i K hi => by
  unfold upd
  split
  · subst_vars; rw [h] at hi; cases hi
  · exact hi
theorem upd_self (α : Al) (n : Nat) (L : Loc) : upd α n L n = some L := by simp [upd]
theorem upd_ne {α : Al} {n i : Nat} {L : Loc} (h : i ≠ n) : upd α n L i = α i := by simp [upd, h]
theorem alloc_set (f : AObj → Bool) {H : Heap} {α : Al} {o : AObj} {L : Loc} {k : Nat} (hk : k < L.blk) (h : blkset f (H.push o) (upd α H.n L) k) : blkset f H α k := by
  obtain ⟨i, oi, Li, h1, h2, h3, h4⟩ := h
  rw [Heap.get_push] at h1
  by_cases e : i = H.n
  · subst e; rw [upd_self] at h3; cases h3; omega
  · rw [if_neg e] at h1; rw [upd_ne e] at h3; exact ⟨i, oi, Li, h1, h2, h3, h4⟩
theorem dead_push {H : Heap} {o : AObj} {i : Nat} (h : H.get i = some .dead) : (H.push o).get i = some .dead := by
  rw [Heap.get_push, if_neg (Nat.ne_of_lt (Heap.get_lt h))]; exact h
theorem Ext.alloc_obj {H : Heap} {α : Al} {w : World} {O : Obj} {o : AObj} {L : Loc} (hd : α H.n = none) (hL : L.blk = w.heap.size) (hf : ∀ x, (w.alloc O).frozen? x = w.frozen? x) : Ext H α w (H.push o) (upd α H.n L) (w.alloc O) :=
  ⟨rfl, rfl, rfl, by simp, by simp, sub_upd hd, fun i hi => upd_ne (by omega), fun k hk _ => heap_alloc_old w O hk, fun _ hk hr => alloc_set _ (by omega) hr, fun _ hk hr => alloc_set _ (by omega) hr, fun _ h => dead_push h, hf⟩
theorem R.alloc {P : Program} {base : Nat} {H : Heap} {α : Al} {w : World} {O : Obj} {o : AObj} {L : Loc} (h : R P base H α w) (hL : L.blk = w.heap.size) (hO : OR P base (upd α H.n L) (w.alloc O) H.n o) :
    R P base (H.push o) (upd α H.n L) (w.alloc O) := by
  have hs : Sub α (upd α H.n L) := sub_upd (h.dom _ (Nat.le_refl _))
  refine ⟨by have := h.bs; simp; omega, fun i hi => ?_, fun i oi hi => ?_, fun i j oi oj Li Lj hij hi hri hj hlj hLi hLj => ?_⟩
  · rw [Heap.n_push] at hi; rw [upd_ne (by omega)]; exact h.dom i (by omega)
  · rw [Heap.get_push] at hi
    by_cases e : i = H.n
    · subst e; rw [if_pos rfl] at hi; cases hi; exact hO
    · rw [if_neg e] at hi
      refine (h.obj i oi hi).move hs (upd_ne e) fun L' h1 h2 => ?_
      obtain ⟨L'', h3, h4⟩ := (h.obj i oi hi).lt h2
      rw [h1] at h3; cases h3
      exact heap_alloc_old w O h4
  · have old : ∀ {k ok Lk}, k ≠ H.n → (H.push o).get k = some ok → ok.live = true → upd α H.n L k = some Lk → H.get k = some ok ∧ α k = some Lk ∧ Lk.blk < w.heap.size := fun {k ok Lk} hk h1 h2 h3 => by
      rw [Heap.get_push, if_neg hk] at h1
      rw [upd_ne hk] at h3
      obtain ⟨L'', h4, h5⟩ := (h.obj k ok h1).lt h2
      rw [h3] at h4; cases h4
      exact ⟨h1, h3, h5⟩
    by_cases ei : i = H.n
    · obtain ⟨_, _, h7⟩ := old (fun e => hij (ei.trans e.symm)) hj hlj hLj
      subst ei; rw [upd_self] at hLi; cases hLi; omega
    · obtain ⟨h1, h2, h3⟩ := old ei hi (AObj.live_of_rw hri) hLi
      by_cases ej : j = H.n
      · subst ej; rw [upd_self] at hLj; cases hLj; omega
      · obtain ⟨h4, h5, _⟩ := old ej hj hlj hLj
        exact h.sep i j oi oj Li Lj hij h1 hri h4 hlj h2 h5
/-- Block b of a row that may be written is turned. -/
theorem R.write {P : Program} {base : Nat} {H : Heap} {α : Al} {w w' : World} {i : Nat} {o o' : AObj} {L : Loc} (h : R P base H α w) (hi : H.get i = some o) (hr : o.rw = true) (hL : α i = some L)
    (_ : o'.rw = true) (hst : w'.os = w.os ∧ w'.tape = w.tape ∧ w'.output = w.output) (hsz : w'.heap.size = w.heap.size) (hb : ∀ k, k ≠ L.blk → w'.heap[k]? = w.heap[k]?) (hf : ∀ x, w'.frozen? x = w.frozen? x) (hO : OR P base α w' i o') :
    R P base (H.set i o') α w' ∧ Ext H α w (H.set i o') α w' := by
  have hin := Heap.get_lt hi
  have rwe : ∀ (f : AObj → Bool) k, f o = true → blkset f (H.set i o') α k → blkset f H α k := fun f k hr hk => by
    obtain ⟨j, oj, Lj, h1, h2, h3, h4⟩ := hk
    rw [Heap.get_set _ _ _ _ hin] at h1
    by_cases e : j = i
    · subst e; exact ⟨j, o, Lj, hi, hr, h3, h4⟩
    · rw [if_neg e] at h1; exact ⟨j, oj, Lj, h1, h2, h3, h4⟩
  refine ⟨⟨by rw [hsz]; exact h.bs, h.dom, fun j oj hj => ?_, fun j k oj ok Lj Lk hjk hj hrj hk hlk hLj hLk => ?_⟩, ⟨hst.1, hst.2.1, hst.2.2, by omega, Nat.le_refl _, Sub.refl _, fun _ _ => rfl, fun k hk hnr => hb k ?_, fun k _ hk => rwe _ k hr hk, fun k _ hk => rwe _ k (AObj.live_of_rw hr) hk, fun j hj => by
    rw [Heap.get_set _ _ _ _ hin, if_neg (fun e => by subst e; rw [hi] at hj; cases hj; cases hr)]; exact hj, hf⟩⟩
  · rw [Heap.get_set _ _ _ _ hin] at hj
    by_cases e : j = i
    · subst e; rw [if_pos rfl] at hj; cases hj; exact hO
    · rw [if_neg e] at hj
      exact (h.obj j oj hj).move (Sub.refl _) rfl fun L' h1 h2 => hb _ (Ne.symm (h.sep i j o oj L L' (Ne.symm e) hi hr hj h2 hL h1))
  · rw [Heap.get_set _ _ _ _ hin] at hj hk
    have h1 : ∃ oj', H.get j = some oj' ∧ oj'.rw = true := by
      by_cases e : j = i
      · subst e; exact ⟨o, hi, hr⟩
      · rw [if_neg e] at hj; exact ⟨oj, hj, hrj⟩
    have h2 : ∃ ok', H.get k = some ok' ∧ ok'.live = true := by
      by_cases e : k = i
      · subst e; exact ⟨o, hi, AObj.live_of_rw hr⟩
      · rw [if_neg e] at hk; exact ⟨ok, hk, hlk⟩
    obtain ⟨oj', a1, a2⟩ := h1
    obtain ⟨ok', b1, b2⟩ := h2
    exact h.sep j k oj' ok' Lj Lk hjk a1 a2 b1 b2 hLj hLk
  · rintro rfl; exact hnr ⟨i, o, L, hi, hr, hL, rfl⟩
/-- An object is given up. -/
theorem R.kill {P : Program} {base : Nat} {H : Heap} {α : Al} {w : World} {i : Nat} (h : R P base H α w) (hi : i < H.n) : R P base (H.set i .dead) α w := by
  refine ⟨h.bs, h.dom, fun j oj hj => ?_, fun j k oj ok Lj Lk hjk hj hrj hk hlk hLj hLk => ?_⟩
  · rw [Heap.get_set _ _ _ _ hi] at hj
    by_cases e : j = i
    · subst e; rw [if_pos rfl] at hj; cases hj; trivial
    · rw [if_neg e] at hj; exact h.obj j oj hj
  · rw [Heap.get_set _ _ _ _ hi] at hj hk
    by_cases e : j = i
    · subst e; rw [if_pos rfl] at hj; cases hj; cases hrj
    · rw [if_neg e] at hj
      by_cases e' : k = i
      · subst e'; rw [if_pos rfl] at hk; cases hk; cases hlk
      · rw [if_neg e'] at hk; exact h.sep j k oj ok Lj Lk hjk hj hrj hk hlk hLj hLk
theorem kill_set (f : AObj → Bool) (hf : f .dead = false) {H : Heap} {α : Al} {i k : Nat} (hi : i < H.n) (h : blkset f (H.set i .dead) α k) : blkset f H α k := by
  obtain ⟨j, oj, Lj, h1, h2, h3, h4⟩ := h
  rw [Heap.get_set _ _ _ _ hi] at h1
  by_cases e : j = i
  · subst e; rw [if_pos rfl] at h1; cases h1; rw [hf] at h2; cases h2
  · rw [if_neg e] at h1; exact ⟨j, oj, Lj, h1, h2, h3, h4⟩
theorem dead_kill {H : Heap} {i j : Nat} (hi : i < H.n) (h : H.get j = some .dead) : (H.set i .dead).get j = some .dead := by
  rw [Heap.get_set _ _ _ _ hi]; split
  · rfl
  · exact h
theorem Ext.kill {H : Heap} {α : Al} {w : World} {i : Nat} (hi : i < H.n) : Ext H α w (H.set i .dead) α w :=
  ⟨rfl, rfl, rfl, Nat.le_refl _, Nat.le_refl _, Sub.refl _, fun _ _ => rfl, fun _ _ _ => rfl, fun _ _ hk => kill_set _ rfl hi hk, fun _ _ hk => kill_set _ rfl hi hk, fun _ h => dead_kill hi h, fun _ => rfl⟩
end Go.Ea
