/-
  THE ENGINE, part 1: abstract values, the abstract heap, and how both are laid in the model's world. Over any program. Written in this session.
-/
import Derived.WalkKit
import Derived.WalkLawsBesides
import Derived.RowKit3
import Derived.Lib.IndexBytes
import Derived.Laws.BytesString
import Derived.LoopN
import Derived.Orders
section
namespace Go.Ea

inductive F2 {A B : Type} (R : A → B → Prop) : List A → List B → Prop where
  | nil : F2 R [] []
  | cons {a : A} {b : B} {l : List A} {m : List B} : R a b → F2 R l m → F2 R (a :: l) (b :: m)
namespace F2
variable {A B : Type} {R S : A → B → Prop}
theorem imp (h : ∀ a b, R a b → S a b) : ∀ {l : List A} {m : List B}, F2 R l m → F2 S l m
  | _, _, .nil => .nil
  | _, _, .cons h1 h2 => .cons (h _ _ h1) (imp h h2)
theorem length : ∀ {l : List A} {m : List B}, F2 R l m → l.length = m.length
  | _, _, .nil => rfl
  | _, _, .cons _ h2 => by simp [length h2]
theorem get : ∀ {l : List A} {m : List B}, F2 R l m → ∀ {i : Nat} {a : A}, l[i]? = some a → ∃ b, m[i]? = some b ∧ R a b
  | _, _, .nil, i, a, h => by simp at h
  | _, _, .cons h1 h2, 0, a, h => by simp at h; subst h; exact ⟨_, rfl, h1⟩
  | _, _, .cons h1 h2, i + 1, a, h => by simp at h; simpa using get h2 h
theorem mk' : ∀ {l : List A} {m : List B}, l.length = m.length → (∀ (i : Nat) a b, l[i]? = some a → m[i]? = some b → R a b) → F2 R l m
  | [], [], _, _ => .nil
  | a :: l, b :: m, hl, h => .cons (h 0 a b rfl rfl) (mk' (by simpa using hl) fun i x y hx hy => h (i + 1) x y (by simpa using hx) (by simpa using hy))
theorem get2 {l : List A} {m : List B} (h : F2 R l m) {i : Nat} {a : A} {b : B} (ha : l[i]? = some a) (hb : m[i]? = some b) : R a b := by
  obtain ⟨b', h1, h2⟩ := h.get ha
  rw [hb] at h1; cases h1; exact h2
theorem set {l : List A} {m : List B} (h : F2 R l m) (i : Nat) {a : A} {b : B} (hab : R a b) : F2 R (l.set i a) (m.set i b) :=
  mk' (by simp [h.length]) fun j x y hx hy => by
    by_cases e : i = j
    · subst e
      have h1 : i < l.length := by
        rw [List.getElem?_eq_some_iff] at hx; obtain ⟨hh, _⟩ := hx; simpa using hh
      rw [List.getElem?_set_self h1] at hx
      rw [List.getElem?_set_self (by rw [← h.length]; exact h1)] at hy
      cases hx; cases hy; exact hab
    · rw [List.getElem?_set_ne e] at hx hy
      exact h.get2 hx hy
theorem append {l l' : List A} {m m' : List B} (h : F2 R l m) (h' : F2 R l' m') : F2 R (l ++ l') (m ++ m') := by
  induction h with
  | nil => exact h'
  | cons h1 _ ih => exact .cons h1 ih
theorem take {l : List A} {m : List B} (n : Nat) (h : F2 R l m) : F2 R (l.take n) (m.take n) :=
  mk' (by simp [h.length]) fun j x y hx hy => by
    rw [List.getElem?_take] at hx hy
    split at hx
    · exact h.get2 hx (by simpa [*] using hy)
    · cases hx
theorem drop {l : List A} {m : List B} (n : Nat) (h : F2 R l m) : F2 R (l.drop n) (m.drop n) :=
  mk' (by simp [h.length]) fun j x y hx hy => by
    rw [List.getElem?_drop] at hx hy
    exact h.get2 hx hy
theorem repl {a : A} {b : B} (h : R a b) : ∀ n, F2 R (List.replicate n a) (List.replicate n b)
  | 0 => .nil
  | n + 1 => .cons h (repl h n)
end F2
/-- Where an abstract object lies: block, shift, capacity of slices that begin at its head. -/
structure Loc where
  blk : Nat
  off : Nat
  cap : Nat
abbrev Al := Nat → Option Loc

/-- One cell. -/
inductive AT where
  | bool (b : Bool)
  | int (k : IntKind) (n : Int)
  | str (s : List UInt8)
  | ptr (a : Option (Nat × Nat))
  | slice (a : Option (Nat × Nat)) (n : Nat)
  | map (r : Option Nat)
  | fn (f : Nat) (caps : List (Nat × Nat))
  | nilFn
  | nilIf
/-- A cell, or a struct laid flat. -/
inductive A1 where
  | at (a : AT)
  | agg (cs : List AT)
inductive AV where
  | one (x : A1)
  | tup (xs : List A1)
def A1.cells : A1 → List AT
  | .at a => [a]
  | .agg cs => cs
def AV.undef : AV := .tup []

/-! ### the abstract heap: a tree by the digits of the number -/
inductive Tr (β : Type) where
  | nil
  | node (l : Tr β) (v : Option β) (r : Tr β)
namespace Tr
variable {β : Type}
noncomputable def get (t : Tr β) : Nat → Option β :=
  Tr.rec (motive := fun _ => Nat → Option β) (fun _ => none) (fun _ v _ gl gr i => bif Nat.beq i 0 then v else bif Nat.beq (Nat.mod i 2) 1 then gl (Nat.div i 2) else gr (Nat.sub (Nat.div i 2) 1)) t
theorem get_node' (l r : Tr β) (v : Option β) (i : Nat) : (Tr.node l v r).get i = bif Nat.beq i 0 then v else bif Nat.beq (i % 2) 1 then l.get (i / 2) else r.get (i / 2 - 1) := rfl
def lf : Tr β → Tr β | .nil => .nil | .node l _ _ => l
def rg : Tr β → Tr β | .nil => .nil | .node _ _ r => r
def vl : Tr β → Option β | .nil => none | .node _ v _ => v
noncomputable def set (f : Nat) : Tr β → Nat → β → Tr β :=
  Nat.rec (motive := fun _ => Tr β → Nat → β → Tr β) (fun t _ _ => t)
    (fun _ ih t i x => Tr.casesOn (motive := fun _ => Tr β) t
      (bif Nat.beq i 0 then .node .nil (some x) .nil else bif Nat.beq (Nat.mod i 2) 1 then .node (ih .nil (Nat.div i 2) x) none .nil else .node .nil none (ih .nil (Nat.sub (Nat.div i 2) 1) x))
      (fun l v r => bif Nat.beq i 0 then .node l (some x) r else bif Nat.beq (Nat.mod i 2) 1 then .node (ih l (Nat.div i 2) x) v r else .node l v (ih r (Nat.sub (Nat.div i 2) 1) x))) f
theorem set_zero (t : Tr β) (i : Nat) (x : β) : set 0 t i x = t := rfl
theorem set_succ (f : Nat) (t : Tr β) (i : Nat) (x : β) : set (f + 1) t i x = bif Nat.beq i 0 then .node t.lf (some x) t.rg else bif Nat.beq (i % 2) 1 then .node (set f t.lf (i / 2) x) t.vl t.rg else .node t.lf t.vl (set f t.rg (i / 2 - 1) x) := by
  cases t <;> rfl
theorem get_eq (t : Tr β) (i : Nat) : t.get i = if i = 0 then t.vl else if i % 2 = 1 then t.lf.get (i / 2) else t.rg.get (i / 2 - 1) := by
  cases t with
  | nil =>
    simp only [vl, lf, rg]
    show none = if i = 0 then none else if i % 2 = 1 then none else none
    (repeat' split) <;> rfl
  | node l v r =>
    simp only [get_node', vl, lf, rg, cond_eq_ite, Nat.beq_eq]
theorem get_node (l r : Tr β) (v : Option β) (i : Nat) : (Tr.node l v r).get i = if i = 0 then v else if i % 2 = 1 then l.get (i / 2) else r.get (i / 2 - 1) := by
  simp only [get_node', cond_eq_ite, Nat.beq_eq]
theorem get_set (x : β) : ∀ (f : Nat) (t : Tr β) (i j : Nat), i + 1 < 2 ^ f → (set f t i x).get j = if j = i then some x else t.get j := by
  intro f
  induction f with
  | zero => intro t i j h; simp at h
  | succ f ih =>
    intro t i j h
    have h2 : 2 ^ (f + 1) = 2 * 2 ^ f := by rw [Nat.pow_succ]; omega
    rw [get_eq t j]
    simp only [set_succ, cond_eq_ite, Nat.beq_eq]
    by_cases hi0 : i = 0
    · subst hi0
      simp only [if_true, get_node]
      by_cases hj0 : j = 0 <;> simp [hj0]
    · rw [if_neg hi0]
      by_cases hi1 : i % 2 = 1
      · rw [if_pos hi1, get_node]
        by_cases hj0 : j = 0
        · subst hj0; rw [if_pos rfl, if_neg (by omega), if_pos rfl]
        · rw [if_neg hj0]
          by_cases hj1 : j % 2 = 1
          · rw [if_pos hj1, ih _ _ _ (by omega)]
            by_cases e : j = i
            · subst e; simp
            · rw [if_neg (by omega), if_neg e, if_neg hj0, if_pos hj1]
          · rw [if_neg hj1, if_neg (by omega), if_neg hj0, if_neg hj1]
      · rw [if_neg hi1, get_node]
        by_cases hj0 : j = 0
        · subst hj0; rw [if_pos rfl, if_neg (by omega), if_pos rfl]
        · rw [if_neg hj0]
          by_cases hj1 : j % 2 = 1
          · rw [if_pos hj1, if_neg (by omega), if_neg hj0, if_pos hj1]
          · rw [if_neg hj1, ih _ _ _ (by omega)]
            by_cases e : j = i
            · subst e; simp
            · rw [if_neg (by omega), if_neg e, if_neg hj0, if_neg hj1]
/-- Deep enough. -/
noncomputable def put (t : Tr β) (i : Nat) (x : β) : Tr β := set (Nat.log2 (i + 1) + 1) t i x
theorem get_put (t : Tr β) (i j : Nat) (x : β) : (t.put i x).get j = if j = i then some x else t.get j :=
  get_set x _ t i j Nat.lt_log2_self
end Tr

/-- k: 0 = it came in, it is only read; 1 = a variable; 2 = a row that may be appended to. -/
inductive AObj where
  | dead
  | unborn
  | cells (T : TypeId) (k : Nat) (cs : List AT)
  | map (es : List (AT × A1))
def AObj.live : AObj → Bool
  | .dead | .unborn => false
  | _ => true
def AObj.rw : AObj → Bool
  | .dead | .unborn => false
  | .cells _ k _ => k != 0
  | .map _ => true
theorem AObj.live_of_rw {o : AObj} (h : o.rw = true) : o.live = true := by cases o <;> simp_all [AObj.rw, AObj.live]

structure Heap where
  n : Nat
  t : Tr AObj
namespace Heap
noncomputable def get (H : Heap) (i : Nat) : Option AObj := bif Nat.blt i H.n then (match H.t.get i with | some o => some o | none => some .dead) else none
noncomputable def push (H : Heap) (o : AObj) : Heap := ⟨H.n + 1, H.t.put H.n o⟩
noncomputable def set (H : Heap) (i : Nat) (o : AObj) : Heap := ⟨H.n, H.t.put i o⟩
theorem get_def (H : Heap) (i : Nat) : H.get i = if i < H.n then some ((H.t.get i).getD .dead) else none := by
  unfold get
  by_cases h : i < H.n
  · rw [if_pos h, show Nat.blt i H.n = true from by simpa [Nat.blt_eq] using h]
    show (match H.t.get i with | some o => some o | none => some .dead) = _
    cases H.t.get i <;> rfl
  · rw [if_neg h, show Nat.blt i H.n = false from by rw [Bool.eq_false_iff]; intro hh; exact h (by simpa [Nat.blt_eq] using hh)]; rfl
theorem get_lt {H : Heap} {i : Nat} {o : AObj} (h : H.get i = some o) : i < H.n := by
  rw [get_def] at h
  split at h
  · assumption
  · cases h
theorem get_of_lt {H : Heap} {i : Nat} (h : i < H.n) : ∃ o, H.get i = some o := by rw [get_def, if_pos h]; exact ⟨_, rfl⟩
@[simp] theorem n_push (H : Heap) (o : AObj) : (H.push o).n = H.n + 1 := rfl
@[simp] theorem n_set (H : Heap) (i : Nat) (o : AObj) : (H.set i o).n = H.n := rfl
theorem get_push (H : Heap) (o : AObj) (j : Nat) : (H.push o).get j = if j = H.n then some o else H.get j := by
  rw [get_def, get_def, n_push]
  simp only [push, Tr.get_put]
  by_cases e : j = H.n
  · subst e; simp
  · rw [if_neg e, if_neg e]
    by_cases h : j < H.n
    · rw [if_pos (by omega), if_pos h]
    · rw [if_neg (by omega), if_neg h]
theorem get_set (H : Heap) (i : Nat) (o : AObj) (j : Nat) (hi : i < H.n) : (H.set i o).get j = if j = i then some o else H.get j := by
  rw [get_def, get_def, n_set]
  simp only [set, Tr.get_put]
  by_cases e : j = i
  · subst e; simp [hi]
  · rw [if_neg e, if_neg e]
theorem get_ge (H : Heap) {i : Nat} (h : H.n ≤ i) : H.get i = none := by rw [get_def, if_neg (by omega)]
def empty : Heap := ⟨0, .nil⟩
end Heap

/-! ### how values are laid -/
def PR (α : Al) (p : Nat × Nat) (v : Value) : Prop := ∃ L, α p.1 = some L ∧ v = .pointer (some ⟨L.blk, L.off + p.2, none⟩)
def AR (α : Al) : AT → Value → Prop
  | .bool b, v => v = .bool b
  | .int k n, v => v = .int k n
  | .str l, v => ∃ s : ByteArray, v = .string s ∧ s.data.toList = l
  | .ptr none, v => v = .pointer none
  | .ptr (some p), v => PR α p v
  | .slice none n, v => n = 0 ∧ v = .slice none 0 0
  | .slice (some p) n, v => ∃ L c, α p.1 = some L ∧ n ≤ c ∧ c ≤ maxLen ∧ ((v = .slice (some ⟨L.blk, L.off + p.2, none⟩) n c ∧ (p.2 = 0 → c = L.cap)) ∨ (n = 0 ∧ p.2 ≠ 0 ∧ ∃ a, v = .slice a 0 c))
  | .map none, v => v = .map none
  | .map (some r), v => ∃ L, α r = some L ∧ v = .map (some L.blk)
  | .fn f cs, v => ∃ arr : Array Value, v = .func (.func f) #[] arr ∧ F2 (PR α) cs arr.toList
  | .nilFn, v => v = .nilFunc
  | .nilIf, v => v = .nilIface
def V1 (α : Al) : A1 → Value → Prop
  | .at a, v => AR α a v
  | .agg cs, v => ∃ arr : Array Value, v = .agg arr ∧ F2 (AR α) cs arr.toList
def VR (α : Al) : AV → Value → Prop
  | .one x, v => V1 α x v
  | .tup xs, v => ∃ arr : Array Value, v = .tuple arr ∧ F2 (V1 α) xs arr.toList

def Sub (α α' : Al) : Prop := ∀ i L, α i = some L → α' i = some L
theorem Sub.refl (α : Al) : Sub α α := fun _ _ h => h
theorem Sub.trans {α β γ : Al} (h : Sub α β) (k : Sub β γ) : Sub α γ := fun i L e => k i L (h i L e)


theorem PR.mono {α α' : Al} (hs : Sub α α') {p : Nat × Nat} {v : Value} (h : PR α p v) : PR α' p v := by
  obtain ⟨L, h1, h2⟩ := h
  exact ⟨L, hs _ _ h1, h2⟩
theorem AR.mono {α α' : Al} (hs : Sub α α') {a : AT} {v : Value} (h : AR α a v) : AR α' a v := by
  match a, h with
  | .bool _, h | .int _ _, h | .str _, h | .ptr none, h | .slice none _, h | .map none, h | .nilFn, h | .nilIf, h => exact h
  | .ptr (some p), h => exact PR.mono hs h
  | .slice (some p) n, ⟨L, c, h1, h2⟩ => exact ⟨L, c, hs _ _ h1, h2⟩
  | .map (some r), ⟨L, h1, h2⟩ => exact ⟨L, hs _ _ h1, h2⟩
  | .fn f cs, ⟨arr, h1, h2⟩ => exact ⟨arr, h1, F2.imp (fun _ _ => PR.mono hs) h2⟩
theorem V1.mono {α α' : Al} (hs : Sub α α') {a : A1} {v : Value} (h : V1 α a v) : V1 α' a v := by
  match a, h with
  | .at a, h => exact AR.mono hs h
  | .agg cs, ⟨arr, h1, h2⟩ => exact ⟨arr, h1, F2.imp (fun _ _ => AR.mono hs) h2⟩
theorem VR.mono {α α' : Al} (hs : Sub α α') {a : AV} {v : Value} (h : VR α a v) : VR α' a v := by
  match a, h with
  | .one x, h => exact V1.mono hs h
  | .tup xs, ⟨arr, h1, h2⟩ => exact ⟨arr, h1, F2.imp (fun _ _ => V1.mono hs) h2⟩

theorem AR.oneCell {α : Al} {a : AT} {v : Value} (h : AR α a v) : v.oneCell' = true := by
  match a, h with
  | .bool _, h | .int _ _, h | .ptr none, h | .map none, h | .nilFn, h | .nilIf, h => simp only [AR] at h; subst h; rfl
  | .str _, ⟨s, h, _⟩ => subst h; rfl
  | .slice none _, ⟨_, h⟩ => subst h; rfl
  | .ptr (some p), ⟨L, _, h⟩ => subst h; rfl
  | .slice (some p) n, ⟨L, c, _, _, _, h⟩ => rcases h with ⟨h, _⟩ | ⟨_, _, a, h⟩ <;> subst h <;> rfl
  | .map (some r), ⟨L, _, h⟩ => subst h; rfl
  | .fn f cs, ⟨arr, h, _⟩ => subst h; rfl
theorem cells_one {v : Value} (h : v.oneCell' = true) : v.cells = #[v] := by cases v <;> simp_all [Value.oneCell', Value.cells]

/-- What a value's cells say. -/
theorem V1.cells {α : Al} {x : A1} {v : Value} (h : V1 α x v) : F2 (AR α) x.cells v.cells.toList := by
  match x, h with
  | .at a, h =>
    have := cells_one (AR.oneCell h)
    rw [this]
    exact .cons h .nil
  | .agg cs, ⟨arr, h1, h2⟩ => subst h1; exact h2

/-! ### how objects are laid -/
def OR (P : Program) (base : Nat) (α : Al) (w : World) (i : Nat) : AObj → Prop
  | .dead => True
  | .unborn => α i = none
  | .cells T k cs => ∃ L c fz, α i = some L ∧ w.heap[L.blk]? = some (.cells c T fz) ∧ L.off + cs.length ≤ c.size ∧
      (∀ j a, cs[j]? = some a → ∃ v, c[L.off + j]? = some v ∧ AR α a v) ∧ (k ≠ 0 → base ≤ L.blk ∧ fz = (0, 0)) ∧
      (k = 2 → L.off = 0 ∧ L.cap ≤ maxLen ∧ ∃ info, P.info? T = some info ∧ c.size = L.cap * info.size)
  | .map es => ∃ L c clk, α i = some L ∧ w.heap[L.blk]? = some (.map c clk) ∧ base ≤ L.blk ∧
      F2 (fun (e : AT × A1) (m : MapEntry) => AR α e.1 m.key ∧ V1 α e.2 m.val) es c.toList

structure R (P : Program) (base : Nat) (H : Heap) (α : Al) (w : World) : Prop where
  bs : base ≤ w.heap.size
  dom : ∀ i, H.n ≤ i → α i = none
  obj : ∀ i o, H.get i = some o → OR P base α w i o
  sep : ∀ i j oi oj Li Lj, i ≠ j → H.get i = some oi → oi.rw = true → H.get j = some oj → oj.live = true → α i = some Li → α j = some Lj → Li.blk ≠ Lj.blk

/-- The blocks that may be written. -/
def blkset (f : AObj → Bool) (H : Heap) (α : Al) (k : Nat) : Prop := ∃ i o L, H.get i = some o ∧ f o = true ∧ α i = some L ∧ L.blk = k
def rwset (H : Heap) (α : Al) (k : Nat) : Prop := blkset AObj.rw H α k
def lvset (H : Heap) (α : Al) (k : Nat) : Prop := blkset AObj.live H α k

structure Ext (H : Heap) (α : Al) (w : World) (H' : Heap) (α' : Al) (w' : World) : Prop where
  os : w'.os = w.os
  tape : w'.tape = w.tape
  output : w'.output = w.output
  size : w.heap.size ≤ w'.heap.size
  n : H.n ≤ H'.n
  sub : Sub α α'
  old : ∀ i, i < H.n → α' i = α i
  blk : ∀ k, k < w.heap.size → ¬ rwset H α k → w'.heap[k]? = w.heap[k]?
  rw : ∀ k, k < w.heap.size → rwset H' α' k → rwset H α k
  lv : ∀ k, k < w.heap.size → lvset H' α' k → lvset H α k
  dead : ∀ i, H.get i = some .dead → H'.get i = some .dead
  fz : ∀ x, w'.frozen? x = w.frozen? x
theorem Ext.refl (H : Heap) (α : Al) (w : World) : Ext H α w H α w :=
  ⟨rfl, rfl, rfl, Nat.le_refl _, Nat.le_refl _, Sub.refl _, fun _ _ => rfl, fun _ _ _ => rfl, fun _ _ h => h, fun _ _ h => h, fun _ h => h, fun _ => rfl⟩
theorem Ext.trans {H H1 H2 : Heap} {α α1 α2 : Al} {w w1 w2 : World} (h : Ext H α w H1 α1 w1) (k : Ext H1 α1 w1 H2 α2 w2) : Ext H α w H2 α2 w2 :=
  ⟨k.os.trans h.os, k.tape.trans h.tape, k.output.trans h.output, Nat.le_trans h.size k.size, Nat.le_trans h.n k.n, h.sub.trans k.sub, fun i hi => (k.old i (Nat.lt_of_lt_of_le hi h.n)).trans (h.old i hi),
   fun i hi hr => (k.blk i (Nat.lt_of_lt_of_le hi h.size) (fun hh => hr (h.rw i hi hh))).trans (h.blk i hi hr),
   fun i hi hr => h.rw i hi (k.rw i (Nat.lt_of_lt_of_le hi h.size) hr), fun i hi hr => h.lv i hi (k.lv i (Nat.lt_of_lt_of_le hi h.size) hr), fun i hi => k.dead i (h.dead i hi), fun x => (k.fz x).trans (h.fz x)⟩

theorem OR.lt {P : Program} {base : Nat} {α : Al} {w : World} {i : Nat} {o : AObj} (h : OR P base α w i o) (hl : o.live = true) : ∃ L, α i = some L ∧ L.blk < w.heap.size := by
  cases o with
  | dead => cases hl
  | unborn => cases hl
  | cells T k cs => obtain ⟨L, c, fz, h1, h2, _⟩ := h; exact ⟨L, h1, (Array.getElem?_eq_some_iff.1 h2).1⟩
  | map es => obtain ⟨L, c, clk, h1, h2, _⟩ := h; exact ⟨L, h1, (Array.getElem?_eq_some_iff.1 h2).1⟩
theorem OR.base {P : Program} {base : Nat} {α : Al} {w : World} {i : Nat} {o : AObj} (h : OR P base α w i o) (hl : o.rw = true) : ∃ L, α i = some L ∧ base ≤ L.blk := by
  cases o with
  | dead => cases hl
  | unborn => cases hl
  | cells T k cs =>
    obtain ⟨L, c, fz, h1, h2, h3, h4, h5, _⟩ := h
    exact ⟨L, h1, (h5 (by simpa [AObj.rw] using hl)).1⟩
  | map es => obtain ⟨L, c, clk, h1, h2, h3, _⟩ := h; exact ⟨L, h1, h3⟩
/-- An object stays laid where its block stays. -/
theorem OR.move {P : Program} {base : Nat} {α α' : Al} {w w' : World} {i : Nat} {o : AObj} (h : OR P base α w i o) (hs : Sub α α') (he : α' i = α i) (hb : ∀ L, α i = some L → o.live = true → w'.heap[L.blk]? = w.heap[L.blk]?) : OR P base α' w' i o := by
  cases o with
  | dead => trivial
  | unborn => exact he.trans h
  | cells T k cs =>
    obtain ⟨L, c, fz, h1, h2, h3, h4, h5, h6⟩ := h
    exact ⟨L, c, fz, hs _ _ h1, (hb L h1 rfl).trans h2, h3, fun j a hj => by obtain ⟨v, hv, hr⟩ := h4 j a hj; exact ⟨v, hv, hr.mono hs⟩, h5, h6⟩
  | map es =>
    obtain ⟨L, c, clk, h1, h2, h3, h4⟩ := h
    exact ⟨L, c, clk, hs _ _ h1, (hb L h1 rfl).trans h2, h3, F2.imp (fun _ _ hh => ⟨hh.1.mono hs, hh.2.mono hs⟩) h4⟩
/-- Nothing changes in the heap, the world grows. -/
theorem R.move {P : Program} {base : Nat} {H : Heap} {α : Al} {w w' : World} (h : R P base H α w) (hs : w.heap.size ≤ w'.heap.size) (hb : ∀ k, k < w.heap.size → w'.heap[k]? = w.heap[k]?) : R P base H α w' :=
  ⟨Nat.le_trans h.bs hs, h.dom, fun i o ho => (h.obj i o ho).move (Sub.refl _) rfl (fun L hL hl => by
    obtain ⟨L', h1, h2⟩ := (h.obj i o ho).lt hl
    rw [hL] at h1; cases h1
    exact hb _ h2), h.sep⟩
theorem R.drew {P : Program} {base : Nat} {H : Heap} {α : Al} {w : World} (h : R P base H α w) : R P base H α w.drew := h.move (Nat.le_refl _) fun _ _ => rfl
theorem Ext.drew (H : Heap) (α : Al) (w : World) : Ext H α w H α w.drew :=
  ⟨rfl, rfl, rfl, Nat.le_refl _, Nat.le_refl _, Sub.refl _, fun _ _ => rfl, fun _ _ _ => rfl, fun _ _ h => h, fun _ _ h => h, fun _ h => h, fun _ => rfl⟩

/-! ### a new object; an object written; an object that goes -/
theorem frozen_map (w : World) (c : Array MapEntry) (k : Nat) (x : Addr) : (w.alloc (.map c k)).frozen? x = w.frozen? x := by
  by_cases h : x.block = w.heap.size
  · have e1 : (w.alloc (.map c k)).heap[x.block]? = some (.map c k) := by rw [h]; exact heap_alloc_new w _
    have e2 : w.heap[x.block]? = none := by rw [h]; simp
    simp [World.frozen?, e1, e2]
  · exact World.frozen?_alloc_old _ _ _ h
theorem frozen_row {w : World} {g : Nat} {cs : Array Value} (x : Addr) : (w.setRow g cs).frozen? x = w.frozen? x := by
  unfold World.frozen? World.setRow
  simp only [Array.getElem?_modify]
  by_cases h : g = x.block
  · rw [if_pos h]
    cases he : w.heap[x.block]? with
    | none => rfl
    | some o => cases o <;> rfl
  · rw [if_neg h]
theorem frozen_setMap {w : World} {g : Nat} {c : Array MapEntry} {k : Nat} {c0 : Array MapEntry} {k0 : Nat} (h0 : w.heap[g]? = some (.map c0 k0)) (x : Addr) : ({ w with heap := w.heap.setIfInBounds g (.map c k) } : World).frozen? x = w.frozen? x := by
  unfold World.frozen?
  by_cases h : g = x.block
  · subst h
    rw [Array.getElem?_setIfInBounds_self_of_lt (Array.getElem?_eq_some_iff.1 h0).1, h0]
  · rw [Array.getElem?_setIfInBounds_ne h]
def upd (α : Al) (n : Nat) (L : Loc) : Al := fun i => if i = n then some L else α i
theorem sub_upd {α : Al} {n : Nat} {L : Loc} (h : α n = none) : Sub α (upd α n L) := fun i K hi => by
  unfold upd
  split
  · subst_vars; rw [h] at hi; cases hi
  · exact hi
theorem upd_self (α : Al) (n : Nat) (L : Loc) : upd α n L n = some L := by simp [upd]
theorem upd_ne {α : Al} {n i : Nat} {L : Loc} (h : i ≠ n) : upd α n L i = α i := by simp [upd, h]
theorem alloc_set (f : AObj → Bool) {H : Heap} {α : Al} {o : AObj} {L : Loc} {k : Nat} (hk : k < L.blk) (h : blkset f (H.push o) (upd α H.n L) k) : blkset f H α k := by
  obtain ⟨i, oi, Li, h1, h2, h3, h4⟩ := h
  rw [Heap.get_push] at h1
  by_cases e : i = H.n
  · subst e; rw [upd_self] at h3; cases h3; omega
  · rw [if_neg e] at h1; rw [upd_ne e] at h3; exact ⟨i, oi, Li, h1, h2, h3, h4⟩
theorem dead_push {H : Heap} {o : AObj} {i : Nat} (h : H.get i = some .dead) : (H.push o).get i = some .dead := by
  rw [Heap.get_push, if_neg (Nat.ne_of_lt (Heap.get_lt h))]; exact h
theorem Ext.alloc_obj {H : Heap} {α : Al} {w : World} {O : Obj} {o : AObj} {L : Loc} (hd : α H.n = none) (hL : L.blk = w.heap.size) (hf : ∀ x, (w.alloc O).frozen? x = w.frozen? x) : Ext H α w (H.push o) (upd α H.n L) (w.alloc O) :=
  ⟨rfl, rfl, rfl, by simp, by simp, sub_upd hd, fun i hi => upd_ne (by omega), fun k hk _ => heap_alloc_old w O hk, fun _ hk hr => alloc_set _ (by omega) hr, fun _ hk hr => alloc_set _ (by omega) hr, fun _ h => dead_push h, hf⟩
theorem R.alloc {P : Program} {base : Nat} {H : Heap} {α : Al} {w : World} {O : Obj} {o : AObj} {L : Loc} (h : R P base H α w) (hL : L.blk = w.heap.size) (hO : OR P base (upd α H.n L) (w.alloc O) H.n o) :
    R P base (H.push o) (upd α H.n L) (w.alloc O) := by
  have hs : Sub α (upd α H.n L) := sub_upd (h.dom _ (Nat.le_refl _))
  refine ⟨by have := h.bs; simp; omega, fun i hi => ?_, fun i oi hi => ?_, fun i j oi oj Li Lj hij hi hri hj hlj hLi hLj => ?_⟩
  · rw [Heap.n_push] at hi; rw [upd_ne (by omega)]; exact h.dom i (by omega)
  · rw [Heap.get_push] at hi
    by_cases e : i = H.n
    · subst e; rw [if_pos rfl] at hi; cases hi; exact hO
    · rw [if_neg e] at hi
      refine (h.obj i oi hi).move hs (upd_ne e) fun L' h1 h2 => ?_
      obtain ⟨L'', h3, h4⟩ := (h.obj i oi hi).lt h2
      rw [h1] at h3; cases h3
      exact heap_alloc_old w O h4
  · have old : ∀ {k ok Lk}, k ≠ H.n → (H.push o).get k = some ok → ok.live = true → upd α H.n L k = some Lk → H.get k = some ok ∧ α k = some Lk ∧ Lk.blk < w.heap.size := fun {k ok Lk} hk h1 h2 h3 => by
      rw [Heap.get_push, if_neg hk] at h1
      rw [upd_ne hk] at h3
      obtain ⟨L'', h4, h5⟩ := (h.obj k ok h1).lt h2
      rw [h3] at h4; cases h4
      exact ⟨h1, h3, h5⟩
    by_cases ei : i = H.n
    · obtain ⟨_, _, h7⟩ := old (fun e => hij (ei.trans e.symm)) hj hlj hLj
      subst ei; rw [upd_self] at hLi; cases hLi; omega
    · obtain ⟨h1, h2, h3⟩ := old ei hi (AObj.live_of_rw hri) hLi
      by_cases ej : j = H.n
      · subst ej; rw [upd_self] at hLj; cases hLj; omega
      · obtain ⟨h4, h5, _⟩ := old ej hj hlj hLj
        exact h.sep i j oi oj Li Lj hij h1 hri h4 hlj h2 h5
/-- Block b of a row that may be written is turned. -/
theorem R.write {P : Program} {base : Nat} {H : Heap} {α : Al} {w w' : World} {i : Nat} {o o' : AObj} {L : Loc} (h : R P base H α w) (hi : H.get i = some o) (hr : o.rw = true) (hL : α i = some L)
    (_ : o'.rw = true) (hst : w'.os = w.os ∧ w'.tape = w.tape ∧ w'.output = w.output) (hsz : w'.heap.size = w.heap.size) (hb : ∀ k, k ≠ L.blk → w'.heap[k]? = w.heap[k]?) (hf : ∀ x, w'.frozen? x = w.frozen? x) (hO : OR P base α w' i o') :
    R P base (H.set i o') α w' ∧ Ext H α w (H.set i o') α w' := by
  have hin := Heap.get_lt hi
  have rwe : ∀ (f : AObj → Bool) k, f o = true → blkset f (H.set i o') α k → blkset f H α k := fun f k hr hk => by
    obtain ⟨j, oj, Lj, h1, h2, h3, h4⟩ := hk
    rw [Heap.get_set _ _ _ _ hin] at h1
    by_cases e : j = i
    · subst e; exact ⟨j, o, Lj, hi, hr, h3, h4⟩
    · rw [if_neg e] at h1; exact ⟨j, oj, Lj, h1, h2, h3, h4⟩
  refine ⟨⟨by rw [hsz]; exact h.bs, h.dom, fun j oj hj => ?_, fun j k oj ok Lj Lk hjk hj hrj hk hlk hLj hLk => ?_⟩, ⟨hst.1, hst.2.1, hst.2.2, by omega, Nat.le_refl _, Sub.refl _, fun _ _ => rfl, fun k hk hnr => hb k ?_, fun k _ hk => rwe _ k hr hk, fun k _ hk => rwe _ k (AObj.live_of_rw hr) hk, fun j hj => by
    rw [Heap.get_set _ _ _ _ hin, if_neg (fun e => by subst e; rw [hi] at hj; cases hj; cases hr)]; exact hj, hf⟩⟩
  · rw [Heap.get_set _ _ _ _ hin] at hj
    by_cases e : j = i
    · subst e; rw [if_pos rfl] at hj; cases hj; exact hO
    · rw [if_neg e] at hj
      exact (h.obj j oj hj).move (Sub.refl _) rfl fun L' h1 h2 => hb _ (Ne.symm (h.sep i j o oj L L' (Ne.symm e) hi hr hj h2 hL h1))
  · rw [Heap.get_set _ _ _ _ hin] at hj hk
    have h1 : ∃ oj', H.get j = some oj' ∧ oj'.rw = true := by
      by_cases e : j = i
      · subst e; exact ⟨o, hi, hr⟩
      · rw [if_neg e] at hj; exact ⟨oj, hj, hrj⟩
    have h2 : ∃ ok', H.get k = some ok' ∧ ok'.live = true := by
      by_cases e : k = i
      · subst e; exact ⟨o, hi, AObj.live_of_rw hr⟩
      · rw [if_neg e] at hk; exact ⟨ok, hk, hlk⟩
    obtain ⟨oj', a1, a2⟩ := h1
    obtain ⟨ok', b1, b2⟩ := h2
    exact h.sep j k oj' ok' Lj Lk hjk a1 a2 b1 b2 hLj hLk
  · rintro rfl; exact hnr ⟨i, o, L, hi, hr, hL, rfl⟩
/-- An object is given up. -/
theorem R.kill {P : Program} {base : Nat} {H : Heap} {α : Al} {w : World} {i : Nat} (h : R P base H α w) (hi : i < H.n) : R P base (H.set i .dead) α w := by
  refine ⟨h.bs, h.dom, fun j oj hj => ?_, fun j k oj ok Lj Lk hjk hj hrj hk hlk hLj hLk => ?_⟩
  · rw [Heap.get_set _ _ _ _ hi] at hj
    by_cases e : j = i
    · subst e; rw [if_pos rfl] at hj; cases hj; trivial
    · rw [if_neg e] at hj; exact h.obj j oj hj
  · rw [Heap.get_set _ _ _ _ hi] at hj hk
    by_cases e : j = i
    · subst e; rw [if_pos rfl] at hj; cases hj; cases hrj
    · rw [if_neg e] at hj
      by_cases e' : k = i
      · subst e'; rw [if_pos rfl] at hk; cases hk; cases hlk
      · rw [if_neg e'] at hk; exact h.sep j k oj ok Lj Lk hjk hj hrj hk hlk hLj hLk
theorem kill_set (f : AObj → Bool) (hf : f .dead = false) {H : Heap} {α : Al} {i k : Nat} (hi : i < H.n) (h : blkset f (H.set i .dead) α k) : blkset f H α k := by
  obtain ⟨j, oj, Lj, h1, h2, h3, h4⟩ := h
  rw [Heap.get_set _ _ _ _ hi] at h1
  by_cases e : j = i
  · subst e; rw [if_pos rfl] at h1; cases h1; rw [hf] at h2; cases h2
  · rw [if_neg e] at h1; exact ⟨j, oj, Lj, h1, h2, h3, h4⟩
theorem dead_kill {H : Heap} {i j : Nat} (hi : i < H.n) (h : H.get j = some .dead) : (H.set i .dead).get j = some .dead := by
  rw [Heap.get_set _ _ _ _ hi]; split
  · rfl
  · exact h
theorem Ext.kill {H : Heap} {α : Al} {w : World} {i : Nat} (hi : i < H.n) : Ext H α w (H.set i .dead) α w :=
  ⟨rfl, rfl, rfl, Nat.le_refl _, Nat.le_refl _, Sub.refl _, fun _ _ => rfl, fun _ _ _ => rfl, fun _ _ hk => kill_set _ rfl hi hk, fun _ _ hk => kill_set _ rfl hi hk, fun _ h => dead_kill hi h, fun _ => rfl⟩
end Go.Ea
end

/-
  THE ENGINE, part 2: what each operation does to abstract values and the abstract heap. Over any program. Written in this session.
-/
section
namespace Go.Ea

/-- Two texts, byte by byte. -/
noncomputable def eqS (x : List UInt8) : List UInt8 → Bool :=
  List.rec (motive := fun _ => List UInt8 → Bool) (fun y => List.casesOn y true (fun _ _ => false)) (fun a _ ih y => List.casesOn y false (fun b m => bif Nat.beq a.toNat b.toNat then ih m else false)) x
theorem eqS_eq : ∀ x y : List UInt8, eqS x y = (x == y)
  | [], [] => rfl
  | [], _ :: _ => rfl
  | _ :: _, [] => rfl
  | a :: x, b :: y => by
    show (bif Nat.beq a.toNat b.toNat then eqS x y else false) = _
    rw [eqS_eq x y, List.cons_beq_cons]
    by_cases e : a = b
    · subst e; simp
    · have : Nat.beq a.toNat b.toNat = false := by
        rw [Bool.eq_false_iff]; intro h; exact e (UInt8.toNat_inj.1 (Nat.eq_of_beq_eq_true h))
      rw [this, (beq_eq_false_iff_ne).2 e]; rfl
/-- Wrapping, at once where nothing wraps. -/
def half : IntKind → Nat
  | .i8 => 128 | .i16 => 32768 | .i32 => 2147483648 | .i64 => 9223372036854775808
  | .u8 => 256 | .u16 => 65536 | .u32 => 4294967296 | .u64 => 18446744073709551616
def sgn : IntKind → Bool
  | .i8 | .i16 | .i32 | .i64 => true
  | _ => false
def wrapA (k : IntKind) (n : Int) : Int := match n with
  | .ofNat m => bif Nat.blt m (half k) then .ofNat m else k.wrap (.ofNat m)
  | .negSucc m => bif sgn k && Nat.blt m (half k) then .negSucc m else k.wrap (.negSucc m)
theorem wrap_num (k : IntKind) (n M h : Int) (hM : (2 ^ k.bits : Int) = M) (hh : (2 ^ (k.bits - 1) : Int) = h) : k.wrap n = if k.signed = true ∧ h ≤ n % M then n % M - M else n % M := by
  unfold IntKind.wrap
  rw [hM, hh]
  by_cases c : k.signed = true ∧ h ≤ n % M
  · rw [if_pos c, if_pos (by simp [c.1, c.2])]
  · rw [if_neg c, if_neg (by simpa using c)]
theorem wrapA_eq (k : IntKind) (n : Int) : wrapA k n = k.wrap n := by
  have w8 := wrap_num .i8 n 256 128 rfl rfl
  have w16 := wrap_num .i16 n 65536 32768 rfl rfl
  have w32 := wrap_num .i32 n 4294967296 2147483648 rfl rfl
  have w64 := wrap_num .i64 n 18446744073709551616 9223372036854775808 rfl rfl
  have u8 := wrap_num .u8 n 256 128 rfl rfl
  have u16 := wrap_num .u16 n 65536 32768 rfl rfl
  have u32 := wrap_num .u32 n 4294967296 2147483648 rfl rfl
  have u64 := wrap_num .u64 n 18446744073709551616 9223372036854775808 rfl rfl
  simp only [IntKind.signed, true_and, false_and, if_false, Bool.false_eq_true] at w8 w16 w32 w64 u8 u16 u32 u64
  cases n with
  | ofNat m =>
    simp only [Int.ofNat_eq_natCast] at w8 w16 w32 w64 u8 u16 u32 u64
    simp only [wrapA, cond_eq_ite, Nat.blt_eq, Int.ofNat_eq_natCast]
    split
    · rename_i h
      cases k <;> simp only [half] at h <;> first
        | (rw [w8, if_neg (by omega)]; omega)
        | (rw [w16, if_neg (by omega)]; omega)
        | (rw [w32, if_neg (by omega)]; omega)
        | (rw [w64, if_neg (by omega)]; omega)
        | (rw [u8]; omega)
        | (rw [u16]; omega)
        | (rw [u32]; omega)
        | (rw [u64]; omega)
    · rfl
  | negSucc m =>
    simp only [Int.negSucc_eq] at w8 w16 w32 w64
    simp only [wrapA, cond_eq_ite, Bool.and_eq_true, Nat.blt_eq, Int.negSucc_eq]
    split
    · rename_i h
      obtain ⟨h1, h⟩ := h
      cases k <;> simp only [sgn, Bool.false_eq_true] at h1 <;> simp only [half] at h <;> first
        | (rw [w8, if_pos (by omega)]; omega)
        | (rw [w16, if_pos (by omega)]; omega)
        | (rw [w32, if_pos (by omega)]; omega)
        | (rw [w64, if_pos (by omega)]; omega)
    · rfl
/-- 0 ≤ i < n. -/
def inR : Int → Nat → Bool
  | .ofNat m, n => Nat.blt m n
  | .negSucc _, _ => false
theorem inR_iff (i : Int) (n : Nat) : inR i n = true ↔ 0 ≤ i ∧ i < n := by
  cases i with
  | ofNat m => simp [inR, Nat.blt_eq]
  | negSucc m => simp [inR]
/-- Constants of the code. -/
def cvA : Value → Option AT
  | .bool b => some (.bool b)
  | .int k n => some (.int k n)
  | .string s => some (.str s.data.toList)
  | .pointer none => some (.ptr none)
  | .slice none 0 0 => some (.slice none 0)
  | .map none => some (.map none)
  | .nilFunc => some .nilFn
  | .nilIface => some .nilIf
  | _ => none
def cvL : List Value → Option (List AT)
  | [] => some []
  | v :: r => match cvA v, cvL r with
    | some a, some l => some (a :: l)
    | _, _ => none
def cv1 : Value → Option A1
  | .agg cs => match cvL cs.toList with
    | some l => some (.agg l)
    | none => none
  | v => match cvA v with
    | some a => some (.at a)
    | none => none
noncomputable def rho (env : Nat → Option AV) : Operand → Option AV
  | .tmp t => env t
  | .const v => match cv1 v with
    | some x => some (.one x)
    | none => none
  | .func f => some (.one (.at (.fn f [])))
  | .global _ => none
noncomputable def rhos (env : Nat → Option AV) (l : List Operand) : Option (List AV) :=
  List.rec (some []) (fun x _ ih => match rho env x, ih with
    | some a, some l => some (a :: l)
    | _, _ => none) l

inductive OpR where
  | val (v : AV) (H : Heap)
  | call (f : Nat) (args : List AV)

abbrev at' (a : AT) : AV := .one (.at a)

def infoOf (P : Program) (t : TypeId) : Option TypeInfo := P.info? t
def sizeO (P : Program) (t : TypeId) : Option Nat := match P.info? t with | some i => some i.size | none => none
def isAggD : TypeDesc → Bool
  | .struct _ | .array _ _ => true
  | _ => false
def zeroOf (P : Program) (t : TypeId) : Option A1 := match P.info? t with
  | some i => match i.zero with
    | some z => cv1 z
    | none => none
  | none => none

/-- The cells from o on are these. -/
def putL (cs : List AT) (o : Nat) (xs : List AT) : List AT := cs.take o ++ xs ++ cs.drop (o + xs.length)
def fillA (place : Nat → Option (Nat × Nat)) : List AT → List (Nat × AV) → Option (List AT)
  | cs, [] => some cs
  | cs, (i, .one x) :: r => match place i with
    | some (off, size) => bif Nat.beq x.cells.length size && Nat.ble (off + size) cs.length then fillA place (putL cs off x.cells) r else none
    | none => none
  | _, (_, .tup _) :: _ => none
noncomputable def partsOf (env : Nat → Option AV) (l : List (Nat × Operand)) : Option (List (Nat × AV)) :=
  List.rec (some []) (fun x _ ih => match rho env x.2, ih with
    | some a, some l => some ((x.1, a) :: l)
    | _, _ => none) l

def partA (P : Program) (t : TypeId) (cs : List AT) (off : Nat) : Option A1 := match P.underlying t, sizeO P t with
  | some d, some n => bif isAggD d then (bif Nat.ble (off + n) cs.length then some (.agg ((cs.drop off).take n)) else none) else match cs[off]? with
    | some a => some (.at a)
    | none => none
  | _, _ => none

def bitsV (op : BinOp) (k : IntKind) (x y : Int) : Option Int :=
  match op with
  | .and => some (k.wrap (BitVec.ofInt k.bits x &&& BitVec.ofInt k.bits y).toNat)
  | .or => some (k.wrap (BitVec.ofInt k.bits x ||| BitVec.ofInt k.bits y).toNat)
  | .xor => some (k.wrap (BitVec.ofInt k.bits x ^^^ BitVec.ofInt k.bits y).toNat)
  | .andNot => some (k.wrap (BitVec.ofInt k.bits x &&& ~~~BitVec.ofInt k.bits y).toNat)
  | _ => none
def binI (op : BinOp) (k : IntKind) (x y : Int) : Option AT :=
  match op with
  | .add => some (.int k (wrapA k (x + y)))
  | .sub => some (.int k (wrapA k (x - y)))
  | .mul => some (.int k (wrapA k (x * y)))
  | .quo => if y = 0 then none else some (.int k (k.wrap (x.tdiv y)))
  | .rem => if y = 0 then none else some (.int k (x.tmod y))
  | .eql => some (.bool (x == y))
  | .neq => some (.bool (x != y))
  | .lss => some (.bool (decide (x < y)))
  | .leq => some (.bool (decide (x ≤ y)))
  | .gtr => some (.bool (decide (x > y)))
  | .geq => some (.bool (decide (x ≥ y)))
  | .and | .or | .xor | .andNot => match bitsV op k x y with
    | some n => some (.int k n)
    | none => none
  | _ => none
def shiftI (op : BinOp) (k : IntKind) (x y : Int) : Option AT :=
  if y < 0 then none else match op with
  | .shl => some (.int k (k.wrap (x * 2 ^ (min y.toNat k.bits))))
  | .shr => some (.int k (x.fdiv (2 ^ (min y.toNat k.bits))))
  | _ => none
def isShift : BinOp → Bool
  | .shl | .shr => true
  | _ => false
noncomputable def binS (op : BinOp) (x y : List UInt8) : Option AT :=
  match op with
  | .add => if x.length + y.length ≤ 4611686018427387904 then some (.str (x ++ y)) else none
  | .eql => some (.bool (eqS x y))
  | .neq => some (.bool !(eqS x y))
  | .lss => some (.bool (Op.bytesLess x y))
  | .leq => some (.bool (Op.bytesLess x y || eqS x y))
  | .gtr => some (.bool !(Op.bytesLess x y || eqS x y))
  | .geq => some (.bool !(Op.bytesLess x y))
  | _ => none
def isBoolD : Option TypeDesc → Bool
  | some .bool => true
  | _ => false
/-- Two cells of scalars, as '==' has it. -/
noncomputable def eqA : AT → AT → Option Bool
  | .int _ x, .int _ y => some (x == y)
  | .str x, .str y => some (eqS x y)
  | .bool x, .bool y => some (x == y)
  | _, _ => none
noncomputable def eqL : List AT → List AT → Option Bool
  | [], [] => some true
  | a :: l, b :: m => match eqA a b, eqL l m with
    | some x, some y => some (x && y)
    | _, _ => none
  | _, _ => none
inductive Sh where
  | int (k : IntKind)
  | str
  | bool
  | other
  deriving DecidableEq
def shp : AT → Sh
  | .int k _ => .int k
  | .str _ => .str
  | .bool _ => .bool
  | _ => .other
abbrev Eqs := List (TypeId × List Sh)
def shOf (t : TypeId) : Eqs → Option (List Sh)
  | [] => none
  | (u, s) :: r => bif Nat.beq u t then some s else shOf t r
/-- eqs: the struct types whose '==' goes cell by cell (shown for each program on its own). -/
noncomputable def binA (P : Program) (eqs : Eqs) (op : BinOp) (t : TypeId) : AV → AV → Option AT
  | .one (.at (.int k x)), .one (.at (.int k' y)) => bif isShift op then shiftI op k x y else if k = k' then binI op k x y else none
  | .one (.at (.str x)), .one (.at (.str y)) => binS op x y
  | .one (.at (.bool x)), .one (.at (.bool y)) => bif isBoolD (P.underlying t) then match op with
    | .eql => some (.bool (x == y))
    | .neq => some (.bool !(x == y))
    | _ => none else none
  | .one (.agg xs), .one (.agg ys) => match shOf t eqs with
    | some s => if xs.map shp = s ∧ ys.map shp = s then match op, eqL xs ys with
      | .eql, some b => some (.bool b)
      | .neq, some b => some (.bool !b)
      | _, _ => none else none
    | none => none
  | _, _ => none
def unA (op : UnOp) : AV → Option AT
  | .one (.at (.int k n)) => match op with
    | .neg => some (.int k (wrapA k (0 - n)))
    | .xor => match bitsV .xor k (if k.signed then -1 else k.max) n with
      | some m => some (.int k m)
      | none => none
    | _ => none
  | .one (.at (.bool b)) => match op with
    | .not => some (.bool !b)
    | _ => none
  | _ => none
/-- The bytes of a row. -/
def bytesA : List AT → Option (List UInt8)
  | [] => some []
  | .int .u8 n :: r => match bytesA r with
    | some l => some (UInt8.ofNat n.toNat :: l)
    | none => none
  | _ :: _ => none
noncomputable def rowA (H : Heap) (id o n : Nat) : Option (List AT) := match H.get id with
  | some (.cells _ _ cs) => bif Nat.ble (o + n) cs.length then some ((cs.drop o).take n) else none
  | _ => none
def isU8 : Option TypeDesc → Bool
  | some (.int .u8) => true
  | _ => false
noncomputable def convA (P : Program) (H : Heap) (src dst : TypeId) : AV → Option AT
  | .one (.at (.int _ n)) => match P.underlying src, P.underlying dst with
    | some (.int _), some (.int k) => some (.int k (wrapA k n))
    | _, _ => none
  | .one (.at (.slice (some (id, o)) n)) => match P.underlying src, P.underlying dst with
    | some (.slice e), some .string => bif isU8 (P.underlying e) then match rowA H id o n with
      | some cs => match bytesA cs with
        | some l => some (.str l)
        | none => none
      | none => none else none
    | _, _ => none
  | _ => none
def capsA : List AV → Option (List (Nat × Nat))
  | [] => some []
  | .one (.at (.ptr (some p))) :: r => match capsA r with
    | some l => some (p :: l)
    | none => none
  | _ :: _ => none
def intA : AV → Option Int
  | .one (.at (.int _ n)) => some n
  | _ => none
/-- A bound of a cut: none stands for d. -/
noncomputable def boundA (env : Nat → Option AV) (d : Nat) : Option Operand → Option Nat
  | none => some d
  | some x => match rho env x with
    | some v => match intA v with
      | some n => if 0 ≤ n then some n.toNat else none
      | none => none
    | none => none
noncomputable def keyA : AT → AT → Option Bool
  | .int k x, .int k' y => if k = k' then some (x == y) else none
  | .str x, .str y => some (eqS x y)
  | .bool x, .bool y => some (x == y)
  | _, _ => none
/-- The place of a key. -/
noncomputable def findA (k : AT) : List (AT × A1) → Nat → Option (Option (Nat × A1))
  | [], _ => some none
  | e :: r, i => match keyA k e.1 with
    | some true => some (some (i, e.2))
    | some false => findA k r (i + 1)
    | none => none
/-- Kinds of keys that are looked at as they stand. -/
def keyD : Option TypeDesc → AT → Bool
  | some (.int _), .int _ _ => true
  | some .string, .str _ => true
  | some .bool, .bool _ => true
  | _, _ => false
noncomputable def lookupA (P : Program) (H : Heap) (t : TypeId) (m : AV) (k : AV) (ok : Bool) : Option AV :=
  match P.underlying t, m, k with
  | some (.map kt et), .one (.at (.map (some id))), .one (.at key) => bif keyD (P.underlying kt) key then match H.get id with
    | some (.map es) => match findA key es 0 with
      | some (some (_, x)) => some (if ok then .tup [x, .at (.bool true)] else .one x)
      | some none => match zeroOf P et with
        | some z => some (if ok then .tup [z, .at (.bool false)] else .one z)
        | none => none
      | none => none
    | _ => none else none
  | _, _, _ => none
noncomputable def updateA (P : Program) (H : Heap) (t : TypeId) (m k v : AV) : Option Heap :=
  match P.underlying t, m, k, v with
  | some (.map kt _), .one (.at (.map (some id))), .one (.at key), .one x => bif keyD (P.underlying kt) key then match H.get id with
    | some (.map es) => match findA key es 0 with
      | some (some (i, _)) => some (H.set id (.map (es.set i (key, x))))
      | some none => some (H.set id (.map (es ++ [(key, x)])))
      | none => none
    | _ => none else none
  | _, _, _, _ => none
/-- append's second operand: a row, or nothing. -/
noncomputable def srcA (_ : Program) (H : Heap) (size : Nat) : AV → Option (Nat × List AT)
  | .one (.at (.slice none _)) => some (0, [])
  | .one (.at (.slice (some (id, o)) n)) => bif Nat.beq n 0 then some (0, []) else match rowA H id o (n * size) with
    | some cs => some (n, cs)
    | none => none
  | _ => none
def isSliceD : Option TypeDesc → Option TypeId
  | some (.slice e) => some e
  | _ => none
noncomputable def appendA (P : Program) (H : Heap) (t t2 : TypeId) (s x : AV) : Option (AV × Heap) :=
  match isSliceD (P.underlying t), isSliceD (P.underlying t2) with
  | some e, some _ => bif !Nat.beq t t2 then none else match P.info? e with
    | some i => bif Nat.beq i.size 0 then none else match i.zero with
      | some z => bif Nat.beq z.cells.size i.size then match srcA P H i.size x with
        | some (m, new) => match s with
          | .one (.at (.slice none _)) => bif Nat.beq m 0 then some (s, H) else
            bif Nat.ble (m * i.bytes) 140737488355328 && Nat.ble m 9223372036854775807 then some (at' (.slice (some (H.n, 0)) m), H.push (.cells e 2 new)) else none
          | .one (.at (.slice (some (id, o)) n)) => bif Nat.beq m 0 then some (s, H) else match H.get id with
            | some (.cells T k cs) => bif Nat.beq T e && Nat.beq k 2 && Nat.beq o 0 && Nat.beq cs.length (n * i.size) && Nat.ble ((n + m) * i.bytes) 140737488355328 && Nat.ble (n + m) 9223372036854775807 then
              some (at' (.slice (some (H.n, 0)) (n + m)), (H.set id .dead).push (.cells e 2 (cs ++ new))) else none
            | _ => none
          | _ => none
        | none => none else none
      | none => none
    | none => none
  | _, _ => none
noncomputable def lenA (P : Program) (H : Heap) (t : TypeId) : AV → Option Nat
  | .one (.at (.str s)) => match P.underlying t with
    | some .string => some s.length
    | _ => none
  | .one (.at (.slice _ n)) => match P.underlying t with
    | some (.slice _) => some n
    | _ => none
  | .one (.at (.map (some id))) => match P.underlying t, H.get id with
    | some (.map _ _), some (.map es) => some es.length
    | _, _ => none
  | _ => none
def foldI (f : Int → Int → Int) : List AV → Option AT
  | [.one (.at (.int k a)), .one (.at (.int k' b))] => if k = k' then some (.int k (f a b)) else none
  | [.one (.at (.int k a)), .one (.at (.int k' b)), .one (.at (.int k'' c))] => if k = k' ∧ k' = k'' then some (.int k (f (f a b) c)) else none
  | _ => none
noncomputable def builtinA (P : Program) (H : Heap) (b : Builtin) (ts : List TypeId) (vs : List AV) : Option (AV × Heap) :=
  match b, ts, vs with
  | .len, t :: _, v :: _ => match lenA P H t v with
    | some n => some (at' (.int .i64 n), H)
    | none => none
  | .append, [t, t2], [s, x] => appendA P H t t2 s x
  | .max, _, vs => match foldI (fun x y => if y > x then y else x) vs with
    | some a => some (at' a, H)
    | none => none
  | .min, _, vs => match foldI (fun x y => if y < x then y else x) vs with
    | some a => some (at' a, H)
    | none => none
  | _, _, _ => none

def fieldO (P : Program) (s : TypeId) (f : Nat) : Option (TypeId × Nat) := match P.underlying s with
  | some (.struct fields) => match fields[f]? with
    | some x => some (x.type, x.offset)
    | none => none
  | _ => none

set_option linter.unusedVariables false
noncomputable def op_move (x : Operand) (P : Program) (eqs : Eqs) (env : Nat → Option AV) (H : Heap) : Option OpR :=
  match rho env x with
    | some v => some (.val v H)
    | none => none
noncomputable def op_pick (c a b : Operand) (P : Program) (eqs : Eqs) (env : Nat → Option AV) (H : Heap) : Option OpR :=
  match rho env c with
    | some (.one (.at (.bool t))) => match rho env (bif t then a else b) with
      | some v => some (.val v H)
      | none => none
    | _ => none
noncomputable def op_alloc (T : TypeId) (P : Program) (eqs : Eqs) (env : Nat → Option AV) (H : Heap) : Option OpR :=
  match zeroOf P T with
    | some x => some (.val (at' (.ptr (some (H.n, 0)))) (H.push (.cells T 1 x.cells)))
    | none => none
noncomputable def op_box (T : TypeId) (x : Operand) (P : Program) (eqs : Eqs) (env : Nat → Option AV) (H : Heap) : Option OpR :=
  match rho env x with
    | some (.one a) => some (.val (at' (.ptr (some (H.n, 0)))) (H.push (.cells T 1 a.cells)))
    | _ => none
noncomputable def placesA (P : Program) (l : List Field) : Option (List (Nat × Nat)) :=
  List.rec (some []) (fun f _ ih => match sizeO P f.type, ih with
    | some n, some r => some ((f.offset, n) :: r)
    | _, _ => none) l
noncomputable def op_build (T : TypeId) (parts : Array (Nat × Operand)) (P : Program) (eqs : Eqs) (env : Nat → Option AV) (H : Heap) : Option OpR :=
  match zeroOf P T, P.underlying T, partsOf env parts.toList with
    | some (.agg z), some (.struct fields), some ps => match placesA P fields.toList with
      | some pl => match fillA (fun i => pl[i]?) z ps with
        | some cs => some (.val (.one (.agg cs)) H)
        | none => none
      | none => none
    | some (.agg z), some (.array _ e), some ps => match sizeO P e with
      | some n => match fillA (fun i => some (i * n, n)) z ps with
        | some cs => some (.val (.one (.agg cs)) H)
        | none => none
      | none => none
    | _, _, _ => none
noncomputable def op_buildSlice (T : TypeId) (len : Nat) (parts : Array (Nat × Operand)) (P : Program) (eqs : Eqs) (env : Nat → Option AV) (H : Heap) : Option OpR :=
  match isSliceD (P.underlying T), partsOf env parts.toList with
    | some e, some ps => match sizeO P e, zeroOf P e with
      | some n, some z => bif Nat.ble (len * n) 16777216 && Nat.ble 1 n && Nat.beq z.cells.length n && Nat.ble len 9223372036854775807 then
          match fillA (fun i => some (i * n, n)) ((List.range (len * n)).map fun i => (z.cells[i % z.cells.length]?).getD .nilIf) ps with
        | some cs => some (.val (at' (.slice (some (H.n, 0)) len)) (H.push (.cells e 2 cs)))
        | none => none else none
      | _, _ => none
    | _, _ => none
noncomputable def op_load (T : TypeId) (a : Operand) (P : Program) (eqs : Eqs) (env : Nat → Option AV) (H : Heap) : Option OpR :=
  match rho env a with
    | some (.one (.at (.ptr (some (id, o))))) => match H.get id with
      | some (.cells _ _ cs) => match partA P T cs o with
        | some x => some (.val (.one x) H)
        | none => none
      | _ => none
    | _ => none
noncomputable def op_store (T : TypeId) (a x : Operand) (P : Program) (eqs : Eqs) (env : Nat → Option AV) (H : Heap) : Option OpR :=
  match rho env a, rho env x, sizeO P T with
    | some (.one (.at (.ptr (some (id, o))))), some (.one x), some n => match H.get id with
      | some (.cells T' k cs) => bif Nat.beq x.cells.length n && Nat.ble (o + n) cs.length && !Nat.beq k 0 then
          some (.val .undef (H.set id (.cells T' k (putL cs o x.cells)))) else none
      | _ => none
    | _, _, _ => none
noncomputable def op_nilCheck (x : Operand) (P : Program) (eqs : Eqs) (env : Nat → Option AV) (H : Heap) : Option OpR :=
  match rho env x with
    | some (.one (.at (.ptr (some p)))) => some (.val (at' (.ptr (some p))) H)
    | some (.one (.at (.fn f cs))) => some (.val (at' (.fn f cs)) H)
    | _ => none
noncomputable def op_binOp (op : BinOp) (t : TypeId) (x y : Operand) (_ : TypeId) (P : Program) (eqs : Eqs) (env : Nat → Option AV) (H : Heap) : Option OpR :=
  match rho env x, rho env y with
    | some u, some v => match binA P eqs op t u v with
      | some a => some (.val (at' a) H)
      | none => none
    | _, _ => none
noncomputable def op_unOp (op : UnOp) (_ : TypeId) (x : Operand) (P : Program) (eqs : Eqs) (env : Nat → Option AV) (H : Heap) : Option OpR :=
  match rho env x with
    | some v => match unA op v with
      | some a => some (.val (at' a) H)
      | none => none
    | none => none
noncomputable def op_convert (s d : TypeId) (x : Operand) (P : Program) (eqs : Eqs) (env : Nat → Option AV) (H : Heap) : Option OpR :=
  match rho env x with
    | some v => match convA P H s d v with
      | some a => some (.val (at' a) H)
      | none => none
    | none => none
noncomputable def op_makeFunc (fn : Fn) (first caps : Array Operand) (P : Program) (eqs : Eqs) (env : Nat → Option AV) (H : Heap) : Option OpR :=
  match fn, first.toList, rhos env caps.toList with
    | .func f, [], some vs => match capsA vs with
      | some cs => some (.val (at' (.fn f cs)) H)
      | none => none
    | _, _, _ => none
noncomputable def op_makeMap (_ : TypeId) (r : Option Operand) (P : Program) (eqs : Eqs) (env : Nat → Option AV) (H : Heap) : Option OpR :=
  match r with
    | none => some (.val (at' (.map (some H.n))) (H.push (.map [])))
    | some _ => none
noncomputable def op_makeSlice (t : TypeId) (l c : Operand) (P : Program) (eqs : Eqs) (env : Nat → Option AV) (H : Heap) : Option OpR :=
  match isSliceD (P.underlying t), rho env l, rho env c with
    | some e, some l, some c => match P.info? e, zeroOf P e, intA l, intA c with
      | some i, some z, some n, some n' => if n = n' ∧ 0 ≤ n ∧ n * i.bytes ≤ 140737488355328 ∧ n ≤ 9223372036854775807 ∧ 0 < i.size ∧ z.cells.length = i.size then
          some (.val (at' (.slice (some (H.n, 0)) n.toNat)) (H.push (.cells e 2 ((List.range (n.toNat * i.size)).map fun j => (z.cells[j % z.cells.length]?).getD .nilIf)))) else none
      | _, _, _, _ => none
    | _, _, _ => none
noncomputable def op_slice (t : TypeId) (x : Operand) (lo hi mx : Option Operand) (P : Program) (eqs : Eqs) (env : Nat → Option AV) (H : Heap) : Option OpR :=
  match mx, rho env x with
    | none, some (.one (.at (.str s))) => match P.underlying t, boundA env 0 lo, boundA env s.length hi with
      | some .string, some l, some h => bif Nat.ble l h && Nat.ble h s.length then some (.val (at' (.str ((s.take h).drop l))) H) else none
      | _, _, _ => none
    | none, some (.one (.at (.slice (some (id, o)) n))) => match isSliceD (P.underlying t), boundA env 0 lo, boundA env n hi with
      | some e, some l, some h => match sizeO P e with
        | some z => bif Nat.ble l h && Nat.ble h n && !Nat.beq z 0 then some (.val (at' (.slice (some (id, o + l * z)) (h - l))) H) else none
        | none => none
      | _, _, _ => none
    | _, _ => none
noncomputable def op_fieldAddr (s : TypeId) (x : Operand) (f : Nat) (P : Program) (eqs : Eqs) (env : Nat → Option AV) (H : Heap) : Option OpR :=
  match fieldO P s f, rho env x with
    | some (ft, off), some (.one (.at (.ptr (some (id, o))))) => match sizeO P ft with
      | some z => bif Nat.beq z 0 then none else some (.val (at' (.ptr (some (id, o + off)))) H)
      | none => none
    | _, _ => none
noncomputable def op_field (T : TypeId) (x : Operand) (f : Nat) (P : Program) (eqs : Eqs) (env : Nat → Option AV) (H : Heap) : Option OpR :=
  match fieldO P T f, rho env x with
    | some (ft, off), some (.one (.agg cs)) => match partA P ft cs off with
      | some y => some (.val (.one y) H)
      | none => none
    | _, _ => none
noncomputable def op_indexAddr (t : TypeId) (x ix : Operand) (P : Program) (eqs : Eqs) (env : Nat → Option AV) (H : Heap) : Option OpR :=
  match rho env x, rho env ix with
    | some (.one (.at (.slice (some (id, o)) n))), some v => match isSliceD (P.underlying t), intA v with
      | some e, some i => match sizeO P e with
        | some z => bif inR i n then some (.val (at' (.ptr (some (id, o + i.toNat * z)))) H) else none
        | none => none
      | _, _ => none
    | _, _ => none
noncomputable def op_index (t : TypeId) (x ix : Operand) (P : Program) (eqs : Eqs) (env : Nat → Option AV) (H : Heap) : Option OpR :=
  match rho env x, rho env ix with
    | some (.one (.at (.str s))), some v => match P.underlying t, intA v with
      | some .string, some i => bif inR i s.length then match s[i.toNat]? with
        | some b => some (.val (at' (.int .u8 b.toNat)) H)
        | none => none else none
      | _, _ => none
    | some (.one (.agg cs)), some v => match P.underlying t, intA v with
      | some (.array len e), some i => match sizeO P e with
        | some z => bif inR i len then match partA P e cs (i.toNat * z) with
          | some y => some (.val (.one y) H)
          | none => none else none
        | none => none
      | _, _ => none
    | _, _ => none
noncomputable def op_lookup (t : TypeId) (x ix : Operand) (ok : Bool) (P : Program) (eqs : Eqs) (env : Nat → Option AV) (H : Heap) : Option OpR :=
  match rho env x, rho env ix with
    | some m, some k => match lookupA P H t m k ok with
      | some v => some (.val v H)
      | none => none
    | _, _ => none
noncomputable def op_mapUpdate (t : TypeId) (m k x : Operand) (P : Program) (eqs : Eqs) (env : Nat → Option AV) (H : Heap) : Option OpR :=
  match rho env m, rho env k, rho env x with
    | some m, some k, some x => match updateA P H t m k x with
      | some H' => some (.val .undef H')
      | none => none
    | _, _, _ => none
noncomputable def op_extract (t : Operand) (i : Nat) (P : Program) (eqs : Eqs) (env : Nat → Option AV) (H : Heap) : Option OpR :=
  match rho env t with
    | some (.tup xs) => match xs[i]? with
      | some x => some (.val (.one x) H)
      | none => none
    | _ => none
noncomputable def op_call (c : Call) (P : Program) (eqs : Eqs) (env : Nat → Option AV) (H : Heap) : Option OpR :=
  match c.callee with
    | .builtin b => match rhos env c.args.toList with
      | some vs => match builtinA P H b c.argTypes.toList vs with
        | some (v, H') => some (.val v H')
        | none => none
      | none => none
    | .value f => match rho env f, rhos env c.args.toList with
      | some (.one (.at (.fn g cs))), some vs => some (.call g (vs ++ cs.map fun p => at' (.ptr (some p))))
      | _, _ => none
    | .invoke _ _ => none
noncomputable def op_none1 (_ : Nat) (_ : Program) (_ : Eqs) (_ : Nat → Option AV) (_ : Heap) : Option OpR := none
noncomputable def op_none1' (_ : Nat) (_ : Program) (_ : Eqs) (_ : Nat → Option AV) (_ : Heap) : Option OpR := none
noncomputable def op_none2 (_ : TypeId) (_ : Operand) (_ : Program) (_ : Eqs) (_ : Nat → Option AV) (_ : Heap) : Option OpR := none
noncomputable def op_none3 (_ : TypeId) (_ _ : Operand) (_ : Program) (_ : Eqs) (_ : Nat → Option AV) (_ : Heap) : Option OpR := none
noncomputable def op_none4 (_ : TypeId) (_ _ _ : Operand) (_ : Program) (_ : Eqs) (_ : Nat → Option AV) (_ : Heap) : Option OpR := none
noncomputable def op_none5 (_ : Operand) (_ : Bool) (_ : Program) (_ : Eqs) (_ : Nat → Option AV) (_ : Heap) : Option OpR := none
noncomputable def op_none6 (_ : Operand) (_ : Program) (_ : Eqs) (_ : Nat → Option AV) (_ : Heap) : Option OpR := none
noncomputable def op_none7 (_ : Operand) (_ _ : TypeId) (_ : Bool) (_ : Program) (_ : Eqs) (_ : Nat → Option AV) (_ : Heap) : Option OpR := none
noncomputable def op_none8 (_ : Call) (_ : Program) (_ : Eqs) (_ : Nat → Option AV) (_ : Heap) : Option OpR := none
noncomputable def op_none9 (_ _ : Operand) (_ : Program) (_ : Eqs) (_ : Nat → Option AV) (_ : Heap) : Option OpR := none
noncomputable def op_none10 (_ : TypeId) (_ : Operand) (_ : Bool) (_ : Program) (_ : Eqs) (_ : Nat → Option AV) (_ : Heap) : Option OpR := none
noncomputable def op_none11 (_ : Array SelectCase) (_ : Bool) (_ : Program) (_ : Eqs) (_ : Nat → Option AV) (_ : Heap) : Option OpR := none
noncomputable def opA (op : Op) : Program → Eqs → (Nat → Option AV) → Heap → Option OpR :=
  Op.rec (motive := fun _ => Program → Eqs → (Nat → Option AV) → Heap → Option OpR)
    op_move op_move op_pick op_alloc op_box op_build op_buildSlice op_mapUpdate op_load op_store op_none1 op_none1' op_nilCheck op_binOp op_unOp op_convert op_none2
    op_none2 op_makeFunc op_makeMap op_none2 op_makeSlice op_slice op_fieldAddr op_field op_indexAddr op_index op_lookup op_mapUpdate op_none3 op_none4 op_none2
    op_none5 op_none6 op_none7 op_extract op_call op_none8 op_none8 op_none6 op_none9 op_none10 op_none11 op
end Go.Ea
end

/-
  THE ENGINE, part 3: the model's operations do at laid values what part 2 says. Over any program. Written in this session.
-/
section
namespace Go.Ea

def EnvR (α : Al) (lk : Nat → Option AV) (a : Act) : Prop := ∀ t av, lk t = some av → ∃ v, a.tmps[t]? = some v ∧ VR α av v

theorem cvA_sim {α : Al} {v : Value} {a : AT} (h : cvA v = some a) : AR α a v := by
  unfold cvA at h
  split at h <;> first | (cases h; done) | (cases h; first | rfl | exact ⟨_, rfl, rfl⟩ | exact ⟨rfl, rfl⟩)
theorem cvL_sim {α : Al} : ∀ {l : List Value} {m : List AT}, cvL l = some m → F2 (AR α) m l
  | [], m, h => by simp only [cvL] at h; cases h; exact .nil
  | v :: r, m, h => by
    simp only [cvL] at h
    split at h
    · rename_i a l h1 h2; cases h; exact .cons (cvA_sim h1) (cvL_sim h2)
    · cases h
theorem cv1_sim {α : Al} {v : Value} {x : A1} (h : cv1 v = some x) : V1 α x v := by
  unfold cv1 at h
  split at h
  · split at h
    · rename_i l hl; cases h; exact ⟨_, rfl, cvL_sim hl⟩
    · cases h
  · split at h
    · rename_i a ha; cases h; exact cvA_sim ha
    · cases h

section
variable {P : Program} {base : Nat} {H : Heap} {α : Al} {w : World} {a : Act} {lk : Nat → Option AV} {eqs : Eqs}

theorem rho_sim (hE : EnvR α lk a) {x : Operand} {av : AV} (h : rho lk x = some av) : VR α av (a.eval x) := by
  cases x with
  | tmp t =>
    obtain ⟨v, h1, h2⟩ := hE t av h
    have : a.eval (.tmp t) = v := by simp [Act.eval, Array.getD_eq_getD_getElem?, h1]
    rw [this]; exact h2
  | const v =>
    simp only [rho] at h
    split at h
    · rename_i x hx; cases h; exact cv1_sim hx
    · cases h
  | func f => simp only [rho] at h; cases h; exact ⟨#[], rfl, .nil⟩
  | global g => simp only [rho] at h; cases h

theorem rhos_sim (hE : EnvR α lk a) : ∀ {l : List Operand} {m : List AV}, rhos lk l = some m → F2 (VR α) m (l.map a.eval)
  | [], m, h => by cases h; exact .nil
  | x :: r, m, h => by
    have h' : (match rho lk x, rhos lk r with
      | some b, some l => some (b :: l)
      | _, _ => none) = some m := h
    split at h'
    · rename_i b l h1 h2; cases h'; exact .cons (rho_sim hE h1) (rhos_sim hE h2)
    · cases h'

/-- What an operation that is no call comes to. -/
def Res (P : Program) (base : Nat) (H : Heap) (α : Al) (w : World) (r : Result Next) (v : AV) (H' : Heap) : Prop :=
  ∃ nx u w' α', r = .ok nx w' ∧ (nx = .value u ∨ (nx = .skip ∧ u = undef)) ∧ VR α' v u ∧ R P base H' α' w' ∧ Ext H α w H' α' w'
theorem Res.pure (hR : R P base H α w) {r : Result Next} {v : AV} {u : Value} (hr : r = .ok (.value u) w) (hv : VR α v u) : Res P base H α w r v H :=
  ⟨_, u, w, α, hr, .inl rfl, hv, hR, Ext.refl _ _ _⟩

theorem sim_move (hR : R P base H α w) (hE : EnvR α lk a) {o : Oper} {x : Operand} (ho : o.op = .move x ∨ o.op = .assign x) {eqs : Eqs} {v : AV} {H' : Heap} (h : op_move x P eqs lk H = some (.val v H')) :
    Res P base H α w ((execOp a.eval o).run P w) v H' := by
  unfold op_move at h
  split at h
  · rename_i av hx
    cases h
    refine Res.pure hR (u := a.eval x) ?_ (rho_sim hE hx)
    rcases ho with ho | ho <;> simp [execOp, ho]
  · cases h

theorem sim_pick (hR : R P base H α w) (hE : EnvR α lk a) {o : Oper} {c x y : Operand} (ho : o.op = .pick c x y) {eqs : Eqs} {v : AV} {H' : Heap} (h : op_pick c x y P eqs lk H = some (.val v H')) :
    Res P base H α w ((execOp a.eval o).run P w) v H' := by
  unfold op_pick at h
  split at h
  · rename_i t hc
    split at h
    · rename_i av hx
      cases h
      have h1 : a.eval c = .bool t := rho_sim hE hc
      refine Res.pure hR (u := a.eval (bif t then x else y)) ?_ (rho_sim hE hx)
      simp only [execOp, ho, h1, asBool]
      cases t <;> simp
    · cases h
  · cases h

theorem sim_nilCheck (hR : R P base H α w) (hE : EnvR α lk a) {o : Oper} {x : Operand} (ho : o.op = .nilCheck x) {eqs : Eqs} {v : AV} {H' : Heap} (h : op_nilCheck x P eqs lk H = some (.val v H')) :
    Res P base H α w ((execOp a.eval o).run P w) v H' := by
  unfold op_nilCheck at h
  split at h
  · rename_i p hx
    cases h
    have h1 := rho_sim hE hx
    obtain ⟨L, hL, he⟩ := h1
    refine Res.pure hR (u := a.eval x) ?_ ⟨L, hL, he⟩
    simp only [execOp, ho, he]; rfl
  · rename_i f cs hx
    cases h
    have h1 := rho_sim hE hx
    obtain ⟨arr, he, hc⟩ := h1
    refine Res.pure hR (u := a.eval x) ?_ ⟨arr, he, hc⟩
    simp only [execOp, ho, he]; rfl
  · cases h

theorem sim_extract (hR : R P base H α w) (hE : EnvR α lk a) {o : Oper} {x : Operand} {i : Nat} (ho : o.op = .extract x i) {eqs : Eqs} {v : AV} {H' : Heap} (h : op_extract x i P eqs lk H = some (.val v H')) :
    Res P base H α w ((execOp a.eval o).run P w) v H' := by
  unfold op_extract at h
  split at h
  · rename_i xs hx
    split at h
    · rename_i y hy
      cases h
      obtain ⟨arr, he, hc⟩ := rho_sim hE hx
      obtain ⟨u, hu, hr⟩ := hc.get hy
      refine Res.pure hR (u := u) ?_ hr
      have hu' : arr[i]? = some u := by simpa using hu
      simp [execOp, ho, he, Instr.extract, hu']
    · cases h
  · cases h

theorem capsA_sim {α : Al} : ∀ {l : List AV} {cs : List (Nat × Nat)} {vs : List Value}, capsA l = some cs → F2 (VR α) l vs → F2 (PR α) cs vs
  | [], cs, _, h, .nil => by simp only [capsA] at h; cases h; exact .nil
  | x :: r, cs, _, h, .cons h1 h2 => by
    unfold capsA at h
    split at h
    · cases ‹_ :: _ = []›
    · rename_i p r' he
      cases he
      split at h
      · rename_i l hl; cases h; exact .cons h1 (capsA_sim hl h2)
      · cases h
    · cases h

theorem sim_makeFunc (hR : R P base H α w) (hE : EnvR α lk a) {o : Oper} {fn : Fn} {first caps : Array Operand} (ho : o.op = .makeFunc fn first caps) {eqs : Eqs} {v : AV} {H' : Heap} (h : op_makeFunc fn first caps P eqs lk H = some (.val v H')) :
    Res P base H α w ((execOp a.eval o).run P w) v H' := by
  unfold op_makeFunc at h
  split at h
  · rename_i f vs hf hvs
    split at h
    · rename_i cs hcs
      cases h
      have h1 := capsA_sim hcs (rhos_sim hE hvs)
      have hf' : first = #[] := by cases first; simp_all
      refine Res.pure hR (u := .func (.func f) #[] (caps.map a.eval)) ?_ ⟨_, rfl, by simpa using h1⟩
      subst hf'
      simp [execOp, ho, Instr.makeFunc]
    · cases h
  · cases h

/-! ### arithmetic, comparisons -/
theorem binI_sim {op : BinOp} {k : IntKind} {x y : Int} {b : AT} (hs : isShift op = false) (h : binI op k x y = some b) (t : TypeId) (X Y : Operand) :
    (do eqGuard op t X Y (.int k x) (.int k y); binOp op t (.int k x) (.int k y) : Sem Value).run P w = .ok (match b with | .bool c => .bool c | .int k n => .int k n | _ => undef) w ∧ ((∃ c, b = .bool c) ∨ ∃ n, b = .int k n) := by
  have hg : (eqGuard op t X Y (.int k x) (.int k y)).run P w = .ok () w := by
    unfold eqGuard
    cases op <;> rfl
  simp only [Sem.run_bind, hg, Result.andThen_ok]
  cases op <;> simp only [binI, bitsV, isShift, Bool.true_eq_false] at h hs <;> (try (split at h)) <;> (try cases h) <;>
    simp_all [binOp, Op.intArith, Op.intDiv, Op.intCmp, Op.intBits, wrapA_eq]

theorem shiftI_sim {op : BinOp} {k k' : IntKind} {x y : Int} {b : AT} (hs : isShift op = true) (h : shiftI op k x y = some b) (t : TypeId) (X Y : Operand) :
    (do eqGuard op t X Y (.int k x) (.int k' y); binOp op t (.int k x) (.int k' y) : Sem Value).run P w = .ok (match b with | .int k n => .int k n | _ => undef) w ∧ ∃ n, b = .int k n := by
  have hg : (eqGuard op t X Y (.int k x) (.int k' y)).run P w = .ok () w := by
    unfold eqGuard
    cases op <;> rfl
  simp only [Sem.run_bind, hg, Result.andThen_ok]
  unfold shiftI at h
  split at h
  · cases h
  · rename_i hy
    cases op <;> simp only [isShift, Bool.false_eq_true] at hs <;> cases h <;> simp [binOp, Op.shift, hy]
theorem binS_sim {op : BinOp} {x y : List UInt8} {b : AT} (h : binS op x y = some b) (s t : ByteArray) (hs : s.data.toList = x) (ht : t.data.toList = y) (ty : TypeId) (X Y : Operand) :
    ∃ u, (do eqGuard op ty X Y (.string s) (.string t); binOp op ty (.string s) (.string t) : Sem Value).run P w = .ok u w ∧ AR α b u := by
  have hg : (eqGuard op ty X Y (.string s) (.string t)).run P w = .ok () w := by
    unfold eqGuard
    cases op <;> rfl
  simp only [Sem.run_bind, hg, Result.andThen_ok]
  subst hs ht
  have es : s.size = s.data.toList.length := by simp
  have et : t.size = t.data.toList.length := by simp
  cases op <;> simp only [binS, eqS_eq] at h <;> (try cases h) <;> (try (split at h)) <;> (try cases h) <;>
    simp [binOp, Op.stringOp, ByteArray.toList_eq, AR]
  rename_i hl
  rw [es, et, if_neg (by have e : IntKind.i64.max = 9223372036854775807 := rfl; omega)]
  exact ⟨_, rfl, _, rfl, by simp⟩
theorem equalIn_bool (d : Nat) {t : TypeId} (ht : P.underlying t = some .bool) (x y : Bool) : (Op.equalIn (d + 1) t (.bool x) (.bool y)).run P w = .ok (x == y) w := by
  simp [Op.equalIn, run_underlying ht]
/-- What is asked of a struct type's '=='. -/
def EqOk (P : Program) (t : TypeId) (s : List Sh) : Prop :=
  P.eqGuardType P.depth t = false ∧ ∀ (α : Al) (w : World) (xs ys : List AT) (x y : Array Value) (b : Bool), F2 (AR α) xs x.toList → F2 (AR α) ys y.toList → xs.map shp = s → ys.map shp = s →
    eqL xs ys = some b → (Op.equal t (.agg x) (.agg y)).run P w = .ok b w
def EqsOk (P : Program) (eqs : Eqs) : Prop := ∀ t s, shOf t eqs = some s → EqOk P t s
theorem sim_binOp (hQ : ∀ t s, shOf t eqs = some s → EqOk P t s) (hR : R P base H α w) (hE : EnvR α lk a) {o : Oper} {op : BinOp} {t : TypeId} {x y : Operand} {yt : TypeId} (ho : o.op = .binOp op t x y yt) {v : AV} {H' : Heap}
    (h : op_binOp op t x y yt P eqs lk H = some (.val v H')) : Res P base H α w ((execOp a.eval o).run P w) v H' := by
  unfold op_binOp at h
  split at h
  · rename_i u z hu hz
    split at h
    · rename_i b hb
      cases h
      have h1 := rho_sim hE hu
      have h2 := rho_sim hE hz
      have key : ∃ q, (do eqGuard op t x y (a.eval x) (a.eval y); binOp op t (a.eval x) (a.eval y) : Sem Value).run P w = .ok q w ∧ AR α b q := by
        unfold binA at hb
        split at hb
        · rename_i k n k' n'
          have e1 : a.eval x = .int k n := h1
          have e2 : a.eval y = .int k' n' := h2
          rw [e1, e2]
          cases hsh : isShift op
          · rw [hsh] at hb
            simp only [cond_false] at hb
            split at hb
            · rename_i hk; subst hk
              obtain ⟨h3, h4⟩ := binI_sim (P := P) (w := w) hsh hb t x y
              refine ⟨_, h3, ?_⟩
              rcases h4 with ⟨c, rfl⟩ | ⟨n, rfl⟩ <;> rfl
            · cases hb
          · rw [hsh] at hb
            simp only [cond_true] at hb
            obtain ⟨h3, n, rfl⟩ := shiftI_sim (P := P) (w := w) (k' := k') hsh hb t x y
            exact ⟨_, h3, rfl⟩
        · rename_i l m
          obtain ⟨s, e1, hs⟩ := h1
          obtain ⟨s', e2, hs'⟩ := h2
          rw [e1, e2]
          exact binS_sim hb s s' hs hs' t x y
        · rename_i c d
          have e1 : a.eval x = .bool c := h1
          have e2 : a.eval y = .bool d := h2
          rw [e1, e2]
          cases hbd : isBoolD (P.underlying t)
          · rw [hbd] at hb; cases hb
          · rw [hbd] at hb
            have hbt : P.underlying t = some .bool := by
              unfold isBoolD at hbd
              split at hbd
              · assumption
              · cases hbd
            simp only [cond_true] at hb
            have hg : (eqGuard op t x y (.bool c) (.bool d)).run P w = .ok () w := by
              unfold eqGuard
              cases op <;> rfl
            simp only [Sem.run_bind, hg, Result.andThen_ok]
            have heq : (Op.equal t (.bool c) (.bool d)).run P w = .ok (c == d) w := equalIn_bool 9999 hbt c d
            split at hb <;> cases hb <;> simp [binOp, heq, AR]
        · rename_i xs ys
          obtain ⟨arr, e1, f1⟩ := h1
          obtain ⟨arr', e2, f2⟩ := h2
          rw [e1, e2]
          split at hb
          · rename_i s hs
            split at hb
            · rename_i hsh
              obtain ⟨g1, g2⟩ := hQ _ _ hs
              have hg : (eqGuard op t x y (.agg arr) (.agg arr')).run P w = .ok () w := by
                unfold eqGuard
                cases op <;> simp [program, Sem.run, g1]
              simp only [Sem.run_bind, hg, Result.andThen_ok]
              split at hb <;> cases hb
              · rename_i c hc
                have g3 := g2 α w xs ys arr arr' c f1 f2 hsh.1 hsh.2 hc
                simp [binOp, g3, AR]
              · rename_i c hc
                have g3 := g2 α w xs ys arr arr' c f1 f2 hsh.1 hsh.2 hc
                simp [binOp, g3, AR]
            · cases hb
          · cases hb
        · cases hb
      obtain ⟨q, h3, h4⟩ := key
      refine Res.pure hR (u := q) ?_ h4
      simp only [Sem.run_bind] at h3
      simp only [execOp, ho, Sem.run_bind, h3, Result.andThen_ok, Sem.run_pure]
    · cases h
  · cases h

theorem sim_unOp (hR : R P base H α w) (hE : EnvR α lk a) {o : Oper} {op : UnOp} {t : TypeId} {x : Operand} (ho : o.op = .unOp op t x) {eqs : Eqs} {v : AV} {H' : Heap}
    (h : op_unOp op t x P eqs lk H = some (.val v H')) : Res P base H α w ((execOp a.eval o).run P w) v H' := by
  unfold op_unOp at h
  split at h
  · rename_i u hu
    split at h
    · rename_i b hb
      cases h
      have h1 := rho_sim hE hu
      have key : ∃ q, (Op.unary op (a.eval x)).run P w = .ok q w ∧ AR α b q := by
        unfold unA at hb
        split at hb
        · rename_i k n
          have e1 : a.eval x = .int k n := h1
          rw [e1]
          split at hb
          · cases hb; exact ⟨.int k (k.wrap (0 - n)), by simp [Op.unary, Op.intArith], by rw [wrapA_eq]; rfl⟩
          · split at hb
            · rename_i m hm; cases hb
              simp only [bitsV] at hm
              cases hm
              exact ⟨_, rfl, rfl⟩
            · cases hb
          · cases hb
        · rename_i c
          have e1 : a.eval x = .bool c := h1
          rw [e1]
          split at hb
          · cases hb; exact ⟨_, rfl, rfl⟩
          · cases hb
        · cases hb
      obtain ⟨q, h3, h4⟩ := key
      refine Res.pure hR (u := q) ?_ h4
      simp only [execOp, ho, Sem.run_bind, h3, Result.andThen_ok, Sem.run_pure]
    · cases h
  · cases h
end
end Go.Ea
end

/-
  THE ENGINE, part 4: the operations that read and make memory. Over any program. Written in this session.
-/
section
namespace Go.Ea
section
variable {P : Program} {base : Nat} {H : Heap} {α : Al} {w : World} {a : Act} {lk : Nat → Option AV} {eqs : Eqs}

theorem run_isAgg' {t : TypeId} {d : TypeDesc} (h : P.underlying t = some d) (w : World) : (isAgg t).run P w = .ok (isAggD d) w := by
  simp only [isAgg, Sem.run_bind, run_underlying h, Result.andThen_ok]
  cases d <;> rfl
theorem run_sizeO {t : TypeId} {n : Nat} (h : sizeO P t = some n) (w : World) : (sizeOf t).run P w = .ok n w := by
  unfold sizeO at h
  split at h
  · rename_i i hi; cases h; simp [sizeOf, typeInfo, hi]
  · cases h
theorem run_zeroOf {t : TypeId} {x : A1} (h : zeroOf P t = some x) (w : World) : ∃ z, (zeroValue t).run P w = .ok z w ∧ V1 α x z := by
  unfold zeroOf at h
  split at h
  · rename_i i hi
    split at h
    · rename_i z hz; exact ⟨z, by simp [zeroValue, typeInfo, hi, hz], cv1_sim h⟩
    · cases h
  · cases h

/-- The values of a stretch of a laid row. -/
theorem seg_vals {cs : List AT} {s : Nat} {c : Array Value} (hc : ∀ j b, cs[j]? = some b → ∃ v, c[s + j]? = some v ∧ AR α b v) (o n : Nat) (hl : o + n ≤ cs.length) (hs : s + cs.length ≤ c.size) :
    F2 (AR α) ((cs.drop o).take n) ((c.toList.drop (s + o)).take n) := by
  refine F2.mk' (by simp; omega) fun j x y hx hy => ?_
  rw [List.getElem?_take] at hx hy
  split at hx
  · rename_i hj
    rw [if_pos hj] at hy
    rw [List.getElem?_drop] at hx hy
    obtain ⟨v, h1, h2⟩ := hc _ _ hx
    have : c[s + (o + j)]? = some y := by rw [← Nat.add_assoc]; simpa using hy
    rw [h1] at this; cases this; exact h2
  · cases hx
theorem seg_cells {w : World} {b : Nat} {c : Array Value} {T : TypeId} {fz : Nat × Nat} (hb : w.heap[b]? = some (.cells c T fz)) (o n : Nat) :
    ∀ j v, ((c.toList.drop o).take n)[j]? = some v → w.cell? ((⟨b, o, none⟩ : Addr).add j) = some v := fun j v hj => by
  rw [Addr.add_lit, cell_of_row w b (o + j) c T fz hb]
  rw [List.getElem?_take] at hj
  split at hj
  · rw [List.getElem?_drop] at hj; simpa using hj
  · cases hj

theorem run_loadSeg {b o n : Nat} {c : Array Value} {T : TypeId} {fz : Nat × Nat} (hb : w.heap[b]? = some (.cells c T fz)) (hl : o + n ≤ c.size) :
    (loadCells ⟨b, o, none⟩ n).run P w = .ok ((c.toList.drop o).take n).toArray w := by
  have h := run_loadCells_list (P := P) w ⟨b, o, none⟩ ((c.toList.drop o).take n) (seg_cells hb o n)
  rwa [show ((c.toList.drop o).take n).length = n from by simp; omega] at h

theorem partA_load {T : TypeId} {cs : List AT} {o : Nat} {x : A1} (h : partA P T cs o = some x) {b s : Nat} {c : Array Value} {Tb : TypeId} {fz : Nat × Nat} (hb : w.heap[b]? = some (.cells c Tb fz))
    (hs : s + cs.length ≤ c.size) (hc : ∀ j q, cs[j]? = some q → ∃ v, c[s + j]? = some v ∧ AR α q v) : ∃ u, (loadVar T ⟨b, s + o, none⟩).run P w = .ok u w ∧ V1 α x u := by
  unfold partA at h
  split at h
  · rename_i d n hd hn
    cases hg : isAggD d
    · rw [hg] at h
      simp only [cond_false] at h
      split at h
      · rename_i q hq
        cases h
        obtain ⟨v, h1, h2⟩ := hc _ _ hq
        refine ⟨v, ?_, h2⟩
        have hcell : w.cell? ⟨b, s + o, none⟩ = some v := by rw [cell_of_row w b _ c Tb fz hb]; exact h1
        simp [loadVar, run_isAgg' hd, hg, hcell]
      · cases h
    · rw [hg] at h
      simp only [cond_true] at h
      cases hle : Nat.ble (o + n) cs.length
      · rw [hle] at h; cases h
      · rw [hle] at h
        cases h
        have hle' := Nat.le_of_ble_eq_true hle
        refine ⟨.agg ((c.toList.drop (s + o)).take n).toArray, ?_, _, rfl, by simpa using seg_vals hc o n hle' hs⟩
        simp only [loadVar, Sem.run_bind, run_isAgg' hd, hg, Result.andThen_ok, if_true, run_sizeO hn, Sem.run_pure]
        rw [run_loadSeg hb (by omega)]
        rfl
  · cases h

theorem sim_load (hR : R P base H α w) (hE : EnvR α lk a) {o : Oper} {T : TypeId} {x : Operand} (ho : o.op = .load T x) {v : AV} {H' : Heap} (h : op_load T x P eqs lk H = some (.val v H')) :
    Res P base H α w ((execOp a.eval o).run P w) v H' := by
  unfold op_load at h
  split at h
  · rename_i id off hx
    split at h
    · rename_i T' k cs hobj
      split at h
      · rename_i y hy
        cases h
        obtain ⟨L, hL, he⟩ := rho_sim hE hx
        obtain ⟨L', c, fz, h1, h2, h3, h4, _⟩ := hR.obj _ _ hobj
        rw [hL] at h1; cases h1
        obtain ⟨u, hu, hv⟩ := partA_load hy h2 h3 h4
        refine Res.pure hR (u := u) ?_ hv
        simp [execOp, ho, he, Instr.loadAt, Instr.sureAddr, hu]
      · cases h
    · cases h
  · cases h

/-- Cells of a new block. -/
theorem OR.fresh {T : TypeId} {k : Nat} {cs : List AT} {vs : List Value} (hv : F2 (AR α) cs vs) (hk : k ≠ 2) (hb : base ≤ w.heap.size) (hd : α H.n = none) :
    OR P base (upd α H.n ⟨w.heap.size, 0, 0⟩) (w.alloc (.cells vs.toArray T)) H.n (.cells T k cs) := by
  refine ⟨_, vs.toArray, (0, 0), upd_self _ _ _, by simpa using heap_alloc_new w _, by simp [hv.length], fun j q hq => ?_, fun _ => ⟨hb, rfl⟩, fun h => absurd h hk⟩
  obtain ⟨v, h1, h2⟩ := hv.get hq
  exact ⟨v, by simpa using h1, h2.mono (sub_upd hd)⟩
theorem run_newObj (O : Obj) (w : World) : (newObj O).run P w = .ok w.heap.size (w.alloc O) := rfl

/-- A new block that holds the new object. -/
def Fresh (P : Program) (base : Nat) (α : Al) (w : World) (r : Result Next) (id : Nat) (v : AV) (obj : AObj) : Prop :=
  ∃ u O L, r = .ok (.value u) (w.alloc O) ∧ L.blk = w.heap.size ∧ VR (upd α id L) v u ∧ OR P base (upd α id L) (w.alloc O) id obj ∧ ∀ x, (w.alloc O).frozen? x = w.frozen? x
theorem Fresh.res (hR : R P base H α w) {r : Result Next} {v : AV} {H' : Heap} (h : ∃ obj, H' = H.push obj ∧ Fresh P base α w r H.n v obj) : Res P base H α w r v H' := by
  obtain ⟨obj, rfl, u, O, L, h1, h2, h3, h4, h5⟩ := h
  exact ⟨_, u, w.alloc O, upd α H.n L, h1, .inl rfl, h3, hR.alloc h2 h4, Ext.alloc_obj (hR.dom _ (Nat.le_refl _)) h2 h5⟩

theorem mk_alloc (hb : base ≤ w.heap.size) (hd : α H.n = none) {o : Oper} {T : TypeId} (ho : o.op = .alloc T) {v : AV} {H' : Heap} (h : op_alloc T P eqs lk H = some (.val v H')) :
    ∃ obj, H' = H.push obj ∧ Fresh P base α w ((execOp a.eval o).run P w) H.n v obj := by
  unfold op_alloc at h
  split at h
  · rename_i x hx
    cases h
    obtain ⟨z, hz, hzr⟩ := run_zeroOf (α := α) hx w
    refine ⟨_, rfl, .pointer (some ⟨w.heap.size, 0, none⟩), .cells z.cells T, ⟨w.heap.size, 0, 0⟩, ?_, rfl, ⟨_, upd_self _ _ _, rfl⟩, ?_, RowKit.frozen?_alloc_cells _ _ _⟩
    · simp [execOp, ho, Instr.alloc, hz, newVar, newRow]
    · have := OR.fresh (P := P) (H := H) (T := T) (k := 1) hzr.cells (by omega) hb hd
      exact by simpa using this
  · cases h

theorem sim_alloc (hR : R P base H α w) {o : Oper} {T : TypeId} (ho : o.op = .alloc T) {v : AV} {H' : Heap} (h : op_alloc T P eqs lk H = some (.val v H')) :
    Res P base H α w ((execOp a.eval o).run P w) v H' := Fresh.res hR (mk_alloc (eqs := eqs) (lk := lk) hR.bs (hR.dom _ (Nat.le_refl _)) ho h)

theorem mk_box (hb : base ≤ w.heap.size) (hd : α H.n = none) (hE : EnvR α lk a) {o : Oper} {T : TypeId} {x : Operand} (ho : o.op = .box T x) {v : AV} {H' : Heap} (h : op_box T x P eqs lk H = some (.val v H')) :
    ∃ obj, H' = H.push obj ∧ Fresh P base α w ((execOp a.eval o).run P w) H.n v obj := by
  unfold op_box at h
  split at h
  · rename_i y hx
    cases h
    have hy : V1 α y (a.eval x) := rho_sim hE hx
    refine ⟨_, rfl, .pointer (some ⟨w.heap.size, 0, none⟩), .cells (a.eval x).cells T, ⟨w.heap.size, 0, 0⟩, ?_, rfl, ⟨_, upd_self _ _ _, rfl⟩, ?_, RowKit.frozen?_alloc_cells _ _ _⟩
    · simp [execOp, ho, Instr.box, newVar, newRow]
    · have := OR.fresh (P := P) (H := H) (T := T) (k := 1) hy.cells (by omega) hb hd
      exact by simpa using this
  · cases h

theorem sim_box (hR : R P base H α w) (hE : EnvR α lk a) {o : Oper} {T : TypeId} {x : Operand} (ho : o.op = .box T x) {v : AV} {H' : Heap} (h : op_box T x P eqs lk H = some (.val v H')) :
    Res P base H α w ((execOp a.eval o).run P w) v H' := Fresh.res hR (mk_box (eqs := eqs) (lk := lk) hR.bs (hR.dom _ (Nat.le_refl _)) hE ho h)

theorem putL_length {cs xs : List AT} {o : Nat} (h : o + xs.length ≤ cs.length) : (putL cs o xs).length = cs.length := by
  simp [putL]; omega
theorem putL_get {A : Type} {cs xs : List A} {o : Nat} (h : o + xs.length ≤ cs.length) (j : Nat) : (cs.take o ++ xs ++ cs.drop (o + xs.length))[j]? = if o ≤ j ∧ j < o + xs.length then xs[j - o]? else cs[j]? := by
  rw [List.append_assoc, List.getElem?_append]
  have h1 : (cs.take o).length = o := by simp; omega
  rw [h1]
  by_cases c1 : j < o
  · rw [if_pos c1, if_neg (by omega), List.getElem?_take, if_pos c1]
  · rw [if_neg c1, List.getElem?_append]
    by_cases c2 : j - o < xs.length
    · rw [if_pos c2, if_pos (by omega)]
    · rw [if_neg c2, if_neg (by omega), List.getElem?_drop]
      congr 1; omega

theorem sim_store (hR : R P base H α w) (hE : EnvR α lk a) {o : Oper} {T : TypeId} {x y : Operand} (ho : o.op = .store T x y) {v : AV} {H' : Heap} (h : op_store T x y P eqs lk H = some (.val v H')) :
    Res P base H α w ((execOp a.eval o).run P w) v H' := by
  unfold op_store at h
  split at h
  · rename_i id off z n hx hy hn
    split at h
    · rename_i T' k cs hobj
      cases hcond : (Nat.beq z.cells.length n && Nat.ble (off + n) cs.length && !Nat.beq k 0)
      · rw [hcond] at h; cases h
      · rw [hcond] at h
        cases h
        simp only [Bool.and_eq_true, Nat.beq_eq, Nat.ble_eq, Bool.not_eq_true', ← Bool.not_eq_true] at hcond
        obtain ⟨⟨hl, hfit⟩, hk⟩ := hcond
        obtain ⟨L, hL, he⟩ := rho_sim hE hx
        have hz : V1 α z (a.eval y) := rho_sim hE hy
        have hzc := hz.cells
        obtain ⟨L', c, fz, h1, h2, h3, h4, h5, h6⟩ := hR.obj _ _ hobj
        have hL' := h1
        rw [hL] at h1; cases h1
        obtain ⟨hbb, rfl⟩ := h5 hk
        have hlen : (a.eval y).cells.toList.length = n := by rw [← hzc.length]; exact hl
        have hsz : (a.eval y).cells.size = n := by rw [← hlen]; simp
        have hst := run_storeCells_at (P := P) L.blk (L.off + off) T' (a.eval y).cells.toList 0 c w h2 (by omega) (fun q hq => by
          obtain ⟨j, hj, hj'⟩ := List.getElem_of_mem hq
          have : z.cells[j]? = some z.cells[j] := List.getElem?_eq_getElem (by rw [hzc.length]; exact hj)
          obtain ⟨q', e1, e2⟩ := hzc.get this
          rw [List.getElem?_eq_getElem hj] at e1; cases e1; rw [← hj']; exact e2.oneCell)
        simp only [Nat.add_zero] at hst
        refine ⟨.skip, undef, w.setRow L.blk ((c.toList.take (L.off + off) ++ (a.eval y).cells.toList ++ c.toList.drop (L.off + off + (a.eval y).cells.toList.length)).toArray), α, ?_, .inr ⟨rfl, rfl⟩, ⟨#[], rfl, .nil⟩, ?_⟩
        · simp [execOp, ho, he, Instr.storeAt, Instr.sureAddr, storeVar, run_sizeO hn, hsz, hst]
        · refine R.write hR hobj (by simpa [AObj.rw] using hk) hL (by simpa [AObj.rw] using hk) ⟨rfl, rfl, rfl⟩ (by simp) (fun k hk => setRow_other _ _ _ _ hk) frozen_row ?_
          refine ⟨L, _, (0, 0), hL, setRow_heap _ _ _ _ _ _ h2, ?_, fun j q hq => ?_, fun _ => ⟨hbb, rfl⟩, fun e => ?_⟩
          · rw [putL_length (by omega)]; simp; omega
          · unfold putL at hq
            rw [putL_get (by omega)] at hq
            simp only [List.getElem?_toArray]
            rw [putL_get (by simp; omega)]
            by_cases c1 : off ≤ j ∧ j < off + z.cells.length
            · rw [if_pos c1] at hq
              rw [if_pos (by omega)]
              obtain ⟨u, e1, e2⟩ := hzc.get hq
              exact ⟨u, by rw [show L.off + j - (L.off + off) = j - off from by omega]; exact e1, e2⟩
            · rw [if_neg c1] at hq
              rw [if_neg (by omega)]
              obtain ⟨u, e1, e2⟩ := h4 j q hq
              exact ⟨u, by simpa using e1, e2⟩
          · obtain ⟨e1, e2, info, e3, e4⟩ := h6 e
            exact ⟨e1, e2, info, e3, by rw [← e4]; simp; omega⟩
    · cases h
  · cases h

theorem fieldO_spec {s : TypeId} {f : Nat} {ft : TypeId} {off : Nat} (h : fieldO P s f = some (ft, off)) : ∃ fields x, P.underlying s = some (.struct fields) ∧ fields[f]? = some x ∧ x.type = ft ∧ x.offset = off := by
  unfold fieldO at h
  split at h
  · rename_i fields hf
    split at h
    · rename_i x hx; cases h; exact ⟨fields, x, hf, hx, rfl, rfl⟩
    · cases h
  · cases h

theorem sim_fieldAddr (hR : R P base H α w) (hE : EnvR α lk a) {o : Oper} {s : TypeId} {x : Operand} {f : Nat} (ho : o.op = .fieldAddr s x f) {v : AV} {H' : Heap} (h : op_fieldAddr s x f P eqs lk H = some (.val v H')) :
    Res P base H α w ((execOp a.eval o).run P w) v H' := by
  unfold op_fieldAddr at h
  split at h
  · rename_i ft off id oo hf hx
    split at h
    · rename_i z hz
      cases hz0 : Nat.beq z 0
      · rw [hz0] at h
        cases h
        obtain ⟨fields, fx, e1, e2, e3, e4⟩ := fieldO_spec hf
        obtain ⟨L, hL, he⟩ := rho_sim hE hx
        refine Res.pure hR (u := .pointer (some ⟨L.blk, L.off + oo + off, none⟩)) ?_ ⟨L, hL, by simp [Nat.add_assoc]⟩
        have hz' : ¬ z = 0 := by intro e; rw [e] at hz0; cases hz0
        subst e3 e4
        simp [execOp, ho, he, Instr.fieldAt, run_underlying e1, e2, Instr.sureAddr, fieldPlace, run_sizeO hz, hz', Addr.add_lit]
      · rw [hz0] at h; cases h
    · cases h
  · cases h

theorem partA_part {T : TypeId} {cs : List AT} {o : Nat} {x : A1} (h : partA P T cs o = some x) {arr : Array Value} (hc : F2 (AR α) cs arr.toList) : ∃ u, (part T arr o).run P w = .ok u w ∧ V1 α x u := by
  unfold partA at h
  split at h
  · rename_i d n hd hn
    cases hg : isAggD d
    · rw [hg] at h
      simp only [cond_false] at h
      split at h
      · rename_i q hq
        cases h
        obtain ⟨v, h1, h2⟩ := hc.get hq
        refine ⟨v, ?_, h2⟩
        have h1' : arr[o]? = some v := by simpa using h1
        simp [part, run_isAgg' hd, hg, h1']
      · cases h
    · rw [hg] at h
      simp only [cond_true] at h
      cases hle : Nat.ble (o + n) cs.length
      · rw [hle] at h; cases h
      · rw [hle] at h
        cases h
        refine ⟨.agg (arr.extract o (o + n)), ?_, _, rfl, ?_⟩
        · simp [part, run_isAgg' hd, hg, run_sizeO hn]
        · have := (hc.drop o).take n
          rw [Array.toList_extract]
          simpa [List.extract_eq_take_drop] using this
  · cases h

theorem sim_field (hR : R P base H α w) (hE : EnvR α lk a) {o : Oper} {T : TypeId} {x : Operand} {f : Nat} (ho : o.op = .field T x f) {v : AV} {H' : Heap} (h : op_field T x f P eqs lk H = some (.val v H')) :
    Res P base H α w ((execOp a.eval o).run P w) v H' := by
  unfold op_field at h
  split at h
  · rename_i ft off cs hf hx
    split at h
    · rename_i y hy
      cases h
      obtain ⟨fields, fx, e1, e2, e3, e4⟩ := fieldO_spec hf
      obtain ⟨arr, he, hc⟩ := rho_sim hE hx
      obtain ⟨u, hu, hv⟩ := partA_part (w := w) hy hc
      refine Res.pure hR (u := u) ?_ hv
      subst e3 e4
      simp [execOp, ho, he, Instr.field, run_underlying e1, e2, asAgg, hu]
    · cases h
  · cases h

theorem isSliceD_spec {d : Option TypeDesc} {e : TypeId} (h : isSliceD d = some e) : d = some (.slice e) := by
  unfold isSliceD at h
  split at h
  · cases h; rfl
  · cases h
theorem intA_sim {v : AV} {n : Int} {u : Value} (h : intA v = some n) (hv : VR α v u) : ∃ k, u = .int k n := by
  unfold intA at h
  split at h
  · rename_i k m; cases h; exact ⟨k, hv⟩
  · cases h

theorem sim_indexAddr (hR : R P base H α w) (hE : EnvR α lk a) {o : Oper} {t : TypeId} {x ix : Operand} (ho : o.op = .indexAddr t x ix) {v : AV} {H' : Heap} (h : op_indexAddr t x ix P eqs lk H = some (.val v H')) :
    Res P base H α w ((execOp a.eval o).run P w) v H' := by
  unfold op_indexAddr at h
  split at h
  · rename_i id oo n iv hx hix
    split at h
    · rename_i e i he hi
      split at h
      · rename_i z hz
        cases hr : inR i n
        · rw [hr] at h; cases h
        · rw [hr] at h
          cases h
          have hr' := (inR_iff i n).1 hr
          obtain ⟨L, c, hL, hnc, _, hs⟩ := rho_sim hE hx
          obtain ⟨k, hk⟩ := intA_sim hi (rho_sim hE hix)
          rcases hs with ⟨hs, _⟩ | ⟨h0, _⟩
          · refine Res.pure hR (u := .pointer (some ⟨L.blk, L.off + oo + i.toNat * z, none⟩)) ?_ ⟨L, hL, by simp [Nat.add_assoc]⟩
            simp [execOp, ho, hs, hk, Instr.indexAt, asIntOf, run_underlying (isSliceD_spec he), hr', run_sizeO hz, Addr.add_lit]
          · exfalso; omega
      · cases h
    · cases h
  · cases h

theorem sim_index (hR : R P base H α w) (hE : EnvR α lk a) {o : Oper} {t : TypeId} {x ix : Operand} (ho : o.op = .index t x ix) {v : AV} {H' : Heap} (h : op_index t x ix P eqs lk H = some (.val v H')) :
    Res P base H α w ((execOp a.eval o).run P w) v H' := by
  unfold op_index at h
  split at h
  · rename_i l iv hx hix
    split at h
    · rename_i i ht hi
      cases hr : inR i l.length
      · rw [hr] at h; cases h
      · rw [hr] at h
        simp only [cond_true] at h
        have hr' := (inR_iff i _).1 hr
        split at h
        · rename_i b hb
          cases h
          obtain ⟨s, he, hs⟩ := rho_sim hE hx
          obtain ⟨k, hk⟩ := intA_sim hi (rho_sim hE hix)
          subst hs
          refine Res.pure hR (u := .int .u8 b.toNat) ?_ rfl
          have hb' : s[i.toNat]? = some b := by
            have h1 : i.toNat < s.size := by have := hr'.2; simp at this; omega
            rw [getElem?_pos s i.toNat h1]
            rw [← hb]
            simp [h1]
            rfl
          simp [execOp, ho, he, hk, Instr.index, asIntOf, run_underlying ht, hr'.1, hb']
        · cases h
    · cases h
  · rename_i cs iv hx hix
    split at h
    · rename_i len e i ht hi
      split at h
      · rename_i z hz
        cases hr : inR i len
        · rw [hr] at h; cases h
        · rw [hr] at h
          simp only [cond_true] at h
          have hr' := (inR_iff i _).1 hr
          split at h
          · rename_i y hy
            cases h
            obtain ⟨arr, he, hc⟩ := rho_sim hE hx
            obtain ⟨k, hk⟩ := intA_sim hi (rho_sim hE hix)
            obtain ⟨u, hu, hv⟩ := partA_part (w := w) hy hc
            refine Res.pure hR (u := u) ?_ hv
            simp [execOp, ho, he, hk, Instr.index, asIntOf, run_underlying ht, hr', run_sizeO hz, hu]
          · cases h
      · cases h
    · cases h
  · cases h
end
end Go.Ea
end

/-
  THE ENGINE, part 5: cuts, conversions, literals, maps, append. Over any program. Written in this session.
-/
section
namespace Go.Ea
section
variable {P : Program} {base : Nat} {H : Heap} {α : Al} {w : World} {a : Act} {lk : Nat → Option AV} {eqs : Eqs}

theorem boundA_sim (hE : EnvR α lk a) {d : Nat} {x : Option Operand} {l : Nat} (h : boundA lk d x = some l) :
    (x = none ∧ l = d) ∨ ∃ y k n, x = some y ∧ a.eval y = .int k n ∧ 0 ≤ n ∧ n.toNat = l := by
  unfold boundA at h
  split at h
  · cases h; exact .inl ⟨rfl, rfl⟩
  · rename_i y
    split at h
    · rename_i v hv
      split at h
      · rename_i n hn
        split at h
        · rename_i h0
          cases h
          obtain ⟨k, hk⟩ := intA_sim hn (rho_sim hE hv)
          exact .inr ⟨y, k, n, rfl, hk, h0, rfl⟩
        · cases h
      · cases h
    · cases h

theorem run_sliceBound' (k : IntKind) (i : Int) (y : Nat) (code : BoundsCode) (h0 : 0 ≤ i) (h1 : i.toNat ≤ y) (w : World) : (Instr.sliceBound (.int k i) y code).run P w = .ok i.toNat w := by
  have : i ≤ (y : Int) := by omega
  simp [Instr.sliceBound, asIntOf, h0, this]

theorem sim_slice (hR : R P base H α w) (hE : EnvR α lk a) {o : Oper} {t : TypeId} {x : Operand} {lo hi mx : Option Operand} (ho : o.op = .slice t x lo hi mx) {v : AV} {H' : Heap} (h : op_slice t x lo hi mx P eqs lk H = some (.val v H')) :
    Res P base H α w ((execOp a.eval o).run P w) v H' := by
  unfold op_slice at h
  split at h
  · rename_i s hx
    split at h
    · rename_i l hh ht hlo hhi
      cases hc : (Nat.ble l hh && Nat.ble hh s.length)
      · rw [hc] at h; cases h
      · rw [hc] at h
        cases h
        simp only [Bool.and_eq_true, Nat.ble_eq] at hc
        obtain ⟨b, he, hb⟩ := rho_sim hE hx
        subst hb
        have hsz : b.data.toList.length = b.size := by simp
        rw [hsz] at hc hhi
        refine Res.pure hR (u := .string (b.extract l hh)) ?_ ⟨_, rfl, ?_⟩
        · have e1 := boundA_sim hE hlo
          have e2 := boundA_sim hE hhi
          rcases e2 with ⟨rfl, rfl⟩ | ⟨y, k, n, rfl, hy, h0, rfl⟩ <;> rcases e1 with ⟨rfl, rfl⟩ | ⟨y', k', n', rfl, hy', h0', rfl⟩
          · simp [execOp, ho, he, Instr.sliceAt, Instr.slice, run_underlying ht, Instr.sliceBounds]
          · have q1 := run_sliceBound' (P := P) k' n' b.size .sliceB h0' hc.1 w
            simp [execOp, ho, he, Instr.sliceAt, Instr.slice, run_underlying ht, Instr.sliceBounds, hy', q1]
          · have q1 := run_sliceBound' (P := P) k n b.size .sliceAlen h0 hc.2 w
            simp [execOp, ho, he, Instr.sliceAt, Instr.slice, run_underlying ht, Instr.sliceBounds, hy, q1]
          · have q1 := run_sliceBound' (P := P) k n b.size .sliceAlen h0 hc.2 w
            have q2 := run_sliceBound' (P := P) k' n' n.toNat .sliceB h0' hc.1 w
            simp [execOp, ho, he, Instr.sliceAt, Instr.slice, run_underlying ht, Instr.sliceBounds, hy, hy', q1, q2]
        · rw [Lib.extract_data, List.drop_take]
    · cases h
  · rename_i id oo n hx
    split at h
    · rename_i e l hh he hlo hhi
      split at h
      · rename_i z hz
        cases hc : (Nat.ble l hh && Nat.ble hh n && !Nat.beq z 0)
        · rw [hc] at h; cases h
        · rw [hc] at h
          cases h
          simp only [Bool.and_eq_true, Nat.ble_eq, Bool.not_eq_true', ← Bool.not_eq_true, Nat.beq_eq] at hc
          obtain ⟨⟨hc1, hc2⟩, hz0⟩ := hc
          obtain ⟨L, c, hL, hnc, hcm, hs⟩ := rho_sim hE hx
          have e1 := boundA_sim hE hlo
          have e2 := boundA_sim hE hhi
          have hv : ∃ ad, a.eval x = .slice ad n c := by
            rcases hs with ⟨hs, _⟩ | ⟨h0, _, ad, hs⟩
            · exact ⟨_, hs⟩
            · subst h0; exact ⟨ad, hs⟩
          obtain ⟨ad, hv⟩ := hv
          have hrun : (execOp a.eval o).run P w = .ok (.value (.slice (if c = l then ad else ad.map (·.add (l * z))) (hh - l) (c - l))) w := by
            rcases e2 with ⟨rfl, rfl⟩ | ⟨y, k, m, rfl, hy, h0, rfl⟩ <;> rcases e1 with ⟨rfl, rfl⟩ | ⟨y', k', m', rfl, hy', h0', rfl⟩
            · simp [execOp, ho, hv, Instr.sliceAt, Instr.slice, run_underlying (isSliceD_spec he), Instr.sliceBounds, run_sizeO hz]
            · have q1 := run_sliceBound' (P := P) k' m' hh .sliceB h0' hc1 w
              simp [execOp, ho, hv, Instr.sliceAt, Instr.slice, run_underlying (isSliceD_spec he), Instr.sliceBounds, hy', q1, run_sizeO hz]
            · have q1 := run_sliceBound' (P := P) k m c .sliceAcap h0 (by omega) w
              simp [execOp, ho, hv, Instr.sliceAt, Instr.slice, run_underlying (isSliceD_spec he), Instr.sliceBounds, hy, q1, run_sizeO hz]
            · have q1 := run_sliceBound' (P := P) k m c .sliceAcap h0 (by omega) w
              have q2 := run_sliceBound' (P := P) k' m' m.toNat .sliceB h0' hc1 w
              simp [execOp, ho, hv, Instr.sliceAt, Instr.slice, run_underlying (isSliceD_spec he), Instr.sliceBounds, hy, hy', q1, q2, run_sizeO hz]
          refine Res.pure hR (u := _) hrun ?_
          clear e1 e2
          refine ⟨L, c - l, hL, by omega, by omega, ?_⟩
          have hzl : 0 < l → 0 < l * z := fun h1 => Nat.mul_pos h1 (by omega)
          rcases hs with ⟨hs, hcap⟩ | ⟨h0, hoo, ad', hs⟩
          · rw [hv] at hs
            injection hs with hs _ _
            subst hs
            by_cases hcl : c = l
            · by_cases hl0 : l = 0
              · left
                subst hl0
                refine ⟨by rw [if_pos hcl]; simp, fun e => ?_⟩
                simp only [Nat.zero_mul, Nat.add_zero] at e
                rw [Nat.sub_zero]; exact hcap e
              · right
                refine ⟨by omega, ?_, ?_⟩
                · have := hzl (by omega); simp only; omega
                · exact ⟨_, by rw [show hh - l = 0 from by omega]⟩
            · left
              refine ⟨by rw [if_neg hcl]; simp [Addr.add_lit, Nat.add_assoc], fun e => ?_⟩
              have hl0 : l = 0 := by
                rcases Nat.eq_zero_or_pos l with h1 | h1
                · exact h1
                · have := hzl h1; simp only at e; omega
              subst hl0
              simp only [Nat.zero_mul, Nat.add_zero] at e
              rw [Nat.sub_zero]; exact hcap e
          · right
            exact ⟨by omega, by simp only at hoo ⊢; omega, _, by rw [show hh - l = 0 from by omega]⟩
      · cases h
    · cases h
  · cases h

/-! ### conversions -/
theorem foldl_push {A : Type} (f : A → UInt8) : ∀ (ns : List A) (b : ByteArray), (ns.foldl (fun r n => r.push (f n)) b).data.toList = b.data.toList ++ ns.map f
  | [], b => by simp
  | n :: r, b => by
    rw [List.foldl_cons, foldl_push f r]
    simp [ByteArray.push]
theorem bytesA_sim : ∀ {cs : List AT} {l : List UInt8} {vs : List Value}, bytesA cs = some l → F2 (AR α) cs vs → ∃ ns : List Int, vs = ns.map (Value.int .u8) ∧ l = ns.map fun n => UInt8.ofNat n.toNat
  | [], l, _, h, .nil => by simp only [bytesA] at h; cases h; exact ⟨[], rfl, rfl⟩
  | x :: r, l, _, h, .cons h1 h2 => by
    unfold bytesA at h
    split at h
    · cases ‹_ :: _ = []›
    · rename_i n r' he
      cases he
      split at h
      · rename_i l' hl
        cases h
        obtain ⟨ns, e1, e2⟩ := bytesA_sim hl h2
        exact ⟨n :: ns, by rw [e1]; simp only [List.map_cons]; rw [show _ = Value.int .u8 n from h1], by rw [e2]; rfl⟩
      · cases h
    · cases h
theorem rowA_spec {id o n : Nat} {cs : List AT} (h : rowA H id o n = some cs) : ∃ T k c, H.get id = some (.cells T k c) ∧ o + n ≤ c.length ∧ cs = (c.drop o).take n := by
  unfold rowA at h
  split at h
  · rename_i T k c hc
    cases hle : Nat.ble (o + n) c.length
    · rw [hle] at h; cases h
    · rw [hle] at h; cases h; exact ⟨T, k, c, hc, Nat.le_of_ble_eq_true hle, rfl⟩
  · cases h
/-- A stretch of a laid object as values in the world. -/
theorem row_laid (hR : R P base H α w) {id o n : Nat} {cs : List AT} (h : rowA H id o n = some cs) : ∃ L vs, α id = some L ∧ F2 (AR α) cs vs ∧ vs.length = n ∧
    ∀ j v, vs[j]? = some v → w.cell? ((⟨L.blk, L.off + o, none⟩ : Addr).add j) = some v := by
  obtain ⟨T, k, c, h1, h2, rfl⟩ := rowA_spec h
  obtain ⟨L, arr, fz, e1, e2, e3, e4, _⟩ := hR.obj _ _ h1
  refine ⟨L, (arr.toList.drop (L.off + o)).take n, e1, seg_vals e4 o n h2 e3, by simp; omega, seg_cells e2 _ _⟩

theorem sim_convert (hR : R P base H α w) (hE : EnvR α lk a) {o : Oper} {s d : TypeId} {x : Operand} (ho : o.op = .convert s d x) {v : AV} {H' : Heap} (h : op_convert s d x P eqs lk H = some (.val v H')) :
    Res P base H α w ((execOp a.eval o).run P w) v H' := by
  unfold op_convert at h
  split at h
  · rename_i u hu
    split at h
    · rename_i b hb
      cases h
      have h1 := rho_sim hE hu
      unfold convA at hb
      split at hb
      · rename_i k n
        have e1 : a.eval x = .int k n := h1
        split at hb
        · rename_i k1 k2 hs hd
          cases hb
          refine Res.pure hR (u := .int k2 (k2.wrap n)) ?_ (by rw [wrapA_eq]; rfl)
          simp [execOp, ho, e1, convert, run_underlying hs, run_underlying hd, Conv.intToInt]
        · cases hb
      · rename_i id oo n
        split at hb
        · rename_i e hs hd
          cases hu8 : isU8 (P.underlying e)
          · rw [hu8] at hb; cases hb
          · rw [hu8] at hb
            simp only [cond_true] at hb
            split at hb
            · rename_i cs hcs
              split at hb
              · rename_i l hl
                cases hb
                obtain ⟨L, vs, e1, e2, e3, e4⟩ := row_laid hR hcs
                obtain ⟨ns, q1, q2⟩ := bytesA_sim hl e2
                have hev : P.underlying e = some (.int .u8) := by
                  unfold isU8 at hu8
                  split at hu8
                  · assumption
                  · cases hu8
                obtain ⟨L', c, hL, hnc, _, hsl⟩ := h1
                rw [e1] at hL; cases hL
                rcases hsl with ⟨hsl, _⟩ | ⟨h0, _, ad, hsl⟩
                · have hld := run_loadCells_list (P := P) w _ vs e4
                  rw [e3, q1] at hld
                  have hb := run_bytesToString (P := P) w ⟨L.blk, L.off + oo, none⟩ n c ns hld
                  refine Res.pure hR (u := .string (ns.foldl (fun r n => r.push (UInt8.ofNat n.toNat)) ByteArray.empty)) ?_ ?_
                  · simp only [execOp, ho, hsl, convert, Sem.run_bind, run_underlying hs, run_underlying hd, run_underlying hev, Result.andThen_ok]
                    rw [hb]
                    rfl
                  · exact ⟨_, rfl, by rw [q2, foldl_push]; rfl⟩
                · subst h0
                  have hl0 : l = [] := by rw [q2]; cases ns with | nil => rfl | cons _ _ => rw [q1] at e3; simp at e3
                  subst hl0
                  refine Res.pure hR (u := .string .empty) ?_ ⟨_, rfl, rfl⟩
                  cases ad with
                  | none => simp [execOp, ho, hsl, convert, run_underlying hs, run_underlying hd, run_underlying hev, Conv.bytesToString]
                  | some ad =>
                    have hb := run_bytesToString (P := P) w ad 0 c [] rfl
                    simp only [execOp, ho, hsl, convert, Sem.run_bind, run_underlying hs, run_underlying hd, run_underlying hev, Result.andThen_ok]
                    rw [hb]
                    rfl
              · cases hb
            · cases hb
        · cases hb
      · cases hb
    · cases h
  · cases h

/-! ### literals -/
theorem partsOf_sim (hE : EnvR α lk a) : ∀ {l : List (Nat × Operand)} {m : List (Nat × AV)}, partsOf lk l = some m → F2 (fun p q => p.1 = q.1 ∧ VR α p.2 q.2) m (l.map fun p => (p.1, a.eval p.2))
  | [], m, h => by cases h; exact .nil
  | x :: r, m, h => by
    have h' : (match rho lk x.2, partsOf lk r with
      | some b, some l => some ((x.1, b) :: l)
      | _, _ => none) = some m := h
    split at h'
    · rename_i b l h1 h2; cases h'; exact .cons ⟨rfl, rho_sim hE h1⟩ (partsOf_sim hE h2)
    · cases h'
theorem foldl_set (xs : List Value) : ∀ (off k : Nat) (cs : Array Value), off + k + xs.length ≤ cs.size →
    ((xs.zipIdx k).foldl (fun cs (p : Value × Nat) => cs.setIfInBounds (off + p.2) p.1) cs).toList = cs.toList.take (off + k) ++ xs ++ cs.toList.drop (off + k + xs.length) := by
  induction xs with
  | nil => intro off k cs _; simp
  | cons x r ih =>
    intro off k cs h
    simp only [List.zipIdx_cons, List.foldl_cons]
    simp only [List.length_cons] at h
    rw [ih off (k + 1) _ (by simp; omega)]
    apply List.ext_getElem?
    intro j
    have e1 : off + (k + 1) = off + k + 1 := by omega
    rw [e1]
    rw [putL_get (by simp; omega), putL_get (by simp; omega)]
    simp only [Array.toList_setIfInBounds, List.length_cons, List.getElem?_set]
    by_cases c1 : j = off + k
    · subst c1
      have : off + k < cs.size := by omega
      simp [this]; omega
    · by_cases c2 : off + k + 1 ≤ j ∧ j < off + k + 1 + r.length
      · rw [if_pos c2, if_pos (by omega), show j - (off + k) = (j - (off + k + 1)) + 1 from by omega, List.getElem?_cons_succ]
      · rw [if_neg c2, if_neg (by omega), if_neg (by omega)]
theorem fillA_sim {place : Nat → Option (Nat × Nat)} : ∀ {ps : List (Nat × AV)} {qs : List (Nat × Value)} {cs out : List AT} {arr : Array Value}, fillA place cs ps = some out →
    F2 (fun p q => p.1 = q.1 ∧ VR α p.2 q.2) ps qs → F2 (AR α) cs arr.toList → ∃ arr', Instr.fill place arr qs = some arr' ∧ F2 (AR α) out arr'.toList
  | [], _, cs, out, arr, h, .nil, hc => by simp only [fillA] at h; cases h; exact ⟨arr, rfl, hc⟩
  | (i, .one x) :: r, _, cs, out, arr, h, .cons (b := (i', v)) h1 h2, hc => by
    simp only [fillA] at h
    obtain ⟨h11, h12⟩ := h1
    simp only at h11 h12
    subst h11
    simp only [Instr.fill]
    split at h
    · rename_i off size hp
      cases hcond : (Nat.beq x.cells.length size && Nat.ble (off + size) cs.length)
      · rw [hcond] at h; cases h
      · rw [hcond] at h
        simp only [cond_true] at h
        simp only [Bool.and_eq_true, Nat.beq_eq, Nat.ble_eq] at hcond
        obtain ⟨g1, g2⟩ := hcond
        have hx : V1 α x v := h12
        have hxc := hx.cells
        have hl : v.cells.size = size := by rw [← g1, hxc.length]; simp
        have hsz : arr.size = cs.length := by rw [hc.length]; simp
        have hlen : v.cells.toList.length = x.cells.length := hxc.length.symm
        simp only [hp]
        rw [if_neg (by rw [hl]; simp; omega)]
        refine fillA_sim h h2 ?_
        have hf := foldl_set v.cells.toList off 0 arr (by simp; omega)
        have e : (v.cells.zipIdx.foldl (fun cs (x : Value × Nat) => cs.setIfInBounds (off + x.2) x.1) arr).toList = arr.toList.take off ++ v.cells.toList ++ arr.toList.drop (off + v.cells.toList.length) := by
          rw [← Array.foldl_toList]
          simpa using hf
        show F2 (AR α) (putL cs off x.cells) _
        rw [e]
        unfold putL
        rw [hlen]
        exact ((hc.take off).append hxc).append (hc.drop _)
    · cases h
  | (_, .tup _) :: _, _, cs, out, arr, h, _, _ => by simp only [fillA] at h; cases h

theorem run_placesA : ∀ {l : List Field} {pl : List (Nat × Nat)}, placesA P l = some pl → ∀ w, (l.mapM fun f => do pure (f.offset, ← sizeOf f.type) : Sem (List (Nat × Nat))).run P w = .ok pl w
  | [], pl, h, w => by cases h; rfl
  | f :: r, pl, h, w => by
    have h' : (match sizeO P f.type, placesA P r with
      | some n, some r => some ((f.offset, n) :: r)
      | _, _ => none) = some pl := h
    split at h'
    · rename_i n q h1 h2
      cases h'
      have := run_placesA h2 w
      simp only [List.mapM_cons, Sem.run_bind, run_sizeO h1, Result.andThen_ok, Sem.run_pure]
      try simp only [Sem.run_bind] at this
      rw [this]; rfl
    · cases h'

theorem sim_build (hR : R P base H α w) (hE : EnvR α lk a) {o : Oper} {T : TypeId} {parts : Array (Nat × Operand)} (ho : o.op = .build T parts) {v : AV} {H' : Heap} (h : op_build T parts P eqs lk H = some (.val v H')) :
    Res P base H α w ((execOp a.eval o).run P w) v H' := by
  unfold op_build at h
  split at h
  · rename_i z fields ps hz hu hps
    split at h
    · rename_i pl hpl
      split at h
      · rename_i cs hcs
        cases h
        obtain ⟨zv, e1, e2⟩ := run_zeroOf (α := α) hz w
        obtain ⟨arr, rfl, e3⟩ := e2
        have hq := partsOf_sim hE hps
        obtain ⟨arr', g1, g2⟩ := fillA_sim hcs hq e3
        refine Res.pure hR (u := .agg arr') ?_ ⟨arr', rfl, g2⟩
        have hp := run_placesA hpl w
        simp only [execOp, ho, Instr.build, Sem.run_bind, e1, Result.andThen_ok, run_underlying hu, Value.cells, Array.mapM_eq_mapM_toList, Sem.run_map]
        try simp only [Sem.run_bind] at hp
        rw [hp]
        have g1' : Instr.fill (fun x => pl.toArray[x]?) arr (parts.map fun x => (x.1, a.eval x.2)).toList = some arr' := by
          simpa using g1
        simp only [Result.andThen_ok]
        rw [g1']
        rfl
      · cases h
    · cases h
  · rename_i z n e ps hz hu hps
    split at h
    · rename_i m hm
      split at h
      · rename_i cs hcs
        cases h
        obtain ⟨zv, e1, e2⟩ := run_zeroOf (α := α) hz w
        obtain ⟨arr, rfl, e3⟩ := e2
        have hq := partsOf_sim hE hps
        obtain ⟨arr', g1, g2⟩ := fillA_sim hcs hq e3
        refine Res.pure hR (u := .agg arr') ?_ ⟨arr', rfl, g2⟩
        have g1' : Instr.fill (fun i => some (i * m, m)) arr (parts.map fun x => (x.1, a.eval x.2)).toList = some arr' := by
          simpa using g1
        simp only [execOp, ho, Instr.build, Sem.run_bind, e1, Result.andThen_ok, run_underlying hu, Value.cells, run_sizeO hm]
        rw [g1']
        rfl
      · cases h
    · cases h
  · cases h

/-- n cells of a zero value, one after the other. -/
theorem range_zero {zc : List AT} {z : Array Value} (hz : F2 (AR α) zc z.toList) (m : Nat) (h0 : 0 < zc.length) :
    F2 (AR α) ((List.range m).map fun i => (zc[i % zc.length]?).getD .nilIf) ((Array.range m).map fun i => z[i % z.size]!).toList := by
  have hl : zc.length = z.size := by rw [hz.length]; simp
  refine F2.mk' (by simp) fun j x y hx hy => ?_
  have hj : j < m := by
    rw [List.getElem?_eq_some_iff] at hx; obtain ⟨h, _⟩ := hx; simpa using h
  have hm : j % zc.length < zc.length := Nat.mod_lt _ h0
  have hm' : j % z.size < z.size := by rw [← hl]; exact hm
  simp only [List.getElem?_map, List.getElem?_range hj, Option.map_some, Option.some.injEq] at hx
  rw [List.getElem?_eq_getElem hm] at hx
  simp only [Option.getD_some] at hx
  simp only [Array.toList_map, Array.toList_range, List.getElem?_map, List.getElem?_range hj, Option.map_some, Option.some.injEq] at hy
  rw [getElem!_pos z _ hm'] at hy
  subst hx hy
  refine hz.get2 (List.getElem?_eq_getElem hm) ?_
  rw [Array.getElem?_toList, show j % zc.length = j % z.size from by rw [hl]]
  exact Array.getElem?_eq_getElem hm'
theorem OR.fresh2 {T : TypeId} {cs : List AT} {vs : List Value} {info : TypeInfo} {cap : Nat} (hv : F2 (AR α) cs vs) (hb : base ≤ w.heap.size) (hd : α H.n = none) (hi : P.info? T = some info) (hc : vs.length = cap * info.size) (hm : cap ≤ maxLen) :
    OR P base (upd α H.n ⟨w.heap.size, 0, cap⟩) (w.alloc (.cells vs.toArray T)) H.n (.cells T 2 cs) := by
  refine ⟨_, vs.toArray, (0, 0), upd_self _ _ _, by simpa using heap_alloc_new w _, by simp [hv.length], fun j q hq => ?_, fun _ => ⟨hb, rfl⟩, fun _ => ⟨rfl, hm, info, hi, by simpa using hc⟩⟩
  obtain ⟨v, h1, h2⟩ := hv.get hq
  exact ⟨v, by simpa using h1, h2.mono (sub_upd hd)⟩
theorem sizeO_info {t : TypeId} {n : Nat} (h : sizeO P t = some n) : ∃ i, P.info? t = some i ∧ i.size = n := by
  unfold sizeO at h
  split at h
  · rename_i i hi; cases h; exact ⟨i, hi, rfl⟩
  · cases h
theorem zeroOf_spec {t : TypeId} {x : A1} (h : zeroOf P t = some x) : ∃ i z, P.info? t = some i ∧ i.zero = some z ∧ cv1 z = some x := by
  unfold zeroOf at h
  split at h
  · rename_i i hi
    split at h
    · rename_i z hz; exact ⟨i, z, hi, hz, h⟩
    · cases h
  · cases h
theorem z_cells {x : A1} {z : Value} (h : V1 α x z) : z.cells.size = x.cells.length := by
  rw [h.cells.length]; simp

theorem mk_buildSlice (hb : base ≤ w.heap.size) (hd : α H.n = none) (hE : EnvR α lk a) {o : Oper} {T : TypeId} {len : Nat} {parts : Array (Nat × Operand)} (ho : o.op = .buildSlice T len parts) {v : AV} {H' : Heap} (h : op_buildSlice T len parts P eqs lk H = some (.val v H')) :
    ∃ obj, H' = H.push obj ∧ Fresh P base α w ((execOp a.eval o).run P w) H.n v obj := by
  unfold op_buildSlice at h
  split at h
  · rename_i e ps hu hps
    split at h
    · rename_i n z hn hz
      cases hcond : (Nat.ble (len * n) 16777216 && Nat.ble 1 n && Nat.beq z.cells.length n && Nat.ble len 9223372036854775807)
      · rw [hcond] at h; cases h
      · rw [hcond] at h
        simp only [cond_true] at h
        simp only [Bool.and_eq_true, Nat.ble_eq, Nat.beq_eq] at hcond
        obtain ⟨⟨⟨c1, c2⟩, c3⟩, c4⟩ := hcond
        split at h
        · rename_i cs hcs
          cases h
          obtain ⟨zv, e1, e2⟩ := run_zeroOf (α := α) hz w
          have hq := partsOf_sim hE hps
          have hrz := range_zero (m := len * n) e2.cells (by omega)
          obtain ⟨arr', g1, g2⟩ := fillA_sim hcs hq hrz
          obtain ⟨info, hi, hisz⟩ := sizeO_info hn
          have hfill : arr'.size = len * n := by
            have : ∀ {place : Nat → Option (Nat × Nat)} {qs : List (Nat × Value)} {x y : Array Value}, Instr.fill place x qs = some y → y.size = x.size := by
              intro place qs
              induction qs with
              | nil => intro x y h; simp only [Instr.fill] at h; cases h; rfl
              | cons q r ih =>
                intro x y h
                obtain ⟨i, v⟩ := q
                simp only [Instr.fill] at h
                split at h
                · cases h
                · split at h
                  · cases h
                  · rw [ih h]
                    have hs : ∀ (l : List (Value × Nat)) (k : Nat) (c : Array Value), (l.foldl (fun cs (x : Value × Nat) => cs.setIfInBounds (k + x.2) x.1) c).size = c.size := by
                      intro l
                      induction l with
                      | nil => intro k c; rfl
                      | cons p l ih => intro k c; rw [List.foldl_cons, ih]; simp
                    rw [← Array.foldl_toList]
                    exact hs _ _ _
            rw [this g1]; simp
          refine ⟨_, rfl, .slice (some ⟨w.heap.size, 0, none⟩) len len, .cells arr' e, ⟨w.heap.size, 0, len⟩, ?_, rfl, ?_, ?_, RowKit.frozen?_alloc_cells _ _ _⟩
          · have g1' : Instr.fill (fun i => some (i * n, n)) ((Array.range (len * n)).map fun i => zv.cells[i % zv.cells.size]!) (parts.map fun x => (x.1, a.eval x.2)).toList = some arr' := by
              simpa using g1
            simp only [execOp, ho, Instr.buildSlice, Sem.run_bind, run_underlying (isSliceD_spec hu), Result.andThen_ok, run_sizeO hn]
            rw [if_neg (by omega)]
            by_cases h0 : len * n = 0
            · rw [if_pos h0]
              rw [h0] at g1' ⊢
              simp only [Array.range_zero', Array.map_empty] at g1' ⊢
              simp only [Sem.run_bind, Sem.run_pure, Result.andThen_ok]
              rw [g1']
              rfl
            · rw [if_neg h0]
              simp only [Sem.run_bind, e1, Sem.run_pure, Result.andThen_ok]
              rw [g1']
              rfl
          · exact ⟨_, len, upd_self _ _ _, Nat.le_refl _, by unfold maxLen; omega, .inl ⟨by simp, fun _ => rfl⟩⟩
          · have := OR.fresh2 (P := P) (H := H) (T := e) (cap := len) (vs := arr'.toList) g2 hb hd hi (by rw [hisz]; simpa using hfill) (by unfold maxLen; omega)
            exact by simpa using this
        · cases h
    · cases h
  · cases h

theorem sim_buildSlice (hR : R P base H α w) (hE : EnvR α lk a) {o : Oper} {T : TypeId} {len : Nat} {parts : Array (Nat × Operand)} (ho : o.op = .buildSlice T len parts) {v : AV} {H' : Heap} (h : op_buildSlice T len parts P eqs lk H = some (.val v H')) :
    Res P base H α w ((execOp a.eval o).run P w) v H' := Fresh.res hR (mk_buildSlice (eqs := eqs) (lk := lk) hR.bs (hR.dom _ (Nat.le_refl _)) hE ho h)

theorem mk_makeMap (hb : base ≤ w.heap.size) (_ : α H.n = none) {o : Oper} {T : TypeId} {r : Option Operand} (ho : o.op = .makeMap T r) {v : AV} {H' : Heap} (h : op_makeMap T r P eqs lk H = some (.val v H')) :
    ∃ obj, H' = H.push obj ∧ Fresh P base α w ((execOp a.eval o).run P w) H.n v obj := by
  unfold op_makeMap at h
  split at h
  · cases h
    refine ⟨_, rfl, .map (some w.heap.size), .map #[] 0, ⟨w.heap.size, 0, 0⟩, ?_, rfl, ⟨_, upd_self _ _ _, rfl⟩, ?_, frozen_map _ _ _⟩
    · simp [execOp, ho, Instr.makeMap]
    · exact ⟨_, #[], 0, upd_self _ _ _, by simpa using heap_alloc_new w _, hb, .nil⟩
  · cases h

theorem sim_makeMap (hR : R P base H α w) {o : Oper} {T : TypeId} {r : Option Operand} (ho : o.op = .makeMap T r) {v : AV} {H' : Heap} (h : op_makeMap T r P eqs lk H = some (.val v H')) :
    Res P base H α w ((execOp a.eval o).run P w) v H' := Fresh.res hR (mk_makeMap (eqs := eqs) (lk := lk) hR.bs (hR.dom _ (Nat.le_refl _)) ho h)

theorem mk_makeSlice (hb : base ≤ w.heap.size) (hd : α H.n = none) (hE : EnvR α lk a) {o : Oper} {t : TypeId} {l c : Operand} (ho : o.op = .makeSlice t l c) {v : AV} {H' : Heap} (h : op_makeSlice t l c P eqs lk H = some (.val v H')) :
    ∃ obj, H' = H.push obj ∧ Fresh P base α w ((execOp a.eval o).run P w) H.n v obj := by
  unfold op_makeSlice at h
  split at h
  · rename_i e lv cv hu hl hc
    split at h
    · rename_i i z n n' hi hz hn hn'
      split at h
      · rename_i hcond
        cases h
        obtain ⟨rfl, h0, hby, hm, hs, hzs⟩ := hcond
        obtain ⟨k, hk⟩ := intA_sim hn (rho_sim hE hl)
        obtain ⟨k', hk'⟩ := intA_sim hn' (rho_sim hE hc)
        obtain ⟨i', zv, hi', e1, e2⟩ := zeroOf_spec hz
        rw [hi] at hi'; cases hi'
        have e2 := cv1_sim (α := α) e2
        have hrz := range_zero (m := n.toNat * i.size) e2.cells (by omega)
        refine ⟨_, rfl, .slice (some ⟨w.heap.size, 0, none⟩) n.toNat n.toNat, .cells ((Array.range (n.toNat * i.size)).map fun j => zv.cells[j % zv.cells.size]!) e, ⟨w.heap.size, 0, n.toNat⟩, ?_, rfl, ?_, ?_, RowKit.frozen?_alloc_cells _ _ _⟩
        · have := run_make (P := P) w t e i zv (isSliceD_spec hu) hi e1 k k' n n h0 (Int.le_refl _) (by rw [Int.mul_comm]; omega) hm
          simp only [execOp, ho, hk, hk', Sem.run_bind, this, Result.andThen_ok, Sem.run_pure]
          rfl
        · exact ⟨_, n.toNat, upd_self _ _ _, Nat.le_refl _, by unfold maxLen; omega, .inl ⟨by simp, fun _ => rfl⟩⟩
        · have := OR.fresh2 (P := P) (H := H) (T := e) (cap := n.toNat) (vs := ((Array.range (n.toNat * i.size)).map fun j => zv.cells[j % zv.cells.size]!).toList) hrz hb hd hi (by simp) (by unfold maxLen; omega)
          rw [Array.toArray_toList] at this
          exact this
      · cases h
    · cases h
  · cases h
theorem sim_makeSlice (hR : R P base H α w) (hE : EnvR α lk a) {o : Oper} {t : TypeId} {l c : Operand} (ho : o.op = .makeSlice t l c) {v : AV} {H' : Heap} (h : op_makeSlice t l c P eqs lk H = some (.val v H')) :
    Res P base H α w ((execOp a.eval o).run P w) v H' := Fresh.res hR (mk_makeSlice (eqs := eqs) (lk := lk) hR.bs (hR.dom _ (Nat.le_refl _)) hE ho h)

end
end Go.Ea
end

/-
  THE ENGINE, part 6: maps, append, the builtins, calls; and all operations in one theorem. Over any program. Written in this session.
-/
section
namespace Go.Ea
section
variable {P : Program} {base : Nat} {H : Heap} {α : Al} {w : World} {a : Act} {lk : Nat → Option AV} {eqs : Eqs}

theorem ba_data (x y : ByteArray) : (x == y) = (x.data == y.data) := by
  cases x; cases y; rfl
theorem ba_eq {x y : ByteArray} (h : (x == y) = true) : x = y := by
  rw [ba_data] at h
  have : x.data = y.data := by simpa using h
  cases x; cases y; simp_all
theorem ba_beq (x y : ByteArray) : (x == y) = (x.data.toList == y.data.toList) := by
  rw [ba_data]
  by_cases e : x.data = y.data
  · rw [e]; simp
  · have h1 : (x.data == y.data) = false := by simpa using e
    have h2 : (x.data.toList == y.data.toList) = false := by
      rw [beq_eq_false_iff_ne]; intro h; exact e (Array.toList_inj.1 h)
    rw [h1, h2]
theorem sameNow_sim {d : TypeDesc} {k k' : AT} {v v' : Value} {b : Bool} (hd : keyD (some d) k = true) (h : keyA k k' = some b) (hv : AR α k v) (hv' : AR α k' v') :
    Instr.sameNow d v v' = some b ∧ (b = true → ∀ n, Instr.sameBits n v' v = true) := by
  unfold keyA at h
  split at h
  · rename_i kk x kk' y
    split at h
    · rename_i e
      cases h; subst e
      have e1 : v = .int kk x := hv
      have e2 : v' = .int kk y := hv'
      subst e1 e2
      cases d <;> simp only [keyD, Bool.false_eq_true] at hd
      refine ⟨by simp [Instr.sameNow], fun hb n => ?_⟩
      have : x = y := by simpa using hb
      subst this
      cases n <;> simp [Instr.sameBits]
    · cases h
  · rename_i x y
    cases h
    obtain ⟨s, e1, hs⟩ := hv
    obtain ⟨s', e2, hs'⟩ := hv'
    subst e1 e2 hs hs'
    cases d <;> simp only [keyD, Bool.false_eq_true] at hd
    rw [eqS_eq]
    refine ⟨by simp only [Instr.sameNow]; rw [ba_beq], fun hb n => ?_⟩
    rw [← ba_beq] at hb
    have := ba_eq hb
    subst this
    cases n <;> simp only [Instr.sameBits, hb]
  · rename_i x y
    cases h
    have e1 : v = .bool x := hv
    have e2 : v' = .bool y := hv'
    subst e1 e2
    cases d <;> simp only [keyD, Bool.false_eq_true] at hd
    refine ⟨by simp [Instr.sameNow], fun hb n => ?_⟩
    have : x = y := by simpa using hb
    subst this
    cases n <;> simp [Instr.sameBits]
  · cases h

abbrev MR (α : Al) (e : AT × A1) (m : MapEntry) : Prop := AR α e.1 m.key ∧ V1 α e.2 m.val
theorem findA_sim {d : TypeDesc} {k : AT} {v : Value} (hd : keyD (some d) k = true) (hv : AR α k v) : ∀ {es : List (AT × A1)} {ms : List MapEntry} {i : Nat} {r : Option (Nat × A1)}, findA k es i = some r → F2 (MR α) es ms →
    match r with
    | none => Instr.findNow d v ms i = some none
    | some (j, x) => i ≤ j ∧ ∃ m, ms[j - i]? = some m ∧ Instr.findNow d v ms i = some (some (j, m.val)) ∧ V1 α x m.val ∧ ∀ n, Instr.sameBits n m.key v = true
  | [], _, i, r, h, .nil => by simp only [findA] at h; cases h; rfl
  | e :: es, m :: ms, i, r, h, .cons h1 h2 => by
    simp only [findA] at h
    split at h
    · rename_i hk
      cases h
      obtain ⟨g1, g2⟩ := sameNow_sim hd hk hv h1.1
      refine ⟨Nat.le_refl _, m, by simp, ?_, h1.2, g2 rfl⟩
      simp only [Instr.findNow, g1]
    · rename_i hk
      obtain ⟨g1, _⟩ := sameNow_sim hd hk hv h1.1
      have ih := findA_sim hd hv h h2
      cases r with
      | none =>
        simp only at ih ⊢
        simp only [Instr.findNow, g1]; exact ih
      | some p =>
        obtain ⟨j, x⟩ := p
        simp only at ih ⊢
        obtain ⟨q1, m', q2, q3, q4, q5⟩ := ih
        refine ⟨by omega, m', ?_, ?_, q4, q5⟩
        · rw [show j - i = (j - (i + 1)) + 1 from by omega, List.getElem?_cons_succ]; exact q2
        · simp only [Instr.findNow, g1]; exact q3
    · cases h

theorem run_checkKey {kt : TypeId} {d : TypeDesc} {k : AT} {v : Value} (hu : P.underlying kt = some d) (hd : keyD (some d) k = true) (hv : AR α k v) (n : Nat) (e : Bool) (w : World) : (Instr.checkKey e (n + 1) kt v).run P w = .ok () w := by
  cases d <;> cases k <;> simp only [keyD, Bool.false_eq_true] at hd
  · have e1 : v = .bool _ := hv
    subst e1; simp [Instr.checkKey, run_underlying hu]
  · have e1 : v = .int _ _ := hv
    subst e1; simp [Instr.checkKey, run_underlying hu]
  · obtain ⟨s, e1, _⟩ := hv
    subst e1; simp [Instr.checkKey, run_underlying hu]
theorem run_getMap {r : Nat} {c : Array MapEntry} {clk : Nat} (h : w.heap[r]? = some (.map c clk)) : (getObj r).run P w = .ok (.map c clk) w := by
  simp [getObj, Sem.run, h]
theorem keyD_some {o : Option TypeDesc} {k : AT} (h : keyD o k = true) : ∃ d, o = some d := by
  cases o with
  | none => cases k <;> cases h
  | some d => exact ⟨d, rfl⟩

theorem sim_lookup (hR : R P base H α w) (hE : EnvR α lk a) {o : Oper} {t : TypeId} {x ix : Operand} {ok : Bool} (ho : o.op = .lookup t x ix ok) {v : AV} {H' : Heap} (h : op_lookup t x ix ok P eqs lk H = some (.val v H')) :
    Res P base H α w ((execOp a.eval o).run P w) v H' := by
  unfold op_lookup at h
  split at h
  · rename_i m k hm hk
    split at h
    · rename_i r hr
      cases h
      have hm' := rho_sim hE hm
      have hk' := rho_sim hE hk
      unfold lookupA at hr
      split at hr
      · rename_i kt et id key hu
        cases hkd : keyD (P.underlying kt) key
        · rw [hkd] at hr; cases hr
        · rw [hkd] at hr
          simp only [cond_true] at hr
          obtain ⟨d, hd⟩ := keyD_some hkd
          rw [hd] at hkd
          obtain ⟨L, hL, he⟩ := hm'
          split at hr
          · rename_i es hes
            obtain ⟨L', c, clk, e1, e2, e3, e4⟩ := hR.obj _ _ hes
            rw [hL] at e1; cases e1
            have hck := run_checkKey (P := P) hd hkd hk' 9999 c.isEmpty w
            have hchk : (Instr.checkKey c.isEmpty 10000 kt (a.eval ix)).run P w = .ok () w := hck
            split at hr
            · rename_i i y hf
              have hfs := findA_sim hkd hk' hf e4
              obtain ⟨_, mm, _, q3, q4, _⟩ := hfs
              cases hr
              refine Res.pure hR (u := if ok then .tuple #[mm.val, .bool true] else mm.val) ?_ ?_
              · simp only [execOp, ho, he, Instr.lookup, Sem.run_bind, run_underlying hu, Result.andThen_ok, run_getMap e2, Sem.run_pure, hchk, Instr.findKey, run_underlying hd, q3]
              · cases ok
                · exact q4
                · exact ⟨_, rfl, .cons q4 (.cons rfl .nil)⟩
            · rename_i hf
              have hfs := findA_sim hkd hk' hf e4
              simp only at hfs
              split at hr
              · rename_i z hz
                cases hr
                obtain ⟨zv, g1, g2⟩ := run_zeroOf (α := α) hz w
                refine Res.pure hR (u := if ok then .tuple #[zv, .bool false] else zv) ?_ ?_
                · simp only [execOp, ho, he, Instr.lookup, Sem.run_bind, run_underlying hu, Result.andThen_ok, run_getMap e2, Sem.run_pure, hchk, Instr.findKey, run_underlying hd, hfs, g1]
                · cases ok
                  · exact g2
                  · exact ⟨_, rfl, .cons g2 (.cons rfl .nil)⟩
              · cases hr
            · cases hr
          · cases hr
      · cases hr
    · cases h
  · cases h

theorem run_setMap {r : Nat} {c c' : Array MapEntry} {clk clk' : Nat} (h : w.heap[r]? = some (.map c clk)) : (setObj r (.map c' clk')).run P w = .ok () { w with heap := w.heap.setIfInBounds r (.map c' clk') } := by
  simp [setObj, Sem.run, h]

theorem sim_mapUpdate (hR : R P base H α w) (hE : EnvR α lk a) {o : Oper} {t : TypeId} {m k x : Operand} (ho : o.op = .mapUpdate t m k x ∨ o.op = .insert t m k x) {v : AV} {H' : Heap} (h : op_mapUpdate t m k x P eqs lk H = some (.val v H')) :
    Res P base H α w ((execOp a.eval o).run P w) v H' := by
  unfold op_mapUpdate at h
  split at h
  · rename_i mv kv xv hm hk hx
    split at h
    · rename_i H2 hr
      cases h
      have hm' := rho_sim hE hm
      have hk' := rho_sim hE hk
      have hx' := rho_sim hE hx
      unfold updateA at hr
      split at hr
      · rename_i kt et id key y hu
        cases hkd : keyD (P.underlying kt) key
        · rw [hkd] at hr; cases hr
        · rw [hkd] at hr
          simp only [cond_true] at hr
          obtain ⟨d, hd⟩ := keyD_some hkd
          rw [hd] at hkd
          obtain ⟨L, hL, he⟩ := hm'
          split at hr
          · rename_i es hes
            obtain ⟨L', c, clk, e1, e2, e3, e4⟩ := hR.obj _ _ hes
            rw [hL] at e1; cases e1
            have hlt : L.blk < w.heap.size := (Array.getElem?_eq_some_iff.1 e2).1
            have hck := run_checkKey (P := P) hd hkd hk' 9999 false w
            have hchk : (Instr.checkKey false 10000 kt (a.eval k)).run P w = .ok () w := hck
            have hexec : (execOp a.eval o) = (do Instr.mapUpdate t (a.eval m) (a.eval k) (a.eval x); pure .skip) := by
              rcases ho with ho | ho <;> simp only [execOp, ho]
            have wr : ∀ (c' : Array MapEntry) (clk' : Nat) (es' : List (AT × A1)), F2 (MR α) es' c'.toList →
                R P base (H.set id (.map es')) α { w with heap := w.heap.setIfInBounds L.blk (.map c' clk') } ∧ Ext H α w (H.set id (.map es')) α { w with heap := w.heap.setIfInBounds L.blk (.map c' clk') } := fun c' clk' es' hf =>
              R.write hR hes rfl hL rfl ⟨rfl, rfl, rfl⟩ (by simp) (fun j hj => by simp [Ne.symm hj]) (frozen_setMap e2) ⟨L, c', clk', hL, by simp [hlt], e3, hf⟩
            split at hr
            · rename_i i z hf
              have hfs := findA_sim hkd hk' hf e4
              obtain ⟨_, mm, q2, q3, q4, q5⟩ := hfs
              cases hr
              rw [Nat.sub_zero] at q2
              refine ⟨.skip, undef, { w with heap := w.heap.setIfInBounds L.blk (.map (c.modify i fun e => { e with key := a.eval k, val := a.eval x }) clk) }, α, ?_, .inr ⟨rfl, rfl⟩, ⟨#[], rfl, .nil⟩, wr _ _ _ ?_⟩
              · have hci : c[i]? = some mm := by simpa using q2
                have hks : (Instr.keyThatStays (((c[i]?).map (·.key)).getD (a.eval k)) (a.eval k)).run P w = .ok (a.eval k) w := by
                  rw [hci]
                  simp only [Option.map_some, Option.getD_some]
                  unfold Instr.keyThatStays
                  rw [if_pos (q5 10000)]; rfl
                rw [hexec]
                simp only [he, Instr.mapUpdate, Sem.run_bind, run_underlying hu, Result.andThen_ok, run_getMap e2, hchk, Instr.findKey, run_underlying hd, q3, Sem.run_pure, hks, run_setMap e2]
              · have hil : i < c.size := by
                  rw [List.getElem?_eq_some_iff] at q2; obtain ⟨hh, _⟩ := q2; simpa using hh
                rw [Array.toList_modify]
                have hme : c.toList.modify i (fun e => { e with key := a.eval k, val := a.eval x }) = c.toList.set i { mm with key := a.eval k, val := a.eval x } := by
                  apply List.ext_getElem?
                  intro j
                  rw [List.getElem?_modify, List.getElem?_set]
                  by_cases hj : i = j
                  · subst hj; have hil' : i < c.toList.length := by rw [Array.length_toList]; exact hil
                    rw [q2]; simp only [if_true]; rw [if_pos hil']; rfl
                  · simp [hj]
                rw [hme]
                exact e4.set i ⟨hk', hx'⟩
            · rename_i hf
              have hfs := findA_sim hkd hk' hf e4
              simp only at hfs
              cases hr
              refine ⟨.skip, undef, { w with heap := w.heap.setIfInBounds L.blk (.map (c.push { key := a.eval k, val := a.eval x, born := clk }) (clk + 1)) }, α, ?_, .inr ⟨rfl, rfl⟩, ⟨#[], rfl, .nil⟩, wr _ _ _ ?_⟩
              · rw [hexec]
                simp only [he, Instr.mapUpdate, Sem.run_bind, run_underlying hu, Result.andThen_ok, run_getMap e2, hchk, Instr.findKey, run_underlying hd, hfs, Sem.run_pure, run_setMap e2]
              · rw [Array.toList_push]
                exact e4.append (.cons ⟨hk', hx'⟩ .nil)
            · cases hr
          · cases hr
      · cases hr
    · cases h
  · cases h

/-! ### append -/
/-- A new object at a block that no live one uses. -/
theorem R.place {w' : World} {o : AObj} {L : Loc} (h : R P base H α w) (hsz : w.heap.size ≤ w'.heap.size) (hb : ∀ k, k < w.heap.size → k ≠ L.blk → w'.heap[k]? = w.heap[k]?)
    (hu : ∀ j oj Lj, H.get j = some oj → oj.live = true → α j = some Lj → Lj.blk ≠ L.blk) (hO : OR P base (upd α H.n L) w' H.n o) : R P base (H.push o) (upd α H.n L) w' := by
  have hs : Sub α (upd α H.n L) := sub_upd (h.dom _ (Nat.le_refl _))
  have old : ∀ {k ok Lk}, k ≠ H.n → (H.push o).get k = some ok → ok.live = true → upd α H.n L k = some Lk → H.get k = some ok ∧ α k = some Lk := fun {k ok Lk} hk h1 h2 h3 => by
    rw [Heap.get_push, if_neg hk] at h1
    rw [upd_ne hk] at h3
    exact ⟨h1, h3⟩
  refine ⟨Nat.le_trans h.bs hsz, fun i hi => ?_, fun i oi hi => ?_, fun i j oi oj Li Lj hij hi hri hj hlj hLi hLj => ?_⟩
  · rw [Heap.n_push] at hi; rw [upd_ne (by omega)]; exact h.dom i (by omega)
  · rw [Heap.get_push] at hi
    by_cases e : i = H.n
    · subst e; rw [if_pos rfl] at hi; cases hi; exact hO
    · rw [if_neg e] at hi
      refine (h.obj i oi hi).move hs (upd_ne e) fun L' h1 h2 => ?_
      obtain ⟨L'', h3, h4⟩ := (h.obj i oi hi).lt h2
      rw [h1] at h3; cases h3
      exact hb _ h4 (hu i oi L' hi h2 h1)
  · by_cases ei : i = H.n
    · have ej : j ≠ H.n := fun e => hij (ei.trans e.symm)
      obtain ⟨h1, h2⟩ := old ej hj hlj hLj
      subst ei; rw [upd_self] at hLi; cases hLi
      exact Ne.symm (hu j oj Lj h1 hlj h2)
    · obtain ⟨h1, h2⟩ := old ei hi (AObj.live_of_rw hri) hLi
      by_cases ej : j = H.n
      · subst ej; rw [upd_self] at hLj; cases hLj
        exact hu i oi Li h1 (AObj.live_of_rw hri) h2
      · obtain ⟨h4, h5⟩ := old ej hj hlj hLj
        exact h.sep i j oi oj Li Lj hij h1 hri h4 hlj h2 h5
theorem run_append_zero {t e ty : TypeId} {i : TypeInfo} (ht : P.underlying t = some (.slice e)) (hi : P.info? e = some i) (b : Option Addr) (n c : Nat) (hn : n ≤ c) (b' : Option Addr) (c' : Nat) :
    (Builtin.append_ #[t, t] ty #[.slice b n c, .slice b' 0 c']).run P w = .ok (.slice b n c) w := by
  cases b <;> cases b' <;> simp [Builtin.append_, run_underlying ht, sizeOf, typeInfo, hi, Builtin.lenOf, hn, Builtin.firstCells, loadCells, loadCellsFrom, storeCells]

theorem sim_append (hR : R P base H α w) {ty t t2 : TypeId} {sv xv v : AV} {s x : Value} {H' : Heap} (h : appendA P H t t2 sv xv = some (v, H')) (hs : VR α sv s) (hx : VR α xv x) :
    ∃ u w' α', (Builtin.append_ #[t, t2] ty #[s, x]).run P w = .ok u w' ∧ VR α' v u ∧ R P base H' α' w' ∧ Ext H α w H' α' w' := by
  unfold appendA at h
  split at h
  · rename_i e e2 hu hu2
    cases htt : Nat.beq t t2
    · rw [htt] at h; cases h
    · rw [htt] at h
      have htt := Nat.eq_of_beq_eq_true htt
      subst htt
      have ht := isSliceD_spec hu
      simp only [Bool.not_true, cond_false] at h
      split at h
      · rename_i i hi
        cases hz0 : Nat.beq i.size 0
        · rw [hz0] at h
          simp only [cond_false] at h
          have hsz : 0 < i.size := by
            rcases Nat.eq_zero_or_pos i.size with e | e
            · rw [e] at hz0; cases hz0
            · exact e
          split at h
          · rename_i z hz
            cases hzs : Nat.beq z.cells.size i.size
            · rw [hzs] at h; cases h
            · rw [hzs] at h
              simp only [cond_true] at h
              have hzs := Nat.eq_of_beq_eq_true hzs
              split at h
              · rename_i m new hsrc
                -- what the source comes to
                have src : (m = 0 ∧ ∃ b c, x = .slice b 0 c) ∨ (∃ ad c vs, x = .slice (some ad) m c ∧ F2 (AR α) new vs ∧ vs.length = m * i.size ∧ ∀ j u, vs[j]? = some u → w.cell? (ad.add j) = some u) := by
                  unfold srcA at hsrc
                  split at hsrc
                  · cases hsrc
                    obtain ⟨_, hx⟩ := hx
                    exact .inl ⟨rfl, _, _, hx⟩
                  · rename_i id oo n
                    cases hn0 : Nat.beq n 0
                    rotate_left
                    · rw [hn0] at hsrc
                      cases hsrc
                      have hn0 := Nat.eq_of_beq_eq_true hn0
                      subst hn0
                      obtain ⟨L', c, hL, _, _, hsl⟩ := hx
                      rcases hsl with ⟨hsl, _⟩ | ⟨_, _, ad, hsl⟩
                      · exact .inl ⟨rfl, _, _, hsl⟩
                      · exact .inl ⟨rfl, _, _, hsl⟩
                    rw [hn0] at hsrc
                    simp only [cond_false] at hsrc
                    split at hsrc
                    · rename_i cs hcs
                      cases hsrc
                      obtain ⟨L, vs, e1, q2, q3, q4⟩ := row_laid hR hcs
                      obtain ⟨L', c, hL, _, _, hsl⟩ := hx
                      rw [e1] at hL; cases hL
                      rcases hsl with ⟨hsl, _⟩ | ⟨h0, _, ad, hsl⟩
                      · exact .inr ⟨_, c, vs, hsl, q2, q3, q4⟩
                      · exact .inl ⟨h0, ad, c, hsl⟩
                    · cases hsrc
                  · cases hsrc
                have zero : m = 0 → ∀ b n c, s = .slice b n c → n ≤ c → (Builtin.append_ #[t, t] ty #[s, x]).run P w = .ok s w := by
                  intro hm b n c hs hnc
                  subst hm hs
                  rcases src with ⟨_, b', c', rfl⟩ | ⟨ad, c', vs, rfl, _⟩
                  · exact run_append_zero ht hi b n c hnc b' c'
                  · exact run_append_zero ht hi b n c hnc (some ad) c'
                split at h
                · rename_i n0
                  have hs0 := hs
                  obtain ⟨_, hs'⟩ := hs0
                  subst hs'
                  cases hm0 : Nat.beq m 0
                  · rw [hm0] at h
                    simp only [cond_false] at h
                    have hm : m ≠ 0 := by intro e; rw [e] at hm0; cases hm0
                    cases hc : (Nat.ble (m * i.bytes) 140737488355328 && Nat.ble m 9223372036854775807)
                    · rw [hc] at h; cases h
                    · rw [hc] at h
                      cases h
                      simp only [Bool.and_eq_true, Nat.ble_eq] at hc
                      rcases src with ⟨h0, _⟩ | ⟨ad, c', vs, rfl, f1, f2, f3⟩
                      · exact absurd h0 hm
                      · have hrun := run_append_nil (P := P) w t ty e i z ht hi hz ad m c' vs f2 f3 (by omega) (by omega) (by omega)
                        have hd := hR.dom _ (Nat.le_refl _)
                        have hcap := grownCap_ge w m 0 e
                        have hcm : grownCap w m 0 e ≤ maxLen := grownCap_le_maxLen w m 0 e (by unfold maxLen; omega)
                        refine ⟨_, _, upd α H.n ⟨w.heap.size, 0, grownCap w m 0 e⟩, hrun, ⟨_, _, upd_self _ _ _, hcap, hcm, .inl ⟨by simp, fun _ => rfl⟩⟩, ?_, (Ext.drew H α w).trans (Ext.alloc_obj hd rfl (RowKit.frozen?_alloc_cells _ _ _))⟩
                        refine hR.drew.alloc rfl ⟨_, _, (0, 0), upd_self _ _ _, by simpa using heap_alloc_new w.drew _, ?_, fun j q hq => ?_, fun _ => ⟨hR.bs, rfl⟩, fun _ => ⟨rfl, hcm, i, hi, ?_⟩⟩
                        · simp [f1.length]
                        · obtain ⟨u, g1, g2⟩ := f1.get hq
                          refine ⟨u, ?_, g2.mono (sub_upd hd)⟩
                          rw [Nat.zero_add, Array.getElem?_append_left (by have := (List.getElem?_eq_some_iff.1 g1).1; simpa using this)]
                          simpa using g1
                        · simp only [Array.size_append, List.size_toArray, size_zeroCells, hzs, f2, ← Nat.add_mul]
                          congr 1; omega
                  · rw [hm0] at h
                    cases h
                    exact ⟨_, w, α, zero (Nat.eq_of_beq_eq_true hm0) none 0 0 rfl (Nat.le_refl _), hs, hR, Ext.refl _ _ _⟩
                · rename_i id oo n
                  have hs0 := hs
                  obtain ⟨L, c, hL, hnc, hcm0, hsl⟩ := hs0
                  have hsv : ∃ b, s = .slice b n c := by
                    rcases hsl with ⟨hsl, _⟩ | ⟨h0, _, b, hsl⟩
                    · exact ⟨_, hsl⟩
                    · subst h0; exact ⟨b, hsl⟩
                  cases hm0 : Nat.beq m 0
                  · rw [hm0] at h
                    simp only [cond_false] at h
                    have hm : m ≠ 0 := by intro e; rw [e] at hm0; cases hm0
                    split at h
                    · rename_i T k cs hobj
                      cases hc : (Nat.beq T e && Nat.beq k 2 && Nat.beq oo 0 && Nat.beq cs.length (n * i.size) && Nat.ble ((n + m) * i.bytes) 140737488355328 && Nat.ble (n + m) 9223372036854775807)
                      · rw [hc] at h; cases h
                      · rw [hc] at h
                        cases h
                        simp only [Bool.and_eq_true, Nat.ble_eq, Nat.beq_eq] at hc
                        obtain ⟨⟨⟨⟨⟨rfl, rfl⟩, rfl⟩, hlen⟩, hby⟩, hmx⟩ := hc
                        obtain ⟨L', cur, fz, o1, o2, o3, o4, o5, o6⟩ := hR.obj _ _ hobj
                        rw [hL] at o1; cases o1
                        obtain ⟨hbb, rfl⟩ := o5 (by omega)
                        obtain ⟨hoff, hcapm, info, hinfo, hcur⟩ := o6 rfl
                        rw [hi] at hinfo; cases hinfo
                        have hidn := Heap.get_lt hobj
                        rcases hsl with ⟨rfl, hcap⟩ | ⟨_, h0, _⟩
                        rotate_left
                        · exact absurd rfl h0
                        have hcap := hcap rfl
                        rcases src with ⟨h0, _⟩ | ⟨ad, c', vs, rfl, f1, f2, f3⟩
                        · exact absurd h0 hm
                        have hvs1 : ∀ u ∈ vs, u.oneCell' = true := fun u hu => by
                          obtain ⟨j, hj, hj'⟩ := List.getElem_of_mem hu
                          obtain ⟨q0, hq0⟩ : ∃ q0, new[j]? = some q0 := ⟨_, List.getElem?_eq_getElem (by rw [f1.length]; exact hj)⟩
                          obtain ⟨q', e1, e2⟩ := f1.get hq0
                          rw [List.getElem?_eq_getElem hj] at e1; cases e1; rw [← hj']; exact e2.oneCell
                        -- the old object goes
                        have hRk := hR.kill hidn
                        have hEk := Ext.kill (α := α) (w := w) hidn
                        have hd := hR.dom _ (Nat.le_refl _)
                        simp only [hoff, Nat.zero_add] at o3 o4 ⊢
                        have holds : ∀ j u, (cur.toList.take (n * i.size))[j]? = some u → w.cell? ((⟨L.blk, 0, none⟩ : Addr).add j) = some u := fun j u hj => by
                          have := seg_cells o2 0 (n * i.size) j u (by simpa using hj)
                          simpa using this
                        have hol : (cur.toList.take (n * i.size)).length = n * i.size := by simp; omega
                        have f0 : F2 (AR α) cs (cur.toList.take (n * i.size)) := by
                          have := seg_vals (s := 0) (by simpa using o4) 0 (n * i.size) (by omega) (by simpa using o3)
                          simpa [← hlen] using this
                        by_cases hroom : n + m ≤ c
                        · have hrun := run_append_room (P := P) w t ty T i ht hi L.blk n c cur o2 ad m c' vs f2 f3 hvs1 hroom (by rw [hcur, f2, ← Nat.add_mul, ← hcap]; exact Nat.mul_le_mul_right _ hroom)
                          have hfit : n * i.size + vs.length ≤ cur.size := by rw [hcur, f2, ← Nat.add_mul, ← hcap]; exact Nat.mul_le_mul_right _ hroom
                          refine ⟨_, _, upd α H.n ⟨L.blk, 0, c⟩, hrun, ⟨_, c, upd_self _ _ _, hroom, hcm0, .inl ⟨by simp, fun _ => rfl⟩⟩, ?_⟩
                          have huse : ∀ j oj Lj, (H.set id .dead).get j = some oj → oj.live = true → α j = some Lj → Lj.blk ≠ L.blk := fun j oj Lj hj hlj hLj => by
                            rw [Heap.get_set _ _ _ _ hidn] at hj
                            by_cases e : j = id
                            · subst e; rw [if_pos rfl] at hj; cases hj; cases hlj
                            · rw [if_neg e] at hj
                              exact Ne.symm (hR.sep id j _ oj L Lj (Ne.symm e) hobj rfl hj hlj hL hLj)
                          have hnewrow : F2 (AR α) (cs ++ new) (cur.toList.take (n * i.size) ++ vs) := f0.append f1
                          refine ⟨R.place hRk (L := ⟨L.blk, 0, c⟩) (by simp) (fun k _ hk => setRow_other _ _ _ _ hk) huse ⟨_, _, (0, 0), upd_self _ _ _, setRow_heap _ _ _ _ _ _ o2, ?_, fun j q hq => ?_, fun _ => ⟨hbb, rfl⟩, fun _ => ⟨rfl, hcm0, i, hi, ?_⟩⟩, ?_⟩
                          · have hnl := hnewrow.length; simp only [List.size_toArray, List.length_append] at hnl ⊢; omega
                          · obtain ⟨u, g1, g2⟩ := hnewrow.get hq
                            refine ⟨u, ?_, g2.mono (sub_upd hd)⟩
                            simp only [Nat.zero_add, List.getElem?_toArray]
                            rw [List.getElem?_append_left (by have := (List.getElem?_eq_some_iff.1 g1).1; simpa using this)]
                            exact g1
                          · simp only [List.size_toArray, List.length_append, List.length_take, List.length_drop, Array.length_toList]
                            rw [hcap, ← hcur]; omega
                          · have sets : ∀ (f : AObj → Bool) k, f (.cells T 2 cs) = true → (∀ k, blkset f (H.set id .dead) α k → blkset f H α k) → blkset f ((H.set id .dead).push (.cells T 2 (cs ++ new))) (upd α H.n ⟨L.blk, 0, c⟩) k → blkset f H α k := by
                              intro f k hf hE hr
                              obtain ⟨j, oj, Lj, h1, h2, h3, h4⟩ := hr
                              rw [Heap.get_push] at h1
                              by_cases e : j = (H.set id .dead).n
                              · subst e
                                simp only [Heap.n_set] at h3
                                rw [upd_self] at h3; cases h3
                                exact ⟨id, _, L, hobj, hf, hL, h4⟩
                              · rw [if_neg e] at h1
                                simp only [Heap.n_set] at e
                                rw [upd_ne e] at h3
                                exact hE k ⟨j, oj, Lj, h1, h2, h3, h4⟩
                            refine ⟨rfl, rfl, rfl, by simp, by simp, sub_upd hd, fun _ hi => upd_ne (Nat.ne_of_lt hi), fun k hk hnr => setRow_other _ _ _ _ ?_, fun k _ hr => sets _ k rfl (fun _ h => kill_set _ rfl (Heap.get_lt hobj) h) hr,
                              fun k _ hr => sets _ k rfl (fun _ h => kill_set _ rfl (Heap.get_lt hobj) h) hr, fun j hj => dead_push (dead_kill (Heap.get_lt hobj) hj), frozen_row⟩
                            rintro rfl; exact hnr ⟨id, _, L, hobj, rfl, hL, rfl⟩
                        · have hrun := run_append_grow (P := P) w t ty T i z ht hi hz ⟨L.blk, 0, none⟩ n c (cur.toList.take (n * i.size)) hol holds ad m c' vs f2 f3 (by omega) (by omega) (growslice_fits (by omega) hby)
                          have hge := grownCap_ge w (n + m) c T
                          have hcm : grownCap w (n + m) c T ≤ maxLen := grownCap_le_maxLen w (n + m) c T (by unfold maxLen; omega)
                          have hnewrow : F2 (AR α) (cs ++ new) (cur.toList.take (n * i.size) ++ vs) := f0.append f1
                          refine ⟨_, _, upd α H.n ⟨w.heap.size, 0, grownCap w (n + m) c T⟩, hrun, ⟨_, _, upd_self _ _ _, hge, hcm, .inl ⟨by simp, fun _ => rfl⟩⟩, ?_, (hEk.trans (Ext.drew _ α w)).trans (Ext.alloc_obj (H := H.set id .dead) hd rfl (RowKit.frozen?_alloc_cells _ _ _))⟩
                          refine hRk.drew.alloc rfl ⟨_, _, (0, 0), upd_self _ _ _, by simpa using heap_alloc_new w.drew _, ?_, fun j q hq => ?_, fun _ => ⟨hR.bs, rfl⟩, fun _ => ⟨rfl, hcm, i, hi, ?_⟩⟩
                          · have := hnewrow.length
                            simp at this ⊢; omega
                          · obtain ⟨u, g1, g2⟩ := hnewrow.get hq
                            refine ⟨u, ?_, g2.mono (sub_upd hd)⟩
                            have hjl := (List.getElem?_eq_some_iff.1 g1).1
                            rw [Nat.zero_add, Array.getElem?_append_left (by simpa using hjl)]
                            simpa using g1
                          · simp only [Array.size_append, List.size_toArray, List.length_append, size_zeroCells, hzs, hol, f2, ← Nat.add_mul]
                            congr 1; omega
                    · cases h
                  · rw [hm0] at h
                    cases h
                    obtain ⟨b, hsv⟩ := hsv
                    exact ⟨_, w, α, zero (Nat.eq_of_beq_eq_true hm0) b n c hsv hnc, hs, hR, Ext.refl _ _ _⟩
                · cases h
              · cases h
          · cases h
        · rw [hz0] at h; cases h
      · cases h
  · cases h

/-! ### len, min, max -/
theorem lenA_sim (hR : R P base H α w) {t ty : TypeId} {av : AV} {v : Value} {n : Nat} (h : lenA P H t av = some n) (hv : VR α av v) (ts : Array TypeId) (vs : Array Value) (ht : ts[0]? = some t) (hvs : vs[0]? = some v) :
    (Builtin.len_ ts ty vs).run P w = .ok (.int .i64 n) w := by
  unfold lenA at h
  split at h
  · rename_i s
    split at h
    · rename_i hu
      cases h
      obtain ⟨b, rfl, rfl⟩ := hv
      simp [Builtin.len_, ht, hvs, run_underlying hu, goInt]
    · cases h
  · rename_i p m
    split at h
    · rename_i e hu
      cases h
      have : ∃ ad c, v = .slice ad n c := by
        cases p with
        | none => obtain ⟨rfl, rfl⟩ := hv; exact ⟨_, _, rfl⟩
        | some p =>
          obtain ⟨L, c, _, _, _, hs⟩ := hv
          rcases hs with ⟨hs, _⟩ | ⟨rfl, _, ad, hs⟩
          · exact ⟨_, _, hs⟩
          · exact ⟨_, _, hs⟩
      obtain ⟨ad, c, rfl⟩ := this
      simp [Builtin.len_, ht, hvs, run_underlying hu, goInt]
    · cases h
  · rename_i id
    split at h
    · rename_i kt et es hu hes
      cases h
      obtain ⟨L, hL, rfl⟩ := hv
      obtain ⟨L', c, clk, e1, e2, _, e4⟩ := hR.obj _ _ hes
      rw [hL] at e1; cases e1
      have := e4.length
      simp [Builtin.len_, ht, hvs, run_underlying hu, run_getMap e2, goInt]
      rw [this]; simp
    · cases h
  · cases h

theorem foldI_sim {f : Int → Int → Int} {g : Value → Value → Sem Value} (hg : ∀ k x y, g (.int k x) (.int k y) = pure (.int k (f x y))) {l : List AV} {b : AT} {vs : List Value} (h : foldI f l = some b) (hv : F2 (VR α) l vs) :
    ∃ u, (match vs with
      | [] => stuck "x"
      | x :: rest => rest.foldlM g x : Sem Value).run P w = .ok u w ∧ AR α b u := by
  unfold foldI at h
  split at h
  · rename_i k x k' y
    split at h
    · rename_i e; cases h; subst e
      cases hv with
      | cons h1 h2 => cases h2 with
        | cons h3 h4 =>
          cases h4
          have e1 : _ = Value.int k x := h1
          have e2 : _ = Value.int k y := h3
          subst e1 e2
          exact ⟨_, by simp [hg], rfl⟩
    · cases h
  · rename_i k x k' y k'' z
    split at h
    · rename_i e; cases h
      obtain ⟨rfl, rfl⟩ := e
      cases hv with
      | cons h1 h2 => cases h2 with
        | cons h3 h4 => cases h4 with
          | cons h5 h6 =>
            cases h6
            have e1 : _ = Value.int k x := h1
            have e2 : _ = Value.int k y := h3
            have e3 : _ = Value.int k z := h5
            subst e1 e2 e3
            exact ⟨_, by simp [hg], rfl⟩
    · cases h
  · cases h

theorem sim_builtin (hR : R P base H α w) {b : Builtin} {ts : Array TypeId} {vs : List AV} {xs : Array Value} {v : AV} {H' : Heap} {ty : TypeId} {cs : Array Bool} (h : builtinA P H b ts.toList vs = some (v, H')) (hv : F2 (VR α) vs xs.toList) :
    Res P base H α w ((builtin b ts ty cs xs).run P w) v H' := by
  generalize hts : ts.toList = tl at h
  unfold builtinA at h
  split at h
  · rename_i t tr x xr
    split at h
    · rename_i n hn
      cases h
      have h0 : ts[0]? = some t := by rw [← Array.getElem?_toList, hts]; rfl
      cases hx : xs.toList with
      | nil => rw [hx] at hv; cases hv
      | cons y yr =>
        rw [hx] at hv
        cases hv with
        | cons h1 h2 =>
          have h0' : xs[0]? = some y := by rw [← Array.getElem?_toList, hx]; rfl
          refine Res.pure hR (u := .int .i64 n) ?_ rfl
          simp only [builtin, Sem.run_bind, lenA_sim hR hn h1 ts xs h0 h0', Result.andThen_ok, Sem.run_pure]
    · cases h
  · rename_i t t2 s x
    have e1 : ts = #[t, t2] := by rw [← Array.toArray_toList (xs := ts), hts]
    cases hx : xs.toList with
    | nil => rw [hx] at hv; cases hv
    | cons y yr =>
      rw [hx] at hv
      cases hv with
      | cons h1 h2 => cases h2 with
        | cons h3 h4 =>
          cases h4
          rename_i y2
          have e2 : xs = #[y, y2] := by rw [← Array.toArray_toList (xs := xs), hx]
          obtain ⟨u, w', α', g1, g2, g3, g4⟩ := sim_append (ty := ty) hR h h1 h3
          refine ⟨_, u, w', α', ?_, .inl rfl, g2, g3, g4⟩
          subst e1
          rw [e2]
          simp only [builtin, Sem.run_bind, g1, Result.andThen_ok, Sem.run_pure]
  · split at h
    · rename_i q hq
      cases h
      obtain ⟨u, g1, g2⟩ := foldI_sim (P := P) (w := w) (g := Builtin.max2) (fun _ _ _ => rfl) hq hv
      refine Res.pure hR (u := u) ?_ g2
      have : (Builtin.max_ ts ty xs).run P w = .ok u w := by
        rw [← g1]
        unfold Builtin.max_
        cases hx : xs.toList with
        | nil => rw [hx] at g1; cases g1
        | cons _ _ => rfl
      simp only [builtin, Sem.run_bind, this, Result.andThen_ok, Sem.run_pure]
    · cases h
  · split at h
    · rename_i q hq
      cases h
      obtain ⟨u, g1, g2⟩ := foldI_sim (P := P) (w := w) (g := Builtin.min2) (fun _ _ _ => rfl) hq hv
      refine Res.pure hR (u := u) ?_ g2
      have : (Builtin.min_ ts ty xs).run P w = .ok u w := by
        rw [← g1]
        unfold Builtin.min_
        cases hx : xs.toList with
        | nil => rw [hx] at g1; cases g1
        | cons _ _ => rfl
      simp only [builtin, Sem.run_bind, this, Result.andThen_ok, Sem.run_pure]
    · cases h
  · cases h

/-! ### calls -/
/-- A Go function with a body. -/
def FnOk (P : Program) (f : FuncId) : Prop := ∃ fn, P.funcs[f]? = some fn ∧ (fn.name == "runtime.NumGoroutine") = false ∧ fn.body.isNone = false

theorem sim_call (hE : EnvR α lk a) {o : Oper} {c : Call} (ho : o.op = .call c) {f : Nat} {args : List AV} (h : op_call c P eqs lk H = some (.call f args)) (hf : FnOk P f) :
    ∃ xs, (execOp a.eval o).run P w = .ok (.enter f xs) w ∧ F2 (VR α) args xs.toList := by
  unfold op_call at h
  split at h
  · split at h
    · split at h <;> cases h
    · cases h
  · rename_i g hc
    split at h
    · rename_i f' cs vs hg hvs
      cases h
      obtain ⟨arr, e1, e2⟩ := rho_sim hE hg
      have e3 := rhos_sim hE hvs
      obtain ⟨fn, q1, q2, q3⟩ := hf
      refine ⟨(c.args.map a.eval) ++ arr, ?_, ?_⟩
      · simp only [execOp, ho, resolve, hc, e1, Deferred.ofValue, Sem.run_bind, Sem.run_pure, Result.andThen_ok, invoke, callFunc, run_program, q1, q2, q3]
        simp
      · rw [Array.toList_append, Array.toList_map]
        refine e3.append ?_
        clear e1 hg
        generalize arr.toList = l at e2 ⊢
        induction e2 with
        | nil => exact .nil
        | cons h1 _ ih => exact .cons h1 ih
    · cases h
  · cases h

theorem sim_call_val (hR : R P base H α w) (hE : EnvR α lk a) {o : Oper} {c : Call} (ho : o.op = .call c) {v : AV} {H' : Heap} (h : op_call c P eqs lk H = some (.val v H')) :
    Res P base H α w ((execOp a.eval o).run P w) v H' := by
  unfold op_call at h
  split at h
  · rename_i b hc
    split at h
    · rename_i vs hvs
      split at h
      · rename_i v' H2 hb
        cases h
        have e3 := rhos_sim hE hvs
        have := sim_builtin (ty := o.type) (cs := c.args.map fun | .const _ => true | _ => false) hR hb (xs := c.args.map a.eval) (by rw [Array.toList_map]; exact e3)
        simp only [execOp, ho, resolve, hc, Sem.run_bind, Sem.run_pure, Result.andThen_ok, invoke]
        exact this
      · cases h
    · cases h
  · split at h <;> cases h
  · cases h

/-- EVERY OPERATION THAT IS NO CALL. -/
theorem op_sim (hQ : EqsOk P eqs) (hR : R P base H α w) (hE : EnvR α lk a) {o : Oper} {v : AV} {H' : Heap} (h : opA o.op P eqs lk H = some (.val v H')) : Res P base H α w ((execOp a.eval o).run P w) v H' := by
  cases ho : o.op with
  | move x => rw [ho] at h; exact sim_move (lk := lk) (eqs := eqs) hR hE (.inl ho) h
  | assign x => rw [ho] at h; exact sim_move (lk := lk) (eqs := eqs) hR hE (.inr ho) h
  | pick c x y => rw [ho] at h; exact sim_pick (lk := lk) (eqs := eqs) hR hE ho h
  | alloc T => rw [ho] at h; exact sim_alloc (lk := lk) (eqs := eqs) hR ho h
  | box T x => rw [ho] at h; exact sim_box (lk := lk) (eqs := eqs) hR hE ho h
  | build T ps => rw [ho] at h; exact sim_build (lk := lk) (eqs := eqs) hR hE ho h
  | buildSlice T n ps => rw [ho] at h; exact sim_buildSlice (lk := lk) (eqs := eqs) hR hE ho h
  | insert t m k x => rw [ho] at h; exact sim_mapUpdate (lk := lk) (eqs := eqs) hR hE (.inr ho) h
  | load T x => rw [ho] at h; exact sim_load (lk := lk) (eqs := eqs) hR hE ho h
  | store T x y => rw [ho] at h; exact sim_store (lk := lk) (eqs := eqs) hR hE ho h
  | nilCheck x => rw [ho] at h; exact sim_nilCheck (lk := lk) (eqs := eqs) hR hE ho h
  | binOp op t x y yt => rw [ho] at h; exact sim_binOp (lk := lk) (eqs := eqs) hQ hR hE ho h
  | unOp op t x => rw [ho] at h; exact sim_unOp (lk := lk) (eqs := eqs) hR hE ho h
  | convert s d x => rw [ho] at h; exact sim_convert (lk := lk) (eqs := eqs) hR hE ho h
  | makeFunc fn f c => rw [ho] at h; exact sim_makeFunc (lk := lk) (eqs := eqs) hR hE ho h
  | makeMap T r => rw [ho] at h; exact sim_makeMap (lk := lk) (eqs := eqs) hR ho h
  | makeSlice t l c => rw [ho] at h; exact sim_makeSlice (lk := lk) (eqs := eqs) hR hE ho h
  | slice t x lo hi mx => rw [ho] at h; exact sim_slice (lk := lk) (eqs := eqs) hR hE ho h
  | fieldAddr s x f => rw [ho] at h; exact sim_fieldAddr (lk := lk) (eqs := eqs) hR hE ho h
  | field T x f => rw [ho] at h; exact sim_field (lk := lk) (eqs := eqs) hR hE ho h
  | indexAddr t x ix => rw [ho] at h; exact sim_indexAddr (lk := lk) (eqs := eqs) hR hE ho h
  | index t x ix => rw [ho] at h; exact sim_index (lk := lk) (eqs := eqs) hR hE ho h
  | lookup t x ix ok => rw [ho] at h; exact sim_lookup (lk := lk) (eqs := eqs) hR hE ho h
  | mapUpdate t m k x => rw [ho] at h; exact sim_mapUpdate (lk := lk) (eqs := eqs) hR hE (.inl ho) h
  | extract x i => rw [ho] at h; exact sim_extract (lk := lk) (eqs := eqs) hR hE ho h
  | call c => rw [ho] at h; exact sim_call_val (lk := lk) (eqs := eqs) hR hE ho h
  | ready _ => rw [ho] at h; cases h
  | waits _ => rw [ho] at h; cases h
  | sliceToArrayPointer _ _ => rw [ho] at h; cases h
  | makeInterface _ _ => rw [ho] at h; cases h
  | makeChan _ _ => rw [ho] at h; cases h
  | mapEntry _ _ _ => rw [ho] at h; cases h
  | entryStore _ _ _ _ => rw [ho] at h; cases h
  | range _ _ => rw [ho] at h; cases h
  | next _ _ => rw [ho] at h; cases h
  | entry _ => rw [ho] at h; cases h
  | typeAssert _ _ _ _ => rw [ho] at h; cases h
  | go _ => rw [ho] at h; cases h
  | defer _ => rw [ho] at h; cases h
  | panic _ => rw [ho] at h; cases h
  | send _ _ => rw [ho] at h; cases h
  | recv _ _ _ => rw [ho] at h; cases h
  | select _ _ => rw [ho] at h; cases h
end
end Go.Ea
end

/-
  THE ENGINE, part 7: whole bodies. What a Go function's code does to abstract values (a weakest precondition, wpC), and that the model does the same. Over any program. Written in this session.
-/
section
namespace Go.Ea

inductive Ex where
  | normal
  | exit (id : Nat)
  | ret
def Ex.out : Ex → Exit
  | .normal => .normal
  | .exit id => .exit id
  | .ret => .ret
abbrev Env := Nat → Option AV

/-- A CONTRACT: at laid arguments f comes back, with Q of what it gives and of the heap it leaves. -/
def Sim (P : Program) (f : FuncId) (args : List AV) (H : Heap) (Q : AV → Heap → Prop) : Prop :=
  ∀ (base : Nat) (α : Al) (w : World) (xs : Array Value), R P base H α w → F2 (VR α) args xs.toList →
    Calls P f xs w fun e w' => ∃ v v' H' α', e = .returned v' ∧ Q v H' ∧ VR α' v v' ∧ R P base H' α' w' ∧ Ext H α w H' α' w'
theorem Sim.mono {P : Program} {f : FuncId} {args : List AV} {H : Heap} {Q Q' : AV → Heap → Prop} (h : Sim P f args H Q) (hq : ∀ v H', Q v H' → Q' v H') : Sim P f args H Q' :=
  fun base α w xs hR ha => (h base α w xs hR ha).mono fun _ _ ⟨v, v', H', α', h1, h2, h3⟩ => ⟨v, v', H', α', h1, hq _ _ h2, h3⟩

def gdst (ops : List Oper) (j : Nat) : Option Nat := match ops[j]? with
  | some o => o.dst
  | none => none
/-- Does its guard let it run? none: that is not known. -/
noncomputable def wantA (ops : List Oper) (lk : Env) (o : Oper) : Option Bool := match o.guard with
  | none => some true
  | some (j, b) => match gdst ops j with
    | some t => match lk t with
      | some (.one (.at (.bool x))) => some (x == b)
      | some (.tup []) => some false
      | _ => none
    | none => none
def dOk (N : Nat) : Option Nat → Bool
  | none => true
  | some d => Nat.blt d N
def putF (lk : Env) : Option Nat → AV → Env
  | none, _ => lk
  | some d, v => fun j => if j = d then some v else lk j
@[simp] theorem putF_none (lk : Env) (v : AV) : putF lk none v = lk := rfl
theorem putF_some (lk : Env) (d : Nat) (v : AV) (j : Nat) : putF lk (some d) v j = if j = d then some v else lk j := rfl

section
variable (P : Program) (eqs : Eqs) (N : Nat)
def opP (op : Op) (lk : Env) (H : Heap) (K : AV → Heap → Prop) : Prop :=
  ∃ r, opA op P eqs lk H = some r ∧ match r with
    | .val v H' => K v H'
    | .call f args => FnOk P f ∧ Sim P f args H K
def wpO (ops : List Oper) (K : Env → Heap → Prop) : List Oper → Env → Heap → Prop
  | [], lk, H => K lk H
  | o :: r, lk, H => dOk N o.dst = true ∧ ∃ t, wantA ops lk o = some t ∧
      if t = true then opP P eqs o.op lk H fun v H' => wpO ops K r (putF lk o.dst v) H' else wpO ops K r (putF lk o.dst .undef) H

structure St (base : Nat) (H : Heap) (α : Al) (w : World) (lk : Env) (a : Act) : Prop where
  r : R P base H α w
  env : EnvR α lk a
  size : a.tmps.size = N
  defers : a.defers = []

/-- A region whose order is drawn: in every order. -/
def RegD (ops : Array Oper) (K : Env → Heap → Prop) (lk : Env) (H : Heap) : Prop :=
  ∀ (base : Nat) (α : Al) (a : Act) (w : World) (Q : Exit → Act → World → Prop), St P N base H α w lk a →
    (∀ lk' H' α' a' w', K lk' H' → St P N base H' α' w' lk' a' → Ext H α w H' α' w' → Q .normal a' w') →
    wpAny P .any ops Q ops.size (Array.replicate ops.size false) a w

abbrev PostA := Ex → Env → Heap → Prop
def thenA (K : Env → Heap → Prop) (Q : PostA) : PostA
  | .normal, lk, H => K lk H
  | e, lk, H => Q e lk H
def inBlockA (id : Nat) (Q : PostA) : PostA
  | .exit i, lk, H => if i = id then Q .normal lk H else Q (.exit i) lk H
  | e, lk, H => Q e lk H
def roundsA (body : PostA → Env → Heap → Prop) (Q : PostA) : Nat → Env → Heap → Prop
  | 0, _, _ => False
  | n + 1, lk, H => body (thenA (roundsA body Q n) Q) lk H
def wpC : Code → PostA → Env → Heap → Prop
  | .skip, Q, lk, H => Q .normal lk H
  | .region _ ops draw, Q, lk, H => if draw = true then RegD P N ops (Q .normal) lk H else wpO P eqs N ops.toList (Q .normal) ops.toList lk H
  | .seq x y, Q, lk, H => wpC x (thenA (wpC y Q) Q) lk H
  | .cond c x y, Q, lk, H => ∃ t, rho lk c = some (at' (.bool t)) ∧ if t = true then wpC x Q lk H else wpC y Q lk H
  | .block id c, Q, lk, H => wpC c (inBlockA id Q) lk H
  | .loop c, Q, lk, H => ∃ n, roundsA (wpC c) Q n lk H
  | .exit id, Q, lk, H => Q (.exit id) lk H
  | .ret, Q, lk, H => Q .ret lk H
  | _, _, _, _ => False
end

section
variable {P : Program} {eqs : Eqs} {N : Nat} {base : Nat} {H : Heap} {α : Al} {w : World} {a : Act} {lk : Env}

theorem St.put {dst : Option Nat} {v : AV} {u : Value} (h : St P N base H α w lk a) (hd : dOk N dst = true) (hv : VR α v u) : St P N base H α w (putF lk dst v) (a.put dst u) := by
  cases dst with
  | none => exact h
  | some d =>
    have hd' : d < N := by simpa [dOk, Nat.blt_eq] using hd
    refine ⟨h.r, fun t av ht => ?_, by simp [Act.put, h.size], h.defers⟩
    rw [putF_some] at ht
    split at ht
    · subst_vars
      cases ht
      exact ⟨u, by simp only [Act.put]; rw [Array.getElem?_setIfInBounds_self_of_lt (by rw [h.size]; exact hd')], hv⟩
    · rename_i e
      obtain ⟨x, h1, h2⟩ := h.env t av ht
      exact ⟨x, by simp only [Act.put]; rw [Array.getElem?_setIfInBounds_ne (Ne.symm e)]; exact h1, h2⟩
theorem St.go {H' : Heap} {α' : Al} {w' : World} (h : St P N base H α w lk a) (hr : R P base H' α' w') (hs : Sub α α') : St P N base H' α' w' lk a :=
  ⟨hr, fun t av ht => by obtain ⟨v, h1, h2⟩ := h.env t av ht; exact ⟨v, h1, h2.mono hs⟩, h.size, h.defers⟩

theorem wantA_sim {ops : Array Oper} {o : Oper} {t : Bool} (hE : EnvR α lk a) (h : wantA ops.toList lk o = some t) : Region.wanted o (yielded ops a.tmps) = t := by
  unfold wantA at h
  unfold Region.wanted
  split at h
  · rename_i hg; cases h; rw [hg]
  · rename_i j b hg
    rw [hg]
    split at h
    · rename_i t' hd
      have hd' : (ops[j]?).bind (·.dst) = some t' := by
        unfold gdst at hd
        rw [Array.getElem?_toList] at hd
        cases ho : ops[j]? with
        | none => rw [ho] at hd; cases hd
        | some o' => rw [ho] at hd; exact hd
      split at h
      · rename_i x hx
        cases h
        obtain ⟨v, h1, h2⟩ := hE _ _ hx
        simp only [VR, V1, AR] at h2
        subst h2
        simp only [yielded, hd', Option.bind_some, h1]
        cases x <;> cases b <;> rfl
      · rename_i hx
        cases h
        obtain ⟨v, h1, arr, h2, _⟩ := hE _ _ hx
        subst h2
        simp only [yielded, hd', Option.bind_some, h1]
        cases b <;> rfl
      · cases h
    · cases h

theorem VR_undef (α : Al) : VR α .undef undef := ⟨#[], rfl, .nil⟩

theorem nc_binOp {op : BinOp} {t yt : TypeId} {x y : Operand} {f : Nat} {args : List AV} : op_binOp op t x y yt P eqs lk H = some (.call f args) → False := by
  intro h; unfold op_binOp at h
  repeat' split at h
  all_goals cases h
theorem nc_unOp {op : UnOp} {t : TypeId} {x : Operand} {f : Nat} {args : List AV} : op_unOp op t x P eqs lk H = some (.call f args) → False := by
  intro h; unfold op_unOp at h
  repeat' split at h
  all_goals cases h
theorem nc_makeMap {t : TypeId} {x : Option Operand} {f : Nat} {args : List AV} : op_makeMap t x P eqs lk H = some (.call f args) → False := by
  intro h; unfold op_makeMap at h
  repeat' split at h
  all_goals cases h
/-- One operation. -/
theorem opP_sim (hQ : EqsOk P eqs) {o : Oper} {K : AV → Heap → Prop} (hS : St P N base H α w lk a) (h : opP P eqs o.op lk H K) {next : Act → World → Prop} {Q : Exit → Act → World → Prop}
    (hK : ∀ v u H' α' w', K v H' → VR α' v u → R P base H' α' w' → Ext H α w H' α' w' → next (a.put o.dst u) w') : o.wp P a w next Q := by
  obtain ⟨r, h1, h2⟩ := h
  cases r with
  | val v H' =>
    obtain ⟨nx, u, w', α', g1, g2, g3, g4, g5⟩ := op_sim hQ hS.r hS.env h1
    unfold Oper.wp
    rw [g1]
    have := hK v u H' α' w' h2 g3 g4 g5
    rcases g2 with g2 | ⟨g2, g6⟩
    · subst g2; exact this
    · subst g2; subst g6; exact this
  | call f args =>
    obtain ⟨hf, hs⟩ := h2
    have ho : ∃ c, o.op = .call c ∧ op_call c P eqs lk H = some (.call f args) := by
      generalize o.op = op at h1
      cases op with
      | call c => exact ⟨c, rfl, h1⟩
      | binOp op t x y yt => exact (nc_binOp (P := P) (eqs := eqs) (op := op) (t := t) (x := x) (y := y) (yt := yt) h1).elim
      | unOp op t x => exact (nc_unOp (P := P) (eqs := eqs) (op := op) (t := t) (x := x) h1).elim
      | makeMap t x => exact (nc_makeMap (P := P) (eqs := eqs) (lk := lk) (H := H) (t := t) (x := x) h1).elim
      | _ =>
        exfalso
        revert h1
        show opA _ P eqs lk H = _ → False
        first
          | (show op_move _ P eqs lk H = _ → False; unfold op_move; split <;> (intro h; cases h); done)
          | (show op_pick _ _ _ P eqs lk H = _ → False; intro h; unfold op_pick at h; (try simp only [cond_eq_ite] at h); (repeat' split at h) <;> cases h; done)
          | (show op_alloc _ P eqs lk H = _ → False; intro h; unfold op_alloc at h; (try simp only [cond_eq_ite] at h); (repeat' split at h) <;> cases h; done)
          | (show op_box _ _ P eqs lk H = _ → False; intro h; unfold op_box at h; (try simp only [cond_eq_ite] at h); (repeat' split at h) <;> cases h; done)
          | (show op_build _ _ P eqs lk H = _ → False; intro h; unfold op_build at h; (try simp only [cond_eq_ite] at h); (repeat' split at h) <;> cases h; done)
          | (show op_buildSlice _ _ _ P eqs lk H = _ → False; intro h; unfold op_buildSlice at h; (try simp only [cond_eq_ite] at h); (repeat' split at h) <;> cases h; done)
          | (show op_load _ _ P eqs lk H = _ → False; intro h; unfold op_load at h; (try simp only [cond_eq_ite] at h); (repeat' split at h) <;> cases h; done)
          | (show op_store _ _ _ P eqs lk H = _ → False; intro h; unfold op_store at h; (try simp only [cond_eq_ite] at h); (repeat' split at h) <;> cases h; done)
          | (show op_nilCheck _ P eqs lk H = _ → False; intro h; unfold op_nilCheck at h; (try simp only [cond_eq_ite] at h); (repeat' split at h) <;> cases h; done)
          | (show op_convert _ _ _ P eqs lk H = _ → False; intro h; unfold op_convert at h; (try simp only [cond_eq_ite] at h); (repeat' split at h) <;> cases h; done)
          | (show op_makeFunc _ _ _ P eqs lk H = _ → False; intro h; unfold op_makeFunc at h; (try simp only [cond_eq_ite] at h); (repeat' split at h) <;> cases h; done)
          | (show op_makeSlice _ _ _ P eqs lk H = _ → False; intro h; unfold op_makeSlice at h; (try simp only [cond_eq_ite] at h); (repeat' split at h) <;> cases h; done)
          | (show op_slice _ _ _ _ _ P eqs lk H = _ → False; intro h; unfold op_slice at h; (try simp only [cond_eq_ite] at h); (repeat' split at h) <;> cases h; done)
          | (show op_fieldAddr _ _ _ P eqs lk H = _ → False; intro h; unfold op_fieldAddr at h; (try simp only [cond_eq_ite] at h); (repeat' split at h) <;> cases h; done)
          | (show op_field _ _ _ P eqs lk H = _ → False; intro h; unfold op_field at h; (try simp only [cond_eq_ite] at h); (repeat' split at h) <;> cases h; done)
          | (show op_indexAddr _ _ _ P eqs lk H = _ → False; intro h; unfold op_indexAddr at h; (try simp only [cond_eq_ite] at h); (repeat' split at h) <;> cases h; done)
          | (show op_index _ _ _ P eqs lk H = _ → False; intro h; unfold op_index at h; (try simp only [cond_eq_ite] at h); (repeat' split at h) <;> cases h; done)
          | (show op_lookup _ _ _ _ P eqs lk H = _ → False; intro h; unfold op_lookup at h; (try simp only [cond_eq_ite] at h); (repeat' split at h) <;> cases h; done)
          | (show op_mapUpdate _ _ _ _ P eqs lk H = _ → False; intro h; unfold op_mapUpdate at h; (try simp only [cond_eq_ite] at h); (repeat' split at h) <;> cases h; done)
          | (show op_extract _ _ P eqs lk H = _ → False; intro h; unfold op_extract at h; (try simp only [cond_eq_ite] at h); (repeat' split at h) <;> cases h; done)
          | (intro h; cases h; done)
    obtain ⟨c, hc, hcall⟩ := ho
    obtain ⟨xs, e1, e2⟩ := sim_call hS.env hc hcall hf
    unfold Oper.wp
    rw [e1]
    refine (hs base α w xs hS.r e2).mono fun e w' ⟨v, v', H', α', q1, q2, q3, q4, q5⟩ => ?_
    subst q1
    exact hK v v' H' α' w' q2 q3 q4 q5

theorem wpO_sound (hQ : EqsOk P eqs) {ops : Array Oper} {K : Env → Heap → Prop} {Q : Exit → Act → World → Prop} {H0 : Heap} {α0 : Al} {w0 : World}
    (hK : ∀ lk' H' α' a' w', K lk' H' → St P N base H' α' w' lk' a' → Ext H0 α0 w0 H' α' w' → Q .normal a' w') : ∀ (l : List Oper) (lk : Env) (H : Heap) (α : Al) (a : Act) (w : World),
    wpO P eqs N ops.toList K l lk H → St P N base H α w lk a → Ext H0 α0 w0 H α w → wpList P ops Q l a w
  | [], lk, H, α, a, w, h, hS, hX => hK _ _ _ _ _ h hS hX
  | o :: r, lk, H, α, a, w, h, hS, hX => by
    obtain ⟨hd, t, ht, h⟩ := h
    unfold wpList
    rw [wantA_sim hS.env ht]
    cases t with
    | true =>
      rw [if_pos rfl] at h ⊢
      exact .inl (opP_sim hQ hS h fun v u H' α' w' g1 g2 g3 g4 => wpO_sound hQ hK r _ H' α' _ w' g1 ((hS.go g3 g4.sub).put hd g2) (hX.trans g4))
    | false =>
      rw [if_neg (by simp)] at h ⊢
      exact wpO_sound hQ hK r _ H α _ w h (hS.put hd (VR_undef α)) hX

/-- WHOLE CODE. -/
theorem wpC_sound (hm : P.follows .mixedOrders = true) (hQ : EqsOk P eqs) : ∀ (c : Code) (QA : PostA) (Q : Exit → Act → World → Prop) (lk : Env) (H : Heap) (α : Al) (a : Act) (w : World),
    wpC P eqs N c QA lk H → St P N base H α w lk a → (∀ x lk' H' α' a' w', QA x lk' H' → St P N base H' α' w' lk' a' → Ext H α w H' α' w' → Q x.out a' w') → c.wp P Q a w
  | .skip, QA, Q, lk, H, α, a, w, h, hS, hK => wp_skip (hK .normal _ _ _ _ _ h hS (Ext.refl _ _ _))
  | .exit id, QA, Q, lk, H, α, a, w, h, hS, hK => wp_exit (hK (.exit id) _ _ _ _ _ h hS (Ext.refl _ _ _))
  | .ret, QA, Q, lk, H, α, a, w, h, hS, hK => wp_ret (hK .ret _ _ _ _ _ h hS (Ext.refl _ _ _))
  | .region id ops draw, QA, Q, lk, H, α, a, w, h, hS, hK => by
    cases draw with
    | false =>
      exact wp_region_list (wpO_sound hQ (H0 := H) (α0 := α) (w0 := w) (fun lk' H' α' a' w' g1 g2 g3 => hK .normal _ _ _ _ _ g1 g2 g3) _ _ _ _ _ _ h hS (Ext.refl _ _ _))
    | true =>
      have hS' : St P N base H α w.drew lk a := ⟨hS.r.drew, hS.env, hS.size, hS.defers⟩
      exact wp_region_any hm (h base α a w.drew Q hS' fun lk' H' α' a' w' g1 g2 g3 => hK .normal _ _ _ _ _ g1 g2 ((Ext.drew H α w).trans g3))
  | .seq x y, QA, Q, lk, H, α, a, w, h, hS, hK => by
    refine wp_seq (wpC_sound hm hQ x (thenA (wpC P eqs N y QA) QA) _ lk H α a w h hS fun e lk' H' α' a' w' g1 g2 g3 => ?_)
    cases e with
    | normal => exact wpC_sound hm hQ y QA Q lk' H' α' a' w' g1 g2 fun x lk2 H2 α2 a2 w2 k1 k2 k3 => hK x lk2 H2 α2 a2 w2 k1 k2 (g3.trans k3)
    | exit id => exact hK (.exit id) _ _ _ _ _ g1 g2 g3
    | ret => exact hK .ret _ _ _ _ _ g1 g2 g3
  | .cond c x y, QA, Q, lk, H, α, a, w, h, hS, hK => by
    obtain ⟨t, h1, h2⟩ := h
    have : a.eval c = .bool t := rho_sim hS.env h1
    refine wp_cond this ?_
    cases t with
    | true => exact wpC_sound hm hQ x QA Q lk H α a w h2 hS hK
    | false => exact wpC_sound hm hQ y QA Q lk H α a w h2 hS hK
  | .block id c, QA, Q, lk, H, α, a, w, h, hS, hK => by
    refine wp_block (wpC_sound hm hQ c (inBlockA id QA) _ lk H α a w h hS fun e lk' H' α' a' w' g1 g2 g3 => ?_)
    cases e with
    | normal => exact hK .normal _ _ _ _ _ g1 g2 g3
    | exit i =>
      show if i = id then _ else _
      have g1' : if i = id then QA .normal lk' H' else QA (.exit i) lk' H' := g1
      split at g1'
      · rename_i e; rw [if_pos e]; exact hK .normal _ _ _ _ _ g1' g2 g3
      · rename_i e; rw [if_neg e]; exact hK (.exit i) _ _ _ _ _ g1' g2 g3
    | ret => exact hK .ret _ _ _ _ _ g1 g2 g3
  | .loop c, QA, Q, lk, H, α, a, w, h, hS, hK => by
    obtain ⟨n, h⟩ := h
    refine wp_loop_rounds n ?_
    have key : ∀ (n : Nat) (lk1 : Env) (H1 : Heap) (α1 : Al) (a1 : Act) (w1 : World), roundsA (wpC P eqs N c) QA n lk1 H1 → St P N base H1 α1 w1 lk1 a1 → Ext H α w H1 α1 w1 → Code.rounds P c Q n a1 w1 := by
      intro n
      induction n with
      | zero => intro lk1 H1 α1 a1 w1 h1; exact h1.elim
      | succ n ih =>
        intro lk1 H1 α1 a1 w1 h1 hS1 hX1
        refine wpC_sound hm hQ c (thenA (roundsA (wpC P eqs N c) QA n) QA) (Exit.then (Code.rounds P c Q n) Q) lk1 H1 α1 a1 w1 h1 hS1 fun e lk' H' α' a' w' g1 g2 g3 => ?_
        cases e with
        | normal => exact ih lk' H' α' a' w' g1 g2 (hX1.trans g3)
        | exit id => exact hK (.exit id) _ _ _ _ _ g1 g2 (hX1.trans g3)
        | ret => exact hK .ret _ _ _ _ _ g1 g2 (hX1.trans g3)
    exact key n lk H α a w h hS (Ext.refl _ _ _)
  | .rangeFunc _ _ _ _, _, _, _, _, _, _, _, h, _, _ => h.elim
  | .goto _, _, _, _, _, _, _, _, h, _, _ => h.elim
  | .label _, _, _, _, _, _, _, _, h, _, _ => h.elim
  | .scope _, _, _, _, _, _, _, _, h, _, _ => h.elim
  | .refuse _, _, _, _, _, _, _, _, h, _, _ => h.elim

/-! ### what a body gives -/
noncomputable def resA (P : Program) (lk : Env) (H : Heap) : List ResultVar → Option (List A1)
  | [] => some []
  | .tmp t :: r => match lk t, resA P lk H r with
    | some (.one x), some l => some (x :: l)
    | _, _ => none
  | .cell c t :: r => match lk c, resA P lk H r with
    | some (.one (.at (.ptr (some (id, o))))), some l => match H.get id with
      | some (.cells _ _ cs) => match partA P t cs o with
        | some x => some (x :: l)
        | none => none
      | _ => none
    | _, _ => none
def mkRes : List A1 → AV
  | [x] => .one x
  | l => .tup l
theorem resA_sim (hS : St P N base H α w lk a) : ∀ {rs : List ResultVar} {l : List A1}, resA P lk H rs = some l →
    ∃ vs, (rs.mapM fun
      | .tmp t => pure (a.tmps.getD t undef)
      | .cell c t => do loadVar t (← asAddr (a.tmps.getD c undef)) : Sem (List Value)).run P w = .ok vs w ∧ F2 (V1 α) l vs
  | [], l, h => by cases h; exact ⟨[], by simp, .nil⟩
  | .tmp t :: r, l, h => by
    simp only [resA] at h
    split at h
    · rename_i x l' h1 h2
      cases h
      obtain ⟨vs, e1, e2⟩ := resA_sim hS h2
      obtain ⟨v, q1, q2⟩ := hS.env _ _ h1
      refine ⟨v :: vs, ?_, .cons q2 e2⟩
      simp only [List.mapM_cons, Sem.run_bind, Sem.run_pure, Result.andThen_ok, e1]
      simp [Array.getD_eq_getD_getElem?, q1]
    · cases h
  | .cell c t :: r, l, h => by
    simp only [resA] at h
    split at h
    · rename_i id o l' h1 h2
      split at h
      · rename_i T k cs hg
        split at h
        · rename_i x hp
          cases h
          obtain ⟨vs, e1, e2⟩ := resA_sim hS h2
          obtain ⟨v, q1, L, q2, q3⟩ := hS.env _ _ h1
          subst q3
          obtain ⟨L', cc, fz, p1, p2, p3, p4, _⟩ := hS.r.obj _ _ hg
          simp only [] at q2
          rw [q2] at p1
          cases p1
          obtain ⟨u, d1, d2⟩ := partA_load hp p2 p3 p4
          refine ⟨u :: vs, ?_, .cons d2 e2⟩
          have ha : a.tmps.getD c undef = .pointer (some ⟨L.blk, L.off + o, none⟩) := by simp [Array.getD_eq_getD_getElem?, q1]
          have hb : (asAddr (a.tmps.getD c undef)).run P w = .ok ⟨L.blk, L.off + o, none⟩ w := by rw [ha]; rfl
          simp only [List.mapM_cons, Sem.run_bind, Sem.run_pure, Result.andThen_ok, hb, d1, e1]
        · cases h
      · cases h
    · cases h
theorem results_sim {fn : Func} {l : List A1} (hS : St P N base H α w lk a) (h : resA P lk H fn.results.toList = some l) : ∃ v, (results fn a.tmps).run P w = .ok v w ∧ VR α (mkRes l) v := by
  obtain ⟨vs, h1, h2⟩ := resA_sim hS h
  refine ⟨if h : vs.toArray.size = 1 then vs.toArray[0] else .tuple vs.toArray, ?_, ?_⟩
  · unfold results
    rw [Array.mapM_eq_mapM_toList]
    simp only [Sem.run_bind, Sem.run_map, Sem.run_pure]
    exact congrArg (fun r : Result (List Value) => (r.andThen fun a w' => Result.ok a.toArray w').andThen fun a w' => Result.ok (if h : a.size = 1 then a[0] else Value.tuple a) w') h1
  · match l, vs, h2 with
    | [], [], .nil => exact ⟨#[], rfl, .nil⟩
    | [_], [_], .cons h .nil => exact h
    | _ :: _ :: _, _ :: _ :: _, h2 => exact ⟨_, rfl, h2⟩
def argsF (args : List AV) : Env := fun j => args[j]?

/-- THE CONTRACT OF A FUNCTION, from its body. -/
theorem Sim.of_body (hm : P.follows .mixedOrders = true) (hQ : EqsOk P eqs) {f : FuncId} {fn : Func} {c : Code} {args : List AV} {Q : AV → Heap → Prop} (hf : P.funcs[f]? = some fn) (hb : fn.body = some c)
    (h : wpC P eqs (args.length + (fn.ntmps - args.length)) c (fun x lk H' => (match x with | .exit _ => False | _ => True) ∧ ∃ l, resA P lk H' fn.results.toList = some l ∧ Q (mkRes l) H') (argsF args) H) : Sim P f args H Q := by
  intro base α w xs hR ha
  have hlen : args.length = xs.size := by rw [ha.length]; simp
  refine calls_of_wp hf hb ?_
  refine wpC_sound (base := base) hm hQ c _ _ (argsF args) H α _ w h ⟨hR, fun t av ht => ?_, by simp [hlen], rfl⟩ fun x lk' H' α' a' w' g1 g2 g3 => ?_
  · obtain ⟨v, h1, h2⟩ := ha.get ht
    refine ⟨v, ?_, h2⟩
    rw [Array.getElem?_toList] at h1
    simp only []
    rw [Array.getElem?_append_left (Array.getElem?_eq_some_iff.1 h1).1, h1]
  · obtain ⟨hx, l, h1, h2⟩ := g1
    obtain ⟨v, q1, q2⟩ := results_sim g2 h1
    cases x with
    | exit id => exact hx.elim
    | normal => exact ⟨g2.defers, v, q1, _, v, H', α', rfl, h2, q2, g2.r, g3⟩
    | ret => exact ⟨g2.defers, v, q1, _, v, H', α', rfl, h2, q2, g2.r, g3⟩
end
end Go.Ea
end

/-
  THE ENGINE, part 8: what an operation looks at; which operations leave the heap alone; new objects at places kept free; a view of the heap with objects hidden. Over any program. Written in this session.
-/
section
namespace Go.Ea

section
variable {P : Program} {eqs : Eqs} {N : Nat} {base : Nat} {H : Heap} {α : Al} {w : World} {a : Act} {lk lk' : Env}

theorem rhos_congr : ∀ {l : List Operand}, (∀ x ∈ l, rho lk x = rho lk' x) → rhos lk l = rhos lk' l
  | [], _ => rfl
  | x :: r, h => by
    show (match rho lk x, rhos lk r with
      | some a, some l => some (a :: l)
      | _, _ => none) = _
    rw [h x (by simp), rhos_congr (l := r) fun y hy => h y (by simp [hy])]
    rfl
theorem partsOf_congr : ∀ {l : List (Nat × Operand)}, (∀ x ∈ l, rho lk x.2 = rho lk' x.2) → partsOf lk l = partsOf lk' l
  | [], _ => rfl
  | x :: r, h => by
    show (match rho lk x.2, partsOf lk r with
      | some a, some l => some ((x.1, a) :: l)
      | _, _ => none) = _
    rw [h x (by simp), partsOf_congr (l := r) fun y hy => h y (by simp [hy])]
    rfl
theorem boundA_congr {d : Nat} {o : Option Operand} (h : ∀ x, o = some x → rho lk x = rho lk' x) : boundA lk d o = boundA lk' d o := by
  cases o with
  | none => rfl
  | some x => simp only [boundA, h x rfl]

theorem opA_congr (op : Op) (h : ∀ x ∈ op.operands, rho lk x = rho lk' x) : opA op P eqs lk H = opA op P eqs lk' H := by
  cases op <;> simp only [Op.operands] at h
  case move x => show op_move x P eqs lk H = op_move x P eqs lk' H; unfold op_move; rw [h x (by simp)]
  case assign x => show op_move x P eqs lk H = op_move x P eqs lk' H; unfold op_move; rw [h x (by simp)]
  case pick c x y =>
    show op_pick c x y P eqs lk H = op_pick c x y P eqs lk' H; unfold op_pick
    have h1 := h x (by simp); have h2 := h y (by simp)
    rw [h c (by simp)]
    split
    · rename_i t _; cases t <;> simp only [cond_true, cond_false, h1, h2]
    · rfl
  case box t x => show op_box t x P eqs lk H = op_box t x P eqs lk' H; unfold op_box; rw [h x (by simp)]
  case build t ps => show op_build t ps P eqs lk H = op_build t ps P eqs lk' H; unfold op_build; rw [partsOf_congr (lk' := lk') fun x hx => h x.2 (by simp; exact ⟨x.1, by simpa using hx⟩)]
  case buildSlice t n ps => show op_buildSlice t n ps P eqs lk H = op_buildSlice t n ps P eqs lk' H; unfold op_buildSlice; rw [partsOf_congr (lk' := lk') fun x hx => h x.2 (by simp; exact ⟨x.1, by simpa using hx⟩)]
  case insert t m k x => show op_mapUpdate t m k x P eqs lk H = op_mapUpdate t m k x P eqs lk' H; unfold op_mapUpdate; rw [h m (by simp), h k (by simp), h x (by simp)]
  case mapUpdate t m k x => show op_mapUpdate t m k x P eqs lk H = op_mapUpdate t m k x P eqs lk' H; unfold op_mapUpdate; rw [h m (by simp), h k (by simp), h x (by simp)]
  case load t x => show op_load t x P eqs lk H = op_load t x P eqs lk' H; unfold op_load; rw [h x (by simp)]
  case store t x y => show op_store t x y P eqs lk H = op_store t x y P eqs lk' H; unfold op_store; rw [h x (by simp), h y (by simp)]
  case nilCheck x => show op_nilCheck x P eqs lk H = op_nilCheck x P eqs lk' H; unfold op_nilCheck; rw [h x (by simp)]
  case binOp op t x y yt =>
    show op_binOp op t x y yt P eqs lk H = op_binOp op t x y yt P eqs lk' H; unfold op_binOp; rw [h x (by simp), h y (by simp)]
  case unOp op t x => show op_unOp op t x P eqs lk H = op_unOp op t x P eqs lk' H; unfold op_unOp; rw [h x (by simp)]
  case convert s d x => show op_convert s d x P eqs lk H = op_convert s d x P eqs lk' H; unfold op_convert; rw [h x (by simp)]
  case makeFunc f first caps => show op_makeFunc f first caps P eqs lk H = op_makeFunc f first caps P eqs lk' H; unfold op_makeFunc; rw [rhos_congr (lk' := lk') fun x hx => h x (by simp; exact .inr (by simpa using hx))]
  case makeSlice t l c => show op_makeSlice t l c P eqs lk H = op_makeSlice t l c P eqs lk' H; unfold op_makeSlice; rw [h l (by simp), h c (by simp)]
  case slice t x lo hi mx =>
    show op_slice t x lo hi mx P eqs lk H = op_slice t x lo hi mx P eqs lk' H; unfold op_slice
    have h1 : ∀ d, boundA lk d lo = boundA lk' d lo := fun d => boundA_congr fun y hy => h y (by simp [hy])
    have h2 : ∀ d, boundA lk d hi = boundA lk' d hi := fun d => boundA_congr fun y hy => h y (by simp [hy])
    simp only [h x (by simp), h1, h2]
  case fieldAddr s x f => show op_fieldAddr s x f P eqs lk H = op_fieldAddr s x f P eqs lk' H; unfold op_fieldAddr; rw [h x (by simp)]
  case field t x f => show op_field t x f P eqs lk H = op_field t x f P eqs lk' H; unfold op_field; rw [h x (by simp)]
  case indexAddr t x i => show op_indexAddr t x i P eqs lk H = op_indexAddr t x i P eqs lk' H; unfold op_indexAddr; rw [h x (by simp), h i (by simp)]
  case index t x i => show op_index t x i P eqs lk H = op_index t x i P eqs lk' H; unfold op_index; rw [h x (by simp), h i (by simp)]
  case lookup t x i ok => show op_lookup t x i ok P eqs lk H = op_lookup t x i ok P eqs lk' H; unfold op_lookup; rw [h x (by simp), h i (by simp)]
  case extract x i => show op_extract x i P eqs lk H = op_extract x i P eqs lk' H; unfold op_extract; rw [h x (by simp)]
  case call c =>
    show op_call c P eqs lk H = op_call c P eqs lk' H; unfold op_call
    have h1 : rhos lk c.args.toList = rhos lk' c.args.toList := rhos_congr fun x hx => h x (by simp [Call.operands]; exact .inr (by simpa using hx))
    cases hc : c.callee with
    | builtin b => simp only [h1]
    | value f => simp only [h1, h f (by simp [Call.operands, hc])]
    | invoke _ _ => rfl
  all_goals rfl

/-! ### classes -/
inductive Cls where
  | loc
  | rd
  | mk
  | md
  deriving DecidableEq
def clsOf : Op → Cls
  | .move _ | .assign _ | .pick _ _ _ | .build _ _ | .nilCheck _ | .binOp _ _ _ _ _ | .unOp _ _ _ | .fieldAddr _ _ _ | .field _ _ _ | .indexAddr _ _ _ | .index _ _ _ | .extract _ _ | .makeFunc _ _ _ | .slice _ _ _ _ _ => .loc
  | .load _ _ | .lookup _ _ _ _ | .convert _ _ _ => .rd
  | .alloc _ | .box _ _ | .buildSlice _ _ _ | .makeSlice _ _ _ | .makeMap _ _ => .mk
  | .call c => match c.callee with
    | .builtin .append => .md
    | .builtin _ => .rd
    | _ => .md
  | _ => .md
def reH (H2 : Heap) : OpR → OpR
  | .val v _ => .val v H2
  | .call f args => .call f args
theorem loc_any (op : Op) (hc : clsOf op = .loc) {v : AV} {H1 : Heap} (h : opA op P eqs lk H = some (.val v H1)) (H2 : Heap) : opA op P eqs lk H2 = some (.val v H2) := by
  have key : opA op P eqs lk H2 = (opA op P eqs lk H).map (reH H2) := by
    cases op <;> simp only [clsOf, reduceCtorEq] at hc
    case move x => show op_move x P eqs lk H2 = (op_move x P eqs lk H).map (reH H2); unfold op_move; cases rho lk x <;> rfl
    case assign x => show op_move x P eqs lk H2 = (op_move x P eqs lk H).map (reH H2); unfold op_move; cases rho lk x <;> rfl
    case pick c x y => show op_pick c x y P eqs lk H2 = (op_pick c x y P eqs lk H).map (reH H2); unfold op_pick; (repeat' split) <;> simp_all [reH]
    case build t ps => show op_build t ps P eqs lk H2 = (op_build t ps P eqs lk H).map (reH H2); unfold op_build; (repeat' split) <;> simp_all [reH]
    case nilCheck x => show op_nilCheck x P eqs lk H2 = (op_nilCheck x P eqs lk H).map (reH H2); unfold op_nilCheck; (repeat' split) <;> simp_all [reH]
    case binOp op t x y yt => show op_binOp op t x y yt P eqs lk H2 = (op_binOp op t x y yt P eqs lk H).map (reH H2); unfold op_binOp; (repeat' split) <;> simp_all [reH]
    case unOp op t x => show op_unOp op t x P eqs lk H2 = (op_unOp op t x P eqs lk H).map (reH H2); unfold op_unOp; (repeat' split) <;> simp_all [reH]
    case fieldAddr t x f => show op_fieldAddr t x f P eqs lk H2 = (op_fieldAddr t x f P eqs lk H).map (reH H2); unfold op_fieldAddr; simp only [cond_eq_ite]; (repeat' split) <;> simp_all [reH]
    case field t x f => show op_field t x f P eqs lk H2 = (op_field t x f P eqs lk H).map (reH H2); unfold op_field; (repeat' split) <;> simp_all [reH]
    case indexAddr t x f => show op_indexAddr t x f P eqs lk H2 = (op_indexAddr t x f P eqs lk H).map (reH H2); unfold op_indexAddr; simp only [cond_eq_ite]; (repeat' split) <;> simp_all [reH]
    case index t x f => show op_index t x f P eqs lk H2 = (op_index t x f P eqs lk H).map (reH H2); unfold op_index; simp only [cond_eq_ite]; (repeat' split) <;> simp_all [reH]
    case extract x f => show op_extract x f P eqs lk H2 = (op_extract x f P eqs lk H).map (reH H2); unfold op_extract; (repeat' split) <;> simp_all [reH]
    case makeFunc x f c => show op_makeFunc x f c P eqs lk H2 = (op_makeFunc x f c P eqs lk H).map (reH H2); unfold op_makeFunc; (repeat' split) <;> simp_all [reH]
    case slice t x l f c => show op_slice t x l f c P eqs lk H2 = (op_slice t x l f c P eqs lk H).map (reH H2); unfold op_slice; simp only [cond_eq_ite]; (repeat' split) <;> simp_all [reH]
    case call c => (repeat' split at hc) <;> cases hc
  rw [key, h]; rfl

/-- A new object, at any place that is free. -/
theorem mk_any (op : Op) (hc : clsOf op = .mk) {v : AV} {obj : AObj} {id : Nat} {o : Oper} (ho : o.op = op) (h : opA op P eqs lk ⟨id, .nil⟩ = some (.val v (Heap.push ⟨id, .nil⟩ obj)))
    (hb : base ≤ w.heap.size) (hd : α id = none) (hE : EnvR α lk a) : Fresh P base α w ((execOp a.eval o).run P w) id v obj := by
  have inj : ∀ {o1 o2 : AObj}, Heap.push ⟨id, .nil⟩ o1 = Heap.push ⟨id, .nil⟩ o2 → o1 = o2 := by
    intro o1 o2 h
    have h1 : (Heap.push ⟨id, .nil⟩ o1).get id = some o1 := by rw [Heap.get_push]; simp
    have h2 : (Heap.push ⟨id, .nil⟩ o2).get id = some o2 := by rw [Heap.get_push]; simp
    rw [h] at h1; rw [h1] at h2; cases h2; rfl
  have fin : (∃ obj', Heap.push ⟨id, .nil⟩ obj = Heap.push ⟨id, .nil⟩ obj' ∧ Fresh P base α w ((execOp a.eval o).run P w) id v obj') → Fresh P base α w ((execOp a.eval o).run P w) id v obj := by
    rintro ⟨obj', h1, h2⟩; rw [inj h1]; exact h2
  refine fin ?_
  cases op <;> simp only [clsOf, reduceCtorEq] at hc
  case alloc T => exact mk_alloc (H := ⟨id, .nil⟩) (eqs := eqs) (lk := lk) hb hd ho h
  case box T x => exact mk_box (H := ⟨id, .nil⟩) (eqs := eqs) (lk := lk) hb hd hE ho h
  case buildSlice T n ps => exact mk_buildSlice (H := ⟨id, .nil⟩) (eqs := eqs) (lk := lk) hb hd hE ho h
  case makeSlice t l c => exact mk_makeSlice (H := ⟨id, .nil⟩) (eqs := eqs) (lk := lk) hb hd hE ho h
  case makeMap t r => exact mk_makeMap (H := ⟨id, .nil⟩) (eqs := eqs) (lk := lk) hb hd ho h
  case call c => (repeat' split at hc) <;> cases hc

/-! ### views -/
/-- H hides some of H2's objects. -/
structure Weak (H H2 : Heap) : Prop where
  n : H.n = H2.n
  obj : ∀ j o, H.get j = some o → o = .dead ∨ H2.get j = some o
theorem Weak.set_sub {f : AObj → Bool} (hf : f .dead = false) {H H2 : Heap} (h : Weak H H2) {k : Nat} (hk : blkset f H α k) : blkset f H2 α k := by
  obtain ⟨i, o, L, h1, h2, h3, h4⟩ := hk
  rcases h.obj i o h1 with e | e
  · subst e; rw [hf] at h2; cases h2
  · exact ⟨i, o, L, e, h2, h3, h4⟩
theorem R.weak {H2 : Heap} (hR : R P base H2 α w) (h : Weak H H2) : R P base H α w := by
  refine ⟨hR.bs, fun i hi => hR.dom i (by rw [← h.n]; exact hi), fun i o ho => ?_, fun i j oi oj Li Lj hij hi hri hj hlj hLi hLj => ?_⟩
  · rcases h.obj i o ho with e | e
    · subst e; trivial
    · exact hR.obj i o e
  · rcases h.obj i oi hi with e | e
    · subst e; cases hri
    · rcases h.obj j oj hj with e' | e'
      · subst e'; cases hlj
      · exact hR.sep i j oi oj Li Lj hij e hri e' hlj hLi hLj
/-- The hidden objects come back. -/
theorem R.back {H2 H' H2' : Heap} {α' : Al} {w' : World} (h2 : R P base H2 α w) (hw : Weak H H2) (hR : R P base H' α' w') (hX : Ext H α w H' α' w') (hn : H2'.n = H'.n)
    (hO : ∀ j o, H2'.get j = some o → o = .dead ∨ H'.get j = some o ∨ (j < H.n ∧ H.get j = some .dead ∧ H2.get j = some o)) : R P base H2' α' w' := by
  have lvb : ∀ {j oj Lj}, H2.get j = some oj → oj.live = true → α j = some Lj → Lj.blk < w.heap.size := fun {j oj Lj} h1 h3 h4 => by
    obtain ⟨L, e1, e2⟩ := (h2.obj _ _ h1).lt h3
    rw [h4] at e1; cases e1; exact e2
  refine ⟨hR.bs, fun i hi => hR.dom i (by rw [← hn]; exact hi), fun j o ho => ?_, fun i j oi oj Li Lj hij hi hri hj hlj hLi hLj => ?_⟩
  · rcases hO j o ho with rfl | e | ⟨e1, e2, e3⟩
    · trivial
    · exact hR.obj j o e
    · refine (h2.obj j o e3).move hX.sub (hX.old j e1) fun L hL hl => hX.blk _ (lvb e3 hl hL) ?_
      rintro ⟨i, oi, Li, g1, g2, g3, g4⟩
      have hij : i ≠ j := by rintro rfl; rw [e2] at g1; cases g1; cases g2
      rcases hw.obj i oi g1 with g | g
      · subst g; cases g2
      · exact h2.sep i j oi o Li L hij g g2 e3 hl g3 hL g4
  · rcases hO i oi hi with rfl | e | ⟨e1, e2, e3⟩
    · cases hri
    · rcases hO j oj hj with rfl | g | ⟨g1, g2, g3⟩
      · cases hlj
      · exact hR.sep i j oi oj Li Lj hij e hri g hlj hLi hLj
      · rw [hX.old j g1] at hLj
        have hb := lvb g3 hlj hLj
        intro heq
        obtain ⟨i0, o0, L0, k1, k2, k3, k4⟩ := hX.rw Li.blk (by rw [heq]; exact hb) ⟨i, oi, Li, e, hri, hLi, rfl⟩
        have hij : i0 ≠ j := by rintro rfl; rw [g2] at k1; cases k1; cases k2
        rcases hw.obj i0 o0 k1 with k | k
        · subst k; cases k2
        · exact h2.sep i0 j o0 oj L0 Lj hij k k2 g3 hlj k3 hLj (k4.trans heq)
    · rw [hX.old i e1] at hLi
      have hbi := lvb e3 (AObj.live_of_rw hri) hLi
      rcases hO j oj hj with rfl | g | ⟨g1, g2, g3⟩
      · cases hlj
      · intro heq
        obtain ⟨j0, o0, L0, k1, k2, k3, k4⟩ := hX.lv Lj.blk (by rw [← heq]; exact hbi) ⟨j, oj, Lj, g, hlj, hLj, rfl⟩
        have hij : i ≠ j0 := by rintro rfl; rw [e2] at k1; cases k1; cases k2
        rcases hw.obj j0 o0 k1 with k | k
        · subst k; cases k2
        · exact h2.sep i j0 oi o0 Li L0 hij e3 hri k k2 hLi k3 (heq.trans k4.symm)
      · rw [hX.old j g1] at hLj
        exact h2.sep i j oi oj Li Lj hij e3 hri g3 hlj hLi hLj
theorem Ext.back {H2 H' H2' : Heap} {α' : Al} {w' : World} (hw : Weak H H2) (hX : Ext H α w H' α' w') (hn : H2'.n = H'.n)
    (hO : ∀ j o, H2'.get j = some o → o = .dead ∨ H'.get j = some o ∨ (j < H.n ∧ H.get j = some .dead ∧ H2.get j = some o)) (hD : ∀ j, H2.get j = some .dead → H2'.get j = some .dead) : Ext H2 α w H2' α' w' := by
  have sets : ∀ (f : AObj → Bool), f .dead = false → (∀ k, k < w.heap.size → blkset f H' α' k → blkset f H α k) → ∀ k, k < w.heap.size → blkset f H2' α' k → blkset f H2 α k := by
    intro f hf hs k hk h
    obtain ⟨i, o, L, h1, h2, h3, h4⟩ := h
    rcases hO i o h1 with rfl | e | ⟨e1, e2, e3⟩
    · rw [hf] at h2; cases h2
    · exact hw.set_sub hf (hs k hk ⟨i, o, L, e, h2, h3, h4⟩)
    · rw [hX.old i e1] at h3; exact ⟨i, o, L, e3, h2, h3, h4⟩
  refine ⟨hX.os, hX.tape, hX.output, hX.size, by rw [← hw.n, hn]; exact hX.n, hX.sub, fun i hi => hX.old i (by rw [hw.n]; exact hi), fun k hk hn => hX.blk k hk fun h => hn (hw.set_sub rfl h), sets _ rfl hX.rw, sets _ rfl hX.lv, hD, hX.fz⟩
/-- Something is given up at the end. -/
theorem Ext.weak {H0 : Heap} {α0 : Al} {w0 : World} {H2 : Heap} (hX : Ext H0 α0 w0 H2 α w) (hw : Weak H H2) (hD : ∀ j, H0.get j = some .dead → H.get j = some .dead) : Ext H0 α0 w0 H α w :=
  ⟨hX.os, hX.tape, hX.output, hX.size, by rw [hw.n]; exact hX.n, hX.sub, hX.old, hX.blk, fun k hk h => hX.rw k hk (hw.set_sub rfl h), fun k hk h => hX.lv k hk (hw.set_sub rfl h), hD, hX.fz⟩

/-- An object is born. -/
theorem R.born {id : Nat} {O : Obj} {o : AObj} {L : Loc} (h : R P base H α w) (hi : H.get id = some .unborn) (hL : L.blk = w.heap.size) (hO : OR P base (upd α id L) (w.alloc O) id o) :
    R P base (H.set id o) (upd α id L) (w.alloc O) := by
  have hin := Heap.get_lt hi
  have hnone : α id = none := h.obj _ _ hi
  have hs : Sub α (upd α id L) := sub_upd hnone
  refine ⟨by have := h.bs; simp; omega, fun i hi => ?_, fun i oi hi => ?_, fun i j oi oj Li Lj hij hi hri hj hlj hLi hLj => ?_⟩
  · rw [Heap.n_set] at hi; rw [upd_ne (by omega)]; exact h.dom i hi
  · rw [Heap.get_set _ _ _ _ hin] at hi
    by_cases e : i = id
    · subst e; rw [if_pos rfl] at hi; cases hi; exact hO
    · rw [if_neg e] at hi
      refine (h.obj i oi hi).move hs (upd_ne e) fun L' h1 h2 => ?_
      obtain ⟨L'', h3, h4⟩ := (h.obj i oi hi).lt h2
      rw [h1] at h3; cases h3
      exact heap_alloc_old w O h4
  · have old : ∀ {k ok Lk}, k ≠ id → (H.set id o).get k = some ok → ok.live = true → upd α id L k = some Lk → H.get k = some ok ∧ α k = some Lk ∧ Lk.blk < w.heap.size := fun {k ok Lk} hk h1 h2 h3 => by
      rw [Heap.get_set _ _ _ _ hin, if_neg hk] at h1
      rw [upd_ne hk] at h3
      obtain ⟨L'', h4, h5⟩ := (h.obj k ok h1).lt h2
      rw [h3] at h4; cases h4
      exact ⟨h1, h3, h5⟩
    by_cases ei : i = id
    · obtain ⟨_, _, h7⟩ := old (fun e => hij (ei.trans e.symm)) hj hlj hLj
      subst ei; rw [upd_self] at hLi; cases hLi; omega
    · obtain ⟨h1, h2, h3⟩ := old ei hi (AObj.live_of_rw hri) hLi
      by_cases ej : j = id
      · subst ej; rw [upd_self] at hLj; cases hLj; omega
      · obtain ⟨h4, h5, _⟩ := old ej hj hlj hLj
        exact h.sep i j oi oj Li Lj hij h1 hri h4 hlj h2 h5
theorem Ext.born {H0 : Heap} {α0 : Al} {w0 : World} {id : Nat} {O : Obj} {o : AObj} {L : Loc} (hX : Ext H0 α0 w0 H α w) (hge : H0.n ≤ id) (hi : id < H.n) (hn : α id = none) (hL : L.blk = w.heap.size) (hf : ∀ x, (w.alloc O).frozen? x = w.frozen? x) :
    Ext H0 α0 w0 (H.set id o) (upd α id L) (w.alloc O) := by
  have hsz := hX.size
  have sets : ∀ (f : AObj → Bool), (∀ k, k < w0.heap.size → blkset f H α k → blkset f H0 α0 k) → ∀ k, k < w0.heap.size → blkset f (H.set id o) (upd α id L) k → blkset f H0 α0 k := by
    intro f hs k hk h
    obtain ⟨i, oi, Li, h1, h2, h3, h4⟩ := h
    rw [Heap.get_set _ _ _ _ hi] at h1
    by_cases e : i = id
    · subst e; rw [upd_self] at h3; cases h3; omega
    · rw [if_neg e] at h1; rw [upd_ne e] at h3; exact hs k hk ⟨i, oi, Li, h1, h2, h3, h4⟩
  refine ⟨hX.os, hX.tape, hX.output, by simp; omega, hX.n, hX.sub.trans (sub_upd hn), fun i hi => (upd_ne (by omega)).trans (hX.old i hi), fun k hk hr => (heap_alloc_old w O (by omega)).trans (hX.blk k hk hr), sets _ hX.rw, sets _ hX.lv, fun j hj => ?_, fun x => (hf x).trans (hX.fz x)⟩
  have := Heap.get_lt hj
  rw [Heap.get_set _ _ _ _ hi, if_neg (by omega)]; exact hX.dead j hj
/-- A heap of one's choice. -/
theorem exists_heap (g : Nat → AObj) : ∀ n, ∃ H : Heap, H.n = n ∧ ∀ j, j < n → H.get j = some (g j)
  | 0 => ⟨Heap.empty, rfl, fun j h => absurd h (by omega)⟩
  | n + 1 => by
    obtain ⟨H, h1, h2⟩ := exists_heap g n
    refine ⟨H.push (g n), by simp [h1], fun j hj => ?_⟩
    rw [Heap.get_push, h1]
    by_cases e : j = n
    · subst e; simp
    · rw [if_neg e]; exact h2 j (by omega)
end
end Go.Ea
end

/-
  THE ENGINE, part 9: regions whose order is drawn: one order is looked at (wpD), and every order comes to the same. Over any program. Written in this session.
-/
section
namespace Go.Ea

def opdT : Operand → List Nat
  | .tmp t => [t]
  | _ => []
/-- The slots an operation looks at. -/
def looks (ops : List Oper) (o : Oper) : List Nat := o.op.operands.toList.flatMap opdT ++ match o.guard with
  | some (g, _) => (gdst ops g).toList
  | none => []
structure Plan where
  ms : List Nat
  rk : List Nat
  M : Nat
  sched : List Nat
section
variable (ops : List Oper) (pl : Plan)
/-- j comes before i. -/
def bef (i j : Nat) : Bool := Nat.testBit (pl.ms.getD i 0) j
def clsAt (i : Nat) : Cls := match ops[i]? with
  | some o => clsOf o.op
  | none => .md
def isCls (c : Cls) : Cls → Bool
  | .loc => match c with | .loc => true | _ => false
  | .rd => match c with | .rd => true | _ => false
  | .mk => match c with | .mk => true | _ => false
  | .md => match c with | .md => true | _ => false
def looksAt (i : Nat) : List Nat := match ops[i]? with
  | some o => looks ops o
  | none => []
def dstIn (i : Nat) (l : List Nat) : Bool := match gdst ops i with
  | some d => l.any fun t => Nat.beq t d
  | none => false
def sameDst (i k : Nat) : Bool := match gdst ops i, gdst ops k with
  | some d, some e => Nat.beq d e
  | _, _ => false
def pairOk (i k : Nat) : Bool :=
  !Nat.beq i k && !sameDst ops i k && (!(isCls (clsAt ops i) .mk && isCls (clsAt ops k) .mk) || !Nat.beq (pl.rk.getD i 0) (pl.rk.getD k 0)) &&
  (bef pl k i || (!dstIn ops i (looksAt ops k) && !dstIn ops k (looksAt ops i)))
def okS : List Nat → Bool
  | [] => true
  | i :: r => !bef pl i i && (r.all fun k => !bef pl i k && pairOk ops pl i k) && (!isCls (clsAt ops i) .md || r.all fun k => bef pl k i) && Nat.blt (pl.rk.getD i 0) pl.M && Nat.blt i ops.length && okS r
def edgeMask (o : Oper) : Nat := o.after.toList.foldl (fun s e => bif Region.binds .any e then s ||| (2 ^ e.on ||| pl.ms.getD e.on 0) else s) 0
def okE (n : Nat) : List Oper → Nat → Bool
  | [], _ => true
  | o :: r, i => Nat.beq (pl.ms.getD i 0) (edgeMask pl o) && (o.after.toList.all fun e => !Region.binds .any e || Nat.blt e.on n) && okE n r (i + 1)
def okP : Bool := okE pl ops.length ops 0 && okS ops pl pl.sched && (List.range ops.length).all fun i => pl.sched.any fun k => Nat.beq k i

noncomputable def matP (p : Nat → Bool) (n0 : Nat) : List (Nat × AObj) → Heap → Heap
  | [], H => H
  | (x, obj) :: r, H => bif p x then (matP p n0 r H).set (n0 + pl.rk.getD x 0) obj else matP p n0 r H
noncomputable def resv (H : Heap) : Nat → Heap
  | 0 => H
  | n + 1 => (resv H n).push .dead
end
section
variable (P : Program) (eqs : Eqs) (N : Nat) (ops : List Oper) (pl : Plan) (n0 : Nat) (K : Env → Heap → Prop)
abbrev Pend := List (Nat × Env × AV)
def recheck (H : Heap) (mk : List (Nat × AObj)) (p : Nat × Env × AV) : Prop :=
  ∃ o, ops[p.1]? = some o ∧ opA o.op P eqs p.2.1 (matP pl (bef pl p.1) n0 mk H) = some (.val p.2.2 (matP pl (bef pl p.1) n0 mk H))
/-- One order is looked at. What waits is looked at again after each operation that turns the heap. -/
def wpD : List Nat → Env → Heap → List (Nat × AObj) → Pend → Prop
  | [], lk, H, mk, _ => K lk (matP pl (fun _ => true) n0 mk H)
  | i :: r, lk, H, mk, pd => ∃ o, ops[i]? = some o ∧ dOk N o.dst = true ∧ ∃ t, wantA ops lk o = some t ∧
    if t = true then match clsOf o.op with
      | .loc => ∃ v, opA o.op P eqs lk H = some (.val v H) ∧ wpD r (putF lk o.dst v) H mk pd
      | .rd => ∃ v, opA o.op P eqs lk (matP pl (bef pl i) n0 mk H) = some (.val v (matP pl (bef pl i) n0 mk H)) ∧ wpD r (putF lk o.dst v) H mk ((i, lk, v) :: pd)
      | .mk => ∃ v obj, opA o.op P eqs lk ⟨n0 + pl.rk.getD i 0, .nil⟩ = some (.val v (Heap.push ⟨n0 + pl.rk.getD i 0, .nil⟩ obj)) ∧ wpD r (putF lk o.dst v) H ((i, obj) :: mk) pd
      | .md => opP P eqs o.op lk (matP pl (bef pl i) n0 mk H) fun v H' =>
          (∀ p ∈ pd, bef pl i p.1 = false → recheck P eqs ops pl n0 H' (mk.filter fun x => !bef pl i x.1) p) ∧
          wpD r (putF lk o.dst v) H' (mk.filter fun x => !bef pl i x.1) (pd.filter fun x => !bef pl i x.1)
    else wpD r (putF lk o.dst .undef) H mk pd
end

/-! ### static facts -/
section
variable {ops : List Oper} {pl : Plan}
theorem isCls_iff (c d : Cls) : isCls c d = true ↔ c = d := by cases c <;> cases d <;> simp [isCls]
theorem dstIn_false {i : Nat} {l : List Nat} (h : dstIn ops i l = false) {d : Nat} (hd : gdst ops i = some d) : d ∉ l := by
  intro hm
  unfold dstIn at h
  rw [hd] at h
  simp only [List.any_eq_false, Nat.beq_eq] at h
  exact h d hm rfl
theorem sameDst_false {i k : Nat} (h : sameDst ops i k = false) {d : Nat} (h1 : gdst ops i = some d) : gdst ops k ≠ some d := by
  intro h2
  unfold sameDst at h
  rw [h1, h2] at h
  simp at h
structure Pair (ops : List Oper) (pl : Plan) (i k : Nat) : Prop where
  ne : i ≠ k
  dst : ∀ d, gdst ops i = some d → gdst ops k ≠ some d
  rk : clsAt ops i = .mk → clsAt ops k = .mk → pl.rk.getD i 0 ≠ pl.rk.getD k 0
  slot : bef pl k i = true ∨ bef pl i k = true ∨ ((∀ d, gdst ops i = some d → d ∉ looksAt ops k) ∧ ∀ d, gdst ops k = some d → d ∉ looksAt ops i)
theorem Pair.symm {i k : Nat} (h : Pair ops pl i k) : Pair ops pl k i :=
  ⟨h.ne.symm, fun d h1 h2 => h.dst d h2 h1, fun h1 h2 e => h.rk h2 h1 e.symm, by
    rcases h.slot with h | h | h
    · exact .inr (.inl h)
    · exact .inl h
    · exact .inr (.inr ⟨h.2, h.1⟩)⟩
theorem pairOk_spec {i k : Nat} (h : pairOk ops pl i k = true) : Pair ops pl i k := by
  unfold pairOk at h
  simp only [Bool.and_eq_true, Bool.or_eq_true, Bool.not_eq_true', Bool.and_eq_false_iff] at h
  obtain ⟨⟨⟨h1, h2⟩, h3⟩, h4⟩ := h
  refine ⟨fun e => ?_, fun d hd => sameDst_false h2 hd, fun g1 g2 e => ?_, ?_⟩
  · subst e; simp at h1
  · rcases h3 with (h3 | h3) | h3
    · rw [g1] at h3; cases h3
    · rw [g2] at h3; cases h3
    · rw [e] at h3; simp at h3
  · rcases h4 with h4 | ⟨h4, h5⟩
    · exact .inl h4
    · exact .inr (.inr ⟨fun d hd => dstIn_false h4 hd, fun d hd => dstIn_false h5 hd⟩)
structure OkCons (ops : List Oper) (pl : Plan) (i : Nat) (r : List Nat) : Prop where
  self : bef pl i i = false
  nb : ∀ k ∈ r, bef pl i k = false
  pair : ∀ k ∈ r, Pair ops pl i k
  md : clsAt ops i = .md → ∀ k ∈ r, bef pl k i = true
  rk : pl.rk.getD i 0 < pl.M
  lt : i < ops.length
  rest : okS ops pl r = true
theorem okS_cons {i : Nat} {r : List Nat} (h : okS ops pl (i :: r) = true) : OkCons ops pl i r := by
  simp only [okS, Bool.and_eq_true, Bool.or_eq_true, Bool.not_eq_true', List.all_eq_true, Nat.blt_eq] at h
  obtain ⟨⟨⟨⟨⟨h1, h2⟩, h3⟩, h4⟩, h5⟩, h6⟩ := h
  refine ⟨h1, fun k hk => (h2 k hk).1, fun k hk => pairOk_spec (h2 k hk).2, fun hc k hk => ?_, h4, h5, h6⟩
  rcases h3 with h3 | h3
  · rw [hc] at h3; cases h3
  · exact h3 k hk
theorem okS_pairs : ∀ {l : List Nat}, okS ops pl l = true → ∀ i ∈ l, ∀ k ∈ l, i ≠ k → Pair ops pl i k
  | [], _, i, hi, _, _, _ => by cases hi
  | x :: r, h, i, hi, k, hk, hne => by
    have hc := okS_cons h
    rcases List.mem_cons.1 hi with rfl | hi'
    · rcases List.mem_cons.1 hk with rfl | hk'
      · exact absurd rfl hne
      · exact hc.pair k hk'
    · rcases List.mem_cons.1 hk with rfl | hk'
      · exact (hc.pair i hi').symm
      · exact okS_pairs hc.rest i hi' k hk' hne
theorem okS_each : ∀ {l : List Nat}, okS ops pl l = true → ∀ i ∈ l, i < ops.length ∧ bef pl i i = false ∧ pl.rk.getD i 0 < pl.M
  | [], _, i, hi => by cases hi
  | x :: r, h, i, hi => by
    have hc := okS_cons h
    rcases List.mem_cons.1 hi with rfl | hi'
    · exact ⟨hc.lt, hc.self, hc.rk⟩
    · exact okS_each hc.rest i hi'
theorem okE_spec {n : Nat} : ∀ {l : List Oper} {i : Nat}, okE pl n l i = true → ∀ (k : Nat) (o : Oper), l[k]? = some o → pl.ms.getD (i + k) 0 = edgeMask pl o ∧ ∀ e ∈ o.after, Region.binds .any e = true → e.on < n
  | [], i, _, k, o, hk => by simp at hk
  | x :: r, i, h, k, o, hk => by
    simp only [okE, Bool.and_eq_true, List.all_eq_true, Bool.or_eq_true, Bool.not_eq_true', Nat.blt_eq, Nat.beq_eq] at h
    obtain ⟨⟨h1, h2⟩, h3⟩ := h
    cases k with
    | zero =>
      simp at hk; subst hk
      exact ⟨h1, fun e he hb => (h2 e (by simpa using he)).resolve_left (by rw [hb]; simp)⟩
    | succ k =>
      have := okE_spec h3 k o (by simpa using hk)
      rw [show i + 1 + k = i + (k + 1) from by omega] at this
      exact this
theorem mask_spec {j : Nat} : ∀ {l : List Edge} {s : Nat}, Nat.testBit (l.foldl (fun s e => bif Region.binds .any e then s ||| (2 ^ e.on ||| pl.ms.getD e.on 0) else s) s) j = true →
    Nat.testBit s j = true ∨ ∃ e ∈ l, Region.binds .any e = true ∧ (e.on = j ∨ bef pl e.on j = true)
  | [], s, h => .inl h
  | e :: l, s, h => by
    rw [List.foldl_cons] at h
    rcases mask_spec h with h1 | ⟨e', h1, h2⟩
    · cases hb : Region.binds .any e with
      | false => rw [hb] at h1; exact .inl h1
      | true =>
        rw [hb] at h1
        simp only [cond_true, Nat.testBit_or, Bool.or_eq_true] at h1
        rcases h1 with h1 | h1 | h1
        · exact .inl h1
        · rw [Nat.testBit_two_pow] at h1
          exact .inr ⟨e, by simp, hb, .inl (by simpa using h1)⟩
        · exact .inr ⟨e, by simp, hb, .inr h1⟩
    · exact .inr ⟨e', by simp [h1], h2⟩
theorem mask_mono {j : Nat} : ∀ {l : List Edge} {s : Nat}, Nat.testBit s j = true → Nat.testBit (l.foldl (fun s e => bif Region.binds .any e then s ||| (2 ^ e.on ||| pl.ms.getD e.on 0) else s) s) j = true
  | [], s, h => h
  | e :: l, s, h => by
    rw [List.foldl_cons]
    refine mask_mono ?_
    cases Region.binds .any e with
    | false => exact h
    | true => simp [h]
theorem mask_mem : ∀ {l : List Edge} {s : Nat} {e : Edge}, e ∈ l → Region.binds .any e = true → Nat.testBit (l.foldl (fun s e => bif Region.binds .any e then s ||| (2 ^ e.on ||| pl.ms.getD e.on 0) else s) s) e.on = true
  | x :: l, s, e, hm, hb => by
    rw [List.foldl_cons]
    rcases List.mem_cons.1 hm with rfl | hm
    · refine mask_mono ?_
      rw [hb]
      simp
    · exact mask_mem hm hb
structure Ok (ops : List Oper) (pl : Plan) : Prop where
  edge : ∀ i o, ops[i]? = some o → ∀ e ∈ o.after, Region.binds .any e = true → e.on < ops.length ∧ Go.Ea.bef pl i e.on = true
  bef : ∀ i o, ops[i]? = some o → ∀ j, bef pl i j = true → ∃ e ∈ o.after, Region.binds .any e = true ∧ (e.on = j ∨ Go.Ea.bef pl e.on j = true)
  okS : okS ops pl pl.sched = true
  all : ∀ i, i < ops.length → i ∈ pl.sched
theorem okP_spec (h : okP ops pl = true) : Ok ops pl := by
  simp only [okP, Bool.and_eq_true, List.all_eq_true, List.any_eq_true, Nat.beq_eq] at h
  obtain ⟨⟨h1, h2⟩, h3⟩ := h
  refine ⟨fun i o ho e he hb => ⟨(okE_spec h1 i o ho).2 e he hb, ?_⟩, fun i o ho j hj => ?_, h2, fun i hi => ?_⟩
  · have := (okE_spec h1 i o ho).1
    rw [Nat.zero_add] at this
    unfold Go.Ea.bef
    rw [this]
    exact mask_mem (by simpa using he) hb
  · have := (okE_spec h1 i o ho).1
    rw [Nat.zero_add] at this
    unfold Go.Ea.bef at hj
    rw [this] at hj
    rcases mask_spec hj with h | ⟨e, g1, g2⟩
    · simp at h
    · exact ⟨e, by simpa using g1, g2⟩
  · obtain ⟨k, g1, g2⟩ := h3 i (by simpa using hi)
    rw [← g2]; exact g1
theorem Ok.pair (hok : Ok ops pl) {i k : Nat} (hi : i < ops.length) (hk : k < ops.length) (hne : i ≠ k) : Pair ops pl i k := okS_pairs hok.okS i (hok.all i hi) k (hok.all k hk) hne
theorem Ok.rk (hok : Ok ops pl) {i : Nat} (hi : i < ops.length) : pl.rk.getD i 0 < pl.M := (okS_each hok.okS i (hok.all i hi)).2.2
theorem Ok.self (hok : Ok ops pl) {i : Nat} (hi : i < ops.length) : Go.Ea.bef pl i i = false := (okS_each hok.okS i (hok.all i hi)).2.1
end

/-! ### the heap's views -/
theorem matP_n (pl : Plan) (p : Nat → Bool) (n0 : Nat) : ∀ (mk : List (Nat × AObj)) (H : Heap), (matP pl p n0 mk H).n = H.n
  | [], H => rfl
  | (x, obj) :: r, H => by
    unfold matP
    cases p x with
    | true => simp only [cond_true, Heap.n_set]; exact matP_n pl p n0 r H
    | false => simp only [cond_false]; exact matP_n pl p n0 r H
theorem matP_get {pl : Plan} {p : Nat → Bool} {n0 : Nat} : ∀ {mk : List (Nat × AObj)} {H : Heap} {j : Nat} {o : AObj}, (∀ x obj, (x, obj) ∈ mk → n0 + pl.rk.getD x 0 < H.n) → (matP pl p n0 mk H).get j = some o →
    (∃ x, (x, o) ∈ mk ∧ p x = true ∧ n0 + pl.rk.getD x 0 = j) ∨ H.get j = some o
  | [], H, j, o, _, h => .inr h
  | (x, obj) :: r, H, j, o, hb, h => by
    unfold matP at h
    cases hp : p x with
    | true =>
      rw [hp, cond_true, Heap.get_set _ _ _ _ (by rw [matP_n]; exact hb x obj (by simp))] at h
      split at h
      · rename_i e; cases h; exact .inl ⟨x, by simp, hp, e.symm⟩
      · rcases matP_get (fun y ob hy => hb y ob (by simp [hy])) h with ⟨y, h1, h2⟩ | h1
        · exact .inl ⟨y, by simp [h1], h2⟩
        · exact .inr h1
    | false =>
      rw [hp, cond_false] at h
      rcases matP_get (fun y ob hy => hb y ob (by simp [hy])) h with ⟨y, h1, h2⟩ | h1
      · exact .inl ⟨y, by simp [h1], h2⟩
      · exact .inr h1
theorem matP_keep {pl : Plan} {p : Nat → Bool} {n0 : Nat} : ∀ {mk : List (Nat × AObj)} {H : Heap} {j : Nat}, (∀ x obj, (x, obj) ∈ mk → n0 + pl.rk.getD x 0 < H.n) → (∀ x obj, (x, obj) ∈ mk → p x = true → n0 + pl.rk.getD x 0 ≠ j) →
    (matP pl p n0 mk H).get j = H.get j
  | [], H, j, _, _ => rfl
  | (x, obj) :: r, H, j, hb, h => by
    unfold matP
    cases hp : p x with
    | true =>
      rw [cond_true, Heap.get_set _ _ _ _ (by rw [matP_n]; exact hb x obj (by simp)), if_neg (Ne.symm (h x obj (by simp) hp))]
      exact matP_keep (fun y ob hy => hb y ob (by simp [hy])) fun y ob hy => h y ob (by simp [hy])
    | false =>
      rw [cond_false]
      exact matP_keep (fun y ob hy => hb y ob (by simp [hy])) fun y ob hy => h y ob (by simp [hy])
theorem matP_cons_false {pl : Plan} {p : Nat → Bool} {n0 : Nat} {mk : List (Nat × AObj)} {H : Heap} {x : Nat} {obj : AObj} (h : p x = false) : matP pl p n0 ((x, obj) :: mk) H = matP pl p n0 mk H := by
  conv => lhs; unfold matP
  rw [h]; rfl
theorem resv_n (H : Heap) : ∀ n, (resv H n).n = H.n + n
  | 0 => rfl
  | n + 1 => by unfold resv; rw [Heap.n_push, resv_n H n]; omega
theorem resv_get (H : Heap) : ∀ n j, (resv H n).get j = if j < H.n then H.get j else if j < H.n + n then some .dead else none
  | 0, j => by
    unfold resv
    by_cases h : j < H.n
    · rw [if_pos h]
    · rw [if_neg h, if_neg (by omega), Heap.get_ge _ (by omega)]
  | n + 1, j => by
    unfold resv
    rw [Heap.get_push, resv_n, resv_get H n j]
    by_cases h : j < H.n
    · rw [if_neg (by omega), if_pos h, if_pos h]
    · rw [if_neg h, if_neg h]
      by_cases h2 : j = H.n + n
      · rw [if_pos h2, if_pos (by omega)]
      · rw [if_neg h2]
        by_cases h3 : j < H.n + n
        · rw [if_pos h3, if_pos (by omega)]
        · rw [if_neg h3, if_neg (by omega)]

/-! ### looking at slots -/
section
variable {P : Program} {eqs : Eqs} {lk lk' : Env} {H : Heap}
theorem rho_looks {x : Operand} (h : ∀ t ∈ opdT x, lk t = lk' t) : rho lk x = rho lk' x := by
  cases x with
  | tmp t => exact h t (by simp [opdT])
  | _ => rfl
theorem opA_looks {ops : List Oper} {o : Oper} (h : ∀ t ∈ looks ops o, lk t = lk' t) : opA o.op P eqs lk H = opA o.op P eqs lk' H :=
  opA_congr o.op fun x hx => rho_looks fun t ht => h t (List.mem_append_left _ (List.mem_flatMap.2 ⟨x, by simpa using hx, ht⟩))
theorem wantA_looks {ops : List Oper} {o : Oper} (h : ∀ t ∈ looks ops o, lk t = lk' t) : wantA ops lk o = wantA ops lk' o := by
  unfold wantA
  cases hg : o.guard with
  | none => rfl
  | some g =>
    obtain ⟨j, b⟩ := g
    simp only []
    cases hd : gdst ops j with
    | none => rfl
    | some t =>
      simp only []
      rw [h t (List.mem_append_right _ (by rw [hg]; simp [hd]))]
theorem opP_looks {ops : List Oper} {o : Oper} {K : AV → Heap → Prop} (h : ∀ t ∈ looks ops o, lk t = lk' t) (hp : opP P eqs o.op lk H K) : opP P eqs o.op lk' H K := by
  obtain ⟨r, h1, h2⟩ := hp
  exact ⟨r, by rw [← opA_looks h]; exact h1, h2⟩
end
end Go.Ea
end
