/-
  THE ENGINE, part 20: what stays of a heap, looks at heaps that grow, steps of a walk that look at the heap. Over any program. Written in this session.
-/
import Derived.Test.YtceakkomleaibaaEd3
namespace Go.Ea

/-! ### what stays -/
/-- What lives stays, but for those in S. -/
structure Kp (S : List Nat) (H H' : Heap) : Prop where
  n : H.n ≤ H'.n
  g : ∀ i o, H.get i = some o → o.live = true → i ∉ S → H'.get i = some o
namespace Heap
variable {H : Heap} {i j : Nat} {o ob : AObj}
theorem push_new : (H.push o).get H.n = some o := by rw [get_push, if_pos rfl]
theorem push_old (h : H.get i = some ob) : (H.push o).get i = some ob := by rw [get_push, if_neg (Nat.ne_of_lt (get_lt h))]; exact h
theorem set_new (h : H.get i = some ob) : (H.set i o).get i = some o := by rw [get_set _ _ _ _ (get_lt h), if_pos rfl]
theorem set_newl (h : i < H.n) : (H.set i o).get i = some o := by rw [get_set _ _ _ _ h, if_pos rfl]
theorem set_old (h : H.get i = some ob) (hij : i ≠ j) (hi : j < H.n) : (H.set j o).get i = some ob := by rw [get_set _ _ _ _ hi, if_neg hij]; exact h
theorem ne_of (h : H.get i = some o) (k : H.get j = some ob) (hne : o ≠ ob) : i ≠ j := by rintro rfl; rw [h] at k; cases k; exact hne rfl
end Heap
namespace Kp
variable {S T : List Nat} {H H' H2 : Heap} {i : Nat} {o : AObj}
theorem refl : Kp S H H := ⟨Nat.le_refl _, fun _ _ h _ _ => h⟩
theorem get (h : Kp [] H H') (hi : H.get i = some o) (hl : o.live = true) : H'.get i = some o := h.g i o hi hl (by simp)
theorem trans (h : Kp S H H') (k : Kp T H' H2) (hT : ∀ i ∈ T, i ∈ S ∨ H.n ≤ i) : Kp S H H2 :=
  ⟨Nat.le_trans h.n k.n, fun i o hi hl hs => k.g i o (h.g i o hi hl hs) hl fun hm => (hT i hm).elim hs fun hn => by have := Heap.get_lt hi; omega⟩
theorem trans0 (h : Kp S H H') (k : Kp [] H' H2) : Kp S H H2 := h.trans k fun _ hm => by cases hm
theorem push (h : Kp S H H') : Kp S H (H'.push o) := h.trans0 ⟨by simp, fun _ _ h _ _ => Heap.push_old h⟩
theorem set (h : Kp S H H') (hi : i < H'.n) (hs : i ∈ S ∨ H.n ≤ i) : Kp S H (H'.set i o) :=
  h.trans (T := [i]) ⟨by simp, fun j ob hj _ hm => Heap.set_old hj (by simpa using hm) hi⟩ fun j hj => by simp at hj; subst hj; exact hs
theorem weaken (h : Kp S H H') (hs : ∀ i ∈ S, i ∈ T) : Kp T H H' := ⟨h.n, fun i o hi hl hm => h.g i o hi hl fun hh => hm (hs i hh)⟩
theorem nil (h : Kp S H H') (hs : ∀ i ∈ S, H.n ≤ i) : Kp [] H H' := ⟨h.n, fun i o hi hl _ => h.g i o hi hl fun hh => by have := hs i hh; have := Heap.get_lt hi; omega⟩
end Kp

/-! ### operations that look at the heap -/
section
variable {P : Program} {eqs : Eqs} {N : Nat} {lk : Env} {H : Heap}
theorem op_load_at {T : TypeId} {a : Operand} {id o : Nat} {T' : TypeId} {k : Nat} {cs : List AT} {x : A1} (h1 : rho lk a = some (at' (.ptr (some (id, o))))) (h2 : H.get id = some (.cells T' k cs)) (h3 : partA P T cs o = some x) :
    opA (.load T a) P eqs lk H = some (.val (.one x) H) := by
  show op_load T a P eqs lk H = _
  unfold op_load
  rw [h1]; simp only [h2, h3]
theorem op_store_at {T : TypeId} {a b : Operand} {id o n : Nat} {T' : TypeId} {k : Nat} {cs : List AT} {x : A1} (h1 : rho lk a = some (at' (.ptr (some (id, o))))) (hb : rho lk b = some (.one x)) (hz : sizeO P T = some n) (h2 : H.get id = some (.cells T' k cs))
    (hx : x.cells.length = n) (hl : o + n ≤ cs.length) (hk : Nat.beq k 0 = false) :
    opA (.store T a b) P eqs lk H = some (.val .undef (H.set id (.cells T' k (putL cs o x.cells)))) := by
  show op_store T a b P eqs lk H = _
  unfold op_store
  rw [h1, hb, hz]; simp only [h2, hk]
  rw [show Nat.beq x.cells.length n = true from by rw [hx]; exact Nat.beq_refl n, show Nat.ble (o + n) cs.length = true from by simpa using hl]
  rfl
theorem op_indexAddr_at {t e : TypeId} {x ix : Operand} {id o n z : Nat} {k : IntKind} {i : Nat} (h1 : rho lk x = some (at' (.slice (some (id, o)) n))) (h2 : rho lk ix = some (at' (.int k i))) (h3 : isSliceD (P.underlying t) = some e) (h4 : sizeO P e = some z) (hi : i < n) :
    opA (.indexAddr t x ix) P eqs lk H = some (.val (at' (.ptr (some (id, o + i * z)))) H) := by
  show op_indexAddr t x ix P eqs lk H = _
  unfold op_indexAddr
  rw [h1, h2]; simp only [h3, intA, h4, inR_nat hi, cond_true, Int.toNat_natCast]
theorem op_append_at {c : Call} {t e : TypeId} {i : TypeInfo} {z : Value} {id n m : Nat} {cs new : List AT} {s x : Operand} {xv : AV}
    (hc : c.callee = .builtin .append) (hargs : c.args = #[s, x]) (hts : c.argTypes = #[t, t]) (h1 : rho lk s = some (at' (.slice (some (id, 0)) n))) (h2 : rho lk x = some xv) (h3 : isSliceD (P.underlying t) = some e)
    (h4 : P.info? e = some i) (h5 : i.zero = some z) (hs : Nat.beq i.size 0 = false) (hz : Nat.beq z.cells.size i.size = true) (hsrc : srcA P H i.size xv = some (m, new)) (hm : Nat.beq m 0 = false)
    (h6 : H.get id = some (.cells e 2 cs)) (hl : cs.length = n * i.size) (hb : (n + m) * i.bytes ≤ 140737488355328) (hb2 : n + m ≤ 9223372036854775807) :
    opA (.call c) P eqs lk H = some (.val (at' (.slice (some (H.n, 0)) (n + m))) ((H.set id .dead).push (.cells e 2 (cs ++ new)))) := by
  show op_call c P eqs lk H = _
  unfold op_call
  have hr : rhos lk c.args.toList = some [at' (.slice (some (id, 0)) n), xv] := by rw [hargs]; show (match rho lk s, (match rho lk x, some [] with | some a, some l => some (a :: l) | _, _ => none) with | some a, some l => some (a :: l) | _, _ => none) = _; rw [h1, h2]
  simp only [hc, hr, hts]
  have : builtinA P H .append [t, t] [at' (.slice (some (id, 0)) n), xv] = some (at' (.slice (some (H.n, 0)) (n + m)), (H.set id .dead).push (.cells e 2 (cs ++ new))) := by
    unfold builtinA appendA
    simp only [h3, Nat.beq_refl, Bool.not_true, cond_false, h4, hs, h5, hz, cond_true, hsrc, hm, h6]
    rw [show Nat.beq cs.length (n * i.size) = true from by rw [hl]; exact Nat.beq_refl _, show Nat.ble ((n + m) * i.bytes) 140737488355328 = true from by simpa using hb, show Nat.ble (n + m) 9223372036854775807 = true from by simpa using hb2]
    rfl
  rw [this]
theorem op_append_nil {c : Call} {t e : TypeId} {i : TypeInfo} {z : Value} {m k : Nat} {new : List AT} {s x : Operand} {xv : AV}
    (hc : c.callee = .builtin .append) (hargs : c.args = #[s, x]) (hts : c.argTypes = #[t, t]) (h1 : rho lk s = some (at' (.slice none k))) (h2 : rho lk x = some xv) (h3 : isSliceD (P.underlying t) = some e)
    (h4 : P.info? e = some i) (h5 : i.zero = some z) (hs : Nat.beq i.size 0 = false) (hz : Nat.beq z.cells.size i.size = true) (hsrc : srcA P H i.size xv = some (m, new)) (hm : Nat.beq m 0 = false)
    (hb : m * i.bytes ≤ 140737488355328) (hb2 : m ≤ 9223372036854775807) :
    opA (.call c) P eqs lk H = some (.val (at' (.slice (some (H.n, 0)) m)) (H.push (.cells e 2 new))) := by
  show op_call c P eqs lk H = _
  unfold op_call
  have hr : rhos lk c.args.toList = some [at' (.slice none k), xv] := by rw [hargs]; show (match rho lk s, (match rho lk x, some [] with | some a, some l => some (a :: l) | _, _ => none) with | some a, some l => some (a :: l) | _, _ => none) = _; rw [h1, h2]
  simp only [hc, hr, hts]
  have : builtinA P H .append [t, t] [at' (.slice none k), xv] = some (at' (.slice (some (H.n, 0)) m), H.push (.cells e 2 new)) := by
    unfold builtinA appendA
    simp only [h3, Nat.beq_refl, Bool.not_true, cond_false, h4, hs, h5, hz, cond_true, hsrc, hm]
    rw [show Nat.ble (m * i.bytes) 140737488355328 = true from by simpa using hb, show Nat.ble m 9223372036854775807 = true from by simpa using hb2]
    rfl
  rw [this]
theorem srcA_row {size id o n : Nat} {T : TypeId} {k : Nat} {cs : List AT} (h : H.get id = some (.cells T k cs)) (hl : o + n * size ≤ cs.length) : srcA P H size (at' (.slice (some (id, o)) n)) = some (n, (cs.drop o).take (n * size)) := by
  show (match rowA H id o (n * size) with | some cs => some (n, cs) | none => none) = _
  unfold rowA
  rw [h]; simp only []
  rw [show Nat.ble (o + n * size) cs.length = true from by simpa using hl]
  rfl
theorem index_arr {t e : TypeId} {x ix : Operand} {cs : List AT} {len n z : Nat} {k : IntKind} {y : A1} (hx : rho lk x = some (.one (.agg cs))) (hi : rho lk ix = some (at' (.int k n))) (hu : P.underlying t = some (.array len e)) (hz : sizeO P e = some z) (hn : n < len) (hp : partA P e cs (n * z) = some y) :
    opA (.index t x ix) P eqs lk H = some (.val (.one y) H) := by
  show op_index t x ix P eqs lk H = _
  unfold op_index
  rw [hx, hi]
  simp only [hu, intA, hz, inR_nat hn, cond_true, Int.toNat_natCast, hp]
end

/-! ### rows of structs -/
theorem flat_part {β : Type} {f : β → List AT} {z : Nat} (hz : ∀ x, (f x).length = z) : ∀ {xs : List β} {i : Nat} {x : β}, xs[i]? = some x → ((xs.flatMap f).drop (i * z)).take z = f x ∧ i * z + z ≤ (xs.flatMap f).length
  | [], i, x, h => by simp at h
  | a :: l, 0, x, h => by
    simp only [List.getElem?_cons_zero, Option.some.injEq] at h; subst h
    have := hz a
    simp only [List.flatMap_cons, Nat.zero_mul, List.drop_zero, List.length_append, Nat.zero_add]
    exact ⟨by rw [List.take_append_of_le_length (by omega), List.take_of_length_le (by omega)], by omega⟩
  | a :: l, i + 1, x, h => by
    simp only [List.getElem?_cons_succ] at h
    obtain ⟨h1, h2⟩ := flat_part hz h
    have ha := hz a
    simp only [List.flatMap_cons, List.length_append]
    refine ⟨?_, by rw [Nat.succ_mul]; omega⟩
    rw [Nat.succ_mul, List.drop_append, List.drop_eq_nil_of_le (by omega), List.nil_append, show i * z + z - (f a).length = i * z from by omega]
    exact h1
theorem flat_len {β : Type} {f : β → List AT} {z : Nat} (hz : ∀ x, (f x).length = z) : ∀ (xs : List β), (xs.flatMap f).length = xs.length * z
  | [] => by simp
  | a :: l => by simp only [List.flatMap_cons, List.length_append, List.length_cons, flat_len hz l, hz a, Nat.succ_mul]; omega
theorem flat_cell {β : Type} {f : β → List AT} {z : Nat} (hz : ∀ x, (f x).length = z) {xs : List β} {i j : Nat} {x : β} (h : xs[i]? = some x) (hj : j < z) : (xs.flatMap f)[i * z + j]? = (f x)[j]? := by
  obtain ⟨h1, h2⟩ := flat_part hz h
  rw [← h1, List.getElem?_take_of_lt hj, List.getElem?_drop]
theorem flat_put {β : Type} {f : β → List AT} {z : Nat} (hz : ∀ x, (f x).length = z) : ∀ {xs : List β} {i : Nat} (y : β), i < xs.length → putL (xs.flatMap f) (i * z) (f y) = (xs.set i y).flatMap f
  | [], i, y, h => by simp at h
  | a :: l, 0, y, _ => by
    have h1 := hz a; have h2 := hz y
    simp only [putL, List.flatMap_cons, Nat.zero_mul, List.take_zero, List.nil_append, Nat.zero_add, List.set_cons_zero]
    rw [List.drop_append, List.drop_eq_nil_of_le (by omega), List.nil_append, show (f y).length - (f a).length = 0 from by omega, List.drop_zero]
  | a :: l, i + 1, y, h => by
    have h1 := hz a; have h2 := hz y
    have ih := flat_put hz y (show i < l.length from by simpa using h)
    simp only [putL, List.flatMap_cons, Nat.succ_mul, List.set_cons_succ] at ih ⊢
    rw [List.take_append, List.take_of_length_le (by omega), show i * z + z - (f a).length = i * z from by omega, List.drop_append, List.drop_eq_nil_of_le (by omega), List.nil_append,
      show i * z + z + (f y).length - (f a).length = i * z + (f y).length from by omega, ← ih]
    simp only [List.append_assoc]
theorem part_agg {P : Program} {T : TypeId} {d : TypeDesc} {n o : Nat} {cs : List AT} (hu : P.underlying T = some d) (hd : isAggD d = true) (hz : sizeO P T = some n) (hl : o + n ≤ cs.length) : partA P T cs o = some (.agg ((cs.drop o).take n)) := by
  unfold partA
  rw [hu, hz]; simp only [hd, cond_true]
  rw [show Nat.ble (o + n) cs.length = true from by simpa using hl]; rfl
theorem part_at {P : Program} {T : TypeId} {d : TypeDesc} {n o : Nat} {cs : List AT} {a : AT} (hu : P.underlying T = some d) (hd : isAggD d = false) (hz : sizeO P T = some n) (hl : cs[o]? = some a) : partA P T cs o = some (.at a) := by
  unfold partA
  rw [hu, hz]; simp only [hd, cond_false, hl]
theorem part_row {P : Program} {T : TypeId} {d : TypeDesc} {β : Type} {f : β → List AT} {n i : Nat} {xs : List β} {x : β} (hf : ∀ x, (f x).length = n) (hx : xs[i]? = some x) (hu : P.underlying T = some d) (hd : isAggD d = true) (hz : sizeO P T = some n) :
    partA P T (xs.flatMap f) (i * n) = some (.agg (f x)) := by
  obtain ⟨h1, h2⟩ := flat_part hf hx
  rw [part_agg hu hd hz h2, h1]
end Go.Ea
