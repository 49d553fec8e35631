/-
  CONTRACTS of the reader of seeds: Program (printed by wip/tools/walk.py from wip/specs/keepD.py). Written in this session.
-/
import Derived.Test.YtceakkomleaibaaKc
namespace Go.Proofs.Ytceakkomleaibaa
open Go.Ea
set_option maxRecDepth 100000
set_option linter.unusedVariables false
set_option linter.unusedSimpArgs false

section
variable {P : Program} {eqs : Eqs} {lk : Env} {H : Heap} {K : AV → Heap → Prop}
theorem oB22 {T e : TypeId} {x0 x1 : Operand} {a1 a2 b1 b2 : AT} {z : List AT} (hx0 : rho lk x0 = some (.one (.agg [a1, a2]))) (hx1 : rho lk x1 = some (.one (.agg [b1, b2]))) (hu : isSliceD (P.underlying T) = some e) (hz : sizeO P e = some 2) (h0 : zeroOf P e = some (.agg z)) (hzl : z.length = 2)
    (hk : K (at' (.slice (some (H.n, 0)) 2)) (H.push (.cells e 2 [a1, a2, b1, b2]))) : opP P eqs (.buildSlice T 2 #[(0, x0), (1, x1)]) lk H K :=
  oV (v := at' (.slice (some (H.n, 0)) 2)) (H' := H.push (.cells e 2 [a1, a2, b1, b2])) (by
    match z, hzl with
    | [z0, z1], _ =>
      show op_buildSlice T 2 #[(0, x0), (1, x1)] P eqs lk H = _
      unfold op_buildSlice
      have hp : partsOf lk #[(0, x0), (1, x1)].toList = some [(0, .one (.agg [a1, a2])), (1, .one (.agg [b1, b2]))] := by
        show (match rho lk x0, (match rho lk x1, some [] with | some a, some l => some ((1, a) :: l) | _, _ => none) with | some a, some l => some ((0, a) :: l) | _, _ => none) = _
        rw [hx0, hx1]
      rw [hu, hp]
      simp only [hz, h0]
      rfl) hk
theorem oB29 {T e : TypeId} {x0 x1 : Operand} {a1 a2 a3 a4 a5 a6 a7 a8 a9 b1 b2 b3 b4 b5 b6 b7 b8 b9 : AT} {z : List AT} (hx0 : rho lk x0 = some (.one (.agg [a1, a2, a3, a4, a5, a6, a7, a8, a9]))) (hx1 : rho lk x1 = some (.one (.agg [b1, b2, b3, b4, b5, b6, b7, b8, b9]))) (hu : isSliceD (P.underlying T) = some e) (hz : sizeO P e = some 9) (h0 : zeroOf P e = some (.agg z)) (hzl : z.length = 9)
    (hk : K (at' (.slice (some (H.n, 0)) 2)) (H.push (.cells e 2 [a1, a2, a3, a4, a5, a6, a7, a8, a9, b1, b2, b3, b4, b5, b6, b7, b8, b9]))) : opP P eqs (.buildSlice T 2 #[(0, x0), (1, x1)]) lk H K :=
  oV (v := at' (.slice (some (H.n, 0)) 2)) (H' := H.push (.cells e 2 [a1, a2, a3, a4, a5, a6, a7, a8, a9, b1, b2, b3, b4, b5, b6, b7, b8, b9])) (by
    match z, hzl with
    | [z0, z1, z2, z3, z4, z5, z6, z7, z8], _ =>
      show op_buildSlice T 2 #[(0, x0), (1, x1)] P eqs lk H = _
      unfold op_buildSlice
      have hp : partsOf lk #[(0, x0), (1, x1)].toList = some [(0, .one (.agg [a1, a2, a3, a4, a5, a6, a7, a8, a9])), (1, .one (.agg [b1, b2, b3, b4, b5, b6, b7, b8, b9]))] := by
        show (match rho lk x0, (match rho lk x1, some [] with | some a, some l => some ((1, a) :: l) | _, _ => none) with | some a, some l => some ((0, a) :: l) | _, _ => none) = _
        rw [hx0, hx1]
      rw [hu, hp]
      simp only [hz, h0]
      rfl) hk
theorem srcA_S {β : Type} {f : β → List AT} {z : Nat} {xs : List β} {q : Nat × Nat} (h : RowR H f z xs (some q)) (hf : ∀ x, (f x).length = z) {m : Nat} (hm : m ≤ xs.length) : srcA P H z (at' (.slice (some q) m)) = some (m, (xs.take m).flatMap f) := by
  have e := srcA_R (P := P) h hf hm
  simpa using e
end
theorem Kp.frcut {own ds : List Nat} {n : Nat} {H H' : Heap} (hk : Kp own H H') (ho : ∀ d ∈ own, d < n) (hd : ∀ d ∈ ds, d < n) : Kp [] (H.fr n) (H'.cuts ds) :=
  Kp.cuts (hk.weaken fun d h => List.mem_range.2 (ho d h)) fun d h => .inl (List.mem_range.2 (hd d h))
def fnD (nm : List UInt8) (ps ls b : AT) (cv : List AT) : List AT := [.str nm, ps, ls, b] ++ cv
def fnP (nm : List UInt8) (ps ls : List (List UInt8)) (b : List Stm) (v : Exp) : Fn1 := ⟨nm, ps, ls, b, v⟩
/-- The functions that are read. -/
def fnF (b : List Stm) (v : Exp) : Fn1 := ⟨[102], [[120], [121]], [[105], [106]], b, v⟩
def fnG (b : List Stm) (v : Exp) : Fn1 := ⟨[103], [[110]], [[105]], b, v⟩
/-- A function's cells, its rows such that append takes them. -/
def LFnE (H : Heap) (f : Fn1) (cs : List AT) : Prop := ∃ pp pl pb cv, cs = [.str f.name, .slice pp f.params.length, .slice pl f.locals.length, .slice pb f.body.length] ++ cv ∧ RowE 9 H 1 LT1 f.params pp ∧ RowE 9 H 1 LT1 f.locals pl ∧ RowE 46 H 17 (LM H) f.body pb ∧ LX H f.value cv
theorem LFnE.l {H : Heap} {f : Fn1} {cs : List AT} (h : LFnE H f cs) : LFn H f cs := by
  obtain ⟨pp, pl, pb, cv, h1, h2, h3, h4, h5⟩ := h
  exact ⟨pp, pl, pb, cv, h1, h2.q, h3.q, h4.q, h5⟩
theorem rowE1 {s : List UInt8} {H : Heap} {id : Nat} (hg : H.get id = some (.cells 9 2 [.str s])) : RowE 9 H 1 LT1 [s] (some (id, 0)) := .inr ⟨id, _, rfl, hg, rfl, rfl, rfl⟩
theorem rowE2 {s t : List UInt8} {H : Heap} {id : Nat} (hg : H.get id = some (.cells 9 2 [.str s, .str t])) : RowE 9 H 1 LT1 [s, t] (some (id, 0)) := .inr ⟨id, _, rfl, hg, rfl, rfl, rfl, rfl⟩
structure Read (b1 b2 : List Stm) (v1 v2 : Exp) (la lb : Nat) : Prop where
  hb1 : ∀ s ∈ b1, GS (nmL 0) 3 s
  hv1 : GX (nmL 0) 3 v1
  hb2 : ∀ s ∈ b2, GS (nmL 1) 2 s
  hv2 : GX (nmL 1) 3 v2
  hn : nStl b1 + nStl b2 ≤ 60
  hlp : nLpl b1 + nLpl b2 ≤ 10
  hl1 : b1.length ≤ 5
  hl2 : b2.length ≤ 3
  hla : 1 ≤ la ∧ la ≤ 4
  hlb : 1 ≤ lb ∧ lb ≤ 4
def ridq : Option (Nat × Nat) → List Nat
  | some (id, _) => [id]
  | none => []
theorem rid_slice (q : Option (Nat × Nat)) (n : Nat) : rid (.slice q n) = ridq q := by rcases q with _ | ⟨i, o⟩ <;> rfl
theorem RowE.rid_fr {β : Type} {T : TypeId} {H : Heap} {n z : Nat} {R : β → List AT → Prop} {xs : List β} {p : Option (Nat × Nat)} (h : RowE T (H.fr n) z R xs p) : ∀ d ∈ ridq p, n ≤ d ∧ d < H.n := by
  rcases h with ⟨rfl, _⟩ | ⟨id, cs, rfl, h1, _⟩
  · intro d hd; cases hd
  · intro d hd
    simp only [ridq, List.mem_cons, List.not_mem_nil, or_false] at hd
    subst hd
    obtain ⟨h2, h3⟩ := Heap.cuts_live h1 rfl
    have := Heap.get_lt h3
    simp only [List.mem_range] at h2
    exact ⟨by omega, this⟩
/-- The objects that a program's parts may be written to, or die. -/
def objs (ida idf : Nat) (p1 l1 q1 p2 l2 q2 : Option (Nat × Nat)) : List Nat := [ida, idf] ++ (ridq p1 ++ (ridq l1 ++ (ridq q1 ++ (ridq p2 ++ (ridq l2 ++ ridq q2)))))
/-- How a program that was read lies in the heap. -/
structure Laid (G : Heap) (ida idf : Nat) (b1 b2 : List Stm) (v1 v2 : Exp) (la lb : Nat) (p1 l1 q1 p2 l2 q2 : Option (Nat × Nat)) (c1 c2 : List AT) : Prop where
  a : G.get ida = some (.cells 44 2 [.str [97], .int .i64 la, .str [98], .int .i64 lb])
  f : G.get idf = some (.cells 28 2 (fnD [102] (.slice p1 2) (.slice l1 2) (.slice q1 b1.length) c1 ++ fnD [103] (.slice p2 1) (.slice l2 1) (.slice q2 b2.length) c2))
  nd : (objs ida idf p1 l1 q1 p2 l2 q2).Nodup
  hp1 : RowE 9 G 1 LT1 [[120], [121]] p1
  hl1 : RowE 9 G 1 LT1 [[105], [106]] l1
  hq1 : RowE 46 G 17 (LM (G.cuts (objs ida idf p1 l1 q1 p2 l2 q2))) b1 q1
  hc1 : LX (G.cuts (objs ida idf p1 l1 q1 p2 l2 q2)) v1 c1
  hp2 : RowE 9 G 1 LT1 [[110]] p2
  hl2 : RowE 9 G 1 LT1 [[105]] l2
  hq2 : RowE 46 G 17 (LM (G.cuts (objs ida idf p1 l1 q1 p2 l2 q2))) b2 q2
  hc2 : LX (G.cuts (objs ida idf p1 l1 q1 p2 l2 q2)) v2 c2
theorem objs_mem {a d : Nat} {q3 q5 : Option (Nat × Nat)} (h : d ∈ objs (a + 0) (a + 6) (some (a + 2, 0)) (some (a + 3, 0)) q3 (some (a + 4, 0)) (some (a + 5, 0)) q5) : d < a + 7 ∨ d ∈ ridq q3 ∨ d ∈ ridq q5 := by
  simp only [objs, ridq, List.mem_append, List.mem_cons, List.not_mem_nil, or_false] at h
  rcases h with (h | h) | h | h | h | h | h | h
  · left; omega
  · left; omega
  · left; omega
  · left; omega
  · exact .inr (.inl h)
  · left; omega
  · left; omega
  · exact .inr (.inr h)
theorem objs_nodup {a m : Nat} {q3 q5 : Option (Nat × Nat)} (h3 : ∀ d ∈ ridq q3, a + 7 ≤ d ∧ d < m) (h5 : ∀ d ∈ ridq q5, m ≤ d) (ham : a + 7 ≤ m) : (objs (a + 0) (a + 6) (some (a + 2, 0)) (some (a + 3, 0)) q3 (some (a + 4, 0)) (some (a + 5, 0)) q5).Nodup := by
  rcases q3 with _ | ⟨i3, o3⟩ <;> rcases q5 with _ | ⟨i5, o5⟩
  · simp [objs, ridq]
  · have := h5 i5 (by simp [ridq])
    simp [objs, ridq]; omega
  · have := h3 i3 (by simp [ridq])
    simp [objs, ridq]; omega
  · have := h3 i3 (by simp [ridq]); have := h5 i5 (by simp [ridq])
    simp [objs, ridq]; omega
theorem Kp.areas {own ds ds' : List Nat} {n : Nat} {H H' : Heap} (hk : Kp own H H') (ho : ∀ d ∈ own, d < n) (hn : ∀ d, d < n → d ∈ ds) (hd : ∀ d ∈ ds', d ∈ ds ∨ H.n ≤ d) : Kp [] (H.cuts ds) (H'.cuts ds') :=
  Kp.cuts (hk.weaken fun d h => hn d (ho d h)) hd

set_option maxHeartbeats 2000000 in
theorem Program_ok (l : List Int) (r0 : Nat × Nat) (H : Heap) (hl : RowR H (fun x => [AT.int .i64 x]) 1 l (some r0)) : Sim Try.prog 9 [at' (.slice (some r0) l.length)] H (fun u G => ∃ ida idf b1 b2 v1 v2 la lb p1 l1 q1 p2 l2 q2 c1 c2, u = .one (.agg [.slice (some (ida, 0)) 2, .slice (some (idf, 0)) 2]) ∧ Laid G ida idf b1 b2 v1 v2 la lb p1 l1 q1 p2 l2 q2 c1 c2 ∧ Read b1 b2 v1 v2 la lb ∧ H.n ≤ ida ∧ H.n ≤ idf ∧ Kp [] H G) := by
 have hml : min l.length 60 ≤ l.length := Nat.min_le_left _ _
 have hm60 : min l.length 60 ≤ 60 := Nat.min_le_right _ _
 refine Sim.of_tri Try.func9 rfl ?_
 show TrP 61 _ _ _ _
 refine Tri.seq ?_
 refine tR ?_
 refine sO rfl rfl (oAlloc (cs := [.slice none 0, .slice none 0]) rfl rfl ?_)
 show TrP 61 _ _ _ _
 refine tH [(0, _), (2, _)] ?_
 refine Tri.seq ?_
 refine tR ?_
 refine sO rfl rfl (oV (v := at' (.slice (some (_, 0)) 0)) (H' := Heap.push _ (.cells 3 2 [])) rfl ?_)
 iterate 3 refine sV rfl rfl rfl ?_
 refine sO rfl rfl (oI ((min l.length 60 : Nat) : Int) rfl (by show (if (60 : Int) < (l.length : Int) then (60 : Int) else (l.length : Int)) = _; split <;> omega) ?_)
 refine sO rfl rfl (oSlcHi (m := min l.length 60) rfl rfl rfl rfl rfl (by omega) ?_)
 refine sO rfl rfl (oAppS (lo := H.n + 1) (n := 0) (m := min l.length 60) (cs := []) (new := (l.take (min l.length 60)).flatMap fun x => [AT.int .i64 x]) rfl rfl rfl rfl (.inr ⟨H.n + 1, Nat.le_refl _, rfl, Heap.push_new⟩) rfl rfl rfl rfl rfl rfl (srcA_S (hl.kp kZ) (fun _ => rfl) hml) (by rw [flat_len (z := 1) (fun _ => rfl), List.length_take, Nat.min_eq_left hml]; rfl) rfl (by (show (0 + min l.length 60) * 8 ≤ _); omega) (by omega) lE (fun a2 H2 hr2 hk2 _ => ?_))
 have hrid0 := hr2.rid
 have hLl0 : 0 + min l.length 60 = (l.take (min l.length 60)).length := by rw [List.length_take]; omega
 obtain ⟨q2, ha2, hrow2⟩ := RowA.r (xs := l.take (min l.length 60)) (f := fun x => [AT.int .i64 x]) (z := 1) (hLl0 ▸ hr2) (fun _ => rfl)
 have hrid : ∀ p, q2 = some p → p.1 < H2.n := fun p hp => by
   subst hp
   rw [ha2] at hrid0
   exact (hrid0 p.1 (by simp [rid])).2
 have hkn2 := hk2.n
 (try simp only [Heap.n_push, Heap.n_set] at hkn2)
 have K2 : Kp [] H H2 := Kp.trans (show Kp [] H _ from kP) hk2 (by simp [rid])
 have c0 : H2.get H.n = some (.cells 32 1 [.slice none 0, .slice none 0]) := hk2.g _ _ gG rfl (by simp [rid])
 subst ha2
 refine sO rfl rfl (oW (.one (.agg [_, .int .i64 0])) rfl rfl ?_)
 refine sO rfl rfl (oBox (cs := [_, _]) rfl rfl ?_)
 refine sV rfl rfl rfl ?_
 show TrP 61 _ _ _ _
 refine tH [(0, _), (2, _), (3, _)] ?_
 refine Tri.seq ?_
 refine tR ?_
 refine sV rfl rfl rfl ?_
 refine sO rfl rfl (oC rfl (fnOk_of Try.func18 (by decide) rfl) (Next_ok H2.n _ 0 _ ⟨q2, Heap.push_new, hrow2.kp (Kp.push Kp.refl), fun p hp => hrid p hp⟩) ?_)
 rintro u G1 ⟨rfl, hR1, hk1, hn1⟩
 have hLl : (l.take (min l.length 60)).length ≤ 60 := by rw [List.length_take]; omega
 have hLt : (l.take (min l.length 60)).tail.length ≤ (l.take (min l.length 60)).length := by rw [List.length_tail]; omega
 have c1 : G1.get H.n = some (.cells 32 1 [.slice none 0, .slice none 0]) := hk1.g _ _ gG rfl (by simp; omega)
 have K1 : Kp [] H G1 := Kp.trans (show Kp [] H _ from kP) hk1 (by simp; omega)
 (try simp only [Heap.n_push, Heap.n_set] at hn1)
 have hla := pk_lt ((l.take (min l.length 60)).headD 0) 4 (by omega)
 have hlb := pk_lt (IntKind.i64.wrap (((l.take (min l.length 60)).headD 0).tdiv 4)) 4 (by omega)
 refine sV rfl rfl rfl ?_
 show TrP 61 _ _ _ _
 refine tH [(0, _), (2, _), (3, _), (4, _)] ?_
 refine Tri.seq ?_
 refine tR ?_
 refine sV rfl rfl rfl ?_
 refine sO rfl rfl (oF rfl (fnOk_of Try.func12 (by decide) rfl) (Pick_ok _ 4 _ (by omega) (by omega)) ?_)
 refine sO rfl rfl (oAdd (n := 1) rfl (by omega) ?_)
 refine sO rfl rfl (oW (.one (.agg [_, _])) rfl rfl ?_)
 refine sV rfl rfl rfl ?_
 refine sO rfl rfl (oQuo rfl rfl (by omega) ?_)
 refine sO rfl rfl (oF rfl (fnOk_of Try.func12 (by decide) rfl) (Pick_ok _ 4 _ (by omega) (by omega)) ?_)
 refine sO rfl rfl (oAdd (n := 1) rfl (by omega) ?_)
 refine sO rfl rfl (oW (.one (.agg [_, _])) rfl rfl ?_)
 refine sO rfl rfl (oB22 rfl rfl rfl rfl rfl rfl ?_)
 refine sO rfl rfl (oW (.one (.agg [_, .slice none 0])) rfl rfl ?_)
 refine sO rfl rfl (oAlloc (cs := [.slice none 0, .slice none 0]) rfl rfl ?_)
 refine sO rfl rfl (oStore (n := 2) (cs' := [_, _]) rfl rfl rfl gG rfl (Nat.le_of_ble_eq_true rfl) rfl rfl ?_)
 show TrP 61 _ _ _ _
 refine tH [(0, _), (2, _), (3, _), (4, _), (5, _)] ?_
 refine Tri.seq ?_
 refine tR ?_
 refine sO rfl rfl (oV (v := at' (.slice (some (_, 0)) 2)) (H' := Heap.push _ (.cells 9 2 [.str [120], .str [121]])) rfl ?_)
 refine sO rfl rfl (oV (v := at' (.slice (some (_, 0)) 2)) (H' := Heap.push _ (.cells 9 2 [.str [105], .str [106]])) rfl ?_)
 refine sO rfl rfl (oW (.one (.agg [_, _, _, .slice none 0, .int .i64 0, .int .i64 0, .str [], .int .i64 0, .slice none 0])) rfl rfl ?_)
 refine sO rfl rfl (oV (v := at' (.slice (some (_, 0)) 1)) (H' := Heap.push _ (.cells 9 2 [.str [110]])) rfl ?_)
 refine sO rfl rfl (oV (v := at' (.slice (some (_, 0)) 1)) (H' := Heap.push _ (.cells 9 2 [.str [105]])) rfl ?_)
 refine sO rfl rfl (oW (.one (.agg [_, _, _, .slice none 0, .int .i64 0, .int .i64 0, .str [], .int .i64 0, .slice none 0])) rfl rfl ?_)
 refine sO rfl rfl (oB29 rfl rfl rfl rfl rfl rfl ?_)
 refine sO rfl rfl (oW (at' (.ptr (some (_, 1)))) rfl rfl ?_)
 refine sO rfl rfl (oStore (n := 1) (cs' := [_, _]) rfl rfl rfl gG rfl (Nat.le_of_ble_eq_true rfl) rfl rfl ?_)
 show TrP 61 _ _ _ _
 refine tH [(0, _), (2, _), (3, _), (4, _), (5, _)] ?_
 refine Tri.seq ?_
 refine Tri.drawn1 mixed eqsOk (eqs := eqs) ⟨[0, 1, 0, 4, 15, 31, 63], [0, 0, 0, 0, 0, 0, 0], 1, [0, 1, 2, 3, 4, 5, 6]⟩ (by decide +kernel) rfl ?_
 refine dL rfl rfl rfl rfl (oW (at' (.ptr (some (_, 1)))) rfl rfl ?_)
 refine dR0 rfl rfl rfl rfl (op_load_at (x := .at _) rfl gG rfl) ?_
 refine dL rfl rfl rfl rfl (oV rfl ?_)
 refine dC0 (.keep rfl .nil) rfl rfl rfl rfl (oC rfl (fnOk_of Try.func19 (by decide) rfl) (stms_all 0 3 0 H2.n _ 0 5 _ rfl (by omega) (by omega) (hR1.kp (own := []) kZ (by simp))) ?_)
 rintro u G3 ⟨xs3, q3, l3, lp3, rfl, hX3, hG3, hR3, hl3, hlp3, hlb3, hxl3, hk3⟩
 have c3 : G3.get H.n = some (.cells 32 1 [.slice none 0, .slice none 0]) := hk3.g _ _ gG rfl (by simp; omega)
 have cp3 : G3.get (G1.n + 1) = some (.cells 32 1 [.slice (some (G1.n + 0, 0)) 2, .slice (some (G1.n + 6, 0)) 2]) := hk3.g _ _ gG rfl (by simp; omega)
 have ca3 : G3.get (G1.n + 0) = some (.cells 44 2 [.str [97], .int .i64 ((1 + pk ((l.take (min l.length 60)).headD 0) 4 : Nat) : Int), .str [98], .int .i64 ((1 + pk (IntKind.i64.wrap (((l.take (min l.length 60)).headD 0).tdiv 4)) 4 : Nat) : Int)]) := hk3.g _ _ gG rfl (by simp; omega)
 have cf3 : G3.get (G1.n + 6) = some (.cells 28 2 (fnD [102] (.slice (some (G1.n + 2, 0)) 2) (.slice (some (G1.n + 3, 0)) 2) (.slice none 0) zeX ++ fnD [103] (.slice (some (G1.n + 4, 0)) 1) (.slice (some (G1.n + 5, 0)) 1) (.slice none 0) zeX)) := hk3.g _ _ gG rfl (by simp; omega)
 have cn23 : G3.get (G1.n + 2) = some (.cells 9 2 [.str [120], .str [121]]) := hk3.g _ _ gG rfl (by simp; omega)
 have cn33 : G3.get (G1.n + 3) = some (.cells 9 2 [.str [105], .str [106]]) := hk3.g _ _ gG rfl (by simp; omega)
 have cn43 : G3.get (G1.n + 4) = some (.cells 9 2 [.str [110]]) := hk3.g _ _ gG rfl (by simp; omega)
 have cn53 : G3.get (G1.n + 5) = some (.cells 9 2 [.str [105]]) := hk3.g _ _ gG rfl (by simp; omega)
 have K3 : Kp [] H G3 := Kp.trans (show Kp [] H _ from kP) hk3 (by simp; omega)
 have hn3 := hk3.n
 (try simp only [Heap.n_push, Heap.n_set] at hn3)
 refine ⟨⟨.inr (⟨_, rfl, op_load_at (x := .at (.slice (some (G1.n + 6, 0)) 2)) rfl cp3 rfl⟩), trivial⟩, ?_⟩
 refine dL rfl rfl rfl rfl (oIA (z := 9) (i := 0) rfl rfl rfl rfl (by omega) ?_)
 refine dL rfl rfl rfl rfl (oW (at' (.ptr (some (_, _ + 3)))) rfl rfl ?_)
 refine dC0 (.drop rfl .nil) rfl rfl rfl rfl (oStore (n := 1) (cs' := fnD [102] (.slice (some (G1.n + 2, 0)) 2) (.slice (some (G1.n + 3, 0)) 2) (.slice q3 xs3.length) zeX ++ fnD [103] (.slice (some (G1.n + 4, 0)) 1) (.slice (some (G1.n + 5, 0)) 1) (.slice none 0) zeX) rfl rfl rfl gG rfl (Nat.le_of_ble_eq_true rfl) rfl rfl ?_)
 refine ⟨⟨.inl rfl, trivial⟩, ?_⟩
 refine dE0 ?_
 show TrP 61 _ _ _ _
 refine tH [(0, _), (2, _), (3, _), (4, _), (5, _)] ?_
 refine Tri.seq ?_
 refine Tri.drawn1 mixed eqsOk (eqs := eqs) ⟨[0, 1, 0, 4, 15, 31, 63], [0, 0, 0, 0, 0, 0, 0], 1, [0, 1, 2, 3, 4, 5, 6]⟩ (by decide +kernel) rfl ?_
 refine dL rfl rfl rfl rfl (oW (at' (.ptr (some (_, 1)))) rfl rfl ?_)
 refine dR0 rfl rfl rfl rfl (op_load_at (x := .at _) rfl gG rfl) ?_
 refine dL rfl rfl rfl rfl (oV rfl ?_)
 refine dC0 (.keep rfl .nil) rfl rfl rfl rfl (oC rfl (fnOk_of Try.func20 (by decide) rfl) (Expr_ok 0 3 1 rfl H2.n _ _ _ (hR3.kp (own := [G1.n + 6]) (show Kp [G1.n + 6] G3 _ from Kp.push (Kp.set Kp.refl lL (.inl (by simp)))) (by intro d hd; simp only [List.mem_cons, List.not_mem_nil, or_false] at hd; (try simp only [Heap.n_push, Heap.n_set]); omega))) ?_)
 rintro u G4 ⟨e4, cs4, l4, rfl, hX4, hG4, hR4, hl4, hk4⟩
 obtain ⟨p4, rfl, _⟩ := hX4.out
 have c4 : G4.get H.n = some (.cells 32 1 [.slice none 0, .slice none 0]) := hk4.g _ _ gG rfl (by simp; omega)
 have cp4 : G4.get (G1.n + 1) = some (.cells 32 1 [.slice (some (G1.n + 0, 0)) 2, .slice (some (G1.n + 6, 0)) 2]) := hk4.g _ _ gG rfl (by simp; omega)
 have ca4 : G4.get (G1.n + 0) = some (.cells 44 2 [.str [97], .int .i64 ((1 + pk ((l.take (min l.length 60)).headD 0) 4 : Nat) : Int), .str [98], .int .i64 ((1 + pk (IntKind.i64.wrap (((l.take (min l.length 60)).headD 0).tdiv 4)) 4 : Nat) : Int)]) := hk4.g _ _ gG rfl (by simp; omega)
 have cf4 : G4.get (G1.n + 6) = some (.cells 28 2 (fnD [102] (.slice (some (G1.n + 2, 0)) 2) (.slice (some (G1.n + 3, 0)) 2) (.slice q3 xs3.length) zeX ++ fnD [103] (.slice (some (G1.n + 4, 0)) 1) (.slice (some (G1.n + 5, 0)) 1) (.slice none 0) zeX)) := hk4.g _ _ gG rfl (by simp; omega)
 have cn24 : G4.get (G1.n + 2) = some (.cells 9 2 [.str [120], .str [121]]) := hk4.g _ _ gG rfl (by simp; omega)
 have cn34 : G4.get (G1.n + 3) = some (.cells 9 2 [.str [105], .str [106]]) := hk4.g _ _ gG rfl (by simp; omega)
 have cn44 : G4.get (G1.n + 4) = some (.cells 9 2 [.str [110]]) := hk4.g _ _ gG rfl (by simp; omega)
 have cn54 : G4.get (G1.n + 5) = some (.cells 9 2 [.str [105]]) := hk4.g _ _ gG rfl (by simp; omega)
 have K4 : Kp [] H G4 := Kp.trans (show Kp [] H _ from kP) hk4 (by simp; omega)
 have hn4 := hk4.n
 (try simp only [Heap.n_push, Heap.n_set] at hn4)
 have A34 : Kp [H2.n, G1.n + 6, H.n] G3 G4 := Kp.tr (Kp.push (Kp.set Kp.refl lL (.inl (by simp)))) hk4 (by simp)
 refine ⟨⟨.inr (⟨_, rfl, op_load_at (x := .at (.slice (some (G1.n + 6, 0)) 2)) rfl cp4 rfl⟩), trivial⟩, ?_⟩
 refine dL rfl rfl rfl rfl (oIA (z := 9) (i := 0) rfl rfl rfl rfl (by omega) ?_)
 refine dL rfl rfl rfl rfl (oW (at' (.ptr (some (_, _ + 4)))) rfl rfl ?_)
 refine dC0 (.drop rfl .nil) rfl rfl rfl rfl (oStore (n := 5) (cs' := fnD [102] (.slice (some (G1.n + 2, 0)) 2) (.slice (some (G1.n + 3, 0)) 2) (.slice q3 xs3.length) [.int .i64 e4.kind, .int .i64 e4.n, .str e4.name, .int .i64 e4.op, .slice p4 e4.kids.length] ++ fnD [103] (.slice (some (G1.n + 4, 0)) 1) (.slice (some (G1.n + 5, 0)) 1) (.slice none 0) zeX) rfl rfl rfl gG rfl (Nat.le_of_ble_eq_true rfl) rfl rfl ?_)
 refine ⟨⟨.inl rfl, trivial⟩, ?_⟩
 refine dE0 ?_
 show TrP 61 _ _ _ _
 refine tH [(0, _), (2, _), (3, _), (4, _), (5, _)] ?_
 refine Tri.seq ?_
 refine Tri.drawn1 mixed eqsOk (eqs := eqs) ⟨[0, 1, 0, 4, 15, 31, 63], [0, 0, 0, 0, 0, 0, 0], 1, [0, 1, 2, 3, 4, 5, 6]⟩ (by decide +kernel) rfl ?_
 refine dL rfl rfl rfl rfl (oW (at' (.ptr (some (_, 1)))) rfl rfl ?_)
 refine dR0 rfl rfl rfl rfl (op_load_at (x := .at _) rfl gG rfl) ?_
 refine dL rfl rfl rfl rfl (oV rfl ?_)
 refine dC0 (.keep rfl .nil) rfl rfl rfl rfl (oC rfl (fnOk_of Try.func19 (by decide) rfl) (stms_all 1 2 1 H2.n _ _ 3 _ rfl hlb3 (by omega) (hR4.kp (own := [G1.n + 6]) (show Kp [G1.n + 6] G4 _ from Kp.push (Kp.set Kp.refl lL (.inl (by simp)))) (by intro d hd; simp only [List.mem_cons, List.not_mem_nil, or_false] at hd; (try simp only [Heap.n_push, Heap.n_set]); omega))) ?_)
 rintro u G5 ⟨xs5, q5, l5, lp5, rfl, hX5, hG5, hR5, hl5, hlp5, hlb5, hxl5, hk5⟩
 have c5 : G5.get H.n = some (.cells 32 1 [.slice none 0, .slice none 0]) := hk5.g _ _ gG rfl (by simp; omega)
 have cp5 : G5.get (G1.n + 1) = some (.cells 32 1 [.slice (some (G1.n + 0, 0)) 2, .slice (some (G1.n + 6, 0)) 2]) := hk5.g _ _ gG rfl (by simp; omega)
 have ca5 : G5.get (G1.n + 0) = some (.cells 44 2 [.str [97], .int .i64 ((1 + pk ((l.take (min l.length 60)).headD 0) 4 : Nat) : Int), .str [98], .int .i64 ((1 + pk (IntKind.i64.wrap (((l.take (min l.length 60)).headD 0).tdiv 4)) 4 : Nat) : Int)]) := hk5.g _ _ gG rfl (by simp; omega)
 have cf5 : G5.get (G1.n + 6) = some (.cells 28 2 (fnD [102] (.slice (some (G1.n + 2, 0)) 2) (.slice (some (G1.n + 3, 0)) 2) (.slice q3 xs3.length) [.int .i64 e4.kind, .int .i64 e4.n, .str e4.name, .int .i64 e4.op, .slice p4 e4.kids.length] ++ fnD [103] (.slice (some (G1.n + 4, 0)) 1) (.slice (some (G1.n + 5, 0)) 1) (.slice none 0) zeX)) := hk5.g _ _ gG rfl (by simp; omega)
 have cn25 : G5.get (G1.n + 2) = some (.cells 9 2 [.str [120], .str [121]]) := hk5.g _ _ gG rfl (by simp; omega)
 have cn35 : G5.get (G1.n + 3) = some (.cells 9 2 [.str [105], .str [106]]) := hk5.g _ _ gG rfl (by simp; omega)
 have cn45 : G5.get (G1.n + 4) = some (.cells 9 2 [.str [110]]) := hk5.g _ _ gG rfl (by simp; omega)
 have cn55 : G5.get (G1.n + 5) = some (.cells 9 2 [.str [105]]) := hk5.g _ _ gG rfl (by simp; omega)
 have K5 : Kp [] H G5 := Kp.trans (show Kp [] H _ from kP) hk5 (by simp; omega)
 have hn5 := hk5.n
 (try simp only [Heap.n_push, Heap.n_set] at hn5)
 have A35 : Kp [H2.n, G1.n + 6, H.n] G3 G5 := Kp.tr (Kp.push (Kp.set A34 lL (.inl (by simp)))) hk5 (by simp)
 have A45 : Kp [H2.n, G1.n + 6, H.n] G4 G5 := Kp.tr (Kp.push (Kp.set Kp.refl lL (.inl (by simp)))) hk5 (by simp)
 refine ⟨⟨.inr (⟨_, rfl, op_load_at (x := .at (.slice (some (G1.n + 6, 0)) 2)) rfl cp5 rfl⟩), trivial⟩, ?_⟩
 refine dL rfl rfl rfl rfl (oIA (z := 9) (i := 1) rfl rfl rfl rfl (by omega) ?_)
 refine dL rfl rfl rfl rfl (oW (at' (.ptr (some (_, _ + 3)))) rfl rfl ?_)
 refine dC0 (.drop rfl .nil) rfl rfl rfl rfl (oStore (n := 1) (cs' := fnD [102] (.slice (some (G1.n + 2, 0)) 2) (.slice (some (G1.n + 3, 0)) 2) (.slice q3 xs3.length) [.int .i64 e4.kind, .int .i64 e4.n, .str e4.name, .int .i64 e4.op, .slice p4 e4.kids.length] ++ fnD [103] (.slice (some (G1.n + 4, 0)) 1) (.slice (some (G1.n + 5, 0)) 1) (.slice q5 xs5.length) zeX) rfl rfl rfl gG rfl (Nat.le_of_ble_eq_true rfl) rfl rfl ?_)
 refine ⟨⟨.inl rfl, trivial⟩, ?_⟩
 refine dE0 ?_
 show TrP 61 _ _ _ _
 refine tH [(0, _), (2, _), (3, _), (4, _), (5, _)] ?_
 refine Tri.seq ?_
 refine Tri.drawn1 mixed eqsOk (eqs := eqs) ⟨[0, 1, 0, 4, 15, 31, 63], [0, 0, 0, 0, 0, 0, 0], 1, [0, 1, 2, 3, 4, 5, 6]⟩ (by decide +kernel) rfl ?_
 refine dL rfl rfl rfl rfl (oW (at' (.ptr (some (_, 1)))) rfl rfl ?_)
 refine dR0 rfl rfl rfl rfl (op_load_at (x := .at _) rfl gG rfl) ?_
 refine dL rfl rfl rfl rfl (oV rfl ?_)
 refine dC0 (.keep rfl .nil) rfl rfl rfl rfl (oC rfl (fnOk_of Try.func20 (by decide) rfl) (Expr_ok 1 3 1 rfl H2.n _ _ _ (hR5.kp (own := [G1.n + 6]) (show Kp [G1.n + 6] G5 _ from Kp.push (Kp.set Kp.refl lL (.inl (by simp)))) (by intro d hd; simp only [List.mem_cons, List.not_mem_nil, or_false] at hd; (try simp only [Heap.n_push, Heap.n_set]); omega))) ?_)
 rintro u G6 ⟨e6, cs6, l6, rfl, hX6, hG6, hR6, hl6, hk6⟩
 obtain ⟨p6, rfl, _⟩ := hX6.out
 have c6 : G6.get H.n = some (.cells 32 1 [.slice none 0, .slice none 0]) := hk6.g _ _ gG rfl (by simp; omega)
 have cp6 : G6.get (G1.n + 1) = some (.cells 32 1 [.slice (some (G1.n + 0, 0)) 2, .slice (some (G1.n + 6, 0)) 2]) := hk6.g _ _ gG rfl (by simp; omega)
 have ca6 : G6.get (G1.n + 0) = some (.cells 44 2 [.str [97], .int .i64 ((1 + pk ((l.take (min l.length 60)).headD 0) 4 : Nat) : Int), .str [98], .int .i64 ((1 + pk (IntKind.i64.wrap (((l.take (min l.length 60)).headD 0).tdiv 4)) 4 : Nat) : Int)]) := hk6.g _ _ gG rfl (by simp; omega)
 have cf6 : G6.get (G1.n + 6) = some (.cells 28 2 (fnD [102] (.slice (some (G1.n + 2, 0)) 2) (.slice (some (G1.n + 3, 0)) 2) (.slice q3 xs3.length) [.int .i64 e4.kind, .int .i64 e4.n, .str e4.name, .int .i64 e4.op, .slice p4 e4.kids.length] ++ fnD [103] (.slice (some (G1.n + 4, 0)) 1) (.slice (some (G1.n + 5, 0)) 1) (.slice q5 xs5.length) zeX)) := hk6.g _ _ gG rfl (by simp; omega)
 have cn26 : G6.get (G1.n + 2) = some (.cells 9 2 [.str [120], .str [121]]) := hk6.g _ _ gG rfl (by simp; omega)
 have cn36 : G6.get (G1.n + 3) = some (.cells 9 2 [.str [105], .str [106]]) := hk6.g _ _ gG rfl (by simp; omega)
 have cn46 : G6.get (G1.n + 4) = some (.cells 9 2 [.str [110]]) := hk6.g _ _ gG rfl (by simp; omega)
 have cn56 : G6.get (G1.n + 5) = some (.cells 9 2 [.str [105]]) := hk6.g _ _ gG rfl (by simp; omega)
 have K6 : Kp [] H G6 := Kp.trans (show Kp [] H _ from kP) hk6 (by simp; omega)
 have hn6 := hk6.n
 (try simp only [Heap.n_push, Heap.n_set] at hn6)
 have A36 : Kp [H2.n, G1.n + 6, H.n] G3 G6 := Kp.tr (Kp.push (Kp.set A35 lL (.inl (by simp)))) hk6 (by simp)
 have A46 : Kp [H2.n, G1.n + 6, H.n] G4 G6 := Kp.tr (Kp.push (Kp.set A45 lL (.inl (by simp)))) hk6 (by simp)
 have A56 : Kp [H2.n, G1.n + 6, H.n] G5 G6 := Kp.tr (Kp.push (Kp.set Kp.refl lL (.inl (by simp)))) hk6 (by simp)
 refine ⟨⟨.inr (⟨_, rfl, op_load_at (x := .at (.slice (some (G1.n + 6, 0)) 2)) rfl cp6 rfl⟩), trivial⟩, ?_⟩
 refine dL rfl rfl rfl rfl (oIA (z := 9) (i := 1) rfl rfl rfl rfl (by omega) ?_)
 refine dL rfl rfl rfl rfl (oW (at' (.ptr (some (_, _ + 4)))) rfl rfl ?_)
 refine dC0 (.drop rfl .nil) rfl rfl rfl rfl (oStore (n := 5) (cs' := fnD [102] (.slice (some (G1.n + 2, 0)) 2) (.slice (some (G1.n + 3, 0)) 2) (.slice q3 xs3.length) [.int .i64 e4.kind, .int .i64 e4.n, .str e4.name, .int .i64 e4.op, .slice p4 e4.kids.length] ++ fnD [103] (.slice (some (G1.n + 4, 0)) 1) (.slice (some (G1.n + 5, 0)) 1) (.slice q5 xs5.length) [.int .i64 e6.kind, .int .i64 e6.n, .str e6.name, .int .i64 e6.op, .slice p6 e6.kids.length]) rfl rfl rfl gG rfl (Nat.le_of_ble_eq_true rfl) rfl rfl ?_)
 refine ⟨⟨.inl rfl, trivial⟩, ?_⟩
 refine dE0 ?_
 show TrP 61 _ _ _ _
 refine tH [(0, _), (2, _), (3, _), (4, _), (5, _)] ?_
 refine Tri.seq ?_
 refine tR ?_
 refine sO rfl rfl (oLoad (x := .agg [_, _]) rfl gG rfl ?_)
 refine sO rfl rfl (oStore (n := 2) (cs' := [_, _]) rfl rfl rfl gG rfl (Nat.le_of_ble_eq_true rfl) rfl rfl ?_)
 show TrP 61 _ _ _ _
 refine tH [(0, _), (2, _), (3, _), (4, _), (5, _)] ?_
 refine Tri.ret ?_
 refine ⟨trivial, _, (resA_cell (x := .agg [_, _]) rfl gG rfl rfl), ?_⟩
 have r3 := RowE.rid_fr hX3
 have r5 := RowE.rid_fr hX5
 (try simp only [Heap.n_push, Heap.n_set] at r3 r5)
 have C3 : ∀ A B, Kp [H2.n, G1.n + 6, H.n] G3 ((G6.set (G1.n + 6) A).set H.n B) := fun A B => Kp.set (Kp.set A36 lL (.inl (by simp))) lL (.inl (by simp))
 have C4 : ∀ A B, Kp [H2.n, G1.n + 6, H.n] G4 ((G6.set (G1.n + 6) A).set H.n B) := fun A B => Kp.set (Kp.set A46 lL (.inl (by simp))) lL (.inl (by simp))
 have C5 : ∀ A B, Kp [H2.n, G1.n + 6, H.n] G5 ((G6.set (G1.n + 6) A).set H.n B) := fun A B => Kp.set (Kp.set A56 lL (.inl (by simp))) lL (.inl (by simp))
 have C6 : ∀ A B, Kp [H2.n, G1.n + 6, H.n] G6 ((G6.set (G1.n + 6) A).set H.n B) := fun A B => Kp.set (Kp.set Kp.refl lL (.inl (by simp))) lL (.inl (by simp))
 have Z3 : ∀ A B, RowE 46 ((G6.set (G1.n + 6) A).set H.n B) 17 (LM (((G6.set (G1.n + 6) A).set H.n B).cuts (objs (G1.n + 0) (G1.n + 6) (some (G1.n + 2, 0)) (some (G1.n + 3, 0)) q3 (some (G1.n + 4, 0)) (some (G1.n + 5, 0)) q5))) xs3 q3 := fun A B => hX3.imp (Kp.frcut (ds := []) (C3 A B) (by intro d hd; simp only [List.mem_cons, List.not_mem_nil, or_false] at hd; (try simp only [Heap.n_push, Heap.n_set]); omega) (fun d hd => by cases hd)) fun s _ => LM.kp (Kp.areas (n := G1.n + 7) (ds' := objs (G1.n + 0) (G1.n + 6) (some (G1.n + 2, 0)) (some (G1.n + 3, 0)) q3 (some (G1.n + 4, 0)) (some (G1.n + 5, 0)) q5) (C3 A B) (by intro d hd; simp only [List.mem_cons, List.not_mem_nil, or_false] at hd; (try simp only [Heap.n_push, Heap.n_set]); omega) (fun d hd => List.mem_append_left _ (List.mem_range.2 (by simp only [Heap.n_push, Heap.n_set]; omega))) (fun d hd => by
   rcases objs_mem hd with h | h | h
   · exact .inl (List.mem_append_left _ (List.mem_range.2 (by simp only [Heap.n_push, Heap.n_set]; omega)))
   · exact .inl (List.mem_append_right _ (by rw [rid_slice]; exact h))
   · exact .inr (by have := (r5 d h).1; omega))) s
 have Z4 : ∀ A B, LX (((G6.set (G1.n + 6) A).set H.n B).cuts (objs (G1.n + 0) (G1.n + 6) (some (G1.n + 2, 0)) (some (G1.n + 3, 0)) q3 (some (G1.n + 4, 0)) (some (G1.n + 5, 0)) q5)) e4 _ := fun A B => hX4.kp (Kp.areas (n := G1.n + 7) (ds' := objs (G1.n + 0) (G1.n + 6) (some (G1.n + 2, 0)) (some (G1.n + 3, 0)) q3 (some (G1.n + 4, 0)) (some (G1.n + 5, 0)) q5) (C4 A B) (by intro d hd; simp only [List.mem_cons, List.not_mem_nil, or_false] at hd; (try simp only [Heap.n_push, Heap.n_set]); omega) (fun d hd => List.mem_range.2 (by simp only [Heap.n_push, Heap.n_set]; omega)) (fun d hd => by
   rcases objs_mem hd with h | h | h
   · exact .inl (List.mem_range.2 (by simp only [Heap.n_push, Heap.n_set]; omega))
   · exact .inl (List.mem_range.2 (by have := (r3 d h).2; simp only [Heap.n_push, Heap.n_set]; omega))
   · exact .inr (by have := (r5 d h).1; omega)))
 have Z5 : ∀ A B, RowE 46 ((G6.set (G1.n + 6) A).set H.n B) 17 (LM (((G6.set (G1.n + 6) A).set H.n B).cuts (objs (G1.n + 0) (G1.n + 6) (some (G1.n + 2, 0)) (some (G1.n + 3, 0)) q3 (some (G1.n + 4, 0)) (some (G1.n + 5, 0)) q5))) xs5 q5 := fun A B => hX5.imp (Kp.frcut (ds := []) (C5 A B) (by intro d hd; simp only [List.mem_cons, List.not_mem_nil, or_false] at hd; (try simp only [Heap.n_push, Heap.n_set]); omega) (fun d hd => by cases hd)) fun s _ => LM.kp (Kp.areas (n := G1.n + 7) (ds' := objs (G1.n + 0) (G1.n + 6) (some (G1.n + 2, 0)) (some (G1.n + 3, 0)) q3 (some (G1.n + 4, 0)) (some (G1.n + 5, 0)) q5) (C5 A B) (by intro d hd; simp only [List.mem_cons, List.not_mem_nil, or_false] at hd; (try simp only [Heap.n_push, Heap.n_set]); omega) (fun d hd => List.mem_append_left _ (List.mem_range.2 (by simp only [Heap.n_push, Heap.n_set]; omega))) (fun d hd => by
   rcases objs_mem hd with h | h | h
   · exact .inl (List.mem_append_left _ (List.mem_range.2 (by simp only [Heap.n_push, Heap.n_set]; omega)))
   · exact .inl (List.mem_append_left _ (List.mem_range.2 (by have := (r3 d h).2; simp only [Heap.n_push, Heap.n_set]; omega)))
   · exact .inl (List.mem_append_right _ (by rw [rid_slice]; exact h)))) s
 have Z6 : ∀ A B, LX (((G6.set (G1.n + 6) A).set H.n B).cuts (objs (G1.n + 0) (G1.n + 6) (some (G1.n + 2, 0)) (some (G1.n + 3, 0)) q3 (some (G1.n + 4, 0)) (some (G1.n + 5, 0)) q5)) e6 _ := fun A B => hX6.kp (Kp.areas (n := G1.n + 7) (ds' := objs (G1.n + 0) (G1.n + 6) (some (G1.n + 2, 0)) (some (G1.n + 3, 0)) q3 (some (G1.n + 4, 0)) (some (G1.n + 5, 0)) q5) (C6 A B) (by intro d hd; simp only [List.mem_cons, List.not_mem_nil, or_false] at hd; (try simp only [Heap.n_push, Heap.n_set]); omega) (fun d hd => List.mem_range.2 (by simp only [Heap.n_push, Heap.n_set]; omega)) (fun d hd => by
   rcases objs_mem hd with h | h | h
   · exact .inl (List.mem_range.2 (by simp only [Heap.n_push, Heap.n_set]; omega))
   · exact .inl (List.mem_range.2 (by have := (r3 d h).2; simp only [Heap.n_push, Heap.n_set]; omega))
   · exact .inl (List.mem_range.2 (by have := (r5 d h).2; simp only [Heap.n_push, Heap.n_set]; omega))))
 exact ⟨G1.n + 0, G1.n + 6, xs3, xs5, e4, e6, 1 + pk ((l.take (min l.length 60)).headD 0) 4, 1 + pk (IntKind.i64.wrap (((l.take (min l.length 60)).headD 0).tdiv 4)) 4, some (G1.n + 2, 0), some (G1.n + 3, 0), q3, some (G1.n + 4, 0), some (G1.n + 5, 0), q5, [.int .i64 e4.kind, .int .i64 e4.n, .str e4.name, .int .i64 e4.op, .slice p4 e4.kids.length], [.int .i64 e6.kind, .int .i64 e6.n, .str e6.name, .int .i64 e6.op, .slice p6 e6.kids.length], rfl, ⟨gG, gG, objs_nodup (m := G3.n) (fun d h => by have := r3 d h; omega) (fun d h => by have := r5 d h; omega) (by omega), rowE2 gG, rowE2 gG, Z3 _ _, Z4 _ _, rowE1 gG, rowE1 gG, Z5 _ _, Z6 _ _⟩, ⟨hG3, hG4, hG5, hG6, by omega, by omega, hxl3, hxl5, by omega, by omega⟩, by omega, by omega, kP⟩
end Go.Proofs.Ytceakkomleaibaa
