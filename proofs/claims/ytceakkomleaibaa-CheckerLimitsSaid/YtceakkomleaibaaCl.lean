/-
  THE WALK of fullinglaw4.CheckerLimits (printed by wip/tools/walk.py from wip/specs/chkL.py). Written in this session.
-/
import Derived.Test.YtceakkomleaibaaKa
namespace Go.Proofs.Ytceakkomleaibaa
open Go.Ea
set_option maxRecDepth 100000
set_option linter.unusedVariables false
set_option linter.unusedSimpArgs false

section
variable {P : Program} {eqs : Eqs} {lk : Env} {H : Heap} {K : AV → Heap → Prop}
theorem oConvB {s d : TypeId} {x : Operand} {k k2 : IntKind} {n : Nat} (hx : rho lk x = some (at' (.int k (n : Nat)))) (hs : P.underlying s = some (.int k2)) (hd : P.underlying d = some (.int .u8)) (hn : n < 128) (hk : K (at' (.int .u8 (n : Nat))) H) : opP P eqs (.convert s d x) lk H K :=
  oV (v := at' (.int .u8 (n : Nat))) (by
    show op_convert s d x P eqs lk H = _
    unfold op_convert
    rw [hx]
    simp only []
    have e : convA P H s d (at' (.int k (n : Nat))) = some (.int .u8 (n : Nat)) := by
      unfold convA
      simp only [hs, hd]
      have : wrapA .u8 (n : Nat) = (n : Nat) := by
        show (bif Nat.blt n (half .u8) then Int.ofNat n else _) = _
        rw [show Nat.blt n (half .u8) = true from by rw [show half .u8 = 256 from rfl]; simp; omega]
        rfl
      rw [this]
    rw [e]) hk
theorem oConvS1 {s d e : TypeId} {x : Operand} {id n : Nat} {T : TypeId} {k : Nat} (hx : rho lk x = some (at' (.slice (some (id, 0)) 1))) (hs : P.underlying s = some (.slice e)) (hd : P.underlying d = some .string) (he : isU8 (P.underlying e) = true) (hg : H.get id = some (.cells T k [.int .u8 (n : Nat)])) (hk : K (at' (.str [UInt8.ofNat n])) H) : opP P eqs (.convert s d x) lk H K :=
  oV (v := at' (.str [UInt8.ofNat n])) (by
    show op_convert s d x P eqs lk H = _
    unfold op_convert
    rw [hx]
    simp only []
    have e : convA P H s d (at' (.slice (some (id, 0)) 1)) = some (.str [UInt8.ofNat n]) := by
      unfold convA
      simp only [hs, hd, he, cond_true]
      unfold rowA
      rw [hg]
      rfl
    rw [e]) hk
theorem oBS35 {T e : TypeId} {x y w : Operand} {a1 a2 a3 a4 a5 b1 b2 b3 b4 b5 c1 c2 c3 c4 c5 : AT} {z : List AT} (hx : rho lk x = some (.one (.agg [a1, a2, a3, a4, a5]))) (hy : rho lk y = some (.one (.agg [b1, b2, b3, b4, b5]))) (hw : rho lk w = some (.one (.agg [c1, c2, c3, c4, c5]))) (hu : isSliceD (P.underlying T) = some e) (hz : sizeO P e = some 5) (h0 : zeroOf P e = some (.agg z)) (hzl : z.length = 5)
    (hk : K (at' (.slice (some (H.n, 0)) 3)) (H.push (.cells e 2 [a1, a2, a3, a4, a5, b1, b2, b3, b4, b5, c1, c2, c3, c4, c5]))) : opP P eqs (.buildSlice T 3 #[(0, x), (1, y), (2, w)]) lk H K :=
  oV (v := at' (.slice (some (H.n, 0)) 3)) (H' := H.push (.cells e 2 [a1, a2, a3, a4, a5, b1, b2, b3, b4, b5, c1, c2, c3, c4, c5])) (by
    match z, hzl with
    | [z1, z2, z3, z4, z5], _ =>
      show op_buildSlice T 3 #[(0, x), (1, y), (2, w)] P eqs lk H = _
      unfold op_buildSlice
      have hp : partsOf lk #[(0, x), (1, y), (2, w)].toList = some [(0, .one (.agg [a1, a2, a3, a4, a5])), (1, .one (.agg [b1, b2, b3, b4, b5])), (2, .one (.agg [c1, c2, c3, c4, c5]))] := by
        show (match rho lk x, (match rho lk y, (match rho lk w, some [] with | some a, some l => some ((2, a) :: l) | _, _ => none) with | some a, some l => some ((1, a) :: l) | _, _ => none) with | some a, some l => some ((0, a) :: l) | _, _ => none) = _
        rw [hx, hy, hw]
      rw [hu, hp]
      simp only [hz, h0]
      rfl) hk
end
theorem Lay.flatm {β : Type} {z : Nat} {R : β → List AT → Prop} {f : β → List AT} (hf : ∀ x, (f x).length = z) : ∀ xs : List β, (∀ x ∈ xs, R x (f x)) → Lay z R xs (xs.flatMap f)
  | [], _ => rfl
  | x :: r, hR => by
    rw [List.flatMap_cons]
    refine ⟨?_, ?_⟩
    · rw [List.take_append_of_le_length (by rw [hf]; omega), List.take_of_length_le (by rw [hf]; omega)]; exact hR x (by simp)
    · rw [List.drop_append, List.drop_eq_nil_of_le (by rw [hf]; omega), hf, Nat.sub_self, List.drop_zero, List.nil_append]
      exact Lay.flatm hf r fun y hy => hR y (by simp [hy])
theorem RowR.qm {β : Type} {H : Heap} {f : β → List AT} {z : Nat} {R : β → List AT → Prop} {xs : List β} {p : Option (Nat × Nat)} (h : RowR H f z xs p) (hf : ∀ x, (f x).length = z) (hR : ∀ x ∈ xs, R x (f x)) : RowQ H z R xs p :=
  ⟨h.1, fun id o hp => (h.2 id o hp).imp (fun x => x) fun ⟨T, k, cs, h1, h2, h3⟩ => ⟨T, k, cs, h1, h2, by rw [h3]; exact Lay.flatm hf xs hR⟩⟩
def numX : Exp := .mk 1 0 [] 0 []
def stm0 (k : Int) (v : Exp) (els : List Stm) : Stm := .mk k [] [] 0 .zero v [] [] els
def vNm (i : Nat) : List UInt8 := [118, UInt8.ofNat (97 + i)]
def vNms (n : Nat) : List (List UInt8) := (List.range n).map vNm
theorem vNms_snoc (i : Nat) : vNms (i + 1) = vNms i ++ [vNm i] := by unfold vNms; rw [List.range_succ, List.map_append]; rfl
theorem vNms_len (i : Nat) : (vNms i).length = i := by unfold vNms; simp
def nestS : Nat → List Stm
  | 0 => [stm0 7 .zero []]
  | n + 1 => [stm0 3 numX (nestS n)]
def nestX : Nat → Exp
  | 0 => numX
  | n + 1 => .mk 5 0 [] 0 [numX, numX, nestX n]
def fnOf (ls : List (List UInt8)) (b : List Stm) (e : Exp) : Fn1 := ⟨[102], [], ls, b, e⟩
def limFn : Nat → Nat → Fn1
  | 0, n => fnOf (vNms n) [] numX
  | 1, n => fnOf [] (List.replicate n (stm0 7 .zero [])) numX
  | 2, n => fnOf [] (List.replicate n (stm0 4 numX [])) numX
  | 3, n => fnOf [] (nestS n) numX
  | _, n => fnOf [] [] (nestX n)
noncomputable def limR (w n : Nat) : Int := chkS ⟨[], [limFn w n]⟩
theorem law0 : ∀ n, n < 20 → limR 0 n = if n > 8 then 6 else 0 := by decide +kernel
theorem law1 : ∀ n, n < 400 → limR 1 n = if n > 200 then 6 else 0 := by decide +kernel
theorem law2 : ∀ n, n < 40 → limR 2 n = if n > 16 then 6 else 0 := by decide +kernel
theorem law3 : ∀ n, n < 50 → limR 3 n = if n > 20 then 6 else 0 := by decide +kernel
theorem law4 : ∀ n, n < 50 → limR 4 n = if n > 20 then 6 else 0 := by decide +kernel
def Lim (w m q : Nat) : Prop := (w = 0 ∧ m < 20 ∧ q = 8) ∨ (w = 1 ∧ m < 400 ∧ q = 200) ∨ (w = 2 ∧ m < 40 ∧ q = 16) ∨ (w = 3 ∧ m < 50 ∧ q = 20) ∨ (w = 4 ∧ m < 50 ∧ q = 20)
theorem Lim.law {w m q : Nat} (h : Lim w m q) : limR w m = if m > q then 6 else 0 := by
  rcases h with ⟨rfl, h, rfl⟩ | ⟨rfl, h, rfl⟩ | ⟨rfl, h, rfl⟩ | ⟨rfl, h, rfl⟩ | ⟨rfl, h, rfl⟩
  · exact law0 m h
  · exact law1 m h
  · exact law2 m h
  · exact law3 m h
  · exact law4 m h
theorem low0 : htE numX < 100 ∧ htS (stm0 7 .zero []) < 100 ∧ htS (stm0 4 numX []) < 100 := by decide +kernel
theorem low3 : ∀ n, n < 50 → ∀ s ∈ nestS n, htS s < 100000 := by decide +kernel
theorem low4 : ∀ n, n < 50 → htE (nestX n) < 100000 := by decide +kernel
theorem Lim.low {w m q : Nat} (h : Lim w m q) : LowP ⟨[], [limFn w m]⟩ := by
  obtain ⟨l1, l2, l3⟩ := low0
  have z : (0 : Nat) < 2305843009213693952 := by decide
  have o : (1 : Nat) < 2305843009213693952 := by decide
  refine ⟨z, o, fun f hf => ?_⟩
  simp only [List.mem_cons, List.not_mem_nil, or_false] at hf
  subst hf
  rcases h with ⟨rfl, h, rfl⟩ | ⟨rfl, h, rfl⟩ | ⟨rfl, h, rfl⟩ | ⟨rfl, h, rfl⟩ | ⟨rfl, h, rfl⟩
  · exact ⟨⟨Nat.lt_trans l1 (by decide), fun s hs => (by cases hs), z⟩, z, by show (vNms m).length < _; rw [vNms_len]; omega⟩
  · refine ⟨⟨Nat.lt_trans l1 (by decide), fun s hs => ?_, by show (List.replicate _ _).length < _; rw [List.length_replicate]; omega⟩, z, z⟩
    rw [(List.mem_replicate.1 hs).2]; exact Nat.lt_trans l2 (by decide)
  · refine ⟨⟨Nat.lt_trans l1 (by decide), fun s hs => ?_, by show (List.replicate _ _).length < _; rw [List.length_replicate]; omega⟩, z, z⟩
    rw [(List.mem_replicate.1 hs).2]; exact Nat.lt_trans l3 (by decide)
  · refine ⟨⟨Nat.lt_trans l1 (by decide), fun s hs => Nat.lt_trans (low3 m h s hs) (by decide), ?_⟩, z, z⟩
    show (nestS m).length < _
    cases m <;> exact o
  · exact ⟨⟨Nat.lt_trans (low4 m h) (by decide), fun s hs => (by cases hs), z⟩, z, z⟩
def numC : List AT := [.int .i64 1, .int .i64 0, .str [], .int .i64 0, .slice none 0]
theorem numL (H : Heap) : LX H numX numC := LX_iff.2 ⟨none, rfl, RowQ.nil⟩
def zerC : List AT := [.int .i64 0, .int .i64 0, .str [], .int .i64 0, .slice none 0]
theorem zerL (H : Heap) : LX H .zero zerC := LX_iff.2 ⟨none, rfl, RowQ.nil⟩
def stmC (k : Int) (v : List AT) (e : AT) : List AT := [.int .i64 k, .str [], .str [], .int .i64 0] ++ zerC ++ v ++ [.slice none 0, .slice none 0, e]
theorem stmL {H : Heap} {k : Int} {v : Exp} {cv : List AT} {els : List Stm} {p : Option (Nat × Nat)} (hv : LX H v cv) (he : RowQ H 17 (LM H) els p) : LM H (stm0 k v els) (stmC k cv (.slice p els.length)) :=
  LM_iff.2 ⟨_, _, none, none, p, rfl, zerL H, hv, RowQ.nil, RowQ.nil, he⟩
theorem stmL1 {H : Heap} {k : Int} {v : Exp} {cv : List AT} {els : List Stm} {p : Option (Nat × Nat)} {n : Nat} (hn : els.length = n) (hv : LX H v cv) (he : RowQ H 17 (LM H) els p) : LM H (stm0 k v els) (stmC k cv (.slice p n)) := by subst hn; exact stmL hv he
def fnC (l b : AT) (cv : List AT) : List AT := [.str [102], .slice none 0, l, b] ++ cv
theorem fnL {H : Heap} {ls : List (List UInt8)} {b : List Stm} {e : Exp} {pl pb : Option (Nat × Nat)} {cv : List AT} (h1 : RowQ H 1 LT1 ls pl) (h2 : RowQ H 17 (LM H) b pb) (h3 : LX H e cv) : LFn H (fnOf ls b e) (fnC (.slice pl ls.length) (.slice pb b.length) cv) :=
  ⟨none, pl, pb, cv, rfl, RowQ.nil, h1, h2, h3⟩
/-- The trees lie in L, which the object d is no part of. -/
def KD (d : Nat) (L H : Heap) : Prop := Kp [d] L H ∧ ∀ o, L.get d = some o → o.live = false
theorem KD.kp {d : Nat} {L H : Heap} (h : KD d L H) : Kp [] L H := ⟨h.1.n, fun i o hi hl _ => h.1.g i o hi hl fun hm => by
  simp only [List.mem_cons, List.not_mem_nil, or_false] at hm
  subst hm; rw [h.2 o hi] at hl; cases hl⟩
theorem KD.new {d : Nat} {H : Heap} (hd : d < H.n) : KD d (H.set d .dead) H :=
  ⟨⟨by simp, fun i o hi _ hm => by
    simp only [List.mem_cons, List.not_mem_nil, or_false] at hm
    rwa [Heap.get_set _ _ _ _ hd, if_neg hm] at hi⟩, fun o h => by
    rw [Heap.set_newl hd] at h; cases h; rfl⟩
theorem KD.step {d : Nat} {L H H' : Heap} (h : KD d L H) (hk : Kp [d] H H') (hd : d < H'.n) : Kp [] L (H'.set d .dead) :=
  ⟨Nat.le_trans h.1.n (Nat.le_trans hk.n (by simp)), fun i o hi hl _ => by
    have hne : i ≠ d := fun e => by subst e; rw [h.2 o hi] at hl; cases hl
    exact Heap.set_old (hk.g i o (h.1.g i o hi hl (by simpa using hne)) hl (by simpa using hne)) hne hd⟩
theorem nest_len (i : Nat) : (nestS i).length = 1 := by cases i <;> rfl
theorem nest0 {d q : Nat} {H : Heap} {T : TypeId} {k : Nat} (hg : H.get q = some (.cells T k (stmC 7 zerC (.slice none 0)))) (hd : d < H.n) (hq : q ≠ d) : ∃ L, RowQ L 17 (LM L) (nestS 0) (some (q, 0)) ∧ KD d L H :=
  ⟨_, RowQ.one (Heap.set_old hg hq hd) rfl (stmL (zerL _) RowQ.nil), KD.new hd⟩
theorem nestS_step {d q i : Nat} {H H' : Heap} {T : TypeId} {k : Nat} {pb : Option (Nat × Nat)} (h : ∃ L, RowQ L 17 (LM L) (nestS i) pb ∧ KD d L H) (hk : Kp [d] H H') (hd : d < H'.n) (hq : q ≠ d) (hg : H'.get q = some (.cells T k (stmC 3 numC (.slice pb 1)))) : ∃ L, RowQ L 17 (LM L) (nestS (i + 1)) (some (q, 0)) ∧ KD d L H' := by
  obtain ⟨L, hr, hkd⟩ := h
  have hs := hkd.step hk hd
  exact ⟨_, RowQ.one (Heap.set_old hg hq hd) rfl (stmL1 (nest_len i) (numL _) (hr.imp hs fun s _ => LM.kp hs s)), KD.new hd⟩
theorem nestX0 {d : Nat} {H : Heap} (hd : d < H.n) : ∃ L, LX L (nestX 0) numC ∧ KD d L H := ⟨_, numL _, KD.new hd⟩
theorem nestX_step {d q i : Nat} {H H' : Heap} {T : TypeId} {k : Nat} {cv : List AT} (h : ∃ L, LX L (nestX i) cv ∧ KD d L H) (hk : Kp [d] H H') (hd : d < H'.n) (hq : q ≠ d) (hg : H'.get q = some (.cells T k (numC ++ numC ++ cv))) : ∃ L, LX L (nestX (i + 1)) [.int .i64 5, .int .i64 0, .str [], .int .i64 0, .slice (some (q, 0)) 3] ∧ KD d L H' := by
  obtain ⟨L, hr, hkd⟩ := h
  have hs := hkd.step hk hd
  obtain ⟨p5, rfl, _⟩ := hr.out
  exact ⟨_, LX_iff.2 ⟨_, rfl, ⟨fun h => (by cases h), fun id' o' hp => .inr (by cases hp; exact ⟨_, _, _, Heap.set_old hg hq hd, by simp [numC], numL _, numL _, LX.kp hs _ _ hr, rfl⟩)⟩⟩, KD.new hd⟩
def cons17 (c : List AT) (_ : Stm) : List AT := c
theorem rep_snoc (i : Nat) (s : Stm) (c : List AT) : (List.replicate (i + 1) s).flatMap (cons17 c) = (List.replicate i s).flatMap (cons17 c) ++ c := by
  rw [List.replicate_succ', List.flatMap_append]
  simp [cons17]

set_option maxHeartbeats 2000000 in
theorem limits_ok (n which : Int) (H : Heap) (hn : -9223372036854775808 ≤ n ∧ n ≤ 9223372036854775807) (hwh : -9223372036854775808 ≤ which ∧ which ≤ 9223372036854775807) : Sim Try.prog 7 [at' (.int .i64 n), at' (.int .i64 which)] H (fun u G => u = at' (.bool true) ∧ True) := by
  refine Sim.of_tri Try.func7 rfl ?_
  show Tri Try.prog 114 _ _ _ _
  refine Tri.seq ?_
  refine Tri.region mixed eqsOk (eqs := eqs) ?_
  refine sO rfl rfl (oV rfl ?_)
  show Tri Try.prog 114 _ _ _ _
  refine Tri.has (l := [(0, _), (1, _), (4, _)]) ⟨rfl, rfl, rfl, trivial⟩ ?_
  refine Tri.seq ?_
  refine Tri.region mixed eqsOk (eqs := eqs) ?_
  refine sO rfl rfl (oW (.one (.agg [_, .int .i64 0, .str [], .int .i64 0, .slice none 0])) rfl rfl ?_)
  refine sO rfl rfl (oAlloc (cs := [.int .i64 0, .int .i64 0, .str [], .int .i64 0, .slice none 0]) rfl rfl ?_)
  refine sO rfl rfl (oStore (n := 5) (cs' := [_, _, _, _, _]) rfl rfl rfl (by repeat (first | assumption | exact Heap.push_new | exact Heap.set_newl (by first | (simp only [Heap.n_push, Heap.n_set]; omega) | exact Heap.get_lt (by assumption)) | refine Heap.push_old ?_ | refine Heap.set_old ?_ (by first | assumption | omega | (simp only [Heap.n_push, Heap.n_set]; omega)) (by first | (simp only [Heap.n_push, Heap.n_set]; omega) | exact Heap.get_lt (by assumption)))) rfl (Nat.le_of_ble_eq_true rfl) rfl rfl ?_)
  show Tri Try.prog 114 _ _ _ _
  refine Tri.has (l := [(0, _), (1, _), (4, _), (5, _)]) ⟨rfl, rfl, rfl, rfl, trivial⟩ ?_
  refine Tri.seq ?_
  refine Tri.region mixed eqsOk (eqs := eqs) ?_
  refine sO rfl rfl (oLoad (x := .agg [_, _, _, _, _]) rfl (by repeat (first | assumption | exact Heap.push_new | exact Heap.set_newl (by first | (simp only [Heap.n_push, Heap.n_set]; omega) | exact Heap.get_lt (by assumption)) | refine Heap.push_old ?_ | refine Heap.set_old ?_ (by first | assumption | omega | (simp only [Heap.n_push, Heap.n_set]; omega)) (by first | (simp only [Heap.n_push, Heap.n_set]; omega) | exact Heap.get_lt (by assumption)))) rfl ?_)
  refine sO rfl rfl (oW (.one (.agg [_, .slice none 0, .slice none 0, .slice none 0, _, _, _, _, _])) rfl rfl ?_)
  refine sO rfl rfl (oAlloc (cs := [.str [], .slice none 0, .slice none 0, .slice none 0, .int .i64 0, .int .i64 0, .str [], .int .i64 0, .slice none 0]) rfl rfl ?_)
  refine sO rfl rfl (oStore (n := 9) (cs' := [_, _, _, _, _, _, _, _, _]) rfl rfl rfl (by repeat (first | assumption | exact Heap.push_new | exact Heap.set_newl (by first | (simp only [Heap.n_push, Heap.n_set]; omega) | exact Heap.get_lt (by assumption)) | refine Heap.push_old ?_ | refine Heap.set_old ?_ (by first | assumption | omega | (simp only [Heap.n_push, Heap.n_set]; omega)) (by first | (simp only [Heap.n_push, Heap.n_set]; omega) | exact Heap.get_lt (by assumption)))) rfl (Nat.le_of_ble_eq_true rfl) rfl rfl ?_)
  show Tri Try.prog 114 _ _ _ _
  refine Tri.has (l := [(0, _), (1, _), (4, _), (5, _), (6, _)]) ⟨rfl, rfl, rfl, rfl, rfl, trivial⟩ ?_
  refine Tri.seq ?_
  refine Tri.region mixed eqsOk (eqs := eqs) ?_
  refine sO rfl rfl (oV rfl ?_)
  show Tri Try.prog 114 _ _ _ _
  refine Tri.has (l := [(0, _), (1, _), (4, _), (5, _), (6, _), (7, _)]) ⟨rfl, rfl, rfl, rfl, rfl, rfl, trivial⟩ ?_
  refine Tri.seqI (fun lk1 H1 => ∃ (w m q : Nat) (c : List AT), Lim w m q ∧ LFn H1 (limFn w m) c ∧ H1.get (H.n + 1) = some (.cells 28 1 c) ∧ Has lk1 [(0, at' (.int .i64 m)), (6, at' (.ptr (some (H.n + 1, 0)))), (7, at' (.int .i64 q))]) ?_ ?_
  ·
    refine Tri.seq ?_
    refine Tri.region mixed eqsOk (eqs := eqs) ?_
    refine sO rfl rfl (oV rfl ?_)
    refine sO rfl rfl (oF rfl (fnOk_of Try.func12 (by decide) rfl) (Pick_ok which 5 _ (by omega) (by omega)) ?_)
    show Tri Try.prog 114 _ _ _ _
    refine Tri.has (l := [(0, _), (1, _), (4, _), (5, _), (6, _), (7, _), (18, _)]) ⟨rfl, rfl, rfl, rfl, rfl, rfl, rfl, trivial⟩ ?_
    refine Tri.block ?_
    refine Tri.seq ?_
    refine Tri.region mixed eqsOk (eqs := eqs) ?_
    refine sO rfl rfl (oE rfl (fun h34 => ?_) (fun h34 => ?_))
    ·
      refine sO rfl rfl (oV rfl ?_)
      show Tri Try.prog 114 _ _ _ _
      refine Tri.has (l := [(0, _), (1, _), (4, _), (5, _), (6, _), (7, _), (18, _), (33, _)]) ⟨rfl, rfl, rfl, rfl, rfl, rfl, rfl, rfl, trivial⟩ ?_
      refine Tri.cond (t := true) rfl (fun _ => ?_) (fun h => Bool.noConfusion h)
      refine Tri.seq ?_
      refine Tri.region mixed eqsOk (eqs := eqs) ?_
      refine sO rfl rfl (oV rfl ?_)
      show Tri Try.prog 114 _ _ _ _
      refine Tri.has (l := [(0, _), (1, _), (4, _), (5, _), (6, _), (7, _), (18, _), (33, _)]) ⟨rfl, rfl, rfl, rfl, rfl, rfl, rfl, rfl, trivial⟩ ?_
      refine Tri.seq ?_
      refine Tri.region mixed eqsOk (eqs := eqs) ?_
      refine sO rfl rfl (oV rfl ?_)
      refine sO rfl rfl (oF rfl (fnOk_of Try.func12 (by decide) rfl) (Pick_ok n 20 _ (by omega) (by omega)) ?_)
      refine sO rfl rfl (oV rfl ?_)
      show Tri Try.prog 114 _ _ _ _
      refine Tri.has (l := [(0, _), (1, _), (4, _), (5, _), (6, _), (7, _), (18, _), (33, _)]) ⟨rfl, rfl, rfl, rfl, rfl, rfl, rfl, rfl, trivial⟩ ?_
      refine Tri.seq ?_
      refine Tri.region mixed eqsOk (eqs := eqs) ?_
      refine sO rfl rfl (oV rfl ?_)
      show Tri Try.prog 114 _ _ _ _
      refine Tri.has (l := [(0, _), (1, _), (4, _), (5, _), (6, _), (7, _), (8, _), (18, _), (33, _)]) ⟨rfl, rfl, rfl, rfl, rfl, rfl, rfl, rfl, rfl, trivial⟩ ?_
      refine Tri.block ?_
      refine Tri.loop (fun k lk1 H1 => ∃ (i m : Nat) (a : AT), H1.get (H.n + 1) = some (.cells 28 1 (fnC a (.slice none 0) numC)) ∧ RowA H1 (H.n + 2) 9 i ((vNms i).flatMap strC) a ∧ k = m - i ∧ i ≤ m ∧ m < 20 ∧ H.n + 2 ≤ H1.n ∧ Has lk1 [(0, at' (.int .i64 m)), (6, at' (.ptr (some (H.n + 1, 0)))), (7, at' (.int .i64 (8 : Nat))), (8, at' (.int .i64 i))]) (pk n 20) (⟨0, pk n 20, _, (by repeat (first | assumption | exact Heap.push_new | exact Heap.set_newl (by first | (simp only [Heap.n_push, Heap.n_set]; omega) | exact Heap.get_lt (by assumption)) | refine Heap.push_old ?_ | refine Heap.set_old ?_ (by first | assumption | omega | (simp only [Heap.n_push, Heap.n_set]; omega)) (by first | (simp only [Heap.n_push, Heap.n_set]; omega) | exact Heap.get_lt (by assumption)))), RowA.nil _ _ _, rfl, by omega, pk_lt n 20 (by omega), by simp only [Heap.n_push, Heap.n_set]; omega, ⟨rfl, rfl, rfl, rfl, trivial⟩⟩) ?_
      rintro k15 lk15 H15 ⟨i, m, a, hc, hr, hk, hi, hm, hn2, hh⟩
      refine Tri.has hh ?_
      refine Tri.seq ?_
      refine Tri.seq ?_
      refine Tri.region mixed eqsOk (eqs := eqs) ?_
      refine sO rfl rfl (oV rfl ?_)
      refine sO rfl rfl (oV rfl ?_)
      refine sO rfl rfl (oP rfl (fun h39 => ?_) (fun h39 => ?_))
      ·
        show Tri Try.prog 114 _ _ _ _
        refine Tri.has (l := [(0, _), (6, _), (7, _), (8, _), (39, _)]) ⟨rfl, rfl, rfl, rfl, rfl, trivial⟩ ?_
        refine Tri.cond (t := true) rfl (fun _ => ?_) (fun h => Bool.noConfusion h)
        refine Tri.skip ?_
        show Tri Try.prog 114 _ _ _ _
        refine Tri.has (l := [(0, _), (6, _), (7, _), (8, _), (39, _)]) ⟨rfl, rfl, rfl, rfl, rfl, trivial⟩ ?_
        refine Tri.seq ?_
        refine Tri.block ?_
        refine Tri.region mixed eqsOk (eqs := eqs) ?_
        refine sO rfl rfl (oW (at' (.ptr (some (_, 2)))) rfl rfl ?_)
        refine sO rfl rfl (oLoad (x := .at _) rfl (by repeat (first | assumption | exact Heap.push_new | exact Heap.set_newl (by first | (simp only [Heap.n_push, Heap.n_set]; omega) | exact Heap.get_lt (by assumption)) | refine Heap.push_old ?_ | refine Heap.set_old ?_ (by first | assumption | omega | (simp only [Heap.n_push, Heap.n_set]; omega)) (by first | (simp only [Heap.n_push, Heap.n_set]; omega) | exact Heap.get_lt (by assumption)))) rfl ?_)
        refine sO rfl rfl (oV rfl ?_)
        refine sO rfl rfl (oAdd (n := 97) rfl (by omega) ?_)
        refine sO rfl rfl (oConvB rfl rfl rfl (by omega) ?_)
        refine sO rfl rfl (oBS1 (n := 1) rfl rfl rfl rfl rfl (by omega) (by omega) rfl ?_)
        refine sO rfl rfl (oConvS1 rfl rfl rfl rfl (by repeat (first | assumption | exact Heap.push_new | exact Heap.set_newl (by first | (simp only [Heap.n_push, Heap.n_set]; omega) | exact Heap.get_lt (by assumption)) | refine Heap.push_old ?_ | refine Heap.set_old ?_ (by first | assumption | omega | (simp only [Heap.n_push, Heap.n_set]; omega)) (by first | (simp only [Heap.n_push, Heap.n_set]; omega) | exact Heap.get_lt (by assumption)))) ?_)
        refine sO rfl rfl (oCat rfl rfl (by first | omega | (simp only [List.length_append, List.length_cons, List.length_nil]; omega)) ?_)
        refine sO rfl rfl (oBS1 (n := 1) rfl rfl rfl rfl rfl (by omega) (by omega) rfl ?_)
        have hlen : ((vNms i).flatMap strC).length = i * 1 := by rw [flat_len (z := 1) (fun _ => rfl)]; rw [vNms_len]
        refine sO rfl rfl (oAppRow (lo := H.n + 2) (n := i) (m := 1) (cs := (vNms i).flatMap strC) rfl rfl rfl rfl (by repeat (first | assumption | refine RowA.push ?_ | refine RowA.set ?_ (by repeat (first | assumption | exact Heap.push_new | exact Heap.set_newl (by first | (simp only [Heap.n_push, Heap.n_set]; omega) | exact Heap.get_lt (by assumption)) | refine Heap.push_old ?_ | refine Heap.set_old ?_ (by first | assumption | omega | (simp only [Heap.n_push, Heap.n_set]; omega)) (by first | (simp only [Heap.n_push, Heap.n_set]; omega) | exact Heap.get_lt (by assumption)))) (by intro e; cases e))) rfl (by repeat (first | assumption | exact Heap.push_new | exact Heap.set_newl (by first | (simp only [Heap.n_push, Heap.n_set]; omega) | exact Heap.get_lt (by assumption)) | refine Heap.push_old ?_ | refine Heap.set_old ?_ (by first | assumption | omega | (simp only [Heap.n_push, Heap.n_set]; omega)) (by first | (simp only [Heap.n_push, Heap.n_set]; omega) | exact Heap.get_lt (by assumption)))) rfl rfl rfl rfl rfl rfl rfl hlen (by (show (i + 1) * 16 ≤ _); omega) (by omega) (by simp only [Heap.n_push, Heap.n_set]; omega) (fun a2 H2 hr2 hn2 hg2 => ?_))
        have hc6 : H2.get (H.n + 1) = some (.cells 28 1 (fnC a (.slice none 0) numC)) := hg2 _ _ (by repeat (first | assumption | exact Heap.push_new | exact Heap.set_newl (by first | (simp only [Heap.n_push, Heap.n_set]; omega) | exact Heap.get_lt (by assumption)) | refine Heap.push_old ?_ | refine Heap.set_old ?_ (by first | assumption | omega | (simp only [Heap.n_push, Heap.n_set]; omega)) (by first | (simp only [Heap.n_push, Heap.n_set]; omega) | exact Heap.get_lt (by assumption)))) (.inl (by omega))
        simp only [Heap.n_push, Heap.n_set] at hn2
        refine sO rfl rfl (oW (at' (.ptr (some (_, 2)))) rfl rfl ?_)
        refine sO rfl rfl (oStore (n := 1) (cs' := [_, _, _, _, _, _, _, _, _]) rfl rfl rfl (by repeat (first | assumption | exact Heap.push_new | exact Heap.set_newl (by first | (simp only [Heap.n_push, Heap.n_set]; omega) | exact Heap.get_lt (by assumption)) | refine Heap.push_old ?_ | refine Heap.set_old ?_ (by first | assumption | omega | (simp only [Heap.n_push, Heap.n_set]; omega)) (by first | (simp only [Heap.n_push, Heap.n_set]; omega) | exact Heap.get_lt (by assumption)))) rfl (Nat.le_of_ble_eq_true rfl) rfl rfl ?_)
        show Tri Try.prog 114 _ _ _ _
        refine Tri.has (l := [(0, _), (6, _), (7, _), (8, _), (39, _)]) ⟨rfl, rfl, rfl, rfl, rfl, trivial⟩ ?_
        refine Tri.region mixed eqsOk (eqs := eqs) ?_
        refine sO rfl rfl (oV rfl ?_)
        refine sO rfl rfl (oAdd (m := 1) rfl (by omega) ?_)
        refine sO rfl rfl (oV rfl ?_)
        exact ⟨m - (i + 1), by omega, i + 1, m, a2, (by repeat (first | assumption | exact Heap.push_new | exact Heap.set_newl (by first | (simp only [Heap.n_push, Heap.n_set]; omega) | exact Heap.get_lt (by assumption)) | refine Heap.push_old ?_ | refine Heap.set_old ?_ (by first | assumption | omega | (simp only [Heap.n_push, Heap.n_set]; omega)) (by first | (simp only [Heap.n_push, Heap.n_set]; omega) | exact Heap.get_lt (by assumption)))), by rw [vNms_snoc, fm_snoc]; exact hr2.set hc6 (by intro e; cases e), rfl, by omega, hm, (by simp only [Heap.n_push, Heap.n_set]; omega), ⟨rfl, rfl, rfl, rfl, trivial⟩⟩
      ·
        show Tri Try.prog 114 _ _ _ _
        refine Tri.has (l := [(0, _), (6, _), (7, _), (8, _), (39, _)]) ⟨rfl, rfl, rfl, rfl, rfl, trivial⟩ ?_
        refine Tri.cond (t := false) rfl (fun h => Bool.noConfusion h) (fun _ => ?_)
        refine Tri.exit ?_
        have hil : i = m := by omega
        subst hil
        obtain ⟨p, rfl, hq⟩ := rowQ_of (xs := vNms i) (by rw [vNms_len]; exact hr)
        exact ⟨0, i, 8, _, .inl ⟨rfl, hm, rfl⟩, fnL hq RowQ.nil (numL _), (by repeat (first | assumption | exact Heap.push_new | exact Heap.set_newl (by first | (simp only [Heap.n_push, Heap.n_set]; omega) | exact Heap.get_lt (by assumption)) | refine Heap.push_old ?_ | refine Heap.set_old ?_ (by first | assumption | omega | (simp only [Heap.n_push, Heap.n_set]; omega)) (by first | (simp only [Heap.n_push, Heap.n_set]; omega) | exact Heap.get_lt (by assumption)))), ⟨rfl, rfl, rfl, trivial⟩⟩
    ·
      refine sO rfl rfl (oV rfl ?_)
      show Tri Try.prog 114 _ _ _ _
      refine Tri.has (l := [(0, _), (1, _), (4, _), (5, _), (6, _), (7, _), (18, _), (33, _)]) ⟨rfl, rfl, rfl, rfl, rfl, rfl, rfl, rfl, trivial⟩ ?_
      refine Tri.cond (t := false) rfl (fun h => Bool.noConfusion h) (fun _ => ?_)
      refine Tri.seq ?_
      refine Tri.region mixed eqsOk (eqs := eqs) ?_
      refine sO rfl rfl (oE rfl (fun h54 => ?_) (fun h54 => ?_))
      ·
        refine sO rfl rfl (oV rfl ?_)
        show Tri Try.prog 114 _ _ _ _
        refine Tri.has (l := [(0, _), (1, _), (4, _), (5, _), (6, _), (7, _), (18, _), (33, _), (53, _)]) ⟨rfl, rfl, rfl, rfl, rfl, rfl, rfl, rfl, rfl, trivial⟩ ?_
        refine Tri.cond (t := true) rfl (fun _ => ?_) (fun h => Bool.noConfusion h)
        refine Tri.seq ?_
        refine Tri.region mixed eqsOk (eqs := eqs) ?_
        refine sO rfl rfl (oV rfl ?_)
        show Tri Try.prog 114 _ _ _ _
        refine Tri.has (l := [(0, _), (1, _), (4, _), (5, _), (6, _), (7, _), (18, _), (33, _), (53, _)]) ⟨rfl, rfl, rfl, rfl, rfl, rfl, rfl, rfl, rfl, trivial⟩ ?_
        refine Tri.seq ?_
        refine Tri.region mixed eqsOk (eqs := eqs) ?_
        refine sO rfl rfl (oV rfl ?_)
        refine sO rfl rfl (oF rfl (fnOk_of Try.func12 (by decide) rfl) (Pick_ok n 400 _ (by omega) (by omega)) ?_)
        refine sO rfl rfl (oV rfl ?_)
        show Tri Try.prog 114 _ _ _ _
        refine Tri.has (l := [(0, _), (1, _), (4, _), (5, _), (6, _), (7, _), (18, _), (33, _), (53, _)]) ⟨rfl, rfl, rfl, rfl, rfl, rfl, rfl, rfl, rfl, trivial⟩ ?_
        refine Tri.seq ?_
        refine Tri.region mixed eqsOk (eqs := eqs) ?_
        refine sO rfl rfl (oV rfl ?_)
        show Tri Try.prog 114 _ _ _ _
        refine Tri.has (l := [(0, _), (1, _), (4, _), (5, _), (6, _), (7, _), (9, _), (18, _), (33, _), (53, _)]) ⟨rfl, rfl, rfl, rfl, rfl, rfl, rfl, rfl, rfl, rfl, trivial⟩ ?_
        refine Tri.block ?_
        refine Tri.loop (fun k lk1 H1 => ∃ (i m : Nat) (a : AT), H1.get (H.n + 1) = some (.cells 28 1 (fnC (.slice none 0) a numC)) ∧ RowA H1 (H.n + 2) 46 i ((List.replicate i (stm0 7 .zero [])).flatMap (cons17 (stmC 7 zerC (.slice none 0)))) a ∧ k = m - i ∧ i ≤ m ∧ m < 400 ∧ H.n + 2 ≤ H1.n ∧ Has lk1 [(0, at' (.int .i64 m)), (6, at' (.ptr (some (H.n + 1, 0)))), (7, at' (.int .i64 (200 : Nat))), (9, at' (.int .i64 i))]) (pk n 400) (⟨0, pk n 400, _, (by repeat (first | assumption | exact Heap.push_new | exact Heap.set_newl (by first | (simp only [Heap.n_push, Heap.n_set]; omega) | exact Heap.get_lt (by assumption)) | refine Heap.push_old ?_ | refine Heap.set_old ?_ (by first | assumption | omega | (simp only [Heap.n_push, Heap.n_set]; omega)) (by first | (simp only [Heap.n_push, Heap.n_set]; omega) | exact Heap.get_lt (by assumption)))), RowA.nil _ _ _, rfl, by omega, pk_lt n 400 (by omega), by simp only [Heap.n_push, Heap.n_set]; omega, ⟨rfl, rfl, rfl, rfl, trivial⟩⟩) ?_
        rintro k22 lk22 H22 ⟨i, m, a, hc, hr, hk, hi, hm, hn2, hh⟩
        refine Tri.has hh ?_
        refine Tri.seq ?_
        refine Tri.seq ?_
        refine Tri.region mixed eqsOk (eqs := eqs) ?_
        refine sO rfl rfl (oV rfl ?_)
        refine sO rfl rfl (oV rfl ?_)
        refine sO rfl rfl (oP rfl (fun h59 => ?_) (fun h59 => ?_))
        ·
          show Tri Try.prog 114 _ _ _ _
          refine Tri.has (l := [(0, _), (6, _), (7, _), (9, _), (59, _)]) ⟨rfl, rfl, rfl, rfl, rfl, trivial⟩ ?_
          refine Tri.cond (t := true) rfl (fun _ => ?_) (fun h => Bool.noConfusion h)
          refine Tri.skip ?_
          show Tri Try.prog 114 _ _ _ _
          refine Tri.has (l := [(0, _), (6, _), (7, _), (9, _), (59, _)]) ⟨rfl, rfl, rfl, rfl, rfl, trivial⟩ ?_
          refine Tri.seq ?_
          refine Tri.block ?_
          refine Tri.region mixed eqsOk (eqs := eqs) ?_
          refine sO rfl rfl (oW (at' (.ptr (some (_, 3)))) rfl rfl ?_)
          refine sO rfl rfl (oLoad (x := .at _) rfl (by repeat (first | assumption | exact Heap.push_new | exact Heap.set_newl (by first | (simp only [Heap.n_push, Heap.n_set]; omega) | exact Heap.get_lt (by assumption)) | refine Heap.push_old ?_ | refine Heap.set_old ?_ (by first | assumption | omega | (simp only [Heap.n_push, Heap.n_set]; omega)) (by first | (simp only [Heap.n_push, Heap.n_set]; omega) | exact Heap.get_lt (by assumption)))) rfl ?_)
          refine sO rfl rfl (oW (.one (.agg [_, .str [], .str [], .int .i64 0, .int .i64 0, .int .i64 0, .str [], .int .i64 0, .slice none 0, .int .i64 0, .int .i64 0, .str [], .int .i64 0, .slice none 0, .slice none 0, .slice none 0, .slice none 0])) rfl rfl ?_)
          refine sO rfl rfl (oBS1 (n := 17) rfl rfl rfl rfl rfl (by omega) (by omega) rfl ?_)
          have hlen : ((List.replicate i (stm0 7 .zero [])).flatMap (cons17 (stmC 7 zerC (.slice none 0)))).length = i * 17 := by rw [flat_len (z := 17) (fun _ => rfl)]; rw [List.length_replicate]
          refine sO rfl rfl (oAppRow (lo := H.n + 2) (n := i) (m := 1) (cs := (List.replicate i (stm0 7 .zero [])).flatMap (cons17 (stmC 7 zerC (.slice none 0)))) rfl rfl rfl rfl (by repeat (first | assumption | refine RowA.push ?_ | refine RowA.set ?_ (by repeat (first | assumption | exact Heap.push_new | exact Heap.set_newl (by first | (simp only [Heap.n_push, Heap.n_set]; omega) | exact Heap.get_lt (by assumption)) | refine Heap.push_old ?_ | refine Heap.set_old ?_ (by first | assumption | omega | (simp only [Heap.n_push, Heap.n_set]; omega)) (by first | (simp only [Heap.n_push, Heap.n_set]; omega) | exact Heap.get_lt (by assumption)))) (by intro e; cases e))) rfl (by repeat (first | assumption | exact Heap.push_new | exact Heap.set_newl (by first | (simp only [Heap.n_push, Heap.n_set]; omega) | exact Heap.get_lt (by assumption)) | refine Heap.push_old ?_ | refine Heap.set_old ?_ (by first | assumption | omega | (simp only [Heap.n_push, Heap.n_set]; omega)) (by first | (simp only [Heap.n_push, Heap.n_set]; omega) | exact Heap.get_lt (by assumption)))) rfl rfl rfl rfl rfl rfl rfl hlen (by (show (i + 1) * 248 ≤ _); omega) (by omega) (by simp only [Heap.n_push, Heap.n_set]; omega) (fun a2 H2 hr2 hn2 hg2 => ?_))
          have hc6 : H2.get (H.n + 1) = some (.cells 28 1 (fnC (.slice none 0) a numC)) := hg2 _ _ (by repeat (first | assumption | exact Heap.push_new | exact Heap.set_newl (by first | (simp only [Heap.n_push, Heap.n_set]; omega) | exact Heap.get_lt (by assumption)) | refine Heap.push_old ?_ | refine Heap.set_old ?_ (by first | assumption | omega | (simp only [Heap.n_push, Heap.n_set]; omega)) (by first | (simp only [Heap.n_push, Heap.n_set]; omega) | exact Heap.get_lt (by assumption)))) (.inl (by omega))
          simp only [Heap.n_push, Heap.n_set] at hn2
          refine sO rfl rfl (oW (at' (.ptr (some (_, 3)))) rfl rfl ?_)
          refine sO rfl rfl (oStore (n := 1) (cs' := [_, _, _, _, _, _, _, _, _]) rfl rfl rfl (by repeat (first | assumption | exact Heap.push_new | exact Heap.set_newl (by first | (simp only [Heap.n_push, Heap.n_set]; omega) | exact Heap.get_lt (by assumption)) | refine Heap.push_old ?_ | refine Heap.set_old ?_ (by first | assumption | omega | (simp only [Heap.n_push, Heap.n_set]; omega)) (by first | (simp only [Heap.n_push, Heap.n_set]; omega) | exact Heap.get_lt (by assumption)))) rfl (Nat.le_of_ble_eq_true rfl) rfl rfl ?_)
          show Tri Try.prog 114 _ _ _ _
          refine Tri.has (l := [(0, _), (6, _), (7, _), (9, _), (59, _)]) ⟨rfl, rfl, rfl, rfl, rfl, trivial⟩ ?_
          refine Tri.region mixed eqsOk (eqs := eqs) ?_
          refine sO rfl rfl (oV rfl ?_)
          refine sO rfl rfl (oAdd (m := 1) rfl (by omega) ?_)
          refine sO rfl rfl (oV rfl ?_)
          exact ⟨m - (i + 1), by omega, i + 1, m, a2, (by repeat (first | assumption | exact Heap.push_new | exact Heap.set_newl (by first | (simp only [Heap.n_push, Heap.n_set]; omega) | exact Heap.get_lt (by assumption)) | refine Heap.push_old ?_ | refine Heap.set_old ?_ (by first | assumption | omega | (simp only [Heap.n_push, Heap.n_set]; omega)) (by first | (simp only [Heap.n_push, Heap.n_set]; omega) | exact Heap.get_lt (by assumption)))), by rw [rep_snoc]; exact hr2.set hc6 (by intro e; cases e), rfl, by omega, hm, (by simp only [Heap.n_push, Heap.n_set]; omega), ⟨rfl, rfl, rfl, rfl, trivial⟩⟩
        ·
          show Tri Try.prog 114 _ _ _ _
          refine Tri.has (l := [(0, _), (6, _), (7, _), (9, _), (59, _)]) ⟨rfl, rfl, rfl, rfl, rfl, trivial⟩ ?_
          refine Tri.cond (t := false) rfl (fun h => Bool.noConfusion h) (fun _ => ?_)
          refine Tri.exit ?_
          have hil : i = m := by omega
          subst hil
          obtain ⟨p, rfl, hq⟩ := RowA.r (xs := List.replicate i (stm0 7 .zero [])) (f := cons17 (stmC 7 zerC (.slice none 0))) (z := 17) (by rw [List.length_replicate]; exact hr) (fun _ => rfl)
          exact ⟨1, i, 200, _, .inr (.inl ⟨rfl, hm, rfl⟩), fnL RowQ.nil (RowR.qm hq (fun _ => rfl) fun x hx => by rw [(List.mem_replicate.1 hx).2]; exact stmL (zerL _) RowQ.nil) (numL _), (by repeat (first | assumption | exact Heap.push_new | exact Heap.set_newl (by first | (simp only [Heap.n_push, Heap.n_set]; omega) | exact Heap.get_lt (by assumption)) | refine Heap.push_old ?_ | refine Heap.set_old ?_ (by first | assumption | omega | (simp only [Heap.n_push, Heap.n_set]; omega)) (by first | (simp only [Heap.n_push, Heap.n_set]; omega) | exact Heap.get_lt (by assumption)))), ⟨rfl, rfl, rfl, trivial⟩⟩
      ·
        refine sO rfl rfl (oV rfl ?_)
        show Tri Try.prog 114 _ _ _ _
        refine Tri.has (l := [(0, _), (1, _), (4, _), (5, _), (6, _), (7, _), (18, _), (33, _), (53, _)]) ⟨rfl, rfl, rfl, rfl, rfl, rfl, rfl, rfl, rfl, trivial⟩ ?_
        refine Tri.cond (t := false) rfl (fun h => Bool.noConfusion h) (fun _ => ?_)
        refine Tri.seq ?_
        refine Tri.region mixed eqsOk (eqs := eqs) ?_
        refine sO rfl rfl (oE rfl (fun h69 => ?_) (fun h69 => ?_))
        ·
          refine sO rfl rfl (oV rfl ?_)
          show Tri Try.prog 114 _ _ _ _
          refine Tri.has (l := [(0, _), (1, _), (4, _), (5, _), (6, _), (7, _), (18, _), (33, _), (53, _), (68, _)]) ⟨rfl, rfl, rfl, rfl, rfl, rfl, rfl, rfl, rfl, rfl, trivial⟩ ?_
          refine Tri.cond (t := true) rfl (fun _ => ?_) (fun h => Bool.noConfusion h)
          refine Tri.seq ?_
          refine Tri.region mixed eqsOk (eqs := eqs) ?_
          refine sO rfl rfl (oV rfl ?_)
          show Tri Try.prog 114 _ _ _ _
          refine Tri.has (l := [(0, _), (1, _), (4, _), (5, _), (6, _), (7, _), (18, _), (33, _), (53, _), (68, _)]) ⟨rfl, rfl, rfl, rfl, rfl, rfl, rfl, rfl, rfl, rfl, trivial⟩ ?_
          refine Tri.seq ?_
          refine Tri.region mixed eqsOk (eqs := eqs) ?_
          refine sO rfl rfl (oV rfl ?_)
          refine sO rfl rfl (oF rfl (fnOk_of Try.func12 (by decide) rfl) (Pick_ok n 40 _ (by omega) (by omega)) ?_)
          refine sO rfl rfl (oV rfl ?_)
          show Tri Try.prog 114 _ _ _ _
          refine Tri.has (l := [(0, _), (1, _), (4, _), (5, _), (6, _), (7, _), (18, _), (33, _), (53, _), (68, _)]) ⟨rfl, rfl, rfl, rfl, rfl, rfl, rfl, rfl, rfl, rfl, trivial⟩ ?_
          refine Tri.seq ?_
          refine Tri.region mixed eqsOk (eqs := eqs) ?_
          refine sO rfl rfl (oV rfl ?_)
          show Tri Try.prog 114 _ _ _ _
          refine Tri.has (l := [(0, _), (1, _), (4, _), (5, _), (6, _), (7, _), (10, _), (18, _), (33, _), (53, _), (68, _)]) ⟨rfl, rfl, rfl, rfl, rfl, rfl, rfl, rfl, rfl, rfl, rfl, trivial⟩ ?_
          refine Tri.block ?_
          refine Tri.loop (fun k lk1 H1 => ∃ (i m : Nat) (a : AT), H1.get (H.n + 1) = some (.cells 28 1 (fnC (.slice none 0) a numC)) ∧ H1.get H.n = some (.cells 24 1 numC) ∧ RowA H1 (H.n + 2) 46 i ((List.replicate i (stm0 4 numX [])).flatMap (cons17 (stmC 4 numC (.slice none 0)))) a ∧ k = m - i ∧ i ≤ m ∧ m < 40 ∧ H.n + 2 ≤ H1.n ∧ Has lk1 [(0, at' (.int .i64 m)), (5, at' (.ptr (some (H.n, 0)))), (6, at' (.ptr (some (H.n + 1, 0)))), (7, at' (.int .i64 (16 : Nat))), (10, at' (.int .i64 i))]) (pk n 40) (⟨0, pk n 40, _, (by repeat (first | assumption | exact Heap.push_new | exact Heap.set_newl (by first | (simp only [Heap.n_push, Heap.n_set]; omega) | exact Heap.get_lt (by assumption)) | refine Heap.push_old ?_ | refine Heap.set_old ?_ (by first | assumption | omega | (simp only [Heap.n_push, Heap.n_set]; omega)) (by first | (simp only [Heap.n_push, Heap.n_set]; omega) | exact Heap.get_lt (by assumption)))), (by repeat (first | assumption | exact Heap.push_new | exact Heap.set_newl (by first | (simp only [Heap.n_push, Heap.n_set]; omega) | exact Heap.get_lt (by assumption)) | refine Heap.push_old ?_ | refine Heap.set_old ?_ (by first | assumption | omega | (simp only [Heap.n_push, Heap.n_set]; omega)) (by first | (simp only [Heap.n_push, Heap.n_set]; omega) | exact Heap.get_lt (by assumption)))), RowA.nil _ _ _, rfl, by omega, pk_lt n 40 (by omega), by simp only [Heap.n_push, Heap.n_set]; omega, ⟨rfl, rfl, rfl, rfl, rfl, trivial⟩⟩) ?_
          rintro k29 lk29 H29 ⟨i, m, a, hc, h5, hr, hk, hi, hm, hn2, hh⟩
          refine Tri.has hh ?_
          refine Tri.seq ?_
          refine Tri.seq ?_
          refine Tri.region mixed eqsOk (eqs := eqs) ?_
          refine sO rfl rfl (oV rfl ?_)
          refine sO rfl rfl (oV rfl ?_)
          refine sO rfl rfl (oP rfl (fun h74 => ?_) (fun h74 => ?_))
          ·
            show Tri Try.prog 114 _ _ _ _
            refine Tri.has (l := [(0, _), (5, _), (6, _), (7, _), (10, _), (74, _)]) ⟨rfl, rfl, rfl, rfl, rfl, rfl, trivial⟩ ?_
            refine Tri.cond (t := true) rfl (fun _ => ?_) (fun h => Bool.noConfusion h)
            refine Tri.skip ?_
            show Tri Try.prog 114 _ _ _ _
            refine Tri.has (l := [(0, _), (5, _), (6, _), (7, _), (10, _), (74, _)]) ⟨rfl, rfl, rfl, rfl, rfl, rfl, trivial⟩ ?_
            refine Tri.seq ?_
            refine Tri.block ?_
            refine Tri.region mixed eqsOk (eqs := eqs) ?_
            refine sO rfl rfl (oW (at' (.ptr (some (_, 3)))) rfl rfl ?_)
            refine sO rfl rfl (oLoad (x := .at _) rfl (by repeat (first | assumption | exact Heap.push_new | exact Heap.set_newl (by first | (simp only [Heap.n_push, Heap.n_set]; omega) | exact Heap.get_lt (by assumption)) | refine Heap.push_old ?_ | refine Heap.set_old ?_ (by first | assumption | omega | (simp only [Heap.n_push, Heap.n_set]; omega)) (by first | (simp only [Heap.n_push, Heap.n_set]; omega) | exact Heap.get_lt (by assumption)))) rfl ?_)
            refine sO rfl rfl (oLoad (x := .agg [_, _, _, _, _]) rfl (by repeat (first | assumption | exact Heap.push_new | exact Heap.set_newl (by first | (simp only [Heap.n_push, Heap.n_set]; omega) | exact Heap.get_lt (by assumption)) | refine Heap.push_old ?_ | refine Heap.set_old ?_ (by first | assumption | omega | (simp only [Heap.n_push, Heap.n_set]; omega)) (by first | (simp only [Heap.n_push, Heap.n_set]; omega) | exact Heap.get_lt (by assumption)))) rfl ?_)
            refine sO rfl rfl (oW (.one (.agg [_, .str [], .str [], .int .i64 0, .int .i64 0, .int .i64 0, .str [], .int .i64 0, .slice none 0, _, _, _, _, _, .slice none 0, .slice none 0, .slice none 0])) rfl rfl ?_)
            refine sO rfl rfl (oBS1 (n := 17) rfl rfl rfl rfl rfl (by omega) (by omega) rfl ?_)
            have hlen : ((List.replicate i (stm0 4 numX [])).flatMap (cons17 (stmC 4 numC (.slice none 0)))).length = i * 17 := by rw [flat_len (z := 17) (fun _ => rfl)]; rw [List.length_replicate]
            refine sO rfl rfl (oAppRow (lo := H.n + 2) (n := i) (m := 1) (cs := (List.replicate i (stm0 4 numX [])).flatMap (cons17 (stmC 4 numC (.slice none 0)))) rfl rfl rfl rfl (by repeat (first | assumption | refine RowA.push ?_ | refine RowA.set ?_ (by repeat (first | assumption | exact Heap.push_new | exact Heap.set_newl (by first | (simp only [Heap.n_push, Heap.n_set]; omega) | exact Heap.get_lt (by assumption)) | refine Heap.push_old ?_ | refine Heap.set_old ?_ (by first | assumption | omega | (simp only [Heap.n_push, Heap.n_set]; omega)) (by first | (simp only [Heap.n_push, Heap.n_set]; omega) | exact Heap.get_lt (by assumption)))) (by intro e; cases e))) rfl (by repeat (first | assumption | exact Heap.push_new | exact Heap.set_newl (by first | (simp only [Heap.n_push, Heap.n_set]; omega) | exact Heap.get_lt (by assumption)) | refine Heap.push_old ?_ | refine Heap.set_old ?_ (by first | assumption | omega | (simp only [Heap.n_push, Heap.n_set]; omega)) (by first | (simp only [Heap.n_push, Heap.n_set]; omega) | exact Heap.get_lt (by assumption)))) rfl rfl rfl rfl rfl rfl rfl hlen (by (show (i + 1) * 248 ≤ _); omega) (by omega) (by simp only [Heap.n_push, Heap.n_set]; omega) (fun a2 H2 hr2 hn2 hg2 => ?_))
            have hc6 : H2.get (H.n + 1) = some (.cells 28 1 (fnC (.slice none 0) a numC)) := hg2 _ _ (by repeat (first | assumption | exact Heap.push_new | exact Heap.set_newl (by first | (simp only [Heap.n_push, Heap.n_set]; omega) | exact Heap.get_lt (by assumption)) | refine Heap.push_old ?_ | refine Heap.set_old ?_ (by first | assumption | omega | (simp only [Heap.n_push, Heap.n_set]; omega)) (by first | (simp only [Heap.n_push, Heap.n_set]; omega) | exact Heap.get_lt (by assumption)))) (.inl (by omega))
            have h56 : H2.get H.n = some (.cells 24 1 numC) := hg2 _ _ (by repeat (first | assumption | exact Heap.push_new | exact Heap.set_newl (by first | (simp only [Heap.n_push, Heap.n_set]; omega) | exact Heap.get_lt (by assumption)) | refine Heap.push_old ?_ | refine Heap.set_old ?_ (by first | assumption | omega | (simp only [Heap.n_push, Heap.n_set]; omega)) (by first | (simp only [Heap.n_push, Heap.n_set]; omega) | exact Heap.get_lt (by assumption)))) (.inl (by omega))
            simp only [Heap.n_push, Heap.n_set] at hn2
            refine sO rfl rfl (oW (at' (.ptr (some (_, 3)))) rfl rfl ?_)
            refine sO rfl rfl (oStore (n := 1) (cs' := [_, _, _, _, _, _, _, _, _]) rfl rfl rfl (by repeat (first | assumption | exact Heap.push_new | exact Heap.set_newl (by first | (simp only [Heap.n_push, Heap.n_set]; omega) | exact Heap.get_lt (by assumption)) | refine Heap.push_old ?_ | refine Heap.set_old ?_ (by first | assumption | omega | (simp only [Heap.n_push, Heap.n_set]; omega)) (by first | (simp only [Heap.n_push, Heap.n_set]; omega) | exact Heap.get_lt (by assumption)))) rfl (Nat.le_of_ble_eq_true rfl) rfl rfl ?_)
            show Tri Try.prog 114 _ _ _ _
            refine Tri.has (l := [(0, _), (5, _), (6, _), (7, _), (10, _), (74, _)]) ⟨rfl, rfl, rfl, rfl, rfl, rfl, trivial⟩ ?_
            refine Tri.region mixed eqsOk (eqs := eqs) ?_
            refine sO rfl rfl (oV rfl ?_)
            refine sO rfl rfl (oAdd (m := 1) rfl (by omega) ?_)
            refine sO rfl rfl (oV rfl ?_)
            exact ⟨m - (i + 1), by omega, i + 1, m, a2, (by repeat (first | assumption | exact Heap.push_new | exact Heap.set_newl (by first | (simp only [Heap.n_push, Heap.n_set]; omega) | exact Heap.get_lt (by assumption)) | refine Heap.push_old ?_ | refine Heap.set_old ?_ (by first | assumption | omega | (simp only [Heap.n_push, Heap.n_set]; omega)) (by first | (simp only [Heap.n_push, Heap.n_set]; omega) | exact Heap.get_lt (by assumption)))), (by repeat (first | assumption | exact Heap.push_new | exact Heap.set_newl (by first | (simp only [Heap.n_push, Heap.n_set]; omega) | exact Heap.get_lt (by assumption)) | refine Heap.push_old ?_ | refine Heap.set_old ?_ (by first | assumption | omega | (simp only [Heap.n_push, Heap.n_set]; omega)) (by first | (simp only [Heap.n_push, Heap.n_set]; omega) | exact Heap.get_lt (by assumption)))), by rw [rep_snoc]; exact hr2.set hc6 (by intro e; cases e), rfl, by omega, hm, (by simp only [Heap.n_push, Heap.n_set]; omega), ⟨rfl, rfl, rfl, rfl, rfl, trivial⟩⟩
          ·
            show Tri Try.prog 114 _ _ _ _
            refine Tri.has (l := [(0, _), (5, _), (6, _), (7, _), (10, _), (74, _)]) ⟨rfl, rfl, rfl, rfl, rfl, rfl, trivial⟩ ?_
            refine Tri.cond (t := false) rfl (fun h => Bool.noConfusion h) (fun _ => ?_)
            refine Tri.exit ?_
            have hil : i = m := by omega
            subst hil
            obtain ⟨p, rfl, hq⟩ := RowA.r (xs := List.replicate i (stm0 4 numX [])) (f := cons17 (stmC 4 numC (.slice none 0))) (z := 17) (by rw [List.length_replicate]; exact hr) (fun _ => rfl)
            exact ⟨2, i, 16, _, .inr (.inr (.inl ⟨rfl, hm, rfl⟩)), fnL RowQ.nil (RowR.qm hq (fun _ => rfl) fun x hx => by rw [(List.mem_replicate.1 hx).2]; exact stmL (numL _) RowQ.nil) (numL _), (by repeat (first | assumption | exact Heap.push_new | exact Heap.set_newl (by first | (simp only [Heap.n_push, Heap.n_set]; omega) | exact Heap.get_lt (by assumption)) | refine Heap.push_old ?_ | refine Heap.set_old ?_ (by first | assumption | omega | (simp only [Heap.n_push, Heap.n_set]; omega)) (by first | (simp only [Heap.n_push, Heap.n_set]; omega) | exact Heap.get_lt (by assumption)))), ⟨rfl, rfl, rfl, trivial⟩⟩
        ·
          refine sO rfl rfl (oV rfl ?_)
          show Tri Try.prog 114 _ _ _ _
          refine Tri.has (l := [(0, _), (1, _), (4, _), (5, _), (6, _), (7, _), (18, _), (33, _), (53, _), (68, _)]) ⟨rfl, rfl, rfl, rfl, rfl, rfl, rfl, rfl, rfl, rfl, trivial⟩ ?_
          refine Tri.cond (t := false) rfl (fun h => Bool.noConfusion h) (fun _ => ?_)
          refine Tri.seq ?_
          refine Tri.region mixed eqsOk (eqs := eqs) ?_
          refine sO rfl rfl (oE rfl (fun h85 => ?_) (fun h85 => ?_))
          ·
            refine sO rfl rfl (oV rfl ?_)
            show Tri Try.prog 114 _ _ _ _
            refine Tri.has (l := [(0, _), (1, _), (4, _), (5, _), (6, _), (7, _), (18, _), (33, _), (53, _), (68, _), (84, _)]) ⟨rfl, rfl, rfl, rfl, rfl, rfl, rfl, rfl, rfl, rfl, rfl, trivial⟩ ?_
            refine Tri.cond (t := true) rfl (fun _ => ?_) (fun h => Bool.noConfusion h)
            refine Tri.seq ?_
            refine Tri.region mixed eqsOk (eqs := eqs) ?_
            refine sO rfl rfl (oV rfl ?_)
            show Tri Try.prog 114 _ _ _ _
            refine Tri.has (l := [(0, _), (1, _), (4, _), (5, _), (6, _), (7, _), (18, _), (33, _), (53, _), (68, _), (84, _)]) ⟨rfl, rfl, rfl, rfl, rfl, rfl, rfl, rfl, rfl, rfl, rfl, trivial⟩ ?_
            refine Tri.seq ?_
            refine Tri.region mixed eqsOk (eqs := eqs) ?_
            refine sO rfl rfl (oV rfl ?_)
            refine sO rfl rfl (oF rfl (fnOk_of Try.func12 (by decide) rfl) (Pick_ok n 50 _ (by omega) (by omega)) ?_)
            refine sO rfl rfl (oV rfl ?_)
            show Tri Try.prog 114 _ _ _ _
            refine Tri.has (l := [(0, _), (1, _), (4, _), (5, _), (6, _), (7, _), (18, _), (33, _), (53, _), (68, _), (84, _)]) ⟨rfl, rfl, rfl, rfl, rfl, rfl, rfl, rfl, rfl, rfl, rfl, trivial⟩ ?_
            refine Tri.seq ?_
            refine Tri.region mixed eqsOk (eqs := eqs) ?_
            refine sO rfl rfl (oW (.one (.agg [_, .str [], .str [], .int .i64 0, .int .i64 0, .int .i64 0, .str [], .int .i64 0, .slice none 0, .int .i64 0, .int .i64 0, .str [], .int .i64 0, .slice none 0, .slice none 0, .slice none 0, .slice none 0])) rfl rfl ?_)
            refine sO rfl rfl (oBS1 (n := 17) rfl rfl rfl rfl rfl (by omega) (by omega) rfl ?_)
            refine sO rfl rfl (oW (at' (.ptr (some (_, 3)))) rfl rfl ?_)
            refine sO rfl rfl (oStore (n := 1) (cs' := [_, _, _, _, _, _, _, _, _]) rfl rfl rfl (by repeat (first | assumption | exact Heap.push_new | exact Heap.set_newl (by first | (simp only [Heap.n_push, Heap.n_set]; omega) | exact Heap.get_lt (by assumption)) | refine Heap.push_old ?_ | refine Heap.set_old ?_ (by first | assumption | omega | (simp only [Heap.n_push, Heap.n_set]; omega)) (by first | (simp only [Heap.n_push, Heap.n_set]; omega) | exact Heap.get_lt (by assumption)))) rfl (Nat.le_of_ble_eq_true rfl) rfl rfl ?_)
            show Tri Try.prog 114 _ _ _ _
            refine Tri.has (l := [(0, _), (1, _), (4, _), (5, _), (6, _), (7, _), (18, _), (33, _), (53, _), (68, _), (84, _)]) ⟨rfl, rfl, rfl, rfl, rfl, rfl, rfl, rfl, rfl, rfl, rfl, trivial⟩ ?_
            refine Tri.seq ?_
            refine Tri.region mixed eqsOk (eqs := eqs) ?_
            refine sO rfl rfl (oV rfl ?_)
            show Tri Try.prog 114 _ _ _ _
            refine Tri.has (l := [(0, _), (1, _), (4, _), (5, _), (6, _), (7, _), (11, _), (18, _), (33, _), (53, _), (68, _), (84, _)]) ⟨rfl, rfl, rfl, rfl, rfl, rfl, rfl, rfl, rfl, rfl, rfl, rfl, trivial⟩ ?_
            refine Tri.block ?_
            refine Tri.loop (fun k lk1 H1 => ∃ (i m : Nat) (pb : Option (Nat × Nat)), H1.get (H.n + 1) = some (.cells 28 1 (fnC (.slice none 0) (.slice pb 1) numC)) ∧ H1.get H.n = some (.cells 24 1 numC) ∧ (∃ L, RowQ L 17 (LM L) (nestS i) pb ∧ KD (H.n + 1) L H1) ∧ k = m - i ∧ i ≤ m ∧ m < 50 ∧ H.n + 2 ≤ H1.n ∧ Has lk1 [(0, at' (.int .i64 m)), (5, at' (.ptr (some (H.n, 0)))), (6, at' (.ptr (some (H.n + 1, 0)))), (7, at' (.int .i64 (20 : Nat))), (11, at' (.int .i64 i))]) (pk n 50) (⟨0, pk n 50, _, (by repeat (first | assumption | exact Heap.push_new | exact Heap.set_newl (by first | (simp only [Heap.n_push, Heap.n_set]; omega) | exact Heap.get_lt (by assumption)) | refine Heap.push_old ?_ | refine Heap.set_old ?_ (by first | assumption | omega | (simp only [Heap.n_push, Heap.n_set]; omega)) (by first | (simp only [Heap.n_push, Heap.n_set]; omega) | exact Heap.get_lt (by assumption)))), (by repeat (first | assumption | exact Heap.push_new | exact Heap.set_newl (by first | (simp only [Heap.n_push, Heap.n_set]; omega) | exact Heap.get_lt (by assumption)) | refine Heap.push_old ?_ | refine Heap.set_old ?_ (by first | assumption | omega | (simp only [Heap.n_push, Heap.n_set]; omega)) (by first | (simp only [Heap.n_push, Heap.n_set]; omega) | exact Heap.get_lt (by assumption)))), nest0 (by repeat (first | assumption | exact Heap.push_new | exact Heap.set_newl (by first | (simp only [Heap.n_push, Heap.n_set]; omega) | exact Heap.get_lt (by assumption)) | refine Heap.push_old ?_ | refine Heap.set_old ?_ (by first | assumption | omega | (simp only [Heap.n_push, Heap.n_set]; omega)) (by first | (simp only [Heap.n_push, Heap.n_set]; omega) | exact Heap.get_lt (by assumption)))) (by simp only [Heap.n_push, Heap.n_set]; omega) (by first | omega | (simp only [Heap.n_push, Heap.n_set]; omega)), rfl, by omega, pk_lt n 50 (by omega), by simp only [Heap.n_push, Heap.n_set]; omega, ⟨rfl, rfl, rfl, rfl, rfl, trivial⟩⟩) ?_
            rintro k37 lk37 H37 ⟨i, m, pb, hc, h5, hr, hk, hi, hm, hn2, hh⟩
            refine Tri.has hh ?_
            refine Tri.seq ?_
            refine Tri.seq ?_
            refine Tri.region mixed eqsOk (eqs := eqs) ?_
            refine sO rfl rfl (oV rfl ?_)
            refine sO rfl rfl (oV rfl ?_)
            refine sO rfl rfl (oP rfl (fun h93 => ?_) (fun h93 => ?_))
            ·
              show Tri Try.prog 114 _ _ _ _
              refine Tri.has (l := [(0, _), (5, _), (6, _), (7, _), (11, _), (93, _)]) ⟨rfl, rfl, rfl, rfl, rfl, rfl, trivial⟩ ?_
              refine Tri.cond (t := true) rfl (fun _ => ?_) (fun h => Bool.noConfusion h)
              refine Tri.skip ?_
              show Tri Try.prog 114 _ _ _ _
              refine Tri.has (l := [(0, _), (5, _), (6, _), (7, _), (11, _), (93, _)]) ⟨rfl, rfl, rfl, rfl, rfl, rfl, trivial⟩ ?_
              refine Tri.seq ?_
              refine Tri.block ?_
              refine Tri.region mixed eqsOk (eqs := eqs) ?_
              refine sO rfl rfl (oLoad (x := .agg [_, _, _, _, _]) rfl (by repeat (first | assumption | exact Heap.push_new | exact Heap.set_newl (by first | (simp only [Heap.n_push, Heap.n_set]; omega) | exact Heap.get_lt (by assumption)) | refine Heap.push_old ?_ | refine Heap.set_old ?_ (by first | assumption | omega | (simp only [Heap.n_push, Heap.n_set]; omega)) (by first | (simp only [Heap.n_push, Heap.n_set]; omega) | exact Heap.get_lt (by assumption)))) rfl ?_)
              refine sO rfl rfl (oW (at' (.ptr (some (_, 3)))) rfl rfl ?_)
              refine sO rfl rfl (oLoad (x := .at _) rfl (by repeat (first | assumption | exact Heap.push_new | exact Heap.set_newl (by first | (simp only [Heap.n_push, Heap.n_set]; omega) | exact Heap.get_lt (by assumption)) | refine Heap.push_old ?_ | refine Heap.set_old ?_ (by first | assumption | omega | (simp only [Heap.n_push, Heap.n_set]; omega)) (by first | (simp only [Heap.n_push, Heap.n_set]; omega) | exact Heap.get_lt (by assumption)))) rfl ?_)
              refine sO rfl rfl (oW (.one (.agg [_, .str [], .str [], .int .i64 0, .int .i64 0, .int .i64 0, .str [], .int .i64 0, .slice none 0, _, _, _, _, _, .slice none 0, .slice none 0, _])) rfl rfl ?_)
              refine sO rfl rfl (oBS1 (n := 17) rfl rfl rfl rfl rfl (by omega) (by omega) rfl ?_)
              refine sO rfl rfl (oW (at' (.ptr (some (_, 3)))) rfl rfl ?_)
              refine sO rfl rfl (oStore (n := 1) (cs' := [_, _, _, _, _, _, _, _, _]) rfl rfl rfl (by repeat (first | assumption | exact Heap.push_new | exact Heap.set_newl (by first | (simp only [Heap.n_push, Heap.n_set]; omega) | exact Heap.get_lt (by assumption)) | refine Heap.push_old ?_ | refine Heap.set_old ?_ (by first | assumption | omega | (simp only [Heap.n_push, Heap.n_set]; omega)) (by first | (simp only [Heap.n_push, Heap.n_set]; omega) | exact Heap.get_lt (by assumption)))) rfl (Nat.le_of_ble_eq_true rfl) rfl rfl ?_)
              show Tri Try.prog 114 _ _ _ _
              refine Tri.has (l := [(0, _), (5, _), (6, _), (7, _), (11, _), (93, _)]) ⟨rfl, rfl, rfl, rfl, rfl, rfl, trivial⟩ ?_
              refine Tri.region mixed eqsOk (eqs := eqs) ?_
              refine sO rfl rfl (oV rfl ?_)
              refine sO rfl rfl (oAdd (m := 1) rfl (by omega) ?_)
              refine sO rfl rfl (oV rfl ?_)
              exact ⟨m - (i + 1), by omega, i + 1, m, _, (by repeat (first | assumption | exact Heap.push_new | exact Heap.set_newl (by first | (simp only [Heap.n_push, Heap.n_set]; omega) | exact Heap.get_lt (by assumption)) | refine Heap.push_old ?_ | refine Heap.set_old ?_ (by first | assumption | omega | (simp only [Heap.n_push, Heap.n_set]; omega)) (by first | (simp only [Heap.n_push, Heap.n_set]; omega) | exact Heap.get_lt (by assumption)))), (by repeat (first | assumption | exact Heap.push_new | exact Heap.set_newl (by first | (simp only [Heap.n_push, Heap.n_set]; omega) | exact Heap.get_lt (by assumption)) | refine Heap.push_old ?_ | refine Heap.set_old ?_ (by first | assumption | omega | (simp only [Heap.n_push, Heap.n_set]; omega)) (by first | (simp only [Heap.n_push, Heap.n_set]; omega) | exact Heap.get_lt (by assumption)))), nestS_step hr (by repeat (first | exact Kp.refl | refine Kp.push ?_ | refine Kp.set ?_ (by first | (simp only [Heap.n_push, Heap.n_set]; omega) | exact Heap.get_lt (by assumption)) (.inl (by simp)))) (by simp only [Heap.n_push, Heap.n_set]; omega) (by first | omega | (simp only [Heap.n_push, Heap.n_set]; omega)) (by repeat (first | assumption | exact Heap.push_new | exact Heap.set_newl (by first | (simp only [Heap.n_push, Heap.n_set]; omega) | exact Heap.get_lt (by assumption)) | refine Heap.push_old ?_ | refine Heap.set_old ?_ (by first | assumption | omega | (simp only [Heap.n_push, Heap.n_set]; omega)) (by first | (simp only [Heap.n_push, Heap.n_set]; omega) | exact Heap.get_lt (by assumption)))), rfl, by omega, hm, (by simp only [Heap.n_push, Heap.n_set]; omega), ⟨rfl, rfl, rfl, rfl, rfl, trivial⟩⟩
            ·
              show Tri Try.prog 114 _ _ _ _
              refine Tri.has (l := [(0, _), (5, _), (6, _), (7, _), (11, _), (93, _)]) ⟨rfl, rfl, rfl, rfl, rfl, rfl, trivial⟩ ?_
              refine Tri.cond (t := false) rfl (fun h => Bool.noConfusion h) (fun _ => ?_)
              refine Tri.exit ?_
              have hil : i = m := by omega
              subst hil
              obtain ⟨L, hr, hkd⟩ := hr
              have hnl := nest_len i
              exact ⟨3, i, 20, _, .inr (.inr (.inr (.inl ⟨rfl, hm, rfl⟩))), by have e := fnL (ls := []) (pl := none) (e := numX) RowQ.nil (hr.imp hkd.kp fun s _ => LM.kp hkd.kp s) (numL _); rw [hnl] at e; exact e, (by repeat (first | assumption | exact Heap.push_new | exact Heap.set_newl (by first | (simp only [Heap.n_push, Heap.n_set]; omega) | exact Heap.get_lt (by assumption)) | refine Heap.push_old ?_ | refine Heap.set_old ?_ (by first | assumption | omega | (simp only [Heap.n_push, Heap.n_set]; omega)) (by first | (simp only [Heap.n_push, Heap.n_set]; omega) | exact Heap.get_lt (by assumption)))), ⟨rfl, rfl, rfl, trivial⟩⟩
          ·
            refine sO rfl rfl (oV rfl ?_)
            show Tri Try.prog 114 _ _ _ _
            refine Tri.has (l := [(0, _), (1, _), (4, _), (5, _), (6, _), (7, _), (18, _), (33, _), (53, _), (68, _), (84, _)]) ⟨rfl, rfl, rfl, rfl, rfl, rfl, rfl, rfl, rfl, rfl, rfl, trivial⟩ ?_
            refine Tri.cond (t := false) rfl (fun h => Bool.noConfusion h) (fun _ => ?_)
            refine Tri.seq ?_
            refine Tri.region mixed eqsOk (eqs := eqs) ?_
            refine sO rfl rfl (oV rfl ?_)
            show Tri Try.prog 114 _ _ _ _
            refine Tri.has (l := [(0, _), (1, _), (4, _), (5, _), (6, _), (7, _), (18, _), (33, _), (53, _), (68, _), (84, _)]) ⟨rfl, rfl, rfl, rfl, rfl, rfl, rfl, rfl, rfl, rfl, rfl, trivial⟩ ?_
            refine Tri.seq ?_
            refine Tri.region mixed eqsOk (eqs := eqs) ?_
            refine sO rfl rfl (oV rfl ?_)
            refine sO rfl rfl (oF rfl (fnOk_of Try.func12 (by decide) rfl) (Pick_ok n 50 _ (by omega) (by omega)) ?_)
            refine sO rfl rfl (oV rfl ?_)
            show Tri Try.prog 114 _ _ _ _
            refine Tri.has (l := [(0, _), (1, _), (4, _), (5, _), (6, _), (7, _), (18, _), (33, _), (53, _), (68, _), (84, _)]) ⟨rfl, rfl, rfl, rfl, rfl, rfl, rfl, rfl, rfl, rfl, rfl, trivial⟩ ?_
            refine Tri.seq ?_
            refine Tri.region mixed eqsOk (eqs := eqs) ?_
            refine sO rfl rfl (oV rfl ?_)
            show Tri Try.prog 114 _ _ _ _
            refine Tri.has (l := [(0, _), (1, _), (4, _), (5, _), (6, _), (7, _), (12, _), (18, _), (33, _), (53, _), (68, _), (84, _)]) ⟨rfl, rfl, rfl, rfl, rfl, rfl, rfl, rfl, rfl, rfl, rfl, rfl, trivial⟩ ?_
            refine Tri.block ?_
            refine Tri.loop (fun k lk1 H1 => ∃ (i m : Nat) (cv : List AT), H1.get (H.n + 1) = some (.cells 28 1 (fnC (.slice none 0) (.slice none 0) cv)) ∧ H1.get H.n = some (.cells 24 1 numC) ∧ (∃ L, LX L (nestX i) cv ∧ KD (H.n + 1) L H1) ∧ k = m - i ∧ i ≤ m ∧ m < 50 ∧ H.n + 2 ≤ H1.n ∧ Has lk1 [(0, at' (.int .i64 m)), (5, at' (.ptr (some (H.n, 0)))), (6, at' (.ptr (some (H.n + 1, 0)))), (7, at' (.int .i64 (20 : Nat))), (12, at' (.int .i64 i))]) (pk n 50) (⟨0, pk n 50, numC, (by repeat (first | assumption | exact Heap.push_new | exact Heap.set_newl (by first | (simp only [Heap.n_push, Heap.n_set]; omega) | exact Heap.get_lt (by assumption)) | refine Heap.push_old ?_ | refine Heap.set_old ?_ (by first | assumption | omega | (simp only [Heap.n_push, Heap.n_set]; omega)) (by first | (simp only [Heap.n_push, Heap.n_set]; omega) | exact Heap.get_lt (by assumption)))), (by repeat (first | assumption | exact Heap.push_new | exact Heap.set_newl (by first | (simp only [Heap.n_push, Heap.n_set]; omega) | exact Heap.get_lt (by assumption)) | refine Heap.push_old ?_ | refine Heap.set_old ?_ (by first | assumption | omega | (simp only [Heap.n_push, Heap.n_set]; omega)) (by first | (simp only [Heap.n_push, Heap.n_set]; omega) | exact Heap.get_lt (by assumption)))), nestX0 (by simp only [Heap.n_push, Heap.n_set]; omega), rfl, by omega, pk_lt n 50 (by omega), by simp only [Heap.n_push, Heap.n_set]; omega, ⟨rfl, rfl, rfl, rfl, rfl, trivial⟩⟩) ?_
            rintro k8 lk8 H8 ⟨i, m, cv, hc, h5, hr, hk, hi, hm, hn2, hh⟩
            refine Tri.has hh ?_
            refine Tri.seq ?_
            refine Tri.seq ?_
            refine Tri.region mixed eqsOk (eqs := eqs) ?_
            refine sO rfl rfl (oV rfl ?_)
            refine sO rfl rfl (oV rfl ?_)
            refine sO rfl rfl (oP rfl (fun h23 => ?_) (fun h23 => ?_))
            ·
              show Tri Try.prog 114 _ _ _ _
              refine Tri.has (l := [(0, _), (5, _), (6, _), (7, _), (12, _), (23, _)]) ⟨rfl, rfl, rfl, rfl, rfl, rfl, trivial⟩ ?_
              refine Tri.cond (t := true) rfl (fun _ => ?_) (fun h => Bool.noConfusion h)
              refine Tri.skip ?_
              show Tri Try.prog 114 _ _ _ _
              refine Tri.has (l := [(0, _), (5, _), (6, _), (7, _), (12, _), (23, _)]) ⟨rfl, rfl, rfl, rfl, rfl, rfl, trivial⟩ ?_
              refine Tri.seq ?_
              refine Tri.block ?_
              refine Tri.region mixed eqsOk (eqs := eqs) ?_
              refine sO rfl rfl (oLoad (x := .agg [_, _, _, _, _]) rfl (by repeat (first | assumption | exact Heap.push_new | exact Heap.set_newl (by first | (simp only [Heap.n_push, Heap.n_set]; omega) | exact Heap.get_lt (by assumption)) | refine Heap.push_old ?_ | refine Heap.set_old ?_ (by first | assumption | omega | (simp only [Heap.n_push, Heap.n_set]; omega)) (by first | (simp only [Heap.n_push, Heap.n_set]; omega) | exact Heap.get_lt (by assumption)))) rfl ?_)
              refine sO rfl rfl (oLoad (x := .agg [_, _, _, _, _]) rfl (by repeat (first | assumption | exact Heap.push_new | exact Heap.set_newl (by first | (simp only [Heap.n_push, Heap.n_set]; omega) | exact Heap.get_lt (by assumption)) | refine Heap.push_old ?_ | refine Heap.set_old ?_ (by first | assumption | omega | (simp only [Heap.n_push, Heap.n_set]; omega)) (by first | (simp only [Heap.n_push, Heap.n_set]; omega) | exact Heap.get_lt (by assumption)))) rfl ?_)
              refine sO rfl rfl (oW (at' (.ptr (some (_, 4)))) rfl rfl ?_)
              obtain ⟨L, hx, hkd⟩ := hr
              obtain ⟨p5, rfl, _⟩ := hx.out
              have hr : ∃ L, LX L (nestX i) _ ∧ KD (H.n + 1) L H8 := ⟨L, hx, hkd⟩
              refine sO rfl rfl (oLoad (x := .agg [_, _, _, _, _]) rfl (by repeat (first | assumption | exact Heap.push_new | exact Heap.set_newl (by first | (simp only [Heap.n_push, Heap.n_set]; omega) | exact Heap.get_lt (by assumption)) | refine Heap.push_old ?_ | refine Heap.set_old ?_ (by first | assumption | omega | (simp only [Heap.n_push, Heap.n_set]; omega)) (by first | (simp only [Heap.n_push, Heap.n_set]; omega) | exact Heap.get_lt (by assumption)))) rfl ?_)
              refine sO rfl rfl (oBS35 rfl rfl rfl rfl rfl rfl rfl ?_)
              refine sO rfl rfl (oW (.one (.agg [_, .int .i64 0, .str [], .int .i64 0, _])) rfl rfl ?_)
              refine sO rfl rfl (oW (at' (.ptr (some (_, 4)))) rfl rfl ?_)
              refine sO rfl rfl (oStore (n := 5) (cs' := [_, _, _, _, _, _, _, _, _]) rfl rfl rfl (by repeat (first | assumption | exact Heap.push_new | exact Heap.set_newl (by first | (simp only [Heap.n_push, Heap.n_set]; omega) | exact Heap.get_lt (by assumption)) | refine Heap.push_old ?_ | refine Heap.set_old ?_ (by first | assumption | omega | (simp only [Heap.n_push, Heap.n_set]; omega)) (by first | (simp only [Heap.n_push, Heap.n_set]; omega) | exact Heap.get_lt (by assumption)))) rfl (Nat.le_of_ble_eq_true rfl) rfl rfl ?_)
              show Tri Try.prog 114 _ _ _ _
              refine Tri.has (l := [(0, _), (5, _), (6, _), (7, _), (12, _), (23, _)]) ⟨rfl, rfl, rfl, rfl, rfl, rfl, trivial⟩ ?_
              refine Tri.region mixed eqsOk (eqs := eqs) ?_
              refine sO rfl rfl (oV rfl ?_)
              refine sO rfl rfl (oAdd (m := 1) rfl (by omega) ?_)
              refine sO rfl rfl (oV rfl ?_)
              exact ⟨m - (i + 1), by omega, i + 1, m, _, (by repeat (first | assumption | exact Heap.push_new | exact Heap.set_newl (by first | (simp only [Heap.n_push, Heap.n_set]; omega) | exact Heap.get_lt (by assumption)) | refine Heap.push_old ?_ | refine Heap.set_old ?_ (by first | assumption | omega | (simp only [Heap.n_push, Heap.n_set]; omega)) (by first | (simp only [Heap.n_push, Heap.n_set]; omega) | exact Heap.get_lt (by assumption)))), (by repeat (first | assumption | exact Heap.push_new | exact Heap.set_newl (by first | (simp only [Heap.n_push, Heap.n_set]; omega) | exact Heap.get_lt (by assumption)) | refine Heap.push_old ?_ | refine Heap.set_old ?_ (by first | assumption | omega | (simp only [Heap.n_push, Heap.n_set]; omega)) (by first | (simp only [Heap.n_push, Heap.n_set]; omega) | exact Heap.get_lt (by assumption)))), nestX_step hr (by repeat (first | exact Kp.refl | refine Kp.push ?_ | refine Kp.set ?_ (by first | (simp only [Heap.n_push, Heap.n_set]; omega) | exact Heap.get_lt (by assumption)) (.inl (by simp)))) (by simp only [Heap.n_push, Heap.n_set]; omega) (by first | omega | (simp only [Heap.n_push, Heap.n_set]; omega)) (by repeat (first | assumption | exact Heap.push_new | exact Heap.set_newl (by first | (simp only [Heap.n_push, Heap.n_set]; omega) | exact Heap.get_lt (by assumption)) | refine Heap.push_old ?_ | refine Heap.set_old ?_ (by first | assumption | omega | (simp only [Heap.n_push, Heap.n_set]; omega)) (by first | (simp only [Heap.n_push, Heap.n_set]; omega) | exact Heap.get_lt (by assumption)))), rfl, by omega, hm, (by simp only [Heap.n_push, Heap.n_set]; omega), ⟨rfl, rfl, rfl, rfl, rfl, trivial⟩⟩
            ·
              show Tri Try.prog 114 _ _ _ _
              refine Tri.has (l := [(0, _), (5, _), (6, _), (7, _), (12, _), (23, _)]) ⟨rfl, rfl, rfl, rfl, rfl, rfl, trivial⟩ ?_
              refine Tri.cond (t := false) rfl (fun h => Bool.noConfusion h) (fun _ => ?_)
              refine Tri.exit ?_
              have hil : i = m := by omega
              subst hil
              obtain ⟨L, hr, hkd⟩ := hr
              exact ⟨4, i, 20, _, .inr (.inr (.inr (.inr ⟨rfl, hm, rfl⟩))), fnL RowQ.nil RowQ.nil (LX.kp hkd.kp _ _ hr), (by repeat (first | assumption | exact Heap.push_new | exact Heap.set_newl (by first | (simp only [Heap.n_push, Heap.n_set]; omega) | exact Heap.get_lt (by assumption)) | refine Heap.push_old ?_ | refine Heap.set_old ?_ (by first | assumption | omega | (simp only [Heap.n_push, Heap.n_set]; omega)) (by first | (simp only [Heap.n_push, Heap.n_set]; omega) | exact Heap.get_lt (by assumption)))), ⟨rfl, rfl, rfl, trivial⟩⟩
  rintro lk1 H1 ⟨w, m, q, c, hLim, hLF, hc, hh⟩
  refine Tri.has hh ?_
  refine Tri.seq ?_
  refine Tri.region mixed eqsOk (eqs := eqs) ?_
  refine sO rfl rfl (oV rfl ?_)
  show Tri Try.prog 114 _ _ _ _
  refine Tri.has (l := [(0, _), (6, _), (7, _), (13, _)]) ⟨rfl, rfl, rfl, rfl, trivial⟩ ?_
  refine Tri.seq ?_
  refine Tri.seq ?_
  refine Tri.region mixed eqsOk (eqs := eqs) ?_
  refine sO rfl rfl (oV rfl ?_)
  refine sO rfl rfl (oV rfl ?_)
  refine sO rfl rfl (oP rfl (fun h104 => ?_) (fun h104 => ?_))
  ·
    show Tri Try.prog 114 _ _ _ _
    refine Tri.has (l := [(0, _), (6, _), (7, _), (13, _), (104, _)]) ⟨rfl, rfl, rfl, rfl, rfl, trivial⟩ ?_
    refine Tri.cond (t := true) rfl (fun _ => ?_) (fun h => Bool.noConfusion h)
    refine Tri.region mixed eqsOk (eqs := eqs) ?_
    refine sO rfl rfl (oV rfl ?_)
    show Tri Try.prog 114 _ _ _ _
    refine Tri.has (l := [(0, _), (6, _), (7, _), (13, _), (104, _)]) ⟨rfl, rfl, rfl, rfl, rfl, trivial⟩ ?_
    refine Tri.seq ?_
    refine Tri.region mixed eqsOk (eqs := eqs) ?_
    have hcl := hLF.len
    have hn2 := Heap.get_lt hc
    refine sO rfl rfl (oLoad (x := .agg c) rfl (by repeat (first | assumption | exact Heap.push_new | exact Heap.set_newl (by first | (simp only [Heap.n_push, Heap.n_set]; omega) | exact Heap.get_lt (by assumption)) | refine Heap.push_old ?_ | refine Heap.set_old ?_ (by first | assumption | omega | (simp only [Heap.n_push, Heap.n_set]; omega)) (by first | (simp only [Heap.n_push, Heap.n_set]; omega) | exact Heap.get_lt (by assumption)))) (part_all (z := 9) (o := 0) (by rw [List.drop_zero, List.take_of_length_le (by omega)]) (by omega) rfl rfl rfl) ?_)
    refine sO rfl rfl (oBS1 (n := 9) rfl rfl rfl rfl rfl (by omega) (by omega) hcl ?_)
    refine sO rfl rfl (oW (.one (.agg [.slice none 0, _])) rfl rfl ?_)
    refine sO rfl rfl (oF rfl (fnOk_of Try.func8 (by decide) rfl) (Check_ok ⟨[], [limFn w m]⟩ _ _ ⟨none, _, rfl, RowQ.nil, RowQ.one (by repeat (first | assumption | exact Heap.push_new | exact Heap.set_newl (by first | (simp only [Heap.n_push, Heap.n_set]; omega) | exact Heap.get_lt (by assumption)) | refine Heap.push_old ?_ | refine Heap.set_old ?_ (by first | assumption | omega | (simp only [Heap.n_push, Heap.n_set]; omega)) (by first | (simp only [Heap.n_push, Heap.n_set]; omega) | exact Heap.get_lt (by assumption)))) hcl (LFn.kp (by repeat (first | exact Kp.refl | refine Kp.push ?_ | refine Kp.set ?_ (by first | (simp only [Heap.n_push, Heap.n_set]; omega) | exact Heap.get_lt (by assumption)) (.inr (by first | omega | (simp only [Heap.n_push, Heap.n_set]; omega))))) _ _ hLF)⟩ hLim.low) ?_)
    refine sO rfl rfl (oV rfl ?_)
    refine sO rfl rfl (oE rfl (fun h110 => ?_) (fun h110 => (h110 (by have e := hLim.law; unfold limR at e; rw [e, if_pos (by omega)])).elim))
    refine sO rfl rfl (oV rfl ?_)
    refine sO rfl rfl (oF rfl (fnOk_of Try.func3 (by decide) rfl) (examples_ok _) ?_)
    refine sO rfl rfl (oV rfl ?_)
    refine sO rfl rfl (oV rfl ?_)
    show Tri Try.prog 114 _ _ _ _
    refine Tri.has (l := [(0, _), (4, _), (6, _), (7, _), (13, _), (104, _)]) ⟨rfl, rfl, rfl, rfl, rfl, rfl, trivial⟩ ?_
    refine Tri.ret ?_
    refine ⟨trivial, _, rfl, ?_⟩
    exact ⟨rfl, trivial⟩
  ·
    show Tri Try.prog 114 _ _ _ _
    refine Tri.has (l := [(0, _), (6, _), (7, _), (13, _), (104, _)]) ⟨rfl, rfl, rfl, rfl, rfl, trivial⟩ ?_
    refine Tri.cond (t := false) rfl (fun h => Bool.noConfusion h) (fun _ => ?_)
    refine Tri.skip ?_
    show Tri Try.prog 114 _ _ _ _
    refine Tri.has (l := [(0, _), (6, _), (7, _), (13, _), (104, _)]) ⟨rfl, rfl, rfl, rfl, rfl, trivial⟩ ?_
    refine Tri.seq ?_
    refine Tri.region mixed eqsOk (eqs := eqs) ?_
    have hcl := hLF.len
    have hn2 := Heap.get_lt hc
    refine sO rfl rfl (oLoad (x := .agg c) rfl (by repeat (first | assumption | exact Heap.push_new | exact Heap.set_newl (by first | (simp only [Heap.n_push, Heap.n_set]; omega) | exact Heap.get_lt (by assumption)) | refine Heap.push_old ?_ | refine Heap.set_old ?_ (by first | assumption | omega | (simp only [Heap.n_push, Heap.n_set]; omega)) (by first | (simp only [Heap.n_push, Heap.n_set]; omega) | exact Heap.get_lt (by assumption)))) (part_all (z := 9) (o := 0) (by rw [List.drop_zero, List.take_of_length_le (by omega)]) (by omega) rfl rfl rfl) ?_)
    refine sO rfl rfl (oBS1 (n := 9) rfl rfl rfl rfl rfl (by omega) (by omega) hcl ?_)
    refine sO rfl rfl (oW (.one (.agg [.slice none 0, _])) rfl rfl ?_)
    refine sO rfl rfl (oF rfl (fnOk_of Try.func8 (by decide) rfl) (Check_ok ⟨[], [limFn w m]⟩ _ _ ⟨none, _, rfl, RowQ.nil, RowQ.one (by repeat (first | assumption | exact Heap.push_new | exact Heap.set_newl (by first | (simp only [Heap.n_push, Heap.n_set]; omega) | exact Heap.get_lt (by assumption)) | refine Heap.push_old ?_ | refine Heap.set_old ?_ (by first | assumption | omega | (simp only [Heap.n_push, Heap.n_set]; omega)) (by first | (simp only [Heap.n_push, Heap.n_set]; omega) | exact Heap.get_lt (by assumption)))) hcl (LFn.kp (by repeat (first | exact Kp.refl | refine Kp.push ?_ | refine Kp.set ?_ (by first | (simp only [Heap.n_push, Heap.n_set]; omega) | exact Heap.get_lt (by assumption)) (.inr (by first | omega | (simp only [Heap.n_push, Heap.n_set]; omega))))) _ _ hLF)⟩ hLim.low) ?_)
    refine sO rfl rfl (oV rfl ?_)
    refine sO rfl rfl (oE rfl (fun h110 => ?_) (fun h110 => (h110 (by have e := hLim.law; unfold limR at e; rw [e, if_neg (by omega)])).elim))
    refine sO rfl rfl (oV rfl ?_)
    refine sO rfl rfl (oF rfl (fnOk_of Try.func3 (by decide) rfl) (examples_ok _) ?_)
    refine sO rfl rfl (oV rfl ?_)
    refine sO rfl rfl (oV rfl ?_)
    show Tri Try.prog 114 _ _ _ _
    refine Tri.has (l := [(0, _), (4, _), (6, _), (7, _), (13, _), (104, _)]) ⟨rfl, rfl, rfl, rfl, rfl, rfl, trivial⟩ ?_
    refine Tri.ret ?_
    refine ⟨trivial, _, rfl, ?_⟩
    exact ⟨rfl, trivial⟩
end Go.Proofs.Ytceakkomleaibaa
