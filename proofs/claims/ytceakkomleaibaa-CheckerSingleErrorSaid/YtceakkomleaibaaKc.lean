/-
  CONTRACTS of the reader of seeds: Stmt, Stmts (printed by wip/tools/walk.py from wip/specs/keepC.py). Written in this session.
-/
import Derived.Test.YtceakkomleaibaaKb
namespace Go.Proofs.Ytceakkomleaibaa
open Go.Ea
set_option maxRecDepth 100000
set_option linter.unusedVariables false
set_option linter.unusedSimpArgs false

/-- The statements that are read, nested at most k deep. -/
inductive GS (nm : List (List UInt8)) : Nat → Stm → Prop
  | assign {k : Nat} {s : List UInt8} {v : Exp} (h : s ∈ nm) : GX nm 4 v → GS nm k (.mk 1 s [] 0 .zero v [] [] [])
  | store {k : Nat} {s : List UInt8} {a v : Exp} (h : s = [97] ∨ s = [98]) : GX nm 2 a → GX nm 3 v → GS nm k (.mk 2 s [] 0 a v [] [] [])
  | cond {k : Nat} {v : Exp} {thn els : List Stm} : GX nm 3 v → (∀ s ∈ thn, GS nm k s) → (∀ s ∈ els, GS nm k s) → GS nm (k + 1) (.mk 3 [] [] 0 .zero v [] thn els)
  | loop {k : Nat} {v : Exp} {thn : List Stm} : GX nm 3 v → (∀ s ∈ thn, GS nm k s) → GS nm (k + 1) (.mk 4 [] [] 0 .zero v [] thn [])
  | out {k : Nat} {v : Exp} : GX nm 3 v → GS nm k (.mk 5 [] [] 0 .zero v [] [] [])
  | call {k : Nat} {s t : List UInt8} {args : List Exp} (h : s ∈ nm) (ht : (t = [102] ∧ args.length = 2) ∨ (t = [103] ∧ args.length = 1)) : (∀ a ∈ args, GX nm 2 a) → GS nm k (.mk 6 s t 0 .zero .zero args [] [])
  | trap {k : Nat} {n : Int} (h : 0 ≤ n ∧ n < 1000) : GS nm k (.mk 7 [] [] n .zero .zero [] [] [])
/-! how many statements, how many loops -/
mutual
def nSt : Stm → Nat
  | .mk _ _ _ _ _ _ _ thn els => nStl thn + nStl els + 1
def nStl : List Stm → Nat
  | [] => 0
  | s :: r => nSt s + nStl r
end
mutual
def nLp : Stm → Nat
  | .mk k _ _ _ _ _ _ thn els => nLpl thn + nLpl els + (if k = 4 then 1 else 0)
def nLpl : List Stm → Nat
  | [] => 0
  | s :: r => nLp s + nLpl r
end
theorem nStl_snoc : ∀ (l : List Stm) (s : Stm), nStl (l ++ [s]) = nStl l + nSt s
  | [], s => by simp [nStl]
  | a :: r, s => by simp only [List.cons_append, nStl, nStl_snoc r s]; omega
theorem nLpl_snoc : ∀ (l : List Stm) (s : Stm), nLpl (l ++ [s]) = nLpl l + nLp s
  | [], s => by simp [nLpl]
  | a :: r, s => by simp only [List.cons_append, nLpl, nLpl_snoc r s]; omega
def StmH (f k : Nat) : Prop := ∀ (deep : Nat) (x : Nat) (l : List Int) (lp : Nat) (H : Heap), deep + k = 3 → lp ≤ 10 → 0 < l.length → RdR H x l lp →
  Sim Try.prog 42 [at' (.ptr (some (x, 0))), at' (.int .i64 f), at' (.int .i64 deep)] H (fun u G => ∃ s cs l' lp', u = .one (.agg cs) ∧ LM (G.fr H.n) s cs ∧ GS (nmL f) k s ∧ RdR G x l' lp' ∧ nSt s + l'.length ≤ l.length ∧ lp' = lp + nLp s ∧ lp' ≤ 10 ∧ Kp [x] H G)
def StmsH (f k : Nat) : Prop := ∀ (deep : Nat) (x : Nat) (l : List Int) (lp most : Nat) (H : Heap), deep + k = 3 → lp ≤ 10 → most ≤ 10 → RdR H x l lp →
  Sim Try.prog 19 [at' (.ptr (some (x, 0))), at' (.int .i64 f), at' (.int .i64 deep), at' (.int .i64 most)] H (fun u G => ∃ xs q l' lp', u = at' (.slice q xs.length) ∧ RowE 46 (G.fr H.n) 17 (LM (G.cuts (List.range H.n ++ rid (.slice q xs.length)))) xs q ∧ (∀ s ∈ xs, GS (nmL f) k s) ∧ RdR G x l' lp' ∧ nStl xs + l'.length ≤ l.length ∧ lp' = lp + nLpl xs ∧ lp' ≤ 10 ∧ xs.length ≤ most ∧ Kp [x] H G)

set_option maxHeartbeats 1000000 in
theorem Stmts_ok (f k : Nat) (hS : StmH f k) : StmsH f k := by
 intro deep x l lp most H hd hlp hmost hR
 have hxl := hR.lt
 refine Sim.of_tri Try.func19 rfl ?_
 show TrP 36 _ _ _ _
 refine Tri.seq ?_
 refine tR ?_
 refine sV rfl rfl rfl ?_
 show TrP 36 _ _ _ _
 refine tH [(0, _), (1, _), (2, _), (3, _), (8, _)] ?_
 refine Tri.seq ?_
 refine tR ?_
 refine sV rfl rfl rfl ?_
 show TrP 36 _ _ _ _
 refine tH [(0, _), (1, _), (2, _), (3, _), (8, _), (9, _)] ?_
 refine Tri.seq ?_
 refine Tri.seq ?_
 refine tR ?_
 refine sV rfl rfl rfl ?_
 refine sO rfl rfl (oC rfl (fnOk_of Try.func18 (by decide) rfl) (Next_ok x _ _ _ hR) ?_)
 rintro u G1 ⟨rfl, hR1, hk1, hn1⟩
 have hln : l.tail.length ≤ l.length := by rw [List.length_tail]; omega
 have hpk := pk_lt (l.headD 0) (most + 1) (by omega)
 refine sV rfl rfl rfl ?_
 refine sO rfl rfl (oAdd (m := 1) rfl (by omega) ?_)
 refine sO rfl rfl (oF rfl (fnOk_of Try.func12 (by decide) rfl) (Pick_ok _ (most + 1) _ (by omega) (by omega)) ?_)
 refine sV rfl rfl rfl ?_
 show TrP 36 _ _ _ _
 refine tH [(0, _), (1, _), (2, _), (3, _), (8, _), (9, _), (10, _)] ?_
 refine Tri.block ?_
 refine Tri.loop (fun k' lk1 H1 => ∃ (kk : Nat) (xs : List Stm) (cs : List AT) (a : AT) (l1 : List Int) (lp1 : Nat), k' = kk ∧ xs.length + kk ≤ most ∧ RowA H1 H.n 46 xs.length cs a ∧ cs.length = xs.length * 17 ∧ Lay 17 (LM (H1.cuts (List.range H.n ++ rid a))) xs cs ∧ (∀ s ∈ xs, GS (nmL f) k s) ∧ RdR H1 x l1 lp1 ∧ nStl xs + l1.length ≤ l.length ∧ lp1 = lp + nLpl xs ∧ lp1 ≤ 10 ∧ Kp [x] H H1 ∧ Has lk1 [(0, at' (.ptr (some (x, 0)))), (1, at' (.int .i64 f)), (2, at' (.int .i64 deep)), (9, at' a), (10, at' (.int .i64 kk))]) (pk (l.headD 0) (most + 1)) (⟨_, [], [], .slice none 0, l.tail, lp, rfl, by (try simp only [List.length_nil]); omega, RowA.nil _ _ _, rfl, rfl, fun _ h => (by cases h), hR1, by simp only [nStl]; omega, rfl, hlp, hk1, ⟨rfl, rfl, rfl, rfl, rfl, trivial⟩⟩) ?_
 rintro k3 lk3 H3 ⟨kk, xs, cs, a, l1, lp1, hk, hlen, hra, hcl, hLay, hGS, hR1, hst, hlpe, hlp1, hkp, hh⟩
 refine Tri.has hh ?_
 obtain ⟨q1, hc1, hrow1, hqx1⟩ := hR1
 have hR1 : RdR H3 x l1 lp1 := ⟨q1, hc1, hrow1, hqx1⟩
 have hrd := hra.rid
 have hkn := hkp.n
 refine Tri.seq ?_
 refine Tri.seq ?_
 refine tR ?_
 refine sV rfl rfl rfl ?_
 refine sO rfl rfl (oP rfl (fun h17 => ?_) (fun h17 => ?_))
 ·
  iterate 3 refine sV rfl rfl rfl ?_
  refine sO rfl rfl (oW (at' (.ptr (some (_, _ + 0)))) rfl rfl ?_)
  refine sO rfl rfl (oLoad (x := .at _) rfl gG rfl ?_)
  refine sV rfl rfl rfl ?_
  refine sO rfl rfl (oP rfl (fun h24 => ?_) (fun h24 => ?_))
  ·
   refine sV rfl rfl rfl ?_
   show TrP 36 _ _ _ _
   refine tH [(0, _), (1, _), (2, _), (9, _), (10, _), (25, _)] ?_
   refine tT rfl ?_
   refine Tri.skip ?_
   show TrP 36 _ _ _ _
   refine tH [(0, _), (1, _), (2, _), (9, _), (10, _), (25, _)] ?_
   refine Tri.seq ?_
   refine Tri.block ?_
   refine tR ?_
   iterate 4 refine sV rfl rfl rfl ?_
   refine sO rfl rfl (oC rfl (fnOk_of Try.func42 (by decide) rfl) (hS deep x l1 lp1 _ hd hlp1 (by omega) hR1) ?_)
   rintro u G3 ⟨s3, cs3, l3, lp3, rfl, hX3, hG3, hR3, hl3, hlp3, hlp3b, hk3⟩
   have hn3 := hk3.n
   have hz3 := hX3.len
   refine sO rfl rfl (oBS1 (n := 17) rfl rfl rfl rfl rfl (by omega) (by omega) hz3 ?_)
   have hka : ∀ d ∈ rid a, d ∉ [x] := fun d hd hm => by
     simp only [List.mem_cons, List.not_mem_nil, or_false] at hm
     have := hrd d hd; omega
   refine sO rfl rfl (oAppK (lo := H.n) (n := xs.length) (m := 1) (cs := cs) (new := cs3) rfl rfl rfl rfl ((hra.kpr hk3 hka).push) rfl gG rfl rfl rfl rfl rfl hz3 rfl hcl (by (show (xs.length + 1) * 248 ≤ _); omega) (by omega) (fun a2 H4 hr4 hk4 ⟨id4, ha4, hid4, hg4⟩ => ?_))
   refine sV rfl rfl rfl ?_
   show TrP 36 _ _ _ _
   refine tH [(0, _), (1, _), (2, _), (9, _), (10, _), (25, _)] ?_
   refine tR ?_
   refine sV rfl rfl rfl ?_
   refine sO rfl rfl (oSub (m := 1) rfl (by omega) (by omega) ?_)
   refine sV rfl rfl rfl ?_
   have hrd2 : ∀ d ∈ rid a2, G3.n ≤ d := by
     intro d hd
     rw [ha4] at hd
     simp only [rid, List.mem_cons, List.not_mem_nil, or_false] at hd
     subst hd
     simp only [Heap.n_push] at hid4; omega
   have hxa : ∀ d ∈ rid a, x < d := fun d hd => by have := hrd d hd; omega
   have K3 : Kp [x] H (G3.push (.cells 46 2 (A1.agg cs3).cells)) := Kp.push (Kp.own2 hkp hk3)
   have step : Kp [] (H3.cuts (List.range H.n ++ rid a)) (H4.cuts (List.range H.n ++ rid a2)) := (Kp.step (own := [x]) (Kp.push hk3) (by intro d hd; simp only [List.mem_cons, List.not_mem_nil, or_false] at hd; (try simp only [Heap.n_push, Heap.n_set]); omega)).trans0 (Kp.appd hk4 (fun d hd => by have := hrd2 d hd; simp only [Heap.n_push]; rw [ha4] at hd; simp only [rid, List.mem_cons, List.not_mem_nil, or_false] at hd; subst hd; simp only [Heap.n_push] at hid4; omega))
   have beside : Kp [] (G3.fr H3.n) (H4.cuts (List.range H.n ++ rid a2)) := (Kp.beside (a := a) (own := []) (Kp.push Kp.refl) (by simp) hkn (fun d hd => (hrd d hd).2)).trans0 (Kp.appd hk4 (fun d hd => by rw [ha4] at hd; simp only [rid, List.mem_cons, List.not_mem_nil, or_false] at hd; subst hd; exact hid4))
   refine ⟨kk - 1, by omega, kk - 1, xs ++ [s3], cs ++ cs3, a2, l3, lp3, rfl, by rw [List.length_append]; (show xs.length + 1 + (kk - 1) ≤ most); omega, ?_, ?_, ?_, ?_, hR3.kp (own := rid a) ((show Kp (rid a) G3 _ from Kp.push Kp.refl).trans hk4 fun d hd => .inl hd) hxa, ?_, ?_, hlp3b, ?_, ⟨rfl, rfl, rfl, rfl, rfl, trivial⟩⟩
   · rw [List.length_append]; exact hr4.mono (by simp only [Heap.n_push]; omega) fun _ _ h => h
   · rw [List.length_append, List.length_append, hcl, hz3]; (show xs.length * 17 + 17 = (xs.length + 1) * 17); omega
   · exact Lay.snoc (hLay.imp fun s _ => LM.kp step s) (LM.kp beside s3 _ hX3) hz3 hcl
   · intro s hs
     rcases List.mem_append.1 hs with h | h
     · exact hGS s h
     · simp only [List.mem_cons, List.not_mem_nil, or_false] at h; rw [h]; exact hG3
   · rw [nStl_snoc]; omega
   · rw [nLpl_snoc]; omega
   · exact K3.trans hk4 fun d hd => .inr (hrd d hd).1
  ·
   refine sV rfl rfl rfl ?_
   show TrP 36 _ _ _ _
   refine tH [(0, _), (1, _), (2, _), (9, _), (10, _), (25, _)] ?_
   refine tF rfl ?_
   refine Tri.exit ?_
   show TrP 36 _ _ _ _
   refine tH [(0, _), (1, _), (2, _), (9, _), (10, _), (25, _)] ?_
   refine Tri.seq ?_
   refine tR ?_
   iterate 2 refine sV rfl rfl rfl ?_
   show TrP 36 _ _ _ _
   refine tH [(0, _), (1, _), (2, _), (8, _), (9, _), (10, _), (25, _)] ?_
   refine Tri.ret ?_
   refine ⟨trivial, _, rfl, ?_⟩
   obtain ⟨p, rfl, hq⟩ := hra.e (H := H3.fr H.n) rfl hcl hLay (fun id o hg hlo => Heap.fr_get hg hlo)
   exact ⟨xs, p, l1, lp1, rfl, hq, hGS, hR1, hst, hlpe, hlp1, by omega, hkp⟩
 ·
  refine sV rfl rfl rfl ?_
  iterate 6 refine sN rfl rfl ?_
  refine sV rfl rfl rfl ?_
  show TrP 36 _ _ _ _
  refine tH [(0, _), (1, _), (2, _), (9, _), (10, _), (25, _)] ?_
  refine tF rfl ?_
  refine Tri.exit ?_
  show TrP 36 _ _ _ _
  refine tH [(0, _), (1, _), (2, _), (9, _), (10, _), (25, _)] ?_
  refine Tri.seq ?_
  refine tR ?_
  iterate 2 refine sV rfl rfl rfl ?_
  show TrP 36 _ _ _ _
  refine tH [(0, _), (1, _), (2, _), (8, _), (9, _), (10, _), (25, _)] ?_
  refine Tri.ret ?_
  refine ⟨trivial, _, rfl, ?_⟩
  obtain ⟨p, rfl, hq⟩ := hra.e (H := H3.fr H.n) rfl hcl hLay (fun id o hg hlo => Heap.fr_get hg hlo)
  exact ⟨xs, p, l1, lp1, rfl, hq, hGS, hR1, hst, hlpe, hlp1, by omega, hkp⟩
def stC (k : Int) (s t : List UInt8) (n : Int) (a v : List AT) (x y z : AT) : List AT := [.int .i64 k, .str s, .str t, .int .i64 n] ++ a ++ v ++ [x, y, z]
def zeS : List AT := stC 0 [] [] 0 zeX zeX (.slice none 0) (.slice none 0) (.slice none 0)
theorem zeXL (H : Heap) : LX H .zero zeX := LX_iff.2 ⟨none, rfl, RowQ.nil⟩
theorem stL {H : Heap} {k : Int} {s t : List UInt8} {n : Int} {a v : Exp} {ca cv : List AT} {args : List Exp} {thn els : List Stm} {pa pt pe : Option (Nat × Nat)} (h1 : LX H a ca) (h2 : LX H v cv) (h3 : RowQ H 5 (LX H) args pa) (h4 : RowQ H 17 (LM H) thn pt) (h5 : RowQ H 17 (LM H) els pe) :
    LM H (.mk k s t n a v args thn els) (stC k s t n ca cv (.slice pa args.length) (.slice pt thn.length) (.slice pe els.length)) := LM_iff.2 ⟨ca, cv, pa, pt, pe, rfl, h1, h2, h3, h4, h5⟩
theorem Kp.tr {S T : List Nat} {H H' H2 : Heap} (h : Kp S H H') (k : Kp T H' H2) (hT : ∀ i ∈ T, i ∈ S) : Kp S H H2 := h.trans k fun i hi => .inl (hT i hi)
theorem fg_of {i : Nat} {s : List UInt8} (h : ([[102], [103]] : List (List UInt8))[i % 2]? = some s) : (s = [102] ∧ 2 - i % 2 = 2) ∨ (s = [103] ∧ 2 - i % 2 = 1) := by
  have : i % 2 = 0 ∨ i % 2 = 1 := by omega
  rcases this with e | e
  · rw [e] at h; cases h; exact .inl ⟨rfl, by omega⟩
  · rw [e] at h; cases h; exact .inr ⟨rfl, by omega⟩

set_option maxHeartbeats 2000000 in
theorem Stmt_ok (f k : Nat) (ih : ∀ k', k = k' + 1 → StmsH f k') : StmH f k := by
 intro deep x l lp H hd hlp hl0 hR
 have hxl := hR.lt
 have hnl := nmL_pos f
 have hlt : l.tail.length + 1 = l.length := by rw [List.length_tail]; omega
 refine Sim.of_tri Try.func42 rfl ?_
 show TrP 156 _ _ _ _
 refine Tri.seq ?_
 refine tR ?_
 refine sO rfl rfl (oAlloc (cs := [.int .i64 0, .str [], .str [], .int .i64 0, .int .i64 0, .int .i64 0, .str [], .int .i64 0, .slice none 0, .int .i64 0, .int .i64 0, .str [], .int .i64 0, .slice none 0, .slice none 0, .slice none 0, .slice none 0]) rfl rfl ?_)
 show TrP 156 _ _ _ _
 refine tH [(0, _), (1, _), (2, _), (6, _)] ?_
 refine Tri.seq ?_
 refine tR ?_
 refine sV rfl rfl rfl ?_
 refine sO rfl rfl (oC rfl (fnOk_of Try.func18 (by decide) rfl) (Next_ok x _ _ _ (hR.kp (own := []) (Kp.push Kp.refl) (by simp))) ?_)
 rintro u G1 ⟨rfl, hR1, hk1, hn1⟩
 have c1 : G1.get H.n = some (.cells 46 1 zeS) := hk1.g _ _ Heap.push_new rfl (by simp; omega)
 have K1 : Kp [x] H G1 := Kp.own2 (Kp.push Kp.refl) hk1
 have hnA1 := Heap.get_lt c1
 refine sV rfl rfl rfl ?_
 show TrP 156 _ _ _ _
 refine tH [(0, _), (1, _), (2, _), (6, _), (7, _)] ?_
 refine Tri.seq ?_
 refine tR ?_
 refine sV rfl rfl rfl ?_
 refine sO rfl rfl (oC rfl (fnOk_of Try.func43 (by decide) rfl) (names_ok f _) ?_)
 rintro u G2 ⟨q, rfl, hq, hqn, hk2⟩
 have c2 := hk2.get c1 rfl
 have hR2 := hR1.kp hk2 (by simp)
 have K2 := K1.trans0 hk2
 have hnA2 := Heap.get_lt c2
 obtain ⟨q1, hc1, hrow1, hqx1⟩ := hR2
 have hR2 : RdR G2 x l.tail lp := ⟨q1, hc1, hrow1, hqx1⟩
 have hm1000 : mOf (l.headD 0) < 1000 := pk_lt _ 1000 (by omega)
 refine sV rfl rfl rfl ?_
 show TrP 156 _ _ _ _
 refine tH [(0, _), (1, _), (2, _), (6, _), (7, _), (8, _)] ?_
 refine Tri.seq ?_
 refine tR ?_
 refine sV rfl rfl rfl ?_
 refine sO rfl rfl (oQuo rfl rfl (by omega) ?_)
 refine sO rfl rfl (oF rfl (fnOk_of Try.func12 (by decide) rfl) (Pick_ok _ 1000 _ (by omega) (by omega)) ?_)
 refine sO rfl rfl (oW (at' (.int .i64 (mOf (l.headD 0) : Nat))) rfl rfl ?_)
 show TrP 156 _ _ _ _
 refine tH [(0, _), (1, _), (2, _), (6, _), (7, _), (8, _), (9, _)] ?_
 refine Tri.seq ?_
 refine tR ?_
 refine sV rfl rfl rfl ?_
 refine sO rfl rfl (oF rfl (fnOk_of Try.func12 (by decide) rfl) (Pick_ok _ 16 _ (by omega) (by omega)) ?_)
 refine sV rfl rfl rfl ?_
 show TrP 156 _ _ _ _
 refine tH [(0, _), (1, _), (2, _), (6, _), (7, _), (8, _), (9, _), (10, _)] ?_
 refine Tri.seqI (fun lk1 H1 => G2 = H1 ∧ ∃ kk : Nat, kk < 16 ∧ (2 < deep → kk < 8 ∨ 12 ≤ kk) ∧ (10 ≤ lp → kk < 10) ∧ Has lk1 [(0, at' (.ptr (some (x, 0)))), (1, at' (.int .i64 f)), (2, at' (.int .i64 deep)), (6, at' (.ptr (some (H.n, 0)))), (8, at' (.slice (some (q, 0)) (nmL f).length)), (9, at' (.int .i64 (mOf (l.headD 0) : Nat))), (10, at' (.int .i64 kk))]) ?_ ?_
 ·
  refine Tri.seq ?_
  refine tR ?_
  refine sV rfl rfl rfl ?_
  refine sO rfl rfl (oP rfl (fun h25 => ?_) (fun h25 => ?_))
  ·
   iterate 2 refine sV rfl rfl rfl ?_
   refine sO rfl rfl (oP rfl (fun h28 => ?_) (fun h28 => ?_))
   ·
    iterate 3 refine sV rfl rfl rfl ?_
    refine sO rfl rfl (oP rfl (fun h32 => ?_) (fun h32 => ?_))
    ·
     iterate 2 refine sV rfl rfl rfl ?_
     iterate 9 refine sN rfl rfl ?_
     refine sV rfl rfl rfl ?_
     show TrP 156 _ _ _ _
     refine tH [(0, _), (1, _), (2, _), (6, _), (7, _), (8, _), (9, _), (10, _), (44, _)] ?_
     refine tT rfl ?_
     refine tR ?_
     refine sV rfl rfl rfl ?_
     exact ⟨rfl, 0, by omega, by omega, by omega, ⟨rfl, rfl, rfl, rfl, rfl, rfl, rfl, trivial⟩⟩
    ·
     iterate 4 refine sV rfl rfl rfl ?_
     refine sO rfl rfl (oW (at' (.ptr (some (_, _ + 1)))) rfl rfl ?_)
     refine sO rfl rfl (oLoad (x := .at _) rfl gG rfl ?_)
     refine sO rfl rfl (oP rfl (fun h39 => ?_) (fun h39 => ?_))
     ·
      iterate 2 refine sV rfl rfl rfl ?_
      refine sO rfl rfl (oP rfl (fun h42 => ?_) (fun h42 => ?_))
      ·
       iterate 2 refine sV rfl rfl rfl ?_
       show TrP 156 _ _ _ _
       refine tH [(0, _), (1, _), (2, _), (6, _), (7, _), (8, _), (9, _), (10, _), (44, _)] ?_
       refine tT rfl ?_
       refine tR ?_
       refine sV rfl rfl rfl ?_
       exact ⟨rfl, 0, by omega, by omega, by omega, ⟨rfl, rfl, rfl, rfl, rfl, rfl, rfl, trivial⟩⟩
      ·
       iterate 2 refine sV rfl rfl rfl ?_
       show TrP 156 _ _ _ _
       refine tH [(0, _), (1, _), (2, _), (6, _), (7, _), (8, _), (9, _), (10, _), (44, _)] ?_
       refine tF rfl ?_
       refine Tri.skip ?_
       exact ⟨rfl, pk (l.headD 0) 16, pk_lt _ 16 (by omega), by omega, by omega, ⟨rfl, rfl, rfl, rfl, rfl, rfl, rfl, trivial⟩⟩
     ·
      refine sV rfl rfl rfl ?_
      iterate 2 refine sN rfl rfl ?_
      iterate 2 refine sV rfl rfl rfl ?_
      show TrP 156 _ _ _ _
      refine tH [(0, _), (1, _), (2, _), (6, _), (7, _), (8, _), (9, _), (10, _), (44, _)] ?_
      refine tF rfl ?_
      refine Tri.skip ?_
      exact ⟨rfl, pk (l.headD 0) 16, pk_lt _ 16 (by omega), by omega, by omega, ⟨rfl, rfl, rfl, rfl, rfl, rfl, rfl, trivial⟩⟩
   ·
    iterate 2 refine sV rfl rfl rfl ?_
    iterate 2 refine sN rfl rfl ?_
    iterate 4 refine sV rfl rfl rfl ?_
    refine sO rfl rfl (oW (at' (.ptr (some (_, _ + 1)))) rfl rfl ?_)
    refine sO rfl rfl (oLoad (x := .at _) rfl gG rfl ?_)
    refine sO rfl rfl (oP rfl (fun h39 => ?_) (fun h39 => ?_))
    ·
     iterate 2 refine sV rfl rfl rfl ?_
     refine sO rfl rfl (oP rfl (fun h42 => ?_) (fun h42 => ?_))
     ·
      iterate 2 refine sV rfl rfl rfl ?_
      show TrP 156 _ _ _ _
      refine tH [(0, _), (1, _), (2, _), (6, _), (7, _), (8, _), (9, _), (10, _), (44, _)] ?_
      refine tT rfl ?_
      refine tR ?_
      refine sV rfl rfl rfl ?_
      exact ⟨rfl, 0, by omega, by omega, by omega, ⟨rfl, rfl, rfl, rfl, rfl, rfl, rfl, trivial⟩⟩
     ·
      iterate 2 refine sV rfl rfl rfl ?_
      show TrP 156 _ _ _ _
      refine tH [(0, _), (1, _), (2, _), (6, _), (7, _), (8, _), (9, _), (10, _), (44, _)] ?_
      refine tF rfl ?_
      refine Tri.skip ?_
      exact ⟨rfl, pk (l.headD 0) 16, pk_lt _ 16 (by omega), by omega, by omega, ⟨rfl, rfl, rfl, rfl, rfl, rfl, rfl, trivial⟩⟩
    ·
     refine sV rfl rfl rfl ?_
     iterate 2 refine sN rfl rfl ?_
     iterate 2 refine sV rfl rfl rfl ?_
     show TrP 156 _ _ _ _
     refine tH [(0, _), (1, _), (2, _), (6, _), (7, _), (8, _), (9, _), (10, _), (44, _)] ?_
     refine tF rfl ?_
     refine Tri.skip ?_
     exact ⟨rfl, pk (l.headD 0) 16, pk_lt _ 16 (by omega), by omega, by omega, ⟨rfl, rfl, rfl, rfl, rfl, rfl, rfl, trivial⟩⟩
  ·
   refine sV rfl rfl rfl ?_
   iterate 2 refine sN rfl rfl ?_
   iterate 2 refine sV rfl rfl rfl ?_
   iterate 2 refine sN rfl rfl ?_
   iterate 4 refine sV rfl rfl rfl ?_
   refine sO rfl rfl (oW (at' (.ptr (some (_, _ + 1)))) rfl rfl ?_)
   refine sO rfl rfl (oLoad (x := .at _) rfl gG rfl ?_)
   refine sO rfl rfl (oP rfl (fun h39 => ?_) (fun h39 => ?_))
   ·
    iterate 2 refine sV rfl rfl rfl ?_
    refine sO rfl rfl (oP rfl (fun h42 => ?_) (fun h42 => ?_))
    ·
     iterate 2 refine sV rfl rfl rfl ?_
     show TrP 156 _ _ _ _
     refine tH [(0, _), (1, _), (2, _), (6, _), (7, _), (8, _), (9, _), (10, _), (44, _)] ?_
     refine tT rfl ?_
     refine tR ?_
     refine sV rfl rfl rfl ?_
     exact ⟨rfl, 0, by omega, by omega, by omega, ⟨rfl, rfl, rfl, rfl, rfl, rfl, rfl, trivial⟩⟩
    ·
     iterate 2 refine sV rfl rfl rfl ?_
     show TrP 156 _ _ _ _
     refine tH [(0, _), (1, _), (2, _), (6, _), (7, _), (8, _), (9, _), (10, _), (44, _)] ?_
     refine tF rfl ?_
     refine Tri.skip ?_
     exact ⟨rfl, pk (l.headD 0) 16, pk_lt _ 16 (by omega), by omega, by omega, ⟨rfl, rfl, rfl, rfl, rfl, rfl, rfl, trivial⟩⟩
   ·
    refine sV rfl rfl rfl ?_
    iterate 2 refine sN rfl rfl ?_
    iterate 2 refine sV rfl rfl rfl ?_
    show TrP 156 _ _ _ _
    refine tH [(0, _), (1, _), (2, _), (6, _), (7, _), (8, _), (9, _), (10, _), (44, _)] ?_
    refine tF rfl ?_
    refine Tri.skip ?_
    exact ⟨rfl, pk (l.headD 0) 16, pk_lt _ 16 (by omega), by omega, by omega, ⟨rfl, rfl, rfl, rfl, rfl, rfl, rfl, trivial⟩⟩
 rintro lk1 H1 ⟨rfl, kk, hkk, hkd, hkl, hh⟩
 refine Tri.has hh ?_
 refine Tri.seq ?_
 refine Tri.block ?_
 refine Tri.seq ?_
 refine tR ?_
 refine sV rfl rfl rfl ?_
 refine sO rfl rfl (oP rfl (fun h47 => ?_) (fun h47 => ?_))
 ·
  refine sV rfl rfl rfl ?_
  show TrP 156 _ _ _ _
  refine tH [(0, _), (1, _), (2, _), (6, _), (8, _), (9, _), (10, _), (45, _)] ?_
  refine tT rfl ?_
  refine Tri.seq ?_
  refine Tri.drawn1 mixed eqsOk (eqs := eqs) ⟨[0, 0, 0, 4, 14, 31, 63, 0, 0, 384, 1023, 2047], [0, 0, 0, 0, 0, 0, 0, 0, 0, 0, 0, 0], 1, [0, 1, 2, 3, 4, 5, 6, 7, 8, 9, 10, 11]⟩ (by decide +kernel) rfl ?_
  refine dL rfl rfl rfl rfl (oV rfl ?_)
  refine dL rfl rfl rfl rfl (oV rfl ?_)
  refine dL rfl rfl rfl rfl (oV rfl ?_)
  refine dR0 rfl rfl rfl rfl rfl ?_
  refine dL rfl rfl rfl rfl (oRemN (n := mOf (l.headD 0)) (m := (nmL f).length) rfl rfl hnl ?_)
  obtain ⟨s, hs⟩ : ∃ s, (nmL f)[mOf (l.headD 0) % (nmL f).length]? = some s := ⟨_, List.getElem?_eq_getElem (Nat.mod_lt _ hnl)⟩
  refine dL rfl rfl rfl rfl (oIA (z := 1) (i := mOf (l.headD 0) % (nmL f).length) (n := (nmL f).length) rfl rfl rfl rfl (Nat.mod_lt _ hnl) ?_)
  refine dR0 rfl rfl rfl rfl (op_load_at (x := .at (.str s)) rfl gG (part_at rfl rfl rfl (map_at hs))) ?_
  refine dL rfl rfl rfl rfl (oV rfl ?_)
  refine dL rfl rfl rfl rfl (oV rfl ?_)
  refine dC0 (.keep rfl (.keep rfl .nil)) rfl rfl rfl rfl (oC rfl (fnOk_of Try.func20 (by decide) rfl) (Expr_ok f 4 0 rfl x _ lp _ (hR2.kp (own := []) kZ (by simp))) ?_)
  rintro u G3 ⟨e3, cs3, l3, rfl, hX3, hG3, hR3, hl3, hk3⟩
  obtain ⟨p3, rfl, _⟩ := hX3.out
  have c3 : G3.get H.n = some (.cells 46 1 zeS) := hk3.g _ _ gG rfl (by simp; omega)
  have K3 : Kp [x] H G3 := Kp.own2 kP hk3
  have hn3 := hk3.n
  (try simp only [Heap.n_push, Heap.n_set] at hn3)
  have hnA3 := Heap.get_lt c3
  have hq3 : G3.get q = some (.cells 9 2 ((nmL f).map AT.str)) := hk3.g _ _ gG rfl (by simp; omega)
  refine ⟨⟨.inr (⟨_, rfl, op_load_at (x := .at (.str s)) rfl hq3 (part_at rfl rfl rfl (map_at hs))⟩), .inr (⟨_, rfl, rfl⟩), trivial⟩, ?_⟩
  refine dL rfl rfl rfl rfl (oW (.one (.agg [_, _, .str [], .int .i64 0, .int .i64 0, .int .i64 0, .str [], .int .i64 0, .slice none 0, _, _, _, _, _, .slice none 0, .slice none 0, .slice none 0])) rfl rfl ?_)
  refine dC0 (.drop rfl (.drop rfl .nil)) rfl rfl rfl rfl (oStore (n := 17) (cs' := [_, _, _, _, _, _, _, _, _, _, _, _, _, _, _, _, _]) rfl rfl rfl gG rfl (Nat.le_of_ble_eq_true rfl) rfl rfl ?_)
  refine ⟨⟨.inl rfl, .inl rfl, trivial⟩, ?_⟩
  refine dE0 ?_
  show TrP 156 _ _ _ _
  refine tH [(0, _), (1, _), (2, _), (6, _), (8, _), (9, _), (10, _), (45, _)] ?_
  refine Tri.ret ?_
  refine ⟨trivial, _, (resA_cell (x := .agg [_, _, _, _, _, _, _, _, _, _, _, _, _, _, _, _, _]) rfl gG rfl rfl), ?_⟩
  exact ⟨_, _, l3, lp, rfl, stL (pa := none) (pt := none) (pe := none) (zeXL _) (hX3.kp (Kp.fr (own := [H.n]) kQ (by intro d hd; simp only [List.mem_cons, List.not_mem_nil, or_false] at hd; (try simp only [Heap.n_push, Heap.n_set]); omega) lE)) RowQ.nil RowQ.nil RowQ.nil, .assign (List.mem_of_getElem? hs) hG3, hR3.kp (own := [H.n]) kQ (by intro d hd; simp only [List.mem_cons, List.not_mem_nil, or_false] at hd; (try simp only [Heap.n_push, Heap.n_set]); omega), (by simp only [nSt, nStl]; omega), (by simp [nLp, nLpl]), hlp, kP⟩
 ·
  refine sV rfl rfl rfl ?_
  show TrP 156 _ _ _ _
  refine tH [(0, _), (1, _), (2, _), (6, _), (8, _), (9, _), (10, _), (45, _)] ?_
  refine tF rfl ?_
  refine Tri.seq ?_
  refine tR ?_
  refine sV rfl rfl rfl ?_
  refine sO rfl rfl (oP rfl (fun h61 => ?_) (fun h61 => ?_))
  ·
   refine sV rfl rfl rfl ?_
   show TrP 156 _ _ _ _
   refine tH [(0, _), (1, _), (2, _), (6, _), (8, _), (9, _), (10, _), (45, _), (59, _)] ?_
   refine tT rfl ?_
   refine Tri.seq ?_
   refine Tri.drawn1 mixed eqsOk (eqs := eqs) ⟨[0, 0, 2, 7, 15, 0, 0, 96, 0, 0, 992, 2047, 4095], [0, 0, 0, 0, 0, 0, 0, 0, 0, 0, 0, 0, 0], 1, [0, 1, 2, 3, 4, 5, 6, 8, 9, 7, 10, 11, 12]⟩ (by decide +kernel) rfl ?_
   refine dM rfl rfl rfl rfl (obj := .cells 9 2 [.str [97], .str [98]]) (v := at' (.slice (some (G2.n + 0, 0)) 2)) rfl ?_
   refine dL rfl rfl rfl rfl (oV rfl ?_)
   refine dL rfl rfl rfl rfl (oRemN (n := mOf (l.headD 0)) (m := 2) rfl rfl (by decide) ?_)
   obtain ⟨s, hs⟩ : ∃ s, ([[97], [98]] : List (List UInt8))[mOf (l.headD 0) % 2]? = some s := ⟨_, List.getElem?_eq_getElem (Nat.mod_lt _ (by decide))⟩
   refine dL rfl rfl rfl rfl (oIA (z := 1) (i := mOf (l.headD 0) % 2) (n := 2) rfl rfl rfl rfl (Nat.mod_lt _ (by decide)) ?_)
   refine dRm (Heap.set _ (_ + 0) _) rfl rfl rfl rfl rfl (op_load_at (x := .at (.str s)) (cs := [[97], [98]].map AT.str) rfl (show (Heap.set (G2.push .dead) (G2.n + 0) (.cells 9 2 [.str [97], .str [98]])).get (G2.n + 0) = _ from Heap.set_newl lL) (part_at rfl rfl rfl (map_at hs))) ?_
   refine dL rfl rfl rfl rfl (oV rfl ?_)
   refine dL rfl rfl rfl rfl (oV rfl ?_)
   refine dL rfl rfl rfl rfl (oV rfl ?_)
   refine dL rfl rfl rfl rfl (oV rfl ?_)
   refine dCm (Heap.push _ .dead) (.keep rfl .nil) (.keep rfl .nil) rfl rfl rfl rfl rfl (oC rfl (fnOk_of Try.func20 (by decide) rfl) (Expr_ok f 2 2 rfl x _ lp _ (hR2.kp (own := []) kZ (by simp))) ?_)
   rintro u G3 ⟨e3, cs3, l3, rfl, hX3, hG3, hR3, hl3, hk3⟩
   obtain ⟨p3, rfl, _⟩ := hX3.out
   have c3 : G3.get H.n = some (.cells 46 1 zeS) := hk3.g _ _ gG rfl (by simp; omega)
   have K3 : Kp [x] H G3 := Kp.own2 kP hk3
   have hn3 := hk3.n
   (try simp only [Heap.n_push, Heap.n_set] at hn3)
   have hnA3 := Heap.get_lt c3
   refine ⟨⟨.inr (⟨_, rfl, (by dsimp only; rw [matP_one rfl]; exact op_load_at (x := .at (.str s)) (cs := [[97], [98]].map AT.str) rfl (Heap.set_newl (show G2.n + 0 < _ by omega)) (part_at rfl rfl rfl (map_at hs)))⟩), trivial⟩, ?_⟩
   refine dCm G3 (.keep rfl .nil) (.keep rfl .nil) rfl rfl rfl rfl rfl (oC rfl (fnOk_of Try.func20 (by decide) rfl) (Expr_ok f 3 1 rfl x _ lp _ hR3) ?_)
   rintro u G4 ⟨e4, cs4, l4, rfl, hX4, hG4, hR4, hl4, hk4⟩
   obtain ⟨p4, rfl, _⟩ := hX4.out
   have c4 : G4.get H.n = some (.cells 46 1 zeS) := hk4.g _ _ gG rfl (by simp; omega)
   have K4 : Kp [x] H G4 := Kp.own2 kP hk4
   have hn4 := hk4.n
   (try simp only [Heap.n_push, Heap.n_set] at hn4)
   have hnA4 := Heap.get_lt c4
   have hX3 := hX3.kp (Kp.fr (own := [x]) hk4 (by intro d hd; simp only [List.mem_cons, List.not_mem_nil, or_false] at hd; (try simp only [Heap.n_push, Heap.n_set]); omega) (Nat.le_refl _))
   refine ⟨⟨.inr (⟨_, rfl, (by dsimp only; rw [matP_one rfl]; exact op_load_at (x := .at (.str s)) (cs := [[97], [98]].map AT.str) rfl (Heap.set_newl (show G2.n + 0 < _ by omega)) (part_at rfl rfl rfl (map_at hs)))⟩), trivial⟩, ?_⟩
   refine dL rfl rfl rfl rfl (oW (.one (.agg [_, _, .str [], .int .i64 0, _, _, _, _, _, _, _, _, _, _, .slice none 0, .slice none 0, .slice none 0])) rfl rfl ?_)
   refine dCm (Heap.set G4 (_ + 0) _) (.drop rfl .nil) (.drop rfl .nil) rfl rfl rfl rfl rfl (oStore (n := 17) (cs' := [_, _, _, _, _, _, _, _, _, _, _, _, _, _, _, _, _]) rfl rfl rfl gG rfl (Nat.le_of_ble_eq_true rfl) rfl rfl ?_)
   refine ⟨⟨.inl rfl, trivial⟩, ?_⟩
   refine dE0 ?_
   show TrP 156 _ _ _ _
   refine tH [(0, _), (1, _), (2, _), (6, _), (8, _), (9, _), (10, _), (45, _), (59, _)] ?_
   refine Tri.ret ?_
   refine ⟨trivial, _, (resA_cell (x := .agg [_, _, _, _, _, _, _, _, _, _, _, _, _, _, _, _, _]) rfl gG rfl rfl), ?_⟩
   exact ⟨_, _, l4, lp, rfl, stL (pa := none) (pt := none) (pe := none) (hX3.kp (Kp.fr (own := [G2.n + 0, H.n]) kQ (by intro d hd; simp only [List.mem_cons, List.not_mem_nil, or_false] at hd; (try simp only [Heap.n_push, Heap.n_set]); omega) lE)) (hX4.kp (Kp.fr (own := [G2.n + 0, H.n]) kQ (by intro d hd; simp only [List.mem_cons, List.not_mem_nil, or_false] at hd; (try simp only [Heap.n_push, Heap.n_set]); omega) lE)) RowQ.nil RowQ.nil RowQ.nil, .store (ab_of hs) hG3 hG4, hR4.kp (own := [G2.n + 0, H.n]) kQ (by intro d hd; simp only [List.mem_cons, List.not_mem_nil, or_false] at hd; (try simp only [Heap.n_push, Heap.n_set]); omega), (by simp only [nSt, nStl]; omega), (by simp [nLp, nLpl]), hlp, kP⟩
  ·
   refine sV rfl rfl rfl ?_
   show TrP 156 _ _ _ _
   refine tH [(0, _), (1, _), (2, _), (6, _), (8, _), (9, _), (10, _), (45, _), (59, _)] ?_
   refine tF rfl ?_
   refine Tri.seq ?_
   refine tR ?_
   refine sV rfl rfl rfl ?_
   refine sO rfl rfl (oP rfl (fun h76 => ?_) (fun h76 => ?_))
   ·
    refine sV rfl rfl rfl ?_
    show TrP 156 _ _ _ _
    refine tH [(0, _), (1, _), (2, _), (6, _), (8, _), (9, _), (10, _), (45, _), (59, _), (74, _)] ?_
    refine tT rfl ?_
    refine Tri.seq ?_
    refine tR ?_
    iterate 2 refine sV rfl rfl rfl ?_
    refine sO rfl rfl (oC rfl (fnOk_of Try.func20 (by decide) rfl) (Expr_ok f 3 1 rfl x _ lp _ hR2) ?_)
    rintro u G3 ⟨e3, cs3, l3, rfl, hX3, hG3, hR3, hl3, hk3⟩
    obtain ⟨p3, rfl, _⟩ := hX3.out
    have c3 : G3.get H.n = some (.cells 46 1 zeS) := hk3.g _ _ gG rfl (by simp; omega)
    have K3 : Kp [x] H G3 := Kp.own2 kP hk3
    have hn3 := hk3.n
    (try simp only [Heap.n_push, Heap.n_set] at hn3)
    have hnA3 := Heap.get_lt c3
    refine sO rfl rfl (oW (.one (.agg [_, .str [], .str [], .int .i64 0, .int .i64 0, .int .i64 0, .str [], .int .i64 0, .slice none 0, _, _, _, _, _, .slice none 0, .slice none 0, .slice none 0])) rfl rfl ?_)
    refine sO rfl rfl (oAlloc (cs := [.int .i64 0, .str [], .str [], .int .i64 0, .int .i64 0, .int .i64 0, .str [], .int .i64 0, .slice none 0, .int .i64 0, .int .i64 0, .str [], .int .i64 0, .slice none 0, .slice none 0, .slice none 0, .slice none 0]) rfl rfl ?_)
    refine sO rfl rfl (oStore (n := 17) (cs' := [_, _, _, _, _, _, _, _, _, _, _, _, _, _, _, _, _]) rfl rfl rfl gG rfl (Nat.le_of_ble_eq_true rfl) rfl rfl ?_)
    show TrP 156 _ _ _ _
    refine tH [(0, _), (1, _), (2, _), (6, _), (8, _), (9, _), (10, _), (11, _), (45, _), (59, _), (74, _)] ?_
    refine Tri.seq ?_
    refine tR ?_
    iterate 3 refine sV rfl rfl rfl ?_
    refine sO rfl rfl (oAdd (m := 1) rfl (by omega) ?_)
    refine sO rfl rfl (oC rfl (fnOk_of Try.func19 (by decide) rfl) (ih (k - 1) (by omega) (deep + 1) x _ lp 3 _ (by omega) hlp (by omega) (hR3.kp (own := []) kZ (by simp))) ?_)
    rintro u G4 ⟨xs4, q4, l4, lp4, rfl, hX4, hG4, hR4, hl4, hlp4, hlb4, hxl4, hk4⟩
    have c4 : G4.get H.n = some (.cells 46 1 zeS) := hk4.g _ _ gG rfl (by simp; omega)
    have ci4 : G4.get G3.n = some (.cells 46 1 (stC 3 [] [] 0 zeX [.int .i64 e3.kind, .int .i64 e3.n, .str e3.name, .int .i64 e3.op, .slice p3 e3.kids.length] (.slice none 0) (.slice none 0) (.slice none 0))) := hk4.g _ _ gG rfl (by simp; omega)
    have K4 : Kp [x] H G4 := Kp.own2 kP hk4
    have hn4 := hk4.n
    (try simp only [Heap.n_push, Heap.n_set] at hn4)
    have hnA4 := Heap.get_lt c4
    have hnB4 := Heap.get_lt ci4
    have A34 : Kp [x, H.n] G3 G4 := Kp.tr (show Kp [x, H.n] G3 _ from kZ) hk4 (by simp)
    refine sO rfl rfl (oW (at' (.ptr (some (_, 15)))) rfl rfl ?_)
    refine sO rfl rfl (oStore (n := 1) (cs' := [_, _, _, _, _, _, _, _, _, _, _, _, _, _, _, _, _]) rfl rfl rfl gG rfl (Nat.le_of_ble_eq_true rfl) rfl rfl ?_)
    show TrP 156 _ _ _ _
    refine tH [(0, _), (1, _), (2, _), (6, _), (8, _), (9, _), (10, _), (11, _), (45, _), (59, _), (74, _)] ?_
    refine Tri.seq ?_
    refine tR ?_
    iterate 3 refine sV rfl rfl rfl ?_
    refine sO rfl rfl (oAdd (m := 1) rfl (by omega) ?_)
    refine sO rfl rfl (oC rfl (fnOk_of Try.func19 (by decide) rfl) (ih (k - 1) (by omega) (deep + 1) x _ _ 2 _ (by omega) hlb4 (by omega) (hR4.kp (own := [G3.n]) kQ (by intro d hd; simp only [List.mem_cons, List.not_mem_nil, or_false] at hd; (try simp only [Heap.n_push, Heap.n_set]); omega))) ?_)
    rintro u G5 ⟨xs5, q5, l5, lp5, rfl, hX5, hG5, hR5, hl5, hlp5, hlb5, hxl5, hk5⟩
    have c5 : G5.get H.n = some (.cells 46 1 zeS) := hk5.g _ _ gG rfl (by simp; omega)
    have ci5 : G5.get G3.n = some (.cells 46 1 (stC 3 [] [] 0 zeX [.int .i64 e3.kind, .int .i64 e3.n, .str e3.name, .int .i64 e3.op, .slice p3 e3.kids.length] (.slice none 0) (.slice q4 xs4.length) (.slice none 0))) := hk5.g _ _ gG rfl (by simp; omega)
    have K5 : Kp [x] H G5 := Kp.own2 kP hk5
    have hn5 := hk5.n
    (try simp only [Heap.n_push, Heap.n_set] at hn5)
    have hnA5 := Heap.get_lt c5
    have hnB5 := Heap.get_lt ci5
    have A35 : Kp [x, H.n] G3 G5 := Kp.tr (Kp.set A34 lL (.inr lE)) hk5 (by simp)
    have A45 : Kp [x, G3.n, H.n] G4 G5 := Kp.tr (Kp.set Kp.refl lL (.inl (by simp))) hk5 (by simp)
    refine sO rfl rfl (oW (at' (.ptr (some (_, 16)))) rfl rfl ?_)
    refine sO rfl rfl (oStore (n := 1) (cs' := [_, _, _, _, _, _, _, _, _, _, _, _, _, _, _, _, _]) rfl rfl rfl gG rfl (Nat.le_of_ble_eq_true rfl) rfl rfl ?_)
    show TrP 156 _ _ _ _
    refine tH [(0, _), (1, _), (2, _), (6, _), (8, _), (9, _), (10, _), (11, _), (45, _), (59, _), (74, _)] ?_
    refine Tri.seq ?_
    refine tR ?_
    refine sO rfl rfl (oLoad (x := .agg [_, _, _, _, _, _, _, _, _, _, _, _, _, _, _, _, _]) rfl gG rfl ?_)
    refine sO rfl rfl (oStore (n := 17) (cs' := [_, _, _, _, _, _, _, _, _, _, _, _, _, _, _, _, _]) rfl rfl rfl gG rfl (Nat.le_of_ble_eq_true rfl) rfl rfl ?_)
    show TrP 156 _ _ _ _
    refine tH [(0, _), (1, _), (2, _), (6, _), (8, _), (9, _), (10, _), (11, _), (45, _), (59, _), (74, _)] ?_
    refine Tri.ret ?_
    refine ⟨trivial, _, (resA_cell (x := .agg [_, _, _, _, _, _, _, _, _, _, _, _, _, _, _, _, _]) rfl gG rfl rfl), ?_⟩
    obtain ⟨k', rfl⟩ : ∃ k', k = k' + 1 := ⟨k - 1, by omega⟩
    have K4f : ∀ A B, Kp [x, G3.n, H.n] G4 ((G5.set G3.n A).set H.n B) := fun A B => Kp.set (Kp.set A45 lL (.inl (by simp))) lL (.inl (by simp))
    have K5f : ∀ A B, Kp [G3.n, H.n] G5 ((G5.set G3.n A).set H.n B) := fun A B => Kp.set (Kp.set Kp.refl lL (.inl (by simp))) lL (.inl (by simp))
    have F4 : ∀ A B, Kp [] (G4.fr (G3.n + 1)) (((G5.set G3.n A).set H.n B).fr H.n) := fun A B => Kp.fr (K4f A B) (by intro d hd; simp only [List.mem_cons, List.not_mem_nil, or_false] at hd; (try simp only [Heap.n_push, Heap.n_set]); omega) lE
    have F5 : ∀ A B, Kp [] (G5.fr G4.n) (((G5.set G3.n A).set H.n B).fr H.n) := fun A B => Kp.fr (K5f A B) (by intro d hd; simp only [List.mem_cons, List.not_mem_nil, or_false] at hd; (try simp only [Heap.n_push, Heap.n_set]); omega) lE
    exact ⟨_, _, l5, lp5, rfl, stL (pa := none) (zeXL _) (hX3.kp (Kp.fr (own := [x, H.n]) (Kp.set (Kp.set A35 lL (.inr lE)) lL (.inl (by simp))) (by intro d hd; simp only [List.mem_cons, List.not_mem_nil, or_false] at hd; (try simp only [Heap.n_push, Heap.n_set]); omega) lE)) RowQ.nil (hX4.imp (F4 _ _) fun s _ c hc => LM.kp (F4 _ _) s c (LM.kp Kp.done s c hc)).q (hX5.imp (F5 _ _) fun s _ c hc => LM.kp (F5 _ _) s c (LM.kp Kp.done s c hc)).q, .cond hG3 hG4 hG5, hR5.kp (own := [G3.n, H.n]) kQ (by intro d hd; simp only [List.mem_cons, List.not_mem_nil, or_false] at hd; (try simp only [Heap.n_push, Heap.n_set]); omega), (by simp only [nSt, nStl]; omega), (by simp only [nLp]; rw [if_neg (by decide)]; omega), hlb5, kP⟩
   ·
    refine sV rfl rfl rfl ?_
    show TrP 156 _ _ _ _
    refine tH [(0, _), (1, _), (2, _), (6, _), (8, _), (9, _), (10, _), (45, _), (59, _), (74, _)] ?_
    refine tF rfl ?_
    refine Tri.seq ?_
    refine tR ?_
    refine sV rfl rfl rfl ?_
    refine sO rfl rfl (oP rfl (fun h96 => ?_) (fun h96 => ?_))
    ·
     refine sV rfl rfl rfl ?_
     show TrP 156 _ _ _ _
     refine tH [(0, _), (1, _), (2, _), (6, _), (8, _), (9, _), (10, _), (45, _), (59, _), (74, _), (94, _)] ?_
     refine tT rfl ?_
     refine Tri.seq ?_
     refine tR ?_
     iterate 2 refine sV rfl rfl rfl ?_
     refine sO rfl rfl (oW (at' (.ptr (some (_, _ + 1)))) rfl rfl ?_)
     refine sO rfl rfl (oLoad (x := .at _) rfl gG rfl ?_)
     refine sO rfl rfl (oAdd (m := 1) rfl (by omega) ?_)
     refine sV rfl rfl rfl ?_
     refine sO rfl rfl (oW (at' (.ptr (some (_, _ + 1)))) rfl rfl ?_)
     refine sO rfl rfl (oStore (n := 1) (cs' := [.slice q1 l.tail.length, .int .i64 ((lp + 1 : Nat) : Int)]) rfl rfl rfl gG rfl (Nat.le_of_ble_eq_true rfl) rfl rfl ?_)
     have hxl2 := Heap.get_lt hc1
     have hRx : RdR (G2.set x (.cells 55 1 [.slice q1 l.tail.length, .int .i64 ((lp + 1 : Nat) : Int)])) x l.tail (lp + 1) := ⟨q1, Heap.set_newl hxl2, hrow1.kpo (own := [x]) (Kp.set Kp.refl hxl2 (.inl (by simp))) (fun p hp hm => by have := hqx1 p hp; simp only [List.mem_cons, List.not_mem_nil, or_false] at hm; omega), hqx1⟩
     have K2x : Kp [x] H (G2.set x (.cells 55 1 [.slice q1 l.tail.length, .int .i64 ((lp + 1 : Nat) : Int)])) := Kp.set K2 hxl2 (.inl (by simp))
     show TrP 156 _ _ _ _
     refine tH [(0, _), (1, _), (2, _), (6, _), (8, _), (9, _), (10, _), (45, _), (59, _), (74, _), (94, _)] ?_
     refine Tri.seq ?_
     refine tR ?_
     iterate 2 refine sV rfl rfl rfl ?_
     refine sO rfl rfl (oC rfl (fnOk_of Try.func20 (by decide) rfl) (Expr_ok f 3 1 rfl x _ (lp + 1) _ hRx) ?_)
     rintro u G3 ⟨e3, cs3, l3, rfl, hX3, hG3, hR3, hl3, hk3⟩
     obtain ⟨p3, rfl, _⟩ := hX3.out
     have c3 : G3.get H.n = some (.cells 46 1 zeS) := hk3.g _ _ gG rfl (by simp; omega)
     have K3 : Kp [x] H G3 := Kp.own2 kP hk3
     have hn3 := hk3.n
     (try simp only [Heap.n_push, Heap.n_set] at hn3)
     have hnA3 := Heap.get_lt c3
     refine sO rfl rfl (oW (.one (.agg [_, .str [], .str [], .int .i64 0, .int .i64 0, .int .i64 0, .str [], .int .i64 0, .slice none 0, _, _, _, _, _, .slice none 0, .slice none 0, .slice none 0])) rfl rfl ?_)
     refine sO rfl rfl (oAlloc (cs := [.int .i64 0, .str [], .str [], .int .i64 0, .int .i64 0, .int .i64 0, .str [], .int .i64 0, .slice none 0, .int .i64 0, .int .i64 0, .str [], .int .i64 0, .slice none 0, .slice none 0, .slice none 0, .slice none 0]) rfl rfl ?_)
     refine sO rfl rfl (oStore (n := 17) (cs' := [_, _, _, _, _, _, _, _, _, _, _, _, _, _, _, _, _]) rfl rfl rfl gG rfl (Nat.le_of_ble_eq_true rfl) rfl rfl ?_)
     show TrP 156 _ _ _ _
     refine tH [(0, _), (1, _), (2, _), (6, _), (8, _), (9, _), (10, _), (12, _), (45, _), (59, _), (74, _), (94, _)] ?_
     refine Tri.seq ?_
     refine tR ?_
     iterate 3 refine sV rfl rfl rfl ?_
     refine sO rfl rfl (oAdd (m := 1) rfl (by omega) ?_)
     refine sO rfl rfl (oC rfl (fnOk_of Try.func19 (by decide) rfl) (ih (k - 1) (by omega) (deep + 1) x _ (lp + 1) 3 _ (by omega) (by omega) (by omega) (hR3.kp (own := []) kZ (by simp))) ?_)
     rintro u G4 ⟨xs4, q4, l4, lp4, rfl, hX4, hG4, hR4, hl4, hlp4, hlb4, hxl4, hk4⟩
     have c4 : G4.get H.n = some (.cells 46 1 zeS) := hk4.g _ _ gG rfl (by simp; omega)
     have ci4 : G4.get G3.n = some (.cells 46 1 (stC 4 [] [] 0 zeX [.int .i64 e3.kind, .int .i64 e3.n, .str e3.name, .int .i64 e3.op, .slice p3 e3.kids.length] (.slice none 0) (.slice none 0) (.slice none 0))) := hk4.g _ _ gG rfl (by simp; omega)
     have K4 : Kp [x] H G4 := Kp.own2 kP hk4
     have hn4 := hk4.n
     (try simp only [Heap.n_push, Heap.n_set] at hn4)
     have hnA4 := Heap.get_lt c4
     have hnB4 := Heap.get_lt ci4
     have A34 : Kp [x, H.n] G3 G4 := Kp.tr (show Kp [x, H.n] G3 _ from kZ) hk4 (by simp)
     refine sO rfl rfl (oW (at' (.ptr (some (_, 15)))) rfl rfl ?_)
     refine sO rfl rfl (oStore (n := 1) (cs' := [_, _, _, _, _, _, _, _, _, _, _, _, _, _, _, _, _]) rfl rfl rfl gG rfl (Nat.le_of_ble_eq_true rfl) rfl rfl ?_)
     show TrP 156 _ _ _ _
     refine tH [(0, _), (1, _), (2, _), (6, _), (8, _), (9, _), (10, _), (12, _), (45, _), (59, _), (74, _), (94, _)] ?_
     refine Tri.seq ?_
     refine tR ?_
     refine sO rfl rfl (oLoad (x := .agg [_, _, _, _, _, _, _, _, _, _, _, _, _, _, _, _, _]) rfl gG rfl ?_)
     refine sO rfl rfl (oStore (n := 17) (cs' := [_, _, _, _, _, _, _, _, _, _, _, _, _, _, _, _, _]) rfl rfl rfl gG rfl (Nat.le_of_ble_eq_true rfl) rfl rfl ?_)
     show TrP 156 _ _ _ _
     refine tH [(0, _), (1, _), (2, _), (6, _), (8, _), (9, _), (10, _), (12, _), (45, _), (59, _), (74, _), (94, _)] ?_
     refine Tri.ret ?_
     refine ⟨trivial, _, (resA_cell (x := .agg [_, _, _, _, _, _, _, _, _, _, _, _, _, _, _, _, _]) rfl gG rfl rfl), ?_⟩
     obtain ⟨k', rfl⟩ : ∃ k', k = k' + 1 := ⟨k - 1, by omega⟩
     have K4f : ∀ A B, Kp [G3.n, H.n] G4 ((G4.set G3.n A).set H.n B) := fun A B => Kp.set (Kp.set Kp.refl lL (.inl (by simp))) lL (.inl (by simp))
     have F4 : ∀ A B, Kp [] (G4.fr (G3.n + 1)) (((G4.set G3.n A).set H.n B).fr H.n) := fun A B => Kp.fr (K4f A B) (by intro d hd; simp only [List.mem_cons, List.not_mem_nil, or_false] at hd; (try simp only [Heap.n_push, Heap.n_set]); omega) lE
     exact ⟨_, _, l4, lp4, rfl, stL (pa := none) (pe := none) (zeXL _) (hX3.kp (Kp.fr (own := [x, H.n]) (Kp.set (Kp.set A34 lL (.inr lE)) lL (.inl (by simp))) (by intro d hd; simp only [List.mem_cons, List.not_mem_nil, or_false] at hd; (try simp only [Heap.n_push, Heap.n_set]); omega) lE)) RowQ.nil (hX4.imp (F4 _ _) fun s _ c hc => LM.kp (F4 _ _) s c (LM.kp Kp.done s c hc)).q RowQ.nil, .loop hG3 hG4, hR4.kp (own := [G3.n, H.n]) kQ (by intro d hd; simp only [List.mem_cons, List.not_mem_nil, or_false] at hd; (try simp only [Heap.n_push, Heap.n_set]); omega), (by simp only [nSt, nStl]; omega), (by simp only [nLp, nLpl]; rw [if_pos trivial]; omega), hlb4, kP⟩
    ·
     refine sV rfl rfl rfl ?_
     show TrP 156 _ _ _ _
     refine tH [(0, _), (1, _), (2, _), (6, _), (8, _), (9, _), (10, _), (45, _), (59, _), (74, _), (94, _)] ?_
     refine tF rfl ?_
     refine Tri.seq ?_
     refine tR ?_
     refine sV rfl rfl rfl ?_
     refine sO rfl rfl (oP rfl (fun h117 => ?_) (fun h117 => ?_))
     ·
      refine sV rfl rfl rfl ?_
      show TrP 156 _ _ _ _
      refine tH [(0, _), (1, _), (2, _), (6, _), (8, _), (9, _), (10, _), (45, _), (59, _), (74, _), (94, _), (115, _)] ?_
      refine tT rfl ?_
      refine Tri.seq ?_
      refine tR ?_
      iterate 2 refine sV rfl rfl rfl ?_
      refine sO rfl rfl (oC rfl (fnOk_of Try.func20 (by decide) rfl) (Expr_ok f 3 1 rfl x _ lp _ hR2) ?_)
      rintro u G3 ⟨e3, cs3, l3, rfl, hX3, hG3, hR3, hl3, hk3⟩
      obtain ⟨p3, rfl, _⟩ := hX3.out
      have c3 : G3.get H.n = some (.cells 46 1 zeS) := hk3.g _ _ gG rfl (by simp; omega)
      have K3 : Kp [x] H G3 := Kp.own2 kP hk3
      have hn3 := hk3.n
      (try simp only [Heap.n_push, Heap.n_set] at hn3)
      have hnA3 := Heap.get_lt c3
      refine sO rfl rfl (oW (.one (.agg [_, .str [], .str [], .int .i64 0, .int .i64 0, .int .i64 0, .str [], .int .i64 0, .slice none 0, _, _, _, _, _, .slice none 0, .slice none 0, .slice none 0])) rfl rfl ?_)
      refine sO rfl rfl (oStore (n := 17) (cs' := [_, _, _, _, _, _, _, _, _, _, _, _, _, _, _, _, _]) rfl rfl rfl gG rfl (Nat.le_of_ble_eq_true rfl) rfl rfl ?_)
      show TrP 156 _ _ _ _
      refine tH [(0, _), (1, _), (2, _), (6, _), (8, _), (9, _), (10, _), (45, _), (59, _), (74, _), (94, _), (115, _)] ?_
      refine Tri.ret ?_
      refine ⟨trivial, _, (resA_cell (x := .agg [_, _, _, _, _, _, _, _, _, _, _, _, _, _, _, _, _]) rfl gG rfl rfl), ?_⟩
      exact ⟨_, _, l3, lp, rfl, stL (pa := none) (pt := none) (pe := none) (zeXL _) (hX3.kp (Kp.fr (own := [H.n]) kQ (by intro d hd; simp only [List.mem_cons, List.not_mem_nil, or_false] at hd; (try simp only [Heap.n_push, Heap.n_set]); omega) lE)) RowQ.nil RowQ.nil RowQ.nil, .out hG3, hR3.kp (own := [H.n]) kQ (by intro d hd; simp only [List.mem_cons, List.not_mem_nil, or_false] at hd; (try simp only [Heap.n_push, Heap.n_set]); omega), (by simp only [nSt, nStl]; omega), (by simp [nLp, nLpl]), hlp, kP⟩
     ·
      refine sV rfl rfl rfl ?_
      show TrP 156 _ _ _ _
      refine tH [(0, _), (1, _), (2, _), (6, _), (8, _), (9, _), (10, _), (45, _), (59, _), (74, _), (94, _), (115, _)] ?_
      refine tF rfl ?_
      refine Tri.seq ?_
      refine tR ?_
      refine sV rfl rfl rfl ?_
      refine sO rfl rfl (oP rfl (fun h124 => ?_) (fun h124 => ?_))
      ·
       refine sV rfl rfl rfl ?_
       show TrP 156 _ _ _ _
       refine tH [(0, _), (1, _), (2, _), (6, _), (8, _), (9, _), (10, _), (45, _), (59, _), (74, _), (94, _), (115, _), (122, _)] ?_
       refine tT rfl ?_
       refine Tri.seq ?_
       refine Tri.drawn2 mixed eqsOk (eqs := eqs) ⟨[0, 0, 0, 4, 14, 31, 63, 0, 0, 256, 896, 1920, 4095, 0, 16383], [0, 0, 0, 0, 0, 0, 0, 0, 0, 0, 0, 0, 0, 1, 0], 2, [0, 1, 2, 3, 4, 5, 6, 7, 8, 9, 10, 11, 12, 13, 14]⟩ (by decide +kernel) rfl ?_
       refine dL rfl rfl rfl rfl (oV rfl ?_)
       refine dL rfl rfl rfl rfl (oV rfl ?_)
       refine dL rfl rfl rfl rfl (oV rfl ?_)
       refine dR0 rfl rfl rfl rfl rfl ?_
       refine dL rfl rfl rfl rfl (oRemN (n := mOf (l.headD 0)) (m := (nmL f).length) rfl rfl hnl ?_)
       obtain ⟨s, hs⟩ : ∃ s, (nmL f)[mOf (l.headD 0) % (nmL f).length]? = some s := ⟨_, List.getElem?_eq_getElem (Nat.mod_lt _ hnl)⟩
       refine dL rfl rfl rfl rfl (oIA (z := 1) (i := mOf (l.headD 0) % (nmL f).length) (n := (nmL f).length) rfl rfl rfl rfl (Nat.mod_lt _ hnl) ?_)
       refine dR0 rfl rfl rfl rfl (op_load_at (x := .at (.str s)) rfl gG (part_at rfl rfl rfl (map_at hs))) ?_
       refine dM rfl rfl rfl rfl (obj := .cells 9 2 [.str [102], .str [103]]) (v := at' (.slice (some (G2.n + 0, 0)) 2)) rfl ?_
       refine dL rfl rfl rfl rfl (oV rfl ?_)
       refine dL rfl rfl rfl rfl (oRemN (n := mOf (l.headD 0)) (m := 2) rfl rfl (by decide) ?_)
       obtain ⟨tt, ht⟩ : ∃ tt, ([[102], [103]] : List (List UInt8))[mOf (l.headD 0) % 2]? = some tt := ⟨_, List.getElem?_eq_getElem (Nat.mod_lt _ (by decide))⟩
       refine dL rfl rfl rfl rfl (oIA (z := 1) (i := mOf (l.headD 0) % 2) (n := 2) rfl rfl rfl rfl (Nat.mod_lt _ (by decide)) ?_)
       refine dRm (Heap.set _ (_ + 0) _) rfl rfl rfl rfl rfl (op_load_at (x := .at (.str tt)) (cs := [[102], [103]].map AT.str) rfl (show (Heap.set ((G2.push .dead).push .dead) (G2.n + 0) (.cells 9 2 [.str [102], .str [103]])).get (G2.n + 0) = _ from Heap.set_newl lL) (part_at rfl rfl rfl (map_at ht))) ?_
       refine dL rfl rfl rfl rfl (oW (.one (.agg [_, _, _, .int .i64 0, .int .i64 0, .int .i64 0, .str [], .int .i64 0, .slice none 0, .int .i64 0, .int .i64 0, .str [], .int .i64 0, .slice none 0, .slice none 0, .slice none 0, .slice none 0])) rfl rfl ?_)
       refine dM rfl rfl rfl rfl (obj := .cells 46 1 zeS) (v := at' (.ptr (some (G2.n + 1, 0)))) rfl ?_
       refine dCm (Heap.set (Heap.set (Heap.push (Heap.push _ .dead) .dead) (_ + 0) _) (_ + 1) _) (.drop rfl (.drop rfl .nil)) (.drop rfl (.drop rfl (.drop rfl .nil))) rfl rfl rfl rfl rfl (oStore (n := 17) (cs' := [_, _, _, _, _, _, _, _, _, _, _, _, _, _, _, _, _]) rfl rfl rfl gG rfl (Nat.le_of_ble_eq_true rfl) rfl rfl ?_)
       refine ⟨⟨.inl rfl, .inl rfl, .inl rfl, trivial⟩, ?_⟩
       refine dE0 ?_
       show TrP 156 _ _ _ _
       refine tH [(0, _), (1, _), (2, _), (6, _), (8, _), (9, _), (10, _), (13, _), (45, _), (59, _), (74, _), (94, _), (115, _), (122, _)] ?_
       refine Tri.seq ?_
       refine Tri.seq ?_
       refine tR ?_
       refine sV rfl rfl rfl ?_
       show TrP 156 _ _ _ _
       refine tH [(0, _), (1, _), (2, _), (6, _), (8, _), (9, _), (10, _), (13, _), (14, _), (45, _), (59, _), (74, _), (94, _), (115, _), (122, _)] ?_
       refine Tri.block ?_
       refine Tri.loop (fun k' lk1 H1 => ∃ (j : Nat) (args : List Exp) (cs : List AT) (a : AT) (l1 : List Int), k' = (2 - mOf (l.headD 0) % 2) - j ∧ j ≤ 2 - mOf (l.headD 0) % 2 ∧ args.length = j ∧ RowA H1 (G2.n + 2) 24 j cs a ∧ cs.length = j * 5 ∧ Lay 5 (LX (H1.cuts (List.range (G2.n + 2) ++ rid a))) args cs ∧ (∀ e ∈ args, GX (nmL f) 2 e) ∧ RdR H1 x l1 lp ∧ l1.length ≤ l.tail.length ∧ H1.get H.n = some (.cells 46 1 zeS) ∧ H1.get (G2.n + 1) = some (.cells 46 1 (stC 6 s tt 0 zeX zeX a (.slice none 0) (.slice none 0))) ∧ G2.n + 2 ≤ H1.n ∧ Kp [x] H H1 ∧ Has lk1 [(0, at' (.ptr (some (x, 0)))), (1, at' (.int .i64 f)), (6, at' (.ptr (some (H.n, 0)))), (9, at' (.int .i64 (mOf (l.headD 0) : Nat))), (13, at' (.ptr (some (G2.n + 1, 0)))), (14, at' (.int .i64 j))]) (2 - mOf (l.headD 0) % 2) (⟨0, [], [], .slice none 0, l.tail, rfl, by omega, rfl, RowA.nil _ _ _, rfl, rfl, fun _ h => (by cases h), hR2.kp (own := []) kZ (by simp), Nat.le_refl _, gG, gG, lE, kP, ⟨rfl, rfl, rfl, rfl, rfl, rfl, trivial⟩⟩) ?_
       rintro k26 lk26 H26 ⟨j, args, cs, a, l1, hk26, hj, hargs, hra, hcl, hLay, hGA, hR1, hl1, c26, ci26, hn26, K26, hh⟩
       refine Tri.has hh ?_
       have hrd := hra.rid
       refine Tri.seq ?_
       refine Tri.seq ?_
       refine tR ?_
       iterate 2 refine sV rfl rfl rfl ?_
       refine sO rfl rfl (oRemN (n := mOf (l.headD 0)) (m := 2) rfl rfl (by decide) ?_)
       refine sO rfl rfl (oSub (n := 2) (m := mOf (l.headD 0) % 2) rfl (by omega) (by omega) ?_)
       refine sO rfl rfl (oP rfl (fun h142 => ?_) (fun h142 => ?_))
       ·
        show TrP 156 _ _ _ _
        refine tH [(0, _), (1, _), (6, _), (9, _), (13, _), (14, _), (142, _)] ?_
        refine tT rfl ?_
        refine Tri.skip ?_
        show TrP 156 _ _ _ _
        refine tH [(0, _), (1, _), (6, _), (9, _), (13, _), (14, _), (142, _)] ?_
        refine Tri.seq ?_
        refine Tri.block ?_
        refine Tri.drawn1 mixed eqsOk (eqs := eqs) ⟨[0, 1, 0, 0, 12, 28, 63, 127, 255], [0, 0, 0, 0, 0, 0, 0, 0, 0], 1, [0, 1, 2, 3, 4, 5, 6, 7, 8]⟩ (by decide +kernel) rfl ?_
        refine dL rfl rfl rfl rfl (oW (at' (.ptr (some (_, 14)))) rfl rfl ?_)
        refine dR0 rfl rfl rfl rfl (op_load_at (x := .at a) rfl gG rfl) ?_
        refine dL rfl rfl rfl rfl (oV rfl ?_)
        refine dL rfl rfl rfl rfl (oV rfl ?_)
        refine dC0 (.keep rfl .nil) rfl rfl rfl rfl (oC rfl (fnOk_of Try.func20 (by decide) rfl) (Expr_ok f 2 2 rfl x _ lp _ (hR1.kp (own := []) kZ (by simp))) ?_)
        rintro u G3 ⟨e3, cs3, l3, rfl, hX3, hG3, hR3, hl3, hk3⟩
        obtain ⟨p3, rfl, _⟩ := hX3.out
        have c3 : G3.get H.n = some (.cells 46 1 zeS) := hk3.g _ _ gG rfl (by simp; omega)
        have K3 : Kp [x] H G3 := Kp.own2 kP hk3
        have hn3 := hk3.n
        (try simp only [Heap.n_push, Heap.n_set] at hn3)
        have hnA3 := Heap.get_lt c3
        have ci3 : G3.get (G2.n + 1) = some (.cells 46 1 (stC 6 s tt 0 zeX zeX a (.slice none 0) (.slice none 0))) := hk3.g _ _ gG rfl (by simp; omega)
        have KS3 : ∀ ob, Kp [x] H26 (G3.set (H26.n + 0) ob) := fun ob => Kp.set (Kp.own2 (Kp.push Kp.refl) hk3) lL (.inr lE)
        have hka : ∀ d ∈ rid a, d ∉ [x] := fun d hd hm => by
          simp only [List.mem_cons, List.not_mem_nil, or_false] at hm
          have := hrd d hd; omega
        refine ⟨⟨.inr (⟨_, rfl, op_load_at (x := .at a) rfl ci3 rfl⟩), trivial⟩, ?_⟩
        refine dM rfl rfl rfl rfl (obj := .cells 24 2 [.int .i64 e3.kind, .int .i64 e3.n, .str e3.name, .int .i64 e3.op, .slice p3 e3.kids.length]) (v := at' (.slice (some (H26.n + 0, 0)) 1)) rfl ?_
        refine dCm (Heap.set G3 (_ + 0) _) (.drop rfl .nil) (.drop rfl .nil) rfl rfl rfl rfl rfl (oAppK (lo := G2.n + 2) (n := j) (m := 1) (cs := cs) (new := [.int .i64 e3.kind, .int .i64 e3.n, .str e3.name, .int .i64 e3.op, .slice p3 e3.kids.length]) rfl rfl rfl rfl (hra.kpr (KS3 _) hka) rfl gG rfl rfl rfl rfl rfl rfl rfl hcl (by (show (j + 1) * 64 ≤ _); omega) (by omega) (fun a2 H4 hr4 hk4 ⟨id4, ha4, hid4, hg4⟩ => ?_))
        have ci4 : H4.get (G2.n + 1) = some (.cells 46 1 (stC 6 s tt 0 zeX zeX a (.slice none 0) (.slice none 0))) := hk4.g _ _ gG rfl (fun hm => by have := hrd _ hm; omega)
        have c4 : H4.get H.n = some (.cells 46 1 zeS) := hk4.g _ _ gG rfl (fun hm => by have := hrd _ hm; omega)
        have hnA4 := Heap.get_lt c4
        have hnB4 := Heap.get_lt ci4
        have hn4 := hk4.n
        (try simp only [Heap.n_push, Heap.n_set] at hn4 hid4)
        refine ⟨⟨.inl rfl, trivial⟩, ?_⟩
        refine dL rfl rfl rfl rfl (oW (at' (.ptr (some (_, 14)))) rfl rfl ?_)
        refine dC0 .nil rfl rfl rfl rfl (oStore (n := 1) (cs' := [_, _, _, _, _, _, _, _, _, _, _, _, _, _, _, _, _]) rfl rfl rfl gG rfl (Nat.le_of_ble_eq_true rfl) rfl rfl ?_)
        refine ⟨trivial, ?_⟩
        refine dE0 ?_
        show TrP 156 _ _ _ _
        refine tH [(0, _), (1, _), (6, _), (9, _), (13, _), (14, _), (142, _)] ?_
        refine tR ?_
        refine sV rfl rfl rfl ?_
        refine sO rfl rfl (oAdd (m := 1) rfl (by omega) ?_)
        refine sV rfl rfl rfl ?_
        have hra2 : ∀ d ∈ rid a2, d = id4 := fun d hd => by rw [ha4] at hd; simpa [rid] using hd
        have KS : ∀ ob, Kp [x] H26 (G3.set (H26.n + 0) ob) := KS3
        have step : ∀ ob A, Kp (rid a) (G3.set (H26.n + 0) ob) H4 → Kp [] (H26.cuts (List.range (G2.n + 2) ++ rid a)) ((H4.set (G2.n + 1) A).cuts (List.range (G2.n + 2) ++ rid a2)) := fun ob A hk => ((Kp.step (own := [x]) (KS3 ob) (by intro d hd; simp only [List.mem_cons, List.not_mem_nil, or_false] at hd; (try simp only [Heap.n_push, Heap.n_set]); omega)).trans0 (Kp.appd hk (fun d hd => by rw [hra2 d hd]; simpa using hid4))).trans0 (Kp.step (own := [G2.n + 1]) (Kp.set Kp.refl hnB4 (.inl (by simp))) (by intro d hd; simp only [List.mem_cons, List.not_mem_nil, or_false] at hd; (try simp only [Heap.n_push, Heap.n_set]); omega))
        have side : ∀ ob A, Kp (rid a) (G3.set (H26.n + 0) ob) H4 → Kp [] (G3.fr (H26.n + 1)) ((H4.set (G2.n + 1) A).cuts (List.range (G2.n + 2) ++ rid a2)) := fun ob A hk => ((Kp.beside (a := a) (own := [H26.n + 0]) (Kp.set Kp.refl lL (.inl (by simp))) (by intro d hd; simp only [List.mem_cons, List.not_mem_nil, or_false] at hd; (try simp only [Heap.n_push, Heap.n_set]); omega) (by omega) (fun d hd => by have := (hrd d hd).2; omega)).trans0 (Kp.appd hk (fun d hd => by rw [hra2 d hd]; simpa using hid4))).trans0 (Kp.step (own := [G2.n + 1]) (Kp.set Kp.refl hnB4 (.inl (by simp))) (by intro d hd; simp only [List.mem_cons, List.not_mem_nil, or_false] at hd; (try simp only [Heap.n_push, Heap.n_set]); omega))
        have hxa : ∀ d ∈ rid a, x < d := fun d hd => by have := hrd d hd; omega
        refine ⟨(2 - mOf (l.headD 0) % 2) - (j + 1), by omega, j + 1, args ++ [e3], cs ++ _, a2, l3, rfl, by omega, by rw [List.length_append, hargs]; rfl, ?_, ?_, Lay.snoc (hLay.imp fun e _ => LX.kp (step _ _ hk4) e) (hX3.kp (side _ _ hk4)) rfl (by rw [hargs]; exact hcl), ?_, (hR3.kp (own := [H26.n + 0]) (Kp.set Kp.refl lL (.inl (by simp))) (by intro d hd; simp only [List.mem_cons, List.not_mem_nil, or_false] at hd; (try simp only [Heap.n_push, Heap.n_set]); omega) |>.kp hk4 hxa).kp (own := [G2.n + 1]) kQ (by intro d hd; simp only [List.mem_cons, List.not_mem_nil, or_false] at hd; (try simp only [Heap.n_push, Heap.n_set]); omega), by omega, gG, gG, by simp only [Heap.n_set]; omega, ?_, ⟨rfl, rfl, rfl, rfl, rfl, rfl, trivial⟩⟩
        · exact (hr4.mono (by simp only [Heap.n_set]; omega) fun _ _ h => h).kpr (own := [G2.n + 1]) kQ (fun d hd hm => by rw [hra2 d hd] at hm; simp only [List.mem_cons, List.not_mem_nil, or_false] at hm; omega)
        · rw [List.length_append, hcl]; (show j * 5 + 5 = (j + 1) * 5); omega
        · intro e he
          rcases List.mem_append.1 he with h | h
          · exact hGA e h
          · simp only [List.mem_cons, List.not_mem_nil, or_false] at h; rw [h]; exact hG3
        · exact Kp.set ((Kp.set K3 lL (.inr lE)).trans hk4 fun d hd => .inr (by have := hrd d hd; omega)) lL (.inr lE)
       ·
        show TrP 156 _ _ _ _
        refine tH [(0, _), (1, _), (6, _), (9, _), (13, _), (14, _), (142, _)] ?_
        refine tF rfl ?_
        refine Tri.exit ?_
        show TrP 156 _ _ _ _
        refine tH [(0, _), (1, _), (6, _), (9, _), (13, _), (14, _), (142, _)] ?_
        refine Tri.seq ?_
        refine tR ?_
        refine sO rfl rfl (oLoad (x := .agg [_, _, _, _, _, _, _, _, _, _, _, _, _, _, _, _, _]) rfl gG rfl ?_)
        refine sO rfl rfl (oStore (n := 17) (cs' := [_, _, _, _, _, _, _, _, _, _, _, _, _, _, _, _, _]) rfl rfl rfl gG rfl (Nat.le_of_ble_eq_true rfl) rfl rfl ?_)
        show TrP 156 _ _ _ _
        refine tH [(0, _), (1, _), (6, _), (9, _), (13, _), (14, _), (142, _)] ?_
        refine Tri.ret ?_
        refine ⟨trivial, _, (resA_cell (x := .agg [_, _, _, _, _, _, _, _, _, _, _, _, _, _, _, _, _]) rfl gG rfl rfl), ?_⟩
        have hja : j = 2 - mOf (l.headD 0) % 2 := by omega
        have KF : ∀ A, Kp [] (H26.cuts (List.range (G2.n + 2) ++ rid a)) ((H26.set H.n A).fr H.n) := fun A => ((Kp.step (own := [H.n]) (Kp.set Kp.refl lL (.inl (by simp))) (by intro d hd; simp only [List.mem_cons, List.not_mem_nil, or_false] at hd; (try simp only [Heap.n_push, Heap.n_set]); omega)).trans0 Kp.done).trans0 (Kp.cuts Kp.refl fun d hd => .inl (List.mem_range.2 (by have := List.mem_range.1 hd; omega)))
        obtain ⟨p, rfl, hqq⟩ := hra.q (H := (H26.set H.n (.cells 46 1 (stC 6 s tt 0 zeX zeX a (.slice none 0) (.slice none 0)))).fr H.n) (R := LX ((H26.set H.n (.cells 46 1 (stC 6 s tt 0 zeX zeX a (.slice none 0) (.slice none 0)))).fr H.n)) hargs.symm (by rw [hargs]; exact hcl) (hLay.imp fun e _ => LX.kp (KF (.cells 46 1 (stC 6 s tt 0 zeX zeX a (.slice none 0) (.slice none 0)))) e) (fun id o hg hlo => Heap.fr_get (Heap.set_old hg (by omega) lL) (by omega))
        refine ⟨.mk 6 s tt 0 .zero .zero args [] [], _, l1, lp, rfl, stL (pt := none) (pe := none) (zeXL _) (zeXL _) hqq RowQ.nil RowQ.nil, .call (List.mem_of_getElem? hs) ?_ hGA, hR1.kp (own := [H.n]) kQ (by intro d hd; simp only [List.mem_cons, List.not_mem_nil, or_false] at hd; (try simp only [Heap.n_push, Heap.n_set]); omega), (by simp only [nSt, nStl]; omega), (by simp [nLp, nLpl]), hlp, kP⟩
        rcases fg_of ht with ⟨h1, h2⟩ | ⟨h1, h2⟩
        · exact .inl ⟨h1, by omega⟩
        · exact .inr ⟨h1, by omega⟩
      ·
       refine sV rfl rfl rfl ?_
       show TrP 156 _ _ _ _
       refine tH [(0, _), (1, _), (2, _), (6, _), (8, _), (9, _), (10, _), (45, _), (59, _), (74, _), (94, _), (115, _), (122, _)] ?_
       refine tF rfl ?_
       refine Tri.skip ?_
       show TrP 156 _ _ _ _
       refine tH [(0, _), (1, _), (2, _), (6, _), (8, _), (9, _), (10, _), (45, _), (59, _), (74, _), (94, _), (115, _), (122, _)] ?_
       refine Tri.seq ?_
       refine tR ?_
       refine sV rfl rfl rfl ?_
       refine sO rfl rfl (oW (.one (.agg [_, .str [], .str [], _, .int .i64 0, .int .i64 0, .str [], .int .i64 0, .slice none 0, .int .i64 0, .int .i64 0, .str [], .int .i64 0, .slice none 0, .slice none 0, .slice none 0, .slice none 0])) rfl rfl ?_)
       refine sO rfl rfl (oStore (n := 17) (cs' := [_, _, _, _, _, _, _, _, _, _, _, _, _, _, _, _, _]) rfl rfl rfl gG rfl (Nat.le_of_ble_eq_true rfl) rfl rfl ?_)
       show TrP 156 _ _ _ _
       refine tH [(0, _), (1, _), (2, _), (6, _), (8, _), (9, _), (10, _), (45, _), (59, _), (74, _), (94, _), (115, _), (122, _)] ?_
       refine Tri.ret ?_
       refine ⟨trivial, _, (resA_cell (x := .agg [_, _, _, _, _, _, _, _, _, _, _, _, _, _, _, _, _]) rfl gG rfl rfl), ?_⟩
       exact ⟨_, _, l.tail, lp, rfl, stL (pa := none) (pt := none) (pe := none) (zeXL _) (zeXL _) RowQ.nil RowQ.nil RowQ.nil, .trap ⟨by omega, by omega⟩, hR2.kp (own := [H.n]) kQ (by intro d hd; simp only [List.mem_cons, List.not_mem_nil, or_false] at hd; (try simp only [Heap.n_push, Heap.n_set]); omega), (by simp only [nSt, nStl]; omega), (by simp [nLp, nLpl]), hlp, kP⟩
theorem stms_all (f : Nat) : ∀ k, StmsH f k := by
  intro k
  induction k with
  | zero => exact Stmts_ok f 0 (Stmt_ok f 0 fun k' h => by cases h)
  | succ k ih => exact Stmts_ok f (k + 1) (Stmt_ok f (k + 1) fun k' h => by cases h; exact ih)

end Go.Proofs.Ytceakkomleaibaa
