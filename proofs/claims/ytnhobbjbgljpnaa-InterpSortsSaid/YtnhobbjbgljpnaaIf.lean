/-
  CONTRACTS of the interpreter's machine: statements and calls (printed by wip/tools/walk.py from wip/specs/intE.py). Written in this session.
-/
import Derived.Test.YtnhobbjbgljpnaaIe
namespace Go.Proofs.Ytnhobbjbgljpnaa
open Go.Ea
set_option maxRecDepth 100000
set_option linter.unusedVariables false
set_option linter.unusedSimpArgs false

theorem mulS {a b M : Nat} (h : a < b) : a * M + M ≤ b * M := by
  have := Nat.mul_le_mul_right M (show a + 1 ≤ b from h)
  rw [Nat.succ_mul] at this; exact this
/-- How long the output may become: what is there, one for each statement, and as much again for each unit of fuel. -/
theorem ex_pot (fs : List UInt8 → Option Fn1) (M : Nat) (hM : ∀ t g, fs t = some g → nStl g.body ≤ M) : ∀ n m : Nat,
    (∀ x s, s.c.fuel ≤ n → htS x ≤ m → nSt x ≤ M → (exS fs x s).out.length + (exS fs x s).c.fuel * M ≤ s.out.length + s.c.fuel * M + nSt x) ∧
    (∀ l s, s.c.fuel ≤ n → htSl l ≤ m → nStl l ≤ M → (exL fs l s).out.length + (exL fs l s).c.fuel * M ≤ s.out.length + s.c.fuel * M + nStl l) := by
  intro n
  induction n using Nat.strongRecOn
  rename_i n ihn
  intro m
  induction m using Nat.strongRecOn
  rename_i m ihm
  refine ⟨fun x s hn hm hx => ?_, fun l s hn hm hx => ?_⟩
  · match x, hm, hx with
    | .mk k nm to q a v args thn els, hm, hx =>
      have hx0 : nSt (.mk k nm to q a v args thn els) = nStl thn + nStl els + 1 := by simp only [nSt]
      rw [hx0] at hx ⊢
      simp only [htS] at hm
      by_cases h1 : k = 1
      · subst h1; rw [exS_assign]; simp only [evX_fuel]; omega
      by_cases h2 : k = 2
      · subst h2; rw [exS.eq_def]; simp only []; rw [if_neg h1, if_pos trivial]; simp only []
        split <;> simp only [trapS_fuel, evX_fuel] <;> omega
      by_cases h3 : k = 3
      · subst h3; rw [exS_if]
        split
        · have := (ihm (htSl thn) (by omega)).2 thn { s with c := (evX s.A s.f v s.c).1 } (by simp only [evX_fuel]; exact hn) (Nat.le_refl _) (by omega)
          simp only [evX_fuel] at this; omega
        · have := (ihm (htSl els) (by omega)).2 els { s with c := (evX s.A s.f v s.c).1 } (by simp only [evX_fuel]; exact hn) (Nat.le_refl _) (by omega)
          simp only [evX_fuel] at this; omega
      by_cases h4 : k = 4
      · subst h4; rw [exS_while]
        have e0 := evX_fuel s.A s.f v s.c
        split
        · rename_i hc
          split
          · rename_i ht
            have hlt := tickS_lt hc.2 ht
            rw [e0] at hlt
            have h5 := mulS (M := M) hlt
            have h6 := (ihm (htSl thn) (by omega)).2 thn { s with c := tickS (evX s.A s.f v s.c).1 } (by simp only []; omega) (Nat.le_refl _) (by omega)
            have h7 := exL_fuel fs thn { s with c := tickS (evX s.A s.f v s.c).1 }
            simp only [] at h6 h7
            have h8 := (ihn _ (by omega) _).1 (.mk 4 nm to q a v args thn els) (exL fs thn { s with c := tickS (evX s.A s.f v s.c).1 }) (Nat.le_refl _) (Nat.le_refl _) (by rw [show nSt (.mk 4 nm to q a v args thn els) = nStl thn + nStl els + 1 from by simp only [nSt]]; exact hx)
            rw [show nSt (.mk 4 nm to q a v args thn els) = nStl thn + nStl els + 1 from by simp only [nSt]] at h8
            omega
          · have := tickS_fuel (evX s.A s.f v s.c).1
            rw [e0] at this
            have := Nat.mul_le_mul_right M this
            simp only []; omega
        · simp only [e0]; omega
      by_cases h5 : k = 5
      · subst h5; rw [exS_out]; simp only [evX_fuel]; split <;> (try simp only [List.length_append, List.length_cons, List.length_nil]) <;> omega
      by_cases h6 : k = 6
      · subst h6
        cases hg : fs to with
        | none =>
          rw [exS.eq_def]; simp only []
          rw [if_neg (by decide), if_neg (by decide), if_neg (by decide), if_neg (by decide), if_neg (by decide), if_pos trivial, hg]
          simp only []; omega
        | some g =>
          rw [exS_call fs hg]
          have e0 := evL_fuel s.A s.f args s.c
          split
          · rename_i ht
            have hlt := tickS_lt (tickS_en ht) ht
            rw [e0] at hlt
            have h7 := mulS (M := M) hlt
            have h8 := (ihn (tickS (evL s.A s.f args s.c).1).fuel (by omega) (htSl g.body)).2 g.body { s with c := tickS (evL s.A s.f args s.c).1, f := bind g.params (evL s.A s.f args s.c).2 } (Nat.le_refl _) (Nat.le_refl _) (hM _ _ hg)
            have h9 := hM _ _ hg
            simp only [evX_fuel] at h8 ⊢
            omega
          · have := tickS_fuel (evL s.A s.f args s.c).1
            rw [e0] at this
            have := Nat.mul_le_mul_right M this
            simp only []; omega
      by_cases h7 : k = 7
      · subst h7; rw [exS_trap]; simp only [trapS_fuel]; omega
      · rw [exS.eq_def]; simp only []
        rw [if_neg h1, if_neg h2, if_neg h3, if_neg h4, if_neg h5, if_neg h6, if_neg h7]; omega
  · match l, hm, hx with
    | [], hm, hx => rw [exL_nil]; omega
    | x :: r, hm, hx =>
      simp only [htSl] at hm
      simp only [nStl] at hx ⊢
      rw [exL_cons]
      split
      · omega
      · have h1 := (ihm (htS x) (by omega)).1 x s hn (Nat.le_refl _) (by omega)
        have h0 := exS_fuel fs x s
        have h2 := (ihm (htSl r) (by omega)).2 r (exS fs x s) (by omega) (Nat.le_refl _) (by omega)
        omega
theorem exS_pot {fs : List UInt8 → Option Fn1} {M : Nat} (hM : ∀ t g, fs t = some g → nStl g.body ≤ M) (x : Stm) (s : St) (hx : nSt x ≤ M) : (exS fs x s).out.length + (exS fs x s).c.fuel * M ≤ s.out.length + s.c.fuel * M + nSt x := (ex_pot fs M hM _ _).1 x s (Nat.le_refl _) (Nat.le_refl _) hx
theorem exL_pot {fs : List UInt8 → Option Fn1} {M : Nat} (hM : ∀ t g, fs t = some g → nStl g.body ≤ M) (l : List Stm) (s : St) (hx : nStl l ≤ M) : (exL fs l s).out.length + (exL fs l s).c.fuel * M ≤ s.out.length + s.c.fuel * M + nStl l := (ex_pot fs M hM _ _).2 l s (Nat.le_refl _) (Nat.le_refl _) hx

/-- Every statement is one that may run. -/
def wsN (fs : List UInt8 → Option Fn1) (s : Stm) : Prop :=
  ((s.kind = 1 ∨ s.kind = 2 ∨ s.kind = 3 ∨ s.kind = 4 ∨ s.kind = 5) → WX s.value) ∧ (s.kind = 2 → WX s.sub) ∧ (s.kind = 6 → (∀ a ∈ s.args, WX a) ∧ s.args.length ≤ 1000 ∧ ∃ g, fs s.to = some g ∧ s.args.length = g.params.length) ∧ (s.kind = 7 → 0 ≤ s.n ∧ s.n ≤ 1000000)
def WS (fs : List UInt8 → Option Fn1) (s : Stm) : Prop := ∃ d, ∀ a ∈ preS d s, wsN fs a.1
theorem preSl_in {d : Nat} {k : Stm} {a : Stm × Nat} (ha : a ∈ preS d k) : ∀ {l : List Stm}, k ∈ l → a ∈ preSl d l
  | x :: r, h => by
    simp only [preSl, List.mem_append]
    rcases List.mem_cons.1 h with rfl | h
    · exact .inl ha
    · exact .inr (preSl_in ha h)
theorem WS.self {fs : List UInt8 → Option Fn1} {s : Stm} (h : WS fs s) : wsN fs s := by
  obtain ⟨d, h⟩ := h
  have := h (s, d) (by rw [preS_eq]; simp)
  exact this
theorem WS.thn {fs : List UInt8 → Option Fn1} {s k : Stm} (h : WS fs s) (hk : k ∈ s.thn) : WS fs k := by
  obtain ⟨d, h⟩ := h
  exact ⟨d + 1, fun a ha => h a (by rw [preS_eq]; exact List.mem_cons_of_mem _ (List.mem_append_left _ (preSl_in ha hk)))⟩
theorem WS.els {fs : List UInt8 → Option Fn1} {s k : Stm} (h : WS fs s) (hk : k ∈ s.els) : WS fs k := by
  obtain ⟨d, h⟩ := h
  exact ⟨d + 1, fun a ha => h a (by rw [preS_eq]; exact List.mem_cons_of_mem _ (List.mem_append_right _ (preSl_in ha hk)))⟩
theorem nStl_mem : ∀ {l : List Stm} {s : Stm}, s ∈ l → nSt s ≤ nStl l
  | x :: r, s, h => by
    simp only [nStl]
    rcases List.mem_cons.1 h with rfl | h
    · omega
    · have := nStl_mem h; omega
theorem nSt_pos (s : Stm) : 0 < nSt s := by cases s; simp only [nSt]; omega
theorem nStl_len : ∀ l : List Stm, l.length ≤ nStl l
  | [] => by simp [nStl]
  | s :: r => by have := nStl_len r; have := nSt_pos s; simp only [nStl, List.length_cons]; omega
theorem exS_store (fs : List UInt8 → Option Fn1) {nm to : List UInt8} {n : Int} {a v : Exp} {args : List Exp} {thn els : List Stm} {s : St} : exS fs (.mk 2 nm to n a v args thn els) s =
    { s with c := storeC s.A nm (evX s.A s.f a s.c).2 (evX s.A s.f v (evX s.A s.f a s.c).1).1, A := if (storeC s.A nm (evX s.A s.f a s.c).2 (evX s.A s.f v (evX s.A s.f a s.c).1).1).en = 0 then upd1 s.A nm ((s.A nm).set (evX s.A s.f a s.c).2.toNat (evX s.A s.f v (evX s.A s.f a s.c).1).2) else s.A } := by
  rw [exS.eq_def]
  simp only []
  rw [if_neg (by decide), if_pos trivial]
  rfl
theorem exS_while_stop (fs : List UInt8 → Option Fn1) {nm to : List UInt8} {n : Int} {a v : Exp} {args : List Exp} {thn els : List Stm} {s : St} (h : s.c.en ≠ 0) : exS fs (.mk 4 nm to n a v args thn els) s = s := by
  rw [exS_while, evX_stop h, if_neg (by simp)]
theorem exS_other (fs : List UInt8 → Option Fn1) {k : Int} {nm to : List UInt8} {n : Int} {a v : Exp} {args : List Exp} {thn els : List Stm} {s : St} (h1 : ¬ k = 1) (h2 : ¬ k = 2) (h3 : ¬ k = 3) (h4 : ¬ k = 4) (h5 : ¬ k = 5) (h6 : ¬ k = 6) (h7 : ¬ k = 7) : exS fs (.mk k nm to n a v args thn els) s = s := by
  rw [exS.eq_def]
  simp only []
  rw [if_neg h1, if_neg h2, if_neg h3, if_neg h4, if_neg h5, if_neg h6, if_neg h7]
/-- The map of the functions' numbers. -/
def FunE (H : Heap) (mf : Nat) (fi : List UInt8 → Nat) : Prop := ∃ es, H.get mf = some (.map (ents es)) ∧ ∀ s, (lkM es s).getD (.at (.int .i64 0)) = .at (.int .i64 (fi s))
theorem FunE.kp {H H' : Heap} {m : Nat} {f : List UInt8 → Nat} {own : List Nat} (h : FunE H m f) (hk : Kp own H H') (hm : m ∉ own) : FunE H' m f := by
  obtain ⟨es, h1, h2⟩ := h
  exact ⟨es, hk.g _ _ h1 rfl hm, h2⟩
theorem VarE.set {H : Heap} {m : Nat} {f : Vars} {es : Ents} {s : List UInt8} {v : Int} (hm : m < H.n) (hf : ∀ s, (lkM es s).getD (.at (.int .i64 0)) = .at (.int .i64 (f s))) : VarE (H.set m (.map (ents (upM es s (.at (.int .i64 v)))))) m (upd1 f s v) := by
  refine ⟨_, Heap.set_newl hm, fun t => ?_⟩
  rw [lk_up]
  unfold upd1
  split
  · rfl
  · exact hf t
/-- A run: where the machine lies, where the program lies, what its functions are. -/
structure Cx where
  x : Nat
  F : Fix
  pl : List UInt8 → Option Nat
  al : List Nat
  B : Heap
  fi : List UInt8 → Nat
  fs : List UInt8 → Option Fn1
  funcs : List Fn1
  M : Nat
structure CxOk (X : Cx) : Prop where
  bx : X.B.n ≤ X.x
  xc : X.x ≠ X.F.mc
  xf : X.x ≠ X.F.mf
  al1 : ∀ i ∈ X.al, X.B.n ≤ i ∧ i ≠ X.x ∧ i ≠ X.F.mc ∧ i ≠ X.F.mf
  pl1 : ∀ s i, X.pl s = some i → i ∈ X.al
  pf : RowQ X.B 9 (LFn X.B) X.funcs X.F.pf
  nf : X.F.nf = X.funcs.length
  nl : X.funcs.length ≤ 1000
  fs1 : ∀ s g, X.fs s = some g → X.funcs[X.fi s]? = some g
  ok : ∀ g ∈ X.funcs, (∀ b ∈ g.body, WS X.fs b) ∧ WX g.value ∧ g.params.Nodup ∧ nStl g.body ≤ X.M ∧ g.params.length ≤ 1000
  hM : X.M ≤ 1000000
theorem CxOk.body {X : Cx} (h : CxOk X) : ∀ s g, X.fs s = some g → nStl g.body ≤ X.M := fun s g hs => (h.ok g (List.mem_of_getElem? (h.fs1 s g hs))).2.2.2.1
/-- How a machine stands: m holds the variables, o is the output. -/
structure Mach (X : Cx) (m : Nat) (st : St) (o : AT) (H : Heap) : Prop where
  c : H.get X.x = some (.cells 77 1 (mcC X.F st.c o))
  v : VarE H m st.f
  a : ArrE H X.F.mc X.pl st.A
  f : FunE H X.F.mf X.fi
  o1 : RowA H 0 2 st.out.length (numsC st.out) o
  b : Kp [] X.B H
  md : X.B.n ≤ m ∧ m ≠ X.x ∧ m ≠ X.F.mc ∧ m ∉ X.al ∧ m ∉ rid o
  od : ∀ d ∈ rid o, X.B.n ≤ d ∧ d ≠ X.x ∧ d ≠ X.F.mc ∧ d ≠ X.F.mf ∧ d ∉ X.al
  aln : ∀ i ∈ X.al, i < H.n
section
variable {X : Cx} {m m' : Nat} {st st' : St} {o o' : AT} {H G : Heap}
theorem Mach.lt (h : Mach X m st o H) : X.x < H.n ∧ m < H.n ∧ X.F.mc < H.n ∧ X.F.mf < H.n ∧ (∀ d ∈ rid o, d < H.n) ∧ X.B.n ≤ H.n := by
  obtain ⟨es, h1, _⟩ := h.v
  obtain ⟨es2, h2, _⟩ := h.a.m
  obtain ⟨es3, h3, _⟩ := h.f
  exact ⟨Heap.get_lt h.c, Heap.get_lt h1, Heap.get_lt h2, Heap.get_lt h3, fun d hd => (h.o1.rid d hd).2, h.b.n⟩
theorem Mach.go (hX : CxOk X) {own : List Nat} {c : Ctl} (h : Mach X m st o H) (hk : Kp own H G) (ho : ∀ i ∈ own, X.B.n ≤ i ∧ i ≠ X.F.mc ∧ i ≠ X.F.mf ∧ i ≠ m ∧ i ∉ X.al ∧ i ∉ rid o) (hc : G.get X.x = some (.cells 77 1 (mcC X.F c o))) : Mach X m { st with c := c } o G :=
  ⟨hc, h.v.kp hk (fun hm => (ho _ hm).2.2.2.1 rfl), h.a.kp hk (fun hm => (ho _ hm).2.1 rfl) (fun s i hp hm => (ho _ hm).2.2.2.2.1 (hX.pl1 s i hp)), h.f.kp hk (fun hm => (ho _ hm).2.2.1 rfl),
   h.o1.kpr hk (fun d hd hm => (ho _ hm).2.2.2.2.2 hd), h.b.trans hk (fun i hi => .inr (ho i hi).1), h.md, h.od, fun i hi => Nat.lt_of_lt_of_le (h.aln i hi) hk.n⟩
theorem Mach.x (hX : CxOk X) {c : Ctl} (h : Mach X m st o H) (hk : Kp [X.x] H G) (hc : G.get X.x = some (.cells 77 1 (mcC X.F c o))) : Mach X m { st with c := c } o G :=
  h.go hX hk (fun i hi => by
    simp only [List.mem_cons, List.not_mem_nil, or_false] at hi
    subst hi
    exact ⟨hX.bx, hX.xc, hX.xf, fun e => h.md.2.1 e.symm, fun hm => (hX.al1 _ hm).2.1 rfl, fun hm => (h.od _ hm).2.1 rfl⟩) hc
theorem Mach.kp (hX : CxOk X) (h : Mach X m st o H) (hk : Kp [] H G) : Mach X m st o G := h.go hX hk (fun i hi => (by cases hi)) (hk.get h.c rfl)
theorem Mach.var (hX : CxOk X) (q4 : m ≠ X.F.mf) {es : Ents} {s : List UInt8} {v : Int} (h : Mach X m st o H) (hg : H.get m = some (.map (ents es))) (hf : ∀ s, (lkM es s).getD (.at (.int .i64 0)) = .at (.int .i64 (st.f s))) : Mach X m { st with f := upd1 st.f s v } o (H.set m (.map (ents (upM es s (.at (.int .i64 v)))))) := by
  have hm := Heap.get_lt hg
  have hk : ∀ ob, Kp [m] H (H.set m ob) := fun ob => Kp.set Kp.refl hm (.inl (by simp))
  obtain ⟨q1, q2, q3, q5, q6⟩ := h.md
  exact ⟨Heap.set_old h.c (fun e => q2 e.symm) hm, VarE.set hm hf, h.a.kp (hk _) (by simp; exact fun e => q3 e.symm) (fun s i hp hmm => by simp at hmm; subst hmm; exact q5 (hX.pl1 s _ hp)), h.f.kp (hk _) (by simp; exact fun e => q4 e.symm), h.o1.kpr (hk _) (fun d hd hmm => by simp at hmm; subst hmm; exact q6 hd),
    h.b.trans (hk _) (fun i hi => .inr (by simp at hi; subst hi; exact q1)), h.md, h.od, h.aln⟩
theorem Mach.arr (hX : CxOk X) {c : Ctl} {A : Arrs} (h : Mach X m st o H) (hk : Kp (X.x :: X.al) H G) (hc : G.get X.x = some (.cells 77 1 (mcC X.F c o))) (ha : ArrE G X.F.mc X.pl A) : Mach X m { st with c := c, A := A } o G := by
  obtain ⟨q1, q2, q3, q5, q6⟩ := h.md
  exact ⟨hc, h.v.kp hk (by simp only [List.mem_cons, not_or]; exact ⟨q2, q5⟩), ha, h.f.kp hk (by simp only [List.mem_cons, not_or]; exact ⟨fun e => hX.xf e.symm, fun hm => (hX.al1 _ hm).2.2.2 rfl⟩), h.o1.kpr hk (fun d hd => by simp only [List.mem_cons, not_or]; exact ⟨(h.od d hd).2.1, (h.od d hd).2.2.2.2⟩),
    h.b.trans hk (fun i hi => .inr (by rcases List.mem_cons.1 hi with rfl | hi; exact hX.bx; exact (hX.al1 i hi).1)), h.md, h.od, fun i hi => Nat.lt_of_lt_of_le (h.aln i hi) hk.n⟩
theorem Mach.outp (hX : CxOk X) {v : Int} (h : Mach X m st o H) (hk : Kp (X.x :: rid o) H G) (hc : G.get X.x = some (.cells 77 1 (mcC X.F st.c o'))) (hr : RowA G 0 2 (st.out ++ [v]).length (numsC (st.out ++ [v])) o') (hid : ∀ d ∈ rid o', H.n ≤ d) : Mach X m { st with out := st.out ++ [v] } o' G := by
  obtain ⟨q1, q2, q3, q5, q6⟩ := h.md
  obtain ⟨l1, l2, l3, l4, l5, l6⟩ := h.lt
  exact ⟨hc, h.v.kp hk (by simp only [List.mem_cons, not_or]; exact ⟨q2, q6⟩), h.a.kp hk (by simp only [List.mem_cons, not_or]; exact ⟨fun e => hX.xc e.symm, fun hm => (h.od _ hm).2.2.1 rfl⟩) (fun s i hp => by simp only [List.mem_cons, not_or]; exact ⟨(hX.al1 i (hX.pl1 s i hp)).2.1, fun hm => (h.od i hm).2.2.2.2 (hX.pl1 s i hp)⟩),
    h.f.kp hk (by simp only [List.mem_cons, not_or]; exact ⟨fun e => hX.xf e.symm, fun hm => (h.od _ hm).2.2.2.1 rfl⟩), hr, h.b.trans hk (fun i hi => .inr (by rcases List.mem_cons.1 hi with rfl | hi; exact hX.bx; exact (h.od i hi).1)),
    ⟨q1, q2, q3, q5, fun hm => by have := hid _ hm; omega⟩, fun d hd => by have := hid d hd; exact ⟨by omega, by omega, by omega, by omega, fun hm => by have := h.aln d hm; omega⟩, fun i hi => Nat.lt_of_lt_of_le (h.aln i hi) hk.n⟩
theorem Mach.newv (hX : CxOk X) {f : Vars} (h : Mach X m st o H) (hk : Kp [] H G) (hv : VarE G m' f) (hm : H.n ≤ m') : Mach X m' { st with f := f } o G := by
  have h2 := h.kp hX hk
  obtain ⟨l1, l2, l3, l4, l5, l6⟩ := h.lt
  exact ⟨h2.c, hv, h2.a, h2.f, h2.o1, h2.b, ⟨by omega, by omega, by omega, fun hm' => by have := h.aln _ hm'; omega, fun hm' => by have := l5 _ hm'; omega⟩, h2.od, h2.aln⟩
theorem Mach.back (hX : CxOk X) (h : Mach X m st o H) (hk : Kp (X.x :: (rid o ++ X.al)) H G) (h' : Mach X m' st' o' G) (ho : ∀ d ∈ rid o', d ∈ rid o ∨ H.n ≤ d) : Mach X m { st' with f := st.f } o' G := by
  obtain ⟨q1, q2, q3, q5, q6⟩ := h.md
  obtain ⟨l1, l2, l3, l4, l5, l6⟩ := h.lt
  exact ⟨h'.c, h.v.kp hk (by simp only [List.mem_cons, List.mem_append, not_or]; exact ⟨q2, q6, q5⟩), h'.a, h'.f, h'.o1, h'.b, ⟨q1, q2, q3, q5, fun hm => by
    rcases ho _ hm with hh | hh
    · exact q6 hh
    · omega⟩, h'.od, h'.aln⟩
/-- A box is no row. -/
theorem Mach.box (h : Mach X m st o H) {i : Nat} {T : TypeId} {cs : List AT} (hi : H.get i = some (.cells T 1 cs)) : i ∉ rid o := by
  intro hm
  rcases h.o1 with ⟨_, _, rfl⟩ | ⟨id, _, rfl, h3⟩
  · cases hm
  · simp only [rid, List.mem_cons, List.not_mem_nil, or_false] at hm
    subst hm
    rw [hi] at h3; cases h3
end
abbrev own (X : Cx) (m : Nat) (o : AT) : List Nat := X.x :: m :: (rid o ++ X.al)
theorem own_x {X : Cx} {m : Nat} {o : AT} {H G : Heap} (h : Kp [X.x] H G) : Kp (own X m o) H G := h.weaken fun i hi => by simp only [List.mem_cons, List.not_mem_nil, or_false] at hi; subst hi; simp
theorem own_step {X : Cx} {m : Nat} {o o1 : AT} {H H1 G : Heap} (h : Kp (own X m o) H H1) (hk : Kp (own X m o1) H1 G) (ho : ∀ d ∈ rid o1, d ∈ rid o ∨ H.n ≤ d) : Kp (own X m o) H G := h.trans hk fun i hi => by
  simp only [List.mem_cons, List.mem_append] at hi ⊢
  rcases hi with h | h | h | h
  · exact .inl (.inl h)
  · exact .inl (.inr (.inl h))
  · rcases ho i h with h | h
    · exact .inl (.inr (.inr (.inl h)))
    · exact .inr h
  · exact .inl (.inr (.inr (.inr h)))
theorem rid_step {o o1 o2 : AT} {n n1 : Nat} (h1 : ∀ d ∈ rid o1, d ∈ rid o ∨ n ≤ d) (h2 : ∀ d ∈ rid o2, d ∈ rid o1 ∨ n1 ≤ d) (hn : n ≤ n1) : ∀ d ∈ rid o2, d ∈ rid o ∨ n ≤ d := fun d hd => by
  rcases h2 d hd with h | h
  · exact h1 d h
  · exact .inr (by omega)
theorem exprM {X : Cx} (hX : CxOk X) (e : Exp) (st : St) (m : Nat) (o : AT) (H : Heap) (cs : List AT) (hM : Mach X m st o H) (hL : LX X.B e cs) (hW : WX e) :
    Sim Try.prog 49 [at' (.ptr (some (X.x, 0))), .one (.agg cs), at' (.map (some m))] H (fun u G => u = at' (.int .i64 (evX st.A st.f e st.c).2) ∧ Mach X m { st with c := (evX st.A st.f e st.c).1 } o G ∧ Kp [X.x] H G) :=
  (expr_ok X.x X.F o m st.f X.pl st.A X.B ⟨hM.md.2.1, fun e => hX.xc e.symm⟩ (fun s i hp => (hX.al1 i (hX.pl1 s i hp)).2.1) hX.bx e st.c H cs ⟨hM.c, hM.v, hM.a, hM.b⟩ hL hW).mono fun u G ⟨h1, h2, h3⟩ => ⟨h1, hM.x hX h3 h2, h3⟩
theorem tickM {X : Cx} (hX : CxOk X) (st : St) (m : Nat) (o : AT) (H : Heap) (hM : Mach X m st o H) (hf : st.c.fuel < 4611686018427387904) :
    Sim Try.prog 84 [at' (.ptr (some (X.x, 0)))] H (fun u G => Mach X m { st with c := tickS st.c } o G ∧ Kp [X.x] H G) :=
  (tick_ok X.x X.F st.c o H hM.c hf).mono fun u G ⟨h1, h2, h3⟩ => ⟨hM.x hX h2 h1, h2⟩
theorem trapM {X : Cx} (hX : CxOk X) (st : St) (m : Nat) (o : AT) (k : Int) (H : Heap) (hM : Mach X m st o H) :
    Sim Try.prog 73 [at' (.ptr (some (X.x, 0))), at' (.int .i64 k)] H (fun u G => Mach X m { st with c := trapS st.c k } o G ∧ Kp [X.x] H G) :=
  (trap_ok X.x X.F st.c o k H hM.c).mono fun u G ⟨h1, h2, h3⟩ => ⟨hM.x hX h2 h1, h2⟩
theorem storeM {X : Cx} (hX : CxOk X) (st : St) (m : Nat) (o : AT) (H : Heap) (hM : Mach X m st o H) (s : List UInt8) (a v : Int) :
    Sim Try.prog 83 [at' (.ptr (some (X.x, 0))), at' (.slice (plq X.pl s) (st.A s).length), at' (.int .i64 a), at' (.int .i64 v)] H (fun u G => Mach X m { st with c := storeC st.A s a st.c, A := if (storeC st.A s a st.c).en = 0 then upd1 st.A s ((st.A s).set a.toNat v) else st.A } o G ∧ Kp (X.x :: X.al) H G) :=
  (store_ok X.x X.F st.c o H hM.c X.pl st.A s a v hM.a X.al hX.pl1 ⟨fun hm => (hX.al1 _ hm).2.1 rfl, hX.xc, fun hm => (hX.al1 _ hm).2.2.1 rfl⟩).mono fun u G ⟨h1, h2, h3⟩ => ⟨hM.arr hX h3 h1 h2, h3⟩
abbrev PostS (X : Cx) (m : Nat) (st : St) (o : AT) (H G : Heap) : Prop := ∃ o', Mach X m st o' G ∧ Kp (own X m o) H G ∧ ∀ d ∈ rid o', d ∈ rid o ∨ H.n ≤ d
def Pot (X : Cx) (st : St) (k : Nat) : Prop := st.out.length + st.c.fuel * X.M + k ≤ 1099511627776
def StmtH (X : Cx) (n k : Nat) : Prop := ∀ (s : Stm) (st : St) (m : Nat) (o : AT) (H : Heap) (cs : List AT), st.c.fuel ≤ n → htS s ≤ k → m ≠ X.F.mf → Mach X m st o H → LM X.B s cs → WS X.fs s → nSt s ≤ X.M → Pot X st (nSt s) →
  Sim Try.prog 72 [at' (.ptr (some (X.x, 0))), .one (.agg cs), at' (.map (some m))] H (fun u G => PostS X m (exS X.fs s st) o H G)
def LstH (X : Cx) (n k : Nat) : Prop := ∀ (l : List Stm) (st : St) (m : Nat) (o : AT) (H : Heap) (p : Option (Nat × Nat)), st.c.fuel ≤ n → htSl l ≤ k → m ≠ X.F.mf → Mach X m st o H → RowQ X.B 17 (LM X.B) l p → (∀ b ∈ l, WS X.fs b) → nStl l ≤ X.M → Pot X st (nStl l) →
  Sim Try.prog 48 [at' (.ptr (some (X.x, 0))), at' (.slice p l.length), at' (.map (some m))] H (fun u G => PostS X m (exL X.fs l st) o H G)
def numC (y : Int) : List AT := [.int .i64 y]
theorem numsC_fm (l : List Int) : numsC l = l.flatMap numC := by
  induction l with
  | nil => rfl
  | cons a r ih => show AT.int .i64 a :: numsC r = _; rw [ih]; rfl
def CallH (X : Cx) (n : Nat) : Prop := ∀ (g : Fn1) (k : Nat) (vs : List Int) (q : Option (Nat × Nat)) (st : St) (m : Nat) (o : AT) (H : Heap), st.c.fuel ≤ n → Mach X m st o H → X.funcs[k]? = some g → vs.length = g.params.length → RowR H numC 1 vs q → Pot X st X.M →
  Sim Try.prog 29 [at' (.ptr (some (X.x, 0))), at' (.int .i64 k), at' (.slice q vs.length)] H (fun u G =>
    u = at' (.int .i64 (evX (exL X.fs g.body { st with f := bind g.params vs }).A (exL X.fs g.body { st with f := bind g.params vs }).f g.value (exL X.fs g.body { st with f := bind g.params vs }).c).2) ∧
    ∃ o', Mach X m { exL X.fs g.body { st with f := bind g.params vs } with c := (evX (exL X.fs g.body { st with f := bind g.params vs }).A (exL X.fs g.body { st with f := bind g.params vs }).f g.value (exL X.fs g.body { st with f := bind g.params vs }).c).1, f := st.f } o' G ∧ Kp (X.x :: (rid o ++ X.al)) H G ∧ ∀ d ∈ rid o', d ∈ rid o ∨ H.n ≤ d)

set_option maxHeartbeats 1000000 in
theorem stmts_step {X : Cx} (hX : CxOk X) (n k : Nat) (ih : ∀ j, j < k → StmtH X n j) : LstH X n k := by
 intro l st m o H p hfu hht hmf hM hrow hW hnS hpot
 have hlen := nStl_len l
 have hXM := hX.hM
 refine Sim.of_tri Try.func48 rfl ?_
 show TrP 27 _ _ _ _
 refine Tri.seq ?_
 refine tR ?_
 refine sV rfl rfl rfl ?_
 show TrP 27 _ _ _ _
 refine tH [(0, _), (1, _), (2, _), (6, _)] ?_
 refine Tri.block ?_
 refine Tri.loop (fun k' lk1 H1 => ∃ (j : Nat) (st1 : St) (o1 : AT), k' = l.length - j ∧ j ≤ l.length ∧ exL X.fs l st = exL X.fs (l.drop j) st1 ∧ st1.c.fuel ≤ n ∧ Pot X st1 (nStl (l.drop j)) ∧ Mach X m st1 o1 H1 ∧ Kp (own X m o) H H1 ∧ (∀ d ∈ rid o1, d ∈ rid o ∨ H.n ≤ d) ∧ Has lk1 [(0, at' (.ptr (some (X.x, 0)))), (1, at' (.slice p l.length)), (2, at' (.map (some m))), (6, at' (.int .i64 j))]) (l.length) (⟨0, st, o, rfl, by omega, by rw [List.drop_zero], hfu, by rw [List.drop_zero]; exact hpot, hM, Kp.refl, fun d hd => .inl hd, ⟨rfl, rfl, rfl, rfl, trivial⟩⟩) ?_
 rintro k' lk1 H1 ⟨j, st1, o1, hk1, hj, hex, hfu1, hpot1, hM1, hK1, ho1, hh⟩
 refine Tri.has hh ?_
 have hc1 := hM1.c
 have hxl1 := Heap.get_lt hc1
 refine Tri.seq ?_
 refine Tri.seq ?_
 refine tR ?_
 iterate 3 refine sV rfl rfl rfl ?_
 refine sO rfl rfl (oP rfl (fun h10 => ?_) (fun h10 => ?_))
 ·
  iterate 3 refine sV rfl rfl rfl ?_
  refine sO rfl rfl (oW (at' (.ptr (some (_, _ + 5)))) rfl rfl ?_)
  refine sO rfl rfl (oLoad (x := .at _) rfl gG rfl ?_)
  refine sO rfl rfl (oE rfl (fun h16 => ?_) (fun h16 => ?_))
  ·
   refine sV rfl rfl rfl ?_
   show TrP 27 _ _ _ _
   refine tH [(0, _), (1, _), (2, _), (6, _), (17, _)] ?_
   refine tT rfl ?_
   refine Tri.skip ?_
   show TrP 27 _ _ _ _
   refine tH [(0, _), (1, _), (2, _), (6, _), (17, _)] ?_
   refine Tri.seq ?_
   refine Tri.block ?_
   refine tR ?_
   iterate 3 refine sV rfl rfl rfl ?_
   obtain ⟨s, hs⟩ : ∃ s, l[j]? = some s := ⟨_, List.getElem?_eq_getElem (by omega)⟩
   have hsm := List.mem_of_getElem? hs
   obtain ⟨id, oo, T, q, c, rfl, hgB, hle, hLs⟩ := hrow.at hs
   have hg := hM1.b.get hgB rfl
   obtain ⟨a1, a2, a3, a4, a5, na, b1, b2, b3, b4, b5, nb, pa, pt, pe, hcs, _⟩ := hLs.out
   rw [hcs] at hLs
   have hmm := htSl_mem hsm
   have hnm := nStl_mem hsm
   have hdr := drop_at hs
   rw [hdr] at hex hpot1
   rw [exL_cons, if_neg (fun hh => hh h16)] at hex
   simp only [Pot, nStl] at hpot1
   refine sO rfl rfl (oIA (z := 17) rfl rfl rfl rfl (by omega) ?_)
   refine sO rfl rfl (oLoad (x := .agg [.int .i64 s.kind, .str s.name, .str s.to, .int .i64 s.n, .int .i64 a1, .int .i64 a2, .str a3, .int .i64 a4, .slice a5 na, .int .i64 b1, .int .i64 b2, .str b3, .int .i64 b4, .slice b5 nb, .slice pa s.args.length, .slice pt s.thn.length, .slice pe s.els.length]) rfl gG (part_all hcs hle rfl rfl rfl) ?_)
   refine sV rfl rfl rfl ?_
   refine sO rfl rfl (oC rfl (fnOk_of Try.func72 (by decide) rfl) (ih (htS s) (by omega) s st1 m o1 _ _ hfu1 (Nat.le_refl _) hmf hM1 hLs (hW s hsm) (by omega) (by unfold Pot; omega)) ?_)
   rintro u G2 ⟨o2, hM2, hk2, ho2⟩
   have hfu2 := exS_fuel X.fs s st1
   have hp2 := exS_pot hX.body s st1 (by omega)
   have hn1 := hK1.n
   show TrP 27 _ _ _ _
   refine tH [(0, _), (1, _), (2, _), (6, _), (17, _)] ?_
   refine tR ?_
   refine sV rfl rfl rfl ?_
   refine sO rfl rfl (oAdd (m := 1) rfl (by omega) ?_)
   refine sV rfl rfl rfl ?_
   exact ⟨l.length - (j + 1), by omega, j + 1, exS X.fs s st1, o2, rfl, by omega, hex, by omega, by unfold Pot; omega, hM2, own_step hK1 hk2 ho1, rid_step ho1 ho2 hn1, ⟨rfl, rfl, rfl, rfl, trivial⟩⟩
  ·
   refine sV rfl rfl rfl ?_
   show TrP 27 _ _ _ _
   refine tH [(0, _), (1, _), (2, _), (6, _), (17, _)] ?_
   refine tF rfl ?_
   refine Tri.exit ?_
   refine ⟨trivial, _, rfl, ?_⟩
   have e : exL X.fs l st = st1 := by
     rw [hex]
     first
       | (rw [List.drop_eq_nil_of_le (by omega), exL_nil])
       | (obtain ⟨s, hs⟩ : ∃ s, l[j]? = some s := ⟨_, List.getElem?_eq_getElem (by omega)⟩
          rw [drop_at hs, exL_cons, if_pos h16])
   rw [e]; exact ⟨o1, hM1, hK1, ho1⟩
 ·
  refine sV rfl rfl rfl ?_
  iterate 5 refine sN rfl rfl ?_
  refine sV rfl rfl rfl ?_
  show TrP 27 _ _ _ _
  refine tH [(0, _), (1, _), (2, _), (6, _), (17, _)] ?_
  refine tF rfl ?_
  refine Tri.exit ?_
  refine ⟨trivial, _, rfl, ?_⟩
  have e : exL X.fs l st = st1 := by
    rw [hex]
    first
      | (rw [List.drop_eq_nil_of_le (by omega), exL_nil])
      | (obtain ⟨s, hs⟩ : ∃ s, l[j]? = some s := ⟨_, List.getElem?_eq_getElem (by omega)⟩
         rw [drop_at hs, exL_cons, if_pos h16])
  rw [e]; exact ⟨o1, hM1, hK1, ho1⟩
set_option maxHeartbeats 4000000 in
theorem stmt_step {X : Cx} (hX : CxOk X) (n k : Nat) (hn : n ≤ 1000) (ih : ∀ j, j < k → LstH X n j) (ihC : ∀ j, j < n → CallH X j) : StmtH X n k := by
 intro s st m o H cs hfu hht hmf hM hL hW hnS hpot
 obtain ⟨sk, snm, sto, sn, ssub, sv, sargs, sthn, sels⟩ := s
 obtain ⟨c, A, f, out⟩ := st
 obtain ⟨a1, a2, a3, a4, a5, na, b1, b2, b3, b4, b5, nb, pa, pt, pe, hcs, hsub, hval, hargs, hthn, hels⟩ := hL.out
 simp only [Stm.kind, Stm.name, Stm.to, Stm.n, Stm.sub, Stm.value, Stm.args, Stm.thn, Stm.els] at hcs hsub hval hargs hthn hels
 subst hcs
 have hWs := hW.self
 simp only [wsN, Stm.kind, Stm.name, Stm.to, Stm.n, Stm.sub, Stm.value, Stm.args] at hWs
 have hXM := hX.hM
 obtain ⟨hlx, hlm, hlc, hlf, hlo, hlb⟩ := hM.lt
 obtain ⟨qm1, qm2, qm3, qm5, qm6⟩ := hM.md
 simp only [htS] at hht
 simp only [nSt] at hnS
 have hcx := hM.c
 obtain ⟨esA, hesA, hlkA⟩ := hM.a.look snm
 obtain ⟨esF, hesF, hlkF⟩ := hM.f
 have hpot0 := hpot
 simp only [Pot, nSt] at hpot
 simp only [] at hfu
 refine Sim.of_tri Try.func72 rfl ?_
 show TrP 154 _ _ _ _
 refine Tri.seq ?_
 refine tR ?_
 refine sO rfl rfl (oBox (cs := [_, _, _, _, _, _, _, _, _, _, _, _, _, _, _, _, _]) rfl rfl ?_)
 show TrP 154 _ _ _ _
 refine tH [(0, _), (1, _), (2, _), (4, _)] ?_
 refine Tri.seq ?_
 refine tR ?_
 refine sO rfl rfl (oW (at' (.ptr (some (_, 0)))) rfl rfl ?_)
 refine sO rfl rfl (oLoad (x := .at _) rfl gG rfl ?_)
 show TrP 154 _ _ _ _
 refine tH [(0, _), (1, _), (2, _), (4, _), (11, _)] ?_
 refine Tri.block ?_
 refine Tri.seq ?_
 refine tR ?_
 refine sO rfl rfl (oE rfl (fun h13 => ?_) (fun h13 => ?_))
 ·
  refine sV rfl rfl rfl ?_
  show TrP 154 _ _ _ _
  refine tH [(0, _), (1, _), (2, _), (4, _), (11, _), (12, _)] ?_
  refine tT rfl ?_
  refine Tri.drawn1 mixed eqsOk (eqs := eqs) ⟨[0, 0, 2, 0, 0, 16, 0, 120, 255], [0, 0, 0, 0, 0, 0, 0, 0, 0], 1, [0, 1, 2, 3, 4, 5, 6, 7, 8]⟩ (by decide +kernel) rfl ?_
  refine dL rfl rfl rfl rfl (oV rfl ?_)
  refine dL rfl rfl rfl rfl (oW (at' (.ptr (some (_, 1)))) rfl rfl ?_)
  refine dR0 rfl rfl rfl rfl (op_load_at (x := .at _) rfl gG rfl) ?_
  refine dL rfl rfl rfl rfl (oV rfl ?_)
  refine dL rfl rfl rfl rfl (oW (at' (.ptr (some (_, 9)))) rfl rfl ?_)
  refine dR0 rfl rfl rfl rfl (op_load_at (x := .agg [_, _, _, _, _]) rfl gG rfl) ?_
  refine dL rfl rfl rfl rfl (oV rfl ?_)
  refine dC0 (.drop rfl (.keep rfl .nil)) rfl rfl rfl rfl (oC rfl (fnOk_of Try.func49 (by decide) rfl) (exprM hX sv (St.mk c A f out) m o _ _ (hM.kp hX kZ) hval (hWs.1 (by omega))) ?_)
  rintro u G1 ⟨rfl, hM1, hk1⟩
  have hM1 : Mach X m ⟨(evX A f sv c).1, A, f, out⟩ o G1 := hM1
  have hc1 : G1.get X.x = some (.cells 77 1 (mcC X.F ((evX A f sv c).1) o)) := hM1.c
  have K1 : Kp [X.x] H G1 := Kp.own2 kZ hk1
  have hcell1 : G1.get H.n = some (.cells 58 1 [.int .i64 sk, .str snm, .str sto, .int .i64 sn, .int .i64 a1, .int .i64 a2, .str a3, .int .i64 a4, .slice a5 na, .int .i64 b1, .int .i64 b2, .str b3, .int .i64 b4, .slice b5 nb, .slice pa sargs.length, .slice pt sthn.length, .slice pe sels.length]) := hk1.g _ _ gG rfl (by simp only [List.mem_cons, List.not_mem_nil, or_false]; omega)
  have hn1 := K1.n
  have hxl1 := Heap.get_lt hc1
  have hbl1 := Heap.get_lt hcell1
  refine ⟨⟨.inl rfl, .inr (⟨_, rfl, op_load_at (x := .at (.str snm)) rfl hcell1 rfl⟩), trivial⟩, ?_⟩
  obtain ⟨es1, hes1, hf1⟩ := hM1.v
  refine dC0 (.drop rfl .nil) rfl rfl rfl rfl (oMapUp rfl rfl rfl rfl rfl hes1 ?_)
  refine ⟨⟨.inl rfl, trivial⟩, ?_⟩
  refine dE0 ?_
  refine ⟨trivial, _, rfl, ?_⟩
  subst h13
  rw [exS_assign]; exact ⟨o, hM1.var hX hmf hes1 hf1, Kp.set (own_x K1) lL (.inl (by simp)), fun d hd => .inl hd⟩
 ·
  refine sV rfl rfl rfl ?_
  show TrP 154 _ _ _ _
  refine tH [(0, _), (1, _), (2, _), (4, _), (11, _), (12, _)] ?_
  refine tF rfl ?_
  refine Tri.seq ?_
  refine tR ?_
  refine sO rfl rfl (oE rfl (fun h23 => ?_) (fun h23 => ?_))
  ·
   refine sV rfl rfl rfl ?_
   show TrP 154 _ _ _ _
   refine tH [(0, _), (1, _), (2, _), (4, _), (11, _), (12, _), (22, _)] ?_
   refine tT rfl ?_
   refine Tri.drawn1 mixed eqsOk (eqs := eqs) ⟨[0, 0, 2, 6, 14, 0, 32, 126, 0, 0, 512, 0, 3840, 0, 0, 16384, 0, 130816, 262143], [0, 0, 0, 0, 0, 0, 0, 0, 0, 0, 0, 0, 0, 0, 0, 0, 0, 0, 0], 1, [0, 1, 2, 3, 4, 5, 6, 7, 8, 9, 10, 11, 13, 14, 15, 16, 12, 17, 18]⟩ (by decide +kernel) rfl ?_
   refine dL rfl rfl rfl rfl (oV rfl ?_)
   refine dL rfl rfl rfl rfl (oV rfl ?_)
   refine dL rfl rfl rfl rfl (oV rfl ?_)
   refine dL rfl rfl rfl rfl (oW (at' (.ptr (some (_, _ + 2)))) rfl rfl ?_)
   refine dR0 rfl rfl rfl rfl (op_load_at (x := .at _) rfl gG rfl) ?_
   refine dL rfl rfl rfl rfl (oW (at' (.ptr (some (_, 1)))) rfl rfl ?_)
   refine dR0 rfl rfl rfl rfl (op_load_at (x := .at _) rfl gG rfl) ?_
   refine dR0 rfl rfl rfl rfl (look_atA rfl rfl rfl rfl rfl gG hlkA) ?_
   refine dL rfl rfl rfl rfl (oV rfl ?_)
   refine dL rfl rfl rfl rfl (oW (at' (.ptr (some (_, 4)))) rfl rfl ?_)
   refine dR0 rfl rfl rfl rfl (op_load_at (x := .agg [_, _, _, _, _]) rfl gG rfl) ?_
   refine dL rfl rfl rfl rfl (oV rfl ?_)
   refine dL rfl rfl rfl rfl (oV rfl ?_)
   refine dL rfl rfl rfl rfl (oW (at' (.ptr (some (_, 9)))) rfl rfl ?_)
   refine dR0 rfl rfl rfl rfl (op_load_at (x := .agg [_, _, _, _, _]) rfl gG rfl) ?_
   refine dL rfl rfl rfl rfl (oV rfl ?_)
   refine dC0 (.keep rfl (.drop rfl (.keep rfl (.keep rfl (.keep rfl .nil))))) rfl rfl rfl rfl (oC rfl (fnOk_of Try.func49 (by decide) rfl) (exprM hX ssub (St.mk c A f out) m o _ _ (hM.kp hX kZ) hsub (hWs.2.1 h23)) ?_)
   rintro u G1 ⟨rfl, hM1, hk1⟩
   have hM1 : Mach X m ⟨(evX A f ssub c).1, A, f, out⟩ o G1 := hM1
   have hc1 : G1.get X.x = some (.cells 77 1 (mcC X.F ((evX A f ssub c).1) o)) := hM1.c
   have K1 : Kp [X.x] H G1 := Kp.own2 kZ hk1
   have hcell1 : G1.get H.n = some (.cells 58 1 [.int .i64 sk, .str snm, .str sto, .int .i64 sn, .int .i64 a1, .int .i64 a2, .str a3, .int .i64 a4, .slice a5 na, .int .i64 b1, .int .i64 b2, .str b3, .int .i64 b4, .slice b5 nb, .slice pa sargs.length, .slice pt sthn.length, .slice pe sels.length]) := hk1.g _ _ gG rfl (by simp only [List.mem_cons, List.not_mem_nil, or_false]; omega)
   have hn1 := K1.n
   have hxl1 := Heap.get_lt hc1
   have hbl1 := Heap.get_lt hcell1
   have hmc1 : G1.get X.F.mc = some (.map (ents esA)) := hk1.g _ _ gG rfl (by simp only [List.mem_cons, List.not_mem_nil, or_false]; exact fun e => hX.xc e.symm)
   refine ⟨⟨.inr (⟨_, rfl, op_load_at (x := .agg [.int .i64 b1, .int .i64 b2, .str b3, .int .i64 b4, .slice b5 nb]) rfl hcell1 rfl⟩), .inl rfl, .inr (⟨_, rfl, look_atA rfl rfl rfl rfl rfl hmc1 hlkA⟩), .inr (⟨_, rfl, op_load_at (x := .at (.str snm)) rfl hcell1 rfl⟩), .inr (⟨_, rfl, op_load_at (x := .at (.map (some X.F.mc))) rfl hc1 rfl⟩), trivial⟩, ?_⟩
   refine dC0 (.drop rfl (.keep rfl (.keep rfl (.keep rfl .nil)))) rfl rfl rfl rfl (oC rfl (fnOk_of Try.func49 (by decide) rfl) (exprM hX sv ⟨(evX A f ssub c).1, A, f, out⟩ m o _ _ hM1 hval (hWs.1 (by omega))) ?_)
   rintro u G2 ⟨rfl, hM2, hk2⟩
   have hM2 : Mach X m ⟨(evX A f sv (evX A f ssub c).1).1, A, f, out⟩ o G2 := hM2
   have hc2 : G2.get X.x = some (.cells 77 1 (mcC X.F ((evX A f sv (evX A f ssub c).1).1) o)) := hM2.c
   have K2 : Kp [X.x] H G2 := Kp.own2 K1 hk2
   have hcell2 : G2.get H.n = some (.cells 58 1 [.int .i64 sk, .str snm, .str sto, .int .i64 sn, .int .i64 a1, .int .i64 a2, .str a3, .int .i64 a4, .slice a5 na, .int .i64 b1, .int .i64 b2, .str b3, .int .i64 b4, .slice b5 nb, .slice pa sargs.length, .slice pt sthn.length, .slice pe sels.length]) := hk2.g _ _ gG rfl (by simp only [List.mem_cons, List.not_mem_nil, or_false]; omega)
   have hn2 := K2.n
   have hxl2 := Heap.get_lt hc2
   have hbl2 := Heap.get_lt hcell2
   have hmc2 : G2.get X.F.mc = some (.map (ents esA)) := hk2.g _ _ hmc1 rfl (by simp only [List.mem_cons, List.not_mem_nil, or_false]; exact fun e => hX.xc e.symm)
   refine ⟨⟨.inl rfl, .inr (⟨_, rfl, look_atA rfl rfl rfl rfl rfl hmc2 hlkA⟩), .inr (⟨_, rfl, op_load_at (x := .at (.str snm)) rfl hcell2 rfl⟩), .inr (⟨_, rfl, op_load_at (x := .at (.map (some X.F.mc))) rfl hc2 rfl⟩), trivial⟩, ?_⟩
   refine dC0 (.drop rfl (.drop rfl (.drop rfl .nil))) rfl rfl rfl rfl (oC rfl (fnOk_of Try.func83 (by decide) rfl) (storeM hX ⟨(evX A f sv (evX A f ssub c).1).1, A, f, out⟩ m o _ hM2 snm _ _) ?_)
   rintro u G3 ⟨hM3, hk3⟩
   refine ⟨⟨.inl rfl, .inl rfl, .inl rfl, trivial⟩, ?_⟩
   refine dE0 ?_
   refine ⟨trivial, _, rfl, ?_⟩
   subst h23
   rw [exS_store]; exact ⟨o, hM3, (own_x K2).trans hk3 (fun i hi => .inl (by rcases List.mem_cons.1 hi with rfl | hi; simp; simp [hi])), fun d hd => .inl hd⟩
  ·
   refine sV rfl rfl rfl ?_
   show TrP 154 _ _ _ _
   refine tH [(0, _), (1, _), (2, _), (4, _), (11, _), (12, _), (22, _)] ?_
   refine tF rfl ?_
   refine Tri.seq ?_
   refine tR ?_
   refine sO rfl rfl (oE rfl (fun h44 => ?_) (fun h44 => ?_))
   ·
    refine sV rfl rfl rfl ?_
    show TrP 154 _ _ _ _
    refine tH [(0, _), (1, _), (2, _), (4, _), (11, _), (12, _), (22, _), (43, _)] ?_
    refine tT rfl ?_
    refine Tri.seq ?_
    refine tR ?_
    refine sV rfl rfl rfl ?_
    refine sO rfl rfl (oW (at' (.ptr (some (_, 9)))) rfl rfl ?_)
    refine sO rfl rfl (oLoad (x := .agg [_, _, _, _, _]) rfl gG rfl ?_)
    refine sV rfl rfl rfl ?_
    refine sO rfl rfl (oC rfl (fnOk_of Try.func49 (by decide) rfl) (exprM hX sv (St.mk c A f out) m o _ _ (hM.kp hX kZ) hval (hWs.1 (by omega))) ?_)
    rintro u G1 ⟨rfl, hM1, hk1⟩
    have hM1 : Mach X m ⟨(evX A f sv c).1, A, f, out⟩ o G1 := hM1
    have hc1 : G1.get X.x = some (.cells 77 1 (mcC X.F ((evX A f sv c).1) o)) := hM1.c
    have K1 : Kp [X.x] H G1 := Kp.own2 kZ hk1
    have hcell1 : G1.get H.n = some (.cells 58 1 [.int .i64 sk, .str snm, .str sto, .int .i64 sn, .int .i64 a1, .int .i64 a2, .str a3, .int .i64 a4, .slice a5 na, .int .i64 b1, .int .i64 b2, .str b3, .int .i64 b4, .slice b5 nb, .slice pa sargs.length, .slice pt sthn.length, .slice pe sels.length]) := hk1.g _ _ gG rfl (by simp only [List.mem_cons, List.not_mem_nil, or_false]; omega)
    have hn1 := K1.n
    have hxl1 := Heap.get_lt hc1
    have hbl1 := Heap.get_lt hcell1
    refine sO rfl rfl (oNE rfl (fun h50 => ?_) (fun h50 => ?_))
    ·
     show TrP 154 _ _ _ _
     refine tH [(0, _), (1, _), (2, _), (4, _), (11, _), (12, _), (22, _), (43, _), (50, _)] ?_
     refine tT rfl ?_
     refine tR ?_
     refine sV rfl rfl rfl ?_
     refine sO rfl rfl (oW (at' (.ptr (some (_, 15)))) rfl rfl ?_)
     refine sO rfl rfl (oLoad (x := .at _) rfl gG rfl ?_)
     refine sV rfl rfl rfl ?_
     refine sO rfl rfl (oC rfl (fnOk_of Try.func48 (by decide) rfl) (ih (htSl sthn) (by omega) sthn ⟨(evX A f sv c).1, A, f, out⟩ m o G1 pt (by simp only [evX_fuel]; exact hfu) (Nat.le_refl _) hmf hM1 hthn (fun b hb => hW.thn hb) (by omega) (by simp only [Pot, evX_fuel]; omega)) ?_)
     rintro u G2 ⟨o2, hM2, hk2, ho2⟩
     refine ⟨trivial, _, rfl, ?_⟩
     subst h44
     rw [exS_if, if_pos h50]; exact ⟨o2, hM2, own_step (own_x K1) hk2 (fun d hd => .inl hd), rid_step (fun d hd => .inl hd) ho2 hn1⟩
    ·
     show TrP 154 _ _ _ _
     refine tH [(0, _), (1, _), (2, _), (4, _), (11, _), (12, _), (22, _), (43, _), (50, _)] ?_
     refine tF rfl ?_
     refine tR ?_
     refine sV rfl rfl rfl ?_
     refine sO rfl rfl (oW (at' (.ptr (some (_, 16)))) rfl rfl ?_)
     refine sO rfl rfl (oLoad (x := .at _) rfl gG rfl ?_)
     refine sV rfl rfl rfl ?_
     refine sO rfl rfl (oC rfl (fnOk_of Try.func48 (by decide) rfl) (ih (htSl sels) (by omega) sels ⟨(evX A f sv c).1, A, f, out⟩ m o G1 pe (by simp only [evX_fuel]; exact hfu) (Nat.le_refl _) hmf hM1 hels (fun b hb => hW.els hb) (by omega) (by simp only [Pot, evX_fuel]; omega)) ?_)
     rintro u G2 ⟨o2, hM2, hk2, ho2⟩
     refine ⟨trivial, _, rfl, ?_⟩
     subst h44
     rw [exS_if, if_neg (fun hh => hh h50)]; exact ⟨o2, hM2, own_step (own_x K1) hk2 (fun d hd => .inl hd), rid_step (fun d hd => .inl hd) ho2 hn1⟩
   ·
    refine sV rfl rfl rfl ?_
    show TrP 154 _ _ _ _
    refine tH [(0, _), (1, _), (2, _), (4, _), (11, _), (12, _), (22, _), (43, _)] ?_
    refine tF rfl ?_
    refine Tri.seq ?_
    refine tR ?_
    refine sO rfl rfl (oE rfl (fun h62 => ?_) (fun h62 => ?_))
    ·
     refine sV rfl rfl rfl ?_
     show TrP 154 _ _ _ _
     refine tH [(0, _), (1, _), (2, _), (4, _), (11, _), (12, _), (22, _), (43, _), (61, _)] ?_
     refine tT rfl ?_
     refine Tri.block ?_
     refine Tri.loop (fun k' lk1 H1 => ∃ (st1 : St) (o1 : AT), k' = st1.c.fuel + (if st1.c.en = 0 then 1 else 0) ∧ exS X.fs (.mk 4 snm sto sn ssub sv sargs sthn sels) (St.mk c A f out) = exS X.fs (.mk 4 snm sto sn ssub sv sargs sthn sels) st1 ∧ st1.c.fuel ≤ n ∧ Pot X st1 (nSt (.mk 4 snm sto sn ssub sv sargs sthn sels)) ∧ Mach X m st1 o1 H1 ∧ Kp (own X m o) H H1 ∧ (∀ d ∈ rid o1, d ∈ rid o ∨ H.n ≤ d) ∧ H1.get H.n = some (.cells 58 1 [.int .i64 4, .str snm, .str sto, .int .i64 sn, .int .i64 a1, .int .i64 a2, .str a3, .int .i64 a4, .slice a5 na, .int .i64 b1, .int .i64 b2, .str b3, .int .i64 b4, .slice b5 nb, .slice pa sargs.length, .slice pt sthn.length, .slice pe sels.length]) ∧ Has lk1 [(0, at' (.ptr (some (X.x, 0)))), (2, at' (.map (some m))), (4, at' (.ptr (some (H.n, 0))))]) (c.fuel + (if c.en = 0 then 1 else 0)) (⟨⟨c, A, f, out⟩, o, rfl, rfl, hfu, (by subst h62; exact hpot0), hM.kp hX kZ, own_x (kpL kZ), fun d hd => .inl hd, (by subst h62; exact gG), ⟨rfl, rfl, rfl, trivial⟩⟩) ?_
     rintro k' lk1 H1 ⟨st1, o1, hk1, hex, hfu1, hpot1, hM1, hK1, ho1, hcw, hh⟩
     refine Tri.has hh ?_
     simp only [Pot, nSt] at hpot1
     have hn1 := hK1.n
     have hblw := Heap.get_lt hcw
     subst h62
     refine Tri.seq ?_
     refine Tri.seq ?_
     refine tR ?_
     refine sV rfl rfl rfl ?_
     refine sO rfl rfl (oW (at' (.ptr (some (_, 9)))) rfl rfl ?_)
     refine sO rfl rfl (oLoad (x := .agg [_, _, _, _, _]) rfl gG rfl ?_)
     refine sV rfl rfl rfl ?_
     refine sO rfl rfl (oC rfl (fnOk_of Try.func49 (by decide) rfl) (exprM hX sv st1 m o1 _ _ hM1 hval (hWs.1 (by omega))) ?_)
     rintro u G2 ⟨rfl, hM2, hk2⟩
     have hM2 : Mach X m { st1 with c := (evX st1.A st1.f sv st1.c).1 } o1 G2 := hM2
     have hc2 : G2.get X.x = some (.cells 77 1 (mcC X.F ((evX st1.A st1.f sv st1.c).1) o1)) := hM2.c
     have hcell2 : G2.get H.n = some (.cells 58 1 [.int .i64 4, .str snm, .str sto, .int .i64 sn, .int .i64 a1, .int .i64 a2, .str a3, .int .i64 a4, .slice a5 na, .int .i64 b1, .int .i64 b2, .str b3, .int .i64 b4, .slice b5 nb, .slice pa sargs.length, .slice pt sthn.length, .slice pe sels.length]) := hk2.g _ _ hcw rfl (by simp only [List.mem_cons, List.not_mem_nil, or_false]; omega)
     have hxl2 := Heap.get_lt hc2
     have hbl2 := Heap.get_lt hcell2
     have K2 : Kp (own X m o) H G2 := hK1.trans hk2 fun i hi => .inl (by simp only [List.mem_cons, List.not_mem_nil, or_false] at hi; subst hi; simp)
     refine sO rfl rfl (oNE rfl (fun h68 => ?_) (fun h68 => ?_))
     ·
      iterate 3 refine sV rfl rfl rfl ?_
      refine sO rfl rfl (oW (at' (.ptr (some (_, _ + 5)))) rfl rfl ?_)
      refine sO rfl rfl (oLoad (x := .at _) rfl gG rfl ?_)
      refine sO rfl rfl (oE rfl (fun h74 => ?_) (fun h74 => ?_))
      ·
       refine sV rfl rfl rfl ?_
       show TrP 154 _ _ _ _
       refine tH [(0, _), (2, _), (4, _), (75, _)] ?_
       refine tT rfl ?_
       refine Tri.skip ?_
       show TrP 154 _ _ _ _
       refine tH [(0, _), (2, _), (4, _), (75, _)] ?_
       refine Tri.block ?_
       refine Tri.seq ?_
       refine tR ?_
       refine sV rfl rfl rfl ?_
       refine sO rfl rfl (oC rfl (fnOk_of Try.func84 (by decide) rfl) (tickM hX _ m o1 _ hM2 (by simp only [evX_fuel]; omega)) ?_)
       rintro u G3 ⟨hM3, hk3⟩
       have hM3 : Mach X m { st1 with c := tickS (evX st1.A st1.f sv st1.c).1 } o1 G3 := hM3
       have hc3 : G3.get X.x = some (.cells 77 1 (mcC X.F (tickS (evX st1.A st1.f sv st1.c).1) o1)) := hM3.c
       have hcell3 : G3.get H.n = some (.cells 58 1 [.int .i64 4, .str snm, .str sto, .int .i64 sn, .int .i64 a1, .int .i64 a2, .str a3, .int .i64 a4, .slice a5 na, .int .i64 b1, .int .i64 b2, .str b3, .int .i64 b4, .slice b5 nb, .slice pa sargs.length, .slice pt sthn.length, .slice pe sels.length]) := hk3.g _ _ hcell2 rfl (by simp only [List.mem_cons, List.not_mem_nil, or_false]; omega)
       have hxl3 := Heap.get_lt hc3
       have hbl3 := Heap.get_lt hcell3
       have K3 : Kp (own X m o) H G3 := K2.trans hk3 fun i hi => .inl (by simp only [List.mem_cons, List.not_mem_nil, or_false] at hi; subst hi; simp)
       have hn3 := K3.n
       have e0 := evX_fuel st1.A st1.f sv st1.c
       have ht := tickS_fuel (evX st1.A st1.f sv st1.c).1
       have hmu := Nat.mul_le_mul_right X.M (show (tickS (evX st1.A st1.f sv st1.c).1).fuel ≤ st1.c.fuel from by omega)
       show TrP 154 _ _ _ _
       refine tH [(0, _), (2, _), (4, _), (75, _)] ?_
       refine Tri.seq ?_
       refine tR ?_
       iterate 2 refine sV rfl rfl rfl ?_
       refine sO rfl rfl (oW (at' (.ptr (some (_, _ + 5)))) rfl rfl ?_)
       refine sO rfl rfl (oLoad (x := .at _) rfl gG rfl ?_)
       refine sO rfl rfl (oE rfl (fun h82 => ?_) (fun h82 => ?_))
       ·
        show TrP 154 _ _ _ _
        refine tH [(0, _), (2, _), (4, _), (75, _), (82, _)] ?_
        refine tT rfl ?_
        refine tR ?_
        refine sV rfl rfl rfl ?_
        refine sO rfl rfl (oW (at' (.ptr (some (_, 15)))) rfl rfl ?_)
        refine sO rfl rfl (oLoad (x := .at _) rfl gG rfl ?_)
        refine sV rfl rfl rfl ?_
        refine sO rfl rfl (oC rfl (fnOk_of Try.func48 (by decide) rfl) (ih (htSl sthn) (by omega) sthn _ m o1 G3 pt (by show (tickS _).fuel ≤ n; omega) (Nat.le_refl _) hmf hM3 hthn (fun b hb => hW.thn hb) (by omega) (by show st1.out.length + (tickS _).fuel * X.M + _ ≤ _; omega)) ?_)
        rintro u G4 ⟨o4, hM4, hk4, ho4⟩
        have hcell4 : G4.get H.n = some (.cells 58 1 [.int .i64 4, .str snm, .str sto, .int .i64 sn, .int .i64 a1, .int .i64 a2, .str a3, .int .i64 a4, .slice a5 na, .int .i64 b1, .int .i64 b2, .str b3, .int .i64 b4, .slice b5 nb, .slice pa sargs.length, .slice pt sthn.length, .slice pe sels.length]) := hk4.g _ _ hcell3 rfl (by simp only [own, List.mem_cons, List.mem_append, not_or]; exact ⟨by omega, by omega, hM3.box hcell3, fun hm => by have := hM.aln _ hm; omega⟩)
        have hf4 := exL_fuel X.fs sthn { st1 with c := tickS (evX st1.A st1.f sv st1.c).1 }
        have hp4 := exL_pot hX.body sthn { st1 with c := tickS (evX st1.A st1.f sv st1.c).1 } (by omega)
        simp only [] at hf4 hp4
        have hlt := tickS_lt h74 h82
        have hmul := mulS (M := X.M) (show (tickS (evX st1.A st1.f sv st1.c).1).fuel < st1.c.fuel from by omega)
        have e1 : exS X.fs (.mk 4 snm sto sn ssub sv sargs sthn sels) st1 = exS X.fs (.mk 4 snm sto sn ssub sv sargs sthn sels) (exL X.fs sthn { st1 with c := tickS (evX st1.A st1.f sv st1.c).1 }) := by rw [exS_while, if_pos ⟨h68, h74⟩, if_pos h82]
        have e3 : st1.c.en = 0 := by
          by_cases h : st1.c.en = 0
          · exact h
          · exact absurd (by rw [evX_stop h]) h68
        refine ⟨_, ?_, _, o4, rfl, by rw [hex, e1], by omega, ?_, hM4, own_step K3 hk4 ho1, rid_step ho1 ho4 hn3, hcell4, ⟨rfl, rfl, rfl, trivial⟩⟩
        · rw [hk1, if_pos e3]; split <;> omega
        · simp only [Pot, nSt]; omega
       ·
        show TrP 154 _ _ _ _
        refine tH [(0, _), (2, _), (4, _), (75, _), (82, _)] ?_
        refine tF rfl ?_
        refine Tri.skip ?_
        have e1 : exS X.fs (.mk 4 snm sto sn ssub sv sargs sthn sels) st1 = { st1 with c := tickS (evX st1.A st1.f sv st1.c).1 } := by rw [exS_while, if_pos ⟨h68, h74⟩, if_neg h82]
        have e2 : exS X.fs (.mk 4 snm sto sn ssub sv sargs sthn sels) { st1 with c := tickS (evX st1.A st1.f sv st1.c).1 } = { st1 with c := tickS (evX st1.A st1.f sv st1.c).1 } := exS_while_stop X.fs h82
        have e3 : st1.c.en = 0 := by
          by_cases h : st1.c.en = 0
          · exact h
          · exact absurd (by rw [evX_stop h]) h68
        refine ⟨(tickS (evX st1.A st1.f sv st1.c).1).fuel + 0, ?_, { st1 with c := tickS (evX st1.A st1.f sv st1.c).1 }, o1, ?_, by rw [hex, e1, e2], ?_, ?_, hM3, K3, ho1, hcell3, ⟨rfl, rfl, rfl, trivial⟩⟩
        · rw [hk1, if_pos e3]; omega
        · show _ = (tickS _).fuel + (if (tickS _).en = 0 then 1 else 0); rw [if_neg h82]
        · show (tickS _).fuel ≤ n; omega
        · have := Nat.mul_le_mul_right X.M (show (tickS (evX st1.A st1.f sv st1.c).1).fuel ≤ st1.c.fuel from by omega)
          simp only [Pot, nSt]; omega
      ·
       refine sV rfl rfl rfl ?_
       show TrP 154 _ _ _ _
       refine tH [(0, _), (2, _), (4, _), (75, _)] ?_
       refine tF rfl ?_
       refine Tri.exit ?_
       refine ⟨trivial, _, rfl, ?_⟩
       rw [hex, exS_while, if_neg (by first | exact fun hh => hh.1 h68 | exact fun hh => h74 hh.2)]; exact ⟨o1, hM2, K2, ho1⟩
     ·
      refine sV rfl rfl rfl ?_
      iterate 5 refine sN rfl rfl ?_
      refine sV rfl rfl rfl ?_
      show TrP 154 _ _ _ _
      refine tH [(0, _), (2, _), (4, _), (75, _)] ?_
      refine tF rfl ?_
      refine Tri.exit ?_
      refine ⟨trivial, _, rfl, ?_⟩
      rw [hex, exS_while, if_neg (by first | exact fun hh => hh.1 h68 | exact fun hh => h74 hh.2)]; exact ⟨o1, hM2, K2, ho1⟩
    ·
     refine sV rfl rfl rfl ?_
     show TrP 154 _ _ _ _
     refine tH [(0, _), (1, _), (2, _), (4, _), (11, _), (12, _), (22, _), (43, _), (61, _)] ?_
     refine tF rfl ?_
     refine Tri.seq ?_
     refine tR ?_
     refine sO rfl rfl (oE rfl (fun h89 => ?_) (fun h89 => ?_))
     ·
      refine sV rfl rfl rfl ?_
      show TrP 154 _ _ _ _
      refine tH [(0, _), (1, _), (2, _), (4, _), (11, _), (12, _), (22, _), (43, _), (61, _), (88, _)] ?_
      refine tT rfl ?_
      refine Tri.seq ?_
      refine tR ?_
      refine sV rfl rfl rfl ?_
      refine sO rfl rfl (oW (at' (.ptr (some (_, 9)))) rfl rfl ?_)
      refine sO rfl rfl (oLoad (x := .agg [_, _, _, _, _]) rfl gG rfl ?_)
      refine sV rfl rfl rfl ?_
      refine sO rfl rfl (oC rfl (fnOk_of Try.func49 (by decide) rfl) (exprM hX sv (St.mk c A f out) m o _ _ (hM.kp hX kZ) hval (hWs.1 (by omega))) ?_)
      rintro u G1 ⟨rfl, hM1, hk1⟩
      have hM1 : Mach X m ⟨(evX A f sv c).1, A, f, out⟩ o G1 := hM1
      have hc1 : G1.get X.x = some (.cells 77 1 (mcC X.F ((evX A f sv c).1) o)) := hM1.c
      have K1 : Kp [X.x] H G1 := Kp.own2 kZ hk1
      have hcell1 : G1.get H.n = some (.cells 58 1 [.int .i64 sk, .str snm, .str sto, .int .i64 sn, .int .i64 a1, .int .i64 a2, .str a3, .int .i64 a4, .slice a5 na, .int .i64 b1, .int .i64 b2, .str b3, .int .i64 b4, .slice b5 nb, .slice pa sargs.length, .slice pt sthn.length, .slice pe sels.length]) := hk1.g _ _ gG rfl (by simp only [List.mem_cons, List.not_mem_nil, or_false]; omega)
      have hn1 := K1.n
      have hxl1 := Heap.get_lt hc1
      have hbl1 := Heap.get_lt hcell1
      refine sV rfl rfl rfl ?_
      show TrP 154 _ _ _ _
      refine tH [(0, _), (1, _), (2, _), (4, _), (6, _), (11, _), (12, _), (22, _), (43, _), (61, _), (88, _)] ?_
      refine Tri.seq ?_
      refine tR ?_
      iterate 2 refine sV rfl rfl rfl ?_
      refine sO rfl rfl (oW (at' (.ptr (some (_, _ + 5)))) rfl rfl ?_)
      refine sO rfl rfl (oLoad (x := .at _) rfl gG rfl ?_)
      refine sO rfl rfl (oE rfl (fun h99 => ?_) (fun h99 => ?_))
      ·
       show TrP 154 _ _ _ _
       refine tH [(0, _), (1, _), (2, _), (4, _), (6, _), (11, _), (12, _), (22, _), (43, _), (61, _), (88, _), (99, _)] ?_
       refine tT rfl ?_
       refine tR ?_
       iterate 3 refine sV rfl rfl rfl ?_
       refine sO rfl rfl (oW (at' (.ptr (some (_, _ + 7)))) rfl rfl ?_)
       refine sO rfl rfl (oLoad (x := .at _) rfl gG rfl ?_)
       refine sV rfl rfl rfl ?_
       refine sO rfl rfl (oBS1 (n := 1) rfl rfl rfl rfl rfl (by omega) (by omega) rfl ?_)
       refine sO rfl rfl (oAppK (lo := 0) (n := out.length) (m := 1) (cs := numsC out) (new := [.int .i64 (evX A f sv c).2]) rfl rfl rfl rfl (hM1.o1.push) rfl gG rfl rfl rfl rfl rfl rfl rfl (show (numsC out).length = out.length * 1 from by simp [numsC]) (by (show (out.length + 1) * 8 ≤ _); omega) (by omega) (fun ax H4 hr4 hk4 ⟨id4, ha4, hid4, hg4⟩ => ?_))
       have hc4 : H4.get X.x = some (.cells 77 1 (mcC X.F (evX A f sv c).1 o)) := hk4.g _ _ gG rfl (fun hm => (hM.od _ hm).2.1 rfl)
       have hxl4 := Heap.get_lt hc4
       have hn4 := hk4.n
       (try simp only [Heap.n_push] at hn4 hid4)
       refine sV rfl rfl rfl ?_
       refine sO rfl rfl (oW (at' (.ptr (some (_, _ + 7)))) rfl rfl ?_)
       refine sO rfl rfl (oStore (n := 1) (cs' := mcC X.F (evX A f sv c).1 ax) rfl rfl rfl hc4 rfl (Nat.le_of_ble_eq_true rfl) rfl rfl ?_)
       refine ⟨trivial, _, rfl, ?_⟩
       subst h89
       rw [exS_out]; simp only []; rw [if_pos h99]
       have hr5 : RowA (H4.set X.x (.cells 77 1 (mcC X.F (evX A f sv c).1 ax))) 0 2 (out ++ [(evX A f sv c).2]).length (numsC (out ++ [(evX A f sv c).2])) ax := by
         have : RowA H4 0 2 (out ++ [(evX A f sv c).2]).length (numsC (out ++ [(evX A f sv c).2])) ax := by
           rw [List.length_append]; unfold numsC at hr4 ⊢; rw [List.map_append]; exact hr4.mono (Nat.zero_le _) fun _ _ h => h
         refine this.kpr (own := [X.x]) (Kp.set Kp.refl hxl4 (.inl (by simp))) (fun d hd hm => ?_)
         rw [ha4] at hd
         simp only [rid, List.mem_cons, List.not_mem_nil, or_false] at hd hm
         omega
       have K5 : ∀ ob, Kp (X.x :: rid o) G1 (H4.set X.x ob) := fun ob => Kp.set (((show Kp (X.x :: rid o) G1 _ from kZ)).trans hk4 (fun i hi => .inl (by simp [hi]))) hxl4 (.inl (by simp))
       have hid5 : ∀ d ∈ rid ax, G1.n ≤ d := fun d hd => by
         rw [ha4] at hd
         simp only [rid, List.mem_cons, List.not_mem_nil, or_false] at hd
         omega
       exact ⟨ax, hM1.outp hX (K5 _) (Heap.set_newl hxl4) hr5 hid5, (own_x K1).trans (K5 _) (fun i hi => .inl (by rcases List.mem_cons.1 hi with rfl | hi; simp; simp [hi])), fun d hd => .inr (by have := hid5 d hd; omega)⟩
      ·
       show TrP 154 _ _ _ _
       refine tH [(0, _), (1, _), (2, _), (4, _), (6, _), (11, _), (12, _), (22, _), (43, _), (61, _), (88, _), (99, _)] ?_
       refine tF rfl ?_
       refine Tri.skip ?_
       refine ⟨trivial, _, rfl, ?_⟩
       subst h89
       rw [exS_out]; simp only []; rw [if_neg h99]; exact ⟨o, hM1, own_x K1, fun d hd => .inl hd⟩
     ·
      refine sV rfl rfl rfl ?_
      show TrP 154 _ _ _ _
      refine tH [(0, _), (1, _), (2, _), (4, _), (11, _), (12, _), (22, _), (43, _), (61, _), (88, _)] ?_
      refine tF rfl ?_
      refine Tri.seq ?_
      refine tR ?_
      refine sO rfl rfl (oE rfl (fun h111 => ?_) (fun h111 => ?_))
      ·
       refine sV rfl rfl rfl ?_
       show TrP 154 _ _ _ _
       refine tH [(0, _), (1, _), (2, _), (4, _), (11, _), (12, _), (22, _), (43, _), (61, _), (88, _), (110, _)] ?_
       refine tT rfl ?_
       refine Tri.seq ?_
       refine tR ?_
       refine sV rfl rfl rfl ?_
       show TrP 154 _ _ _ _
       refine tH [(0, _), (1, _), (2, _), (4, _), (7, _), (11, _), (12, _), (22, _), (43, _), (61, _), (88, _), (110, _)] ?_
       refine Tri.seq ?_
       refine Tri.seq ?_
       refine tR ?_
       refine sO rfl rfl (oW (at' (.ptr (some (_, 14)))) rfl rfl ?_)
       refine sO rfl rfl (oLoad (x := .at _) rfl gG rfl ?_)
       iterate 2 refine sV rfl rfl rfl ?_
       show TrP 154 _ _ _ _
       refine tH [(0, _), (1, _), (2, _), (4, _), (7, _), (11, _), (12, _), (22, _), (43, _), (61, _), (88, _), (110, _), (113, _), (114, _), (115, _)] ?_
       refine Tri.block ?_
       refine Tri.loop (fun k' lk1 H1 => ∃ (j : Nat) (vs : List Int) (c1 : Ctl) (a : AT), k' = sargs.length - j ∧ j ≤ sargs.length ∧ vs.length = j ∧ (evL A f sargs c = ((evL A f (sargs.drop j) c1).1, vs ++ (evL A f (sargs.drop j) c1).2)) ∧ RowA H1 (H.n + 1) 2 j (numsC vs) a ∧ H1.get X.x = some (.cells 77 1 (mcC X.F c1 o)) ∧ Kp [X.x] H H1 ∧ H1.get H.n = some (.cells 58 1 [.int .i64 sk, .str snm, .str sto, .int .i64 sn, .int .i64 a1, .int .i64 a2, .str a3, .int .i64 a4, .slice a5 na, .int .i64 b1, .int .i64 b2, .str b3, .int .i64 b4, .slice b5 nb, .slice pa sargs.length, .slice pt sthn.length, .slice pe sels.length]) ∧ Has lk1 [(0, at' (.ptr (some (X.x, 0)))), (2, at' (.map (some m))), (4, at' (.ptr (some (H.n, 0)))), (7, at' a), (113, at' (.slice pa sargs.length)), (114, at' (.int .i64 sargs.length)), (115, at' (.int .i64 j))]) (sargs.length) (⟨0, [], c, .slice none 0, rfl, by omega, rfl, by rw [List.drop_zero]; simp, RowA.nil _ _ _, gG, kpL kZ, gG, ⟨rfl, rfl, rfl, rfl, rfl, rfl, rfl, trivial⟩⟩) ?_
       rintro k' lk1 H1 ⟨j, vs, c1, a, hk1, hj, hvs, hev, hra, hc1, hK1, hcw, hh⟩
       refine Tri.has hh ?_
       have hrd := hra.rid
       have hn1 := hK1.n
       have hblw := Heap.get_lt hcw
       have hxlw := Heap.get_lt hc1
       have hal := (hWs.2.2.1 h111).2.1
       refine Tri.seq ?_
       refine tR ?_
       refine sO rfl rfl (oP rfl (fun h116 => ?_) (fun h116 => ?_))
       ·
        show TrP 154 _ _ _ _
        refine tH [(0, _), (2, _), (4, _), (7, _), (113, _), (114, _), (115, _), (116, _)] ?_
        refine Tri.seq ?_
        refine tT rfl ?_
        refine Tri.skip ?_
        show TrP 154 _ _ _ _
        refine tH [(0, _), (2, _), (4, _), (7, _), (113, _), (114, _), (115, _), (116, _)] ?_
        refine Tri.seq ?_
        refine Tri.block ?_
        refine Tri.seq ?_
        refine tR ?_
        obtain ⟨e, he⟩ : ∃ e, sargs[j]? = some e := ⟨_, List.getElem?_eq_getElem (by omega)⟩
        have hem := List.mem_of_getElem? he
        obtain ⟨id, oo, T, q, cc, hpa, hgB, hle, hLe⟩ := hargs.at he
        have hg := (hM.x hX hK1 hc1).b.get hgB rfl
        obtain ⟨p2, hcs2, hk2⟩ := hLe.out
        rw [hcs2] at hLe
        rw [drop_at he] at hev
        simp only [evL] at hev
        refine sO rfl rfl (oIA (z := 5) (by rw [← hpa]; rfl) rfl rfl rfl (show j < sargs.length by omega) ?_)
        refine sO rfl rfl (oLoad (x := .agg [.int .i64 e.kind, .int .i64 e.n, .str e.name, .int .i64 e.op, .slice p2 e.kids.length]) rfl gG (part_all hcs2 hle rfl rfl rfl) ?_)
        refine sO rfl rfl (oAlloc (cs := [.int .i64 0, .int .i64 0, .str [], .int .i64 0, .slice none 0]) rfl rfl ?_)
        refine sO rfl rfl (oStore (n := 5) (cs' := [_, _, _, _, _]) rfl rfl rfl gG rfl (Nat.le_of_ble_eq_true rfl) rfl rfl ?_)
        show TrP 154 _ _ _ _
        refine tH [(0, _), (2, _), (4, _), (7, _), (9, _), (113, _), (114, _), (115, _), (116, _)] ?_
        refine tR ?_
        iterate 2 refine sV rfl rfl rfl ?_
        refine sO rfl rfl (oLoad (x := .agg [_, _, _, _, _]) rfl gG rfl ?_)
        refine sV rfl rfl rfl ?_
        refine sO rfl rfl (oC rfl (fnOk_of Try.func49 (by decide) rfl) (exprM hX e ⟨c1, A, f, out⟩ m o _ _ ((hM.x hX hK1 hc1).kp hX kZ) hLe ((hWs.2.2.1 h111).1 e hem)) ?_)
        rintro u G2 ⟨rfl, hM2, hk2⟩
        have hM2 : Mach X m ⟨(evX A f e c1).1, A, f, out⟩ o G2 := hM2
        have hc2 : G2.get X.x = some (.cells 77 1 (mcC X.F ((evX A f e c1).1) o)) := hM2.c
        have K2 : Kp [X.x] H G2 := Kp.own2 (hK1.trans0 kZ) hk2
        have hcell2 : G2.get H.n = some (.cells 58 1 [.int .i64 sk, .str snm, .str sto, .int .i64 sn, .int .i64 a1, .int .i64 a2, .str a3, .int .i64 a4, .slice a5 na, .int .i64 b1, .int .i64 b2, .str b3, .int .i64 b4, .slice b5 nb, .slice pa sargs.length, .slice pt sthn.length, .slice pe sels.length]) := hk2.g _ _ gG rfl (by simp only [List.mem_cons, List.not_mem_nil, or_false]; omega)
        have hxl2 := Heap.get_lt hc2
        have hbl2 := Heap.get_lt hcell2
        have hka : ∀ d ∈ rid a, d ∉ [X.x] := fun d hd hm => by
          simp only [List.mem_cons, List.not_mem_nil, or_false] at hm
          have := hrd d hd; omega
        have hra2 : RowA G2 (H.n + 1) 2 j (numsC vs) a := (hra.kpr (own := []) kZ (fun d _ => by simp)).kpr hk2 hka
        refine sO rfl rfl (oBS1 (n := 1) rfl rfl rfl rfl rfl (by omega) (by omega) rfl ?_)
        refine sO rfl rfl (oAppK (lo := H.n + 1) (n := j) (m := 1) (cs := numsC vs) (new := [.int .i64 (evX A f e c1).2]) rfl rfl rfl rfl (hra2.push) rfl gG rfl rfl rfl rfl rfl rfl rfl (show (numsC vs).length = j * 1 from by simp [numsC, hvs]) (by (show (j + 1) * 8 ≤ _); omega) (by omega) (fun ax H4 hr4 hk4 ⟨id4, ha4, hid4, hg4⟩ => ?_))
        have hxa : X.x ∉ rid a := fun hm => by have := hrd _ hm; omega
        have hba : H.n ∉ rid a := fun hm => by have := hrd _ hm; omega
        have hc4 : H4.get X.x = some (.cells 77 1 (mcC X.F (evX A f e c1).1 o)) := hk4.g _ _ gG rfl hxa
        have hcell4 : H4.get H.n = some (.cells 58 1 [.int .i64 sk, .str snm, .str sto, .int .i64 sn, .int .i64 a1, .int .i64 a2, .str a3, .int .i64 a4, .slice a5 na, .int .i64 b1, .int .i64 b2, .str b3, .int .i64 b4, .slice b5 nb, .slice pa sargs.length, .slice pt sthn.length, .slice pe sels.length]) := hk4.g _ _ gG rfl hba
        have K4 : Kp [X.x] H H4 := (K2.trans0 kZ).trans hk4 (fun d hd => .inr (by have := hrd d hd; omega))
        refine sV rfl rfl rfl ?_
        show TrP 154 _ _ _ _
        refine tH [(0, _), (2, _), (4, _), (7, _), (9, _), (113, _), (114, _), (115, _), (116, _)] ?_
        refine tR ?_
        refine sO rfl rfl (oAdd (m := 1) rfl (by omega) ?_)
        refine sV rfl rfl rfl ?_
        refine ⟨sargs.length - (j + 1), by omega, j + 1, vs ++ [(evX A f e c1).2], (evX A f e c1).1, ax, rfl, by omega, by rw [List.length_append]; simp only [List.length_cons, List.length_nil]; omega, by rw [hev]; simp, ?_, hc4, K4, hcell4, ⟨rfl, rfl, rfl, rfl, rfl, rfl, rfl, trivial⟩⟩
        unfold numsC at hr4 ⊢
        rw [List.map_append]
        exact hr4.mono (by simp only [Heap.n_push]; omega) fun _ _ h => h
       ·
        show TrP 154 _ _ _ _
        refine tH [(0, _), (2, _), (4, _), (7, _), (113, _), (114, _), (115, _), (116, _)] ?_
        refine Tri.seq ?_
        refine tF rfl ?_
        refine Tri.exit ?_
        show TrP 154 _ _ _ _
        refine tH [(0, _), (2, _), (4, _), (7, _), (113, _), (114, _), (115, _), (116, _)] ?_
        refine Tri.seq ?_
        refine tR ?_
        have hev' : evL A f sargs c = (c1, vs) := by rw [hev, List.drop_eq_nil_of_le (by omega)]; simp [evL]
        have hcf : c1.fuel = c.fuel := by have := evL_fuel A f sargs c; rw [hev'] at this; exact this
        refine sV rfl rfl rfl ?_
        refine sO rfl rfl (oC rfl (fnOk_of Try.func84 (by decide) rfl) (tickM hX ⟨c1, A, f, out⟩ m o _ (hM.x hX hK1 hc1) (by show c1.fuel < _; omega)) ?_)
        rintro u G2 ⟨hM2, hk2⟩
        have hM2 : Mach X m ⟨tickS c1, A, f, out⟩ o G2 := hM2
        have hc2 : G2.get X.x = some (.cells 77 1 (mcC X.F (tickS c1) o)) := hM2.c
        have K2 : Kp [X.x] H G2 := Kp.own2 hK1 hk2
        have hcell2 : G2.get H.n = some (.cells 58 1 [.int .i64 sk, .str snm, .str sto, .int .i64 sn, .int .i64 a1, .int .i64 a2, .str a3, .int .i64 a4, .slice a5 na, .int .i64 b1, .int .i64 b2, .str b3, .int .i64 b4, .slice b5 nb, .slice pa sargs.length, .slice pt sthn.length, .slice pe sels.length]) := hk2.g _ _ hcw rfl (by simp only [List.mem_cons, List.not_mem_nil, or_false]; omega)
        have hxl2 := Heap.get_lt hc2
        have hbl2 := Heap.get_lt hcell2
        have hn2 := K2.n
        have hra2 : RowA G2 (H.n + 1) 2 j (numsC vs) a := hra.kpr hk2 (fun d hd hm => by
          simp only [List.mem_cons, List.not_mem_nil, or_false] at hm
          have := hrd d hd; omega)
        show TrP 154 _ _ _ _
        refine tH [(0, _), (2, _), (4, _), (7, _), (113, _), (114, _), (115, _), (116, _)] ?_
        refine Tri.seq ?_
        refine tR ?_
        iterate 2 refine sV rfl rfl rfl ?_
        refine sO rfl rfl (oW (at' (.ptr (some (_, _ + 5)))) rfl rfl ?_)
        refine sO rfl rfl (oLoad (x := .at _) rfl gG rfl ?_)
        refine sO rfl rfl (oE rfl (fun h133 => ?_) (fun h133 => ?_))
        ·
         show TrP 154 _ _ _ _
         refine tH [(0, _), (2, _), (4, _), (7, _), (113, _), (114, _), (115, _), (116, _), (133, _)] ?_
         refine tT rfl ?_
         refine Tri.drawn1 mixed eqsOk (eqs := eqs) ⟨[0, 0, 2, 0, 0, 16, 48, 112, 0, 256, 1008, 0, 4088, 8191], [0, 0, 0, 0, 0, 0, 0, 0, 0, 0, 0, 0, 0, 0], 1, [0, 1, 2, 3, 4, 5, 6, 7, 8, 9, 10, 11, 12, 13]⟩ (by decide +kernel) rfl ?_
         have hlt := tickS_lt (tickS_en h133) h133
         obtain ⟨_, _, g, hg, hgl⟩ := hWs.2.2.1 h111
         have hmul := mulS (M := X.M) (show (tickS c1).fuel < c.fuel from by omega)
         obtain ⟨qa, rfl, hqa⟩ : ∃ q, a = .slice q vs.length ∧ RowR G2 numC 1 vs q := RowA.r (f := numC) (xs := vs) (by rw [hvs, ← numsC_fm]; exact hra2) (fun _ => rfl)
         refine dL rfl rfl rfl rfl (oV rfl ?_)
         refine dL rfl rfl rfl rfl (oW (at' (.ptr (some (_, 1)))) rfl rfl ?_)
         refine dR0 rfl rfl rfl rfl (op_load_at (x := .at _) rfl gG rfl) ?_
         refine dL rfl rfl rfl rfl (oV rfl ?_)
         refine dL rfl rfl rfl rfl (oV rfl ?_)
         refine dL rfl rfl rfl rfl (oV rfl ?_)
         refine dL rfl rfl rfl rfl (oW (at' (.ptr (some (_, _ + 3)))) rfl rfl ?_)
         refine dR0 rfl rfl rfl rfl (op_load_at (x := .at _) rfl gG rfl) ?_
         refine dL rfl rfl rfl rfl (oW (at' (.ptr (some (_, 2)))) rfl rfl ?_)
         refine dR0 rfl rfl rfl rfl (op_load_at (x := .at _) rfl gG rfl) ?_
         obtain ⟨esG, hesG, hlkG⟩ := hM2.f
         refine dR0 rfl rfl rfl rfl (look_atA rfl rfl rfl rfl rfl gG (hlkG sto)) ?_
         refine dL rfl rfl rfl rfl (oV rfl ?_)
         refine dC0 (.drop rfl (.drop rfl (.drop rfl (.keep rfl .nil)))) rfl rfl rfl rfl (oC rfl (fnOk_of Try.func29 (by decide) rfl) (ihC (tickS c1).fuel (by omega) g (X.fi sto) vs qa ⟨tickS c1, A, f, out⟩ m o _ (Nat.le_refl _) (hM2.kp hX kZ) (hX.fs1 _ _ hg) (by omega) (hqa.kp kZ) (by show out.length + (tickS c1).fuel * X.M + X.M ≤ _; omega)) ?_)
         rintro u G3 ⟨rfl, o3, hM3, hk3, ho3⟩
         have hcell3 : G3.get H.n = some (.cells 58 1 [.int .i64 sk, .str snm, .str sto, .int .i64 sn, .int .i64 a1, .int .i64 a2, .str a3, .int .i64 a4, .slice a5 na, .int .i64 b1, .int .i64 b2, .str b3, .int .i64 b4, .slice b5 nb, .slice pa sargs.length, .slice pt sthn.length, .slice pe sels.length]) := hk3.g _ _ gG rfl (by simp only [List.mem_cons, List.mem_append, not_or]; exact ⟨by omega, fun hm => by have := hlo _ hm; omega, fun hm => by have := hM.aln _ hm; omega⟩)
         refine ⟨⟨.inl rfl, .inl rfl, .inl rfl, .inr (⟨_, rfl, op_load_at (x := .at (.str snm)) rfl hcell3 rfl⟩), trivial⟩, ?_⟩
         obtain ⟨es1, hes1, hf1⟩ := hM3.v
         refine dC0 (.drop rfl .nil) rfl rfl rfl rfl (oMapUp rfl rfl rfl rfl rfl hes1 ?_)
         refine ⟨⟨.inl rfl, trivial⟩, ?_⟩
         refine dE0 ?_
         refine ⟨trivial, _, rfl, ?_⟩
         subst h111
         rw [exS_call X.fs hg]; simp only []
         rw [hev', if_pos h133]
         exact ⟨o3, hM3.var hX hmf hes1 hf1, Kp.set (((own_x K2).trans0 kZ).trans hk3 (fun i hi => .inl (by rcases List.mem_cons.1 hi with hh | hh; exact (by simp [hh]); exact List.mem_cons_of_mem _ (List.mem_cons_of_mem _ hh)))) lL (.inl (by simp)), rid_step (fun d hd => .inl hd) ho3 (by simp only [Heap.n_push]; omega)⟩
        ·
         show TrP 154 _ _ _ _
         refine tH [(0, _), (2, _), (4, _), (7, _), (113, _), (114, _), (115, _), (116, _), (133, _)] ?_
         refine tF rfl ?_
         refine Tri.skip ?_
         refine ⟨trivial, _, rfl, ?_⟩
         subst h111
         obtain ⟨_, _, g, hg, hgl⟩ := hWs.2.2.1 rfl
         rw [exS_call X.fs hg]; simp only []
         rw [hev', if_neg h133]; exact ⟨o, hM2, own_x K2, fun d hd => .inl hd⟩
      ·
       refine sV rfl rfl rfl ?_
       show TrP 154 _ _ _ _
       refine tH [(0, _), (1, _), (2, _), (4, _), (11, _), (12, _), (22, _), (43, _), (61, _), (88, _), (110, _)] ?_
       refine tF rfl ?_
       refine Tri.seq ?_
       refine tR ?_
       refine sO rfl rfl (oE rfl (fun h148 => ?_) (fun h148 => ?_))
       ·
        refine sV rfl rfl rfl ?_
        show TrP 154 _ _ _ _
        refine tH [(0, _), (1, _), (2, _), (4, _), (11, _), (12, _), (22, _), (43, _), (61, _), (88, _), (110, _), (147, _)] ?_
        refine tT rfl ?_
        refine tR ?_
        refine sV rfl rfl rfl ?_
        refine sO rfl rfl (oW (at' (.ptr (some (_, 3)))) rfl rfl ?_)
        refine sO rfl rfl (oLoad (x := .at _) rfl gG rfl ?_)
        obtain ⟨hs1, hs2⟩ := hWs.2.2.2 h148
        obtain ⟨n7, rfl⟩ : ∃ n7 : Nat, sn = (n7 : Int) := ⟨sn.toNat, by omega⟩
        refine sO rfl rfl (oAdd (n := 16) (m := n7) rfl (by omega) ?_)
        refine sO rfl rfl (oC rfl (fnOk_of Try.func73 (by decide) rfl) (trapM hX (St.mk c A f out) m o _ _ (hM.kp hX kZ)) ?_)
        rintro u G1 ⟨hM1, hk1⟩
        have K1 : Kp [X.x] H G1 := Kp.own2 kZ hk1
        refine ⟨trivial, _, rfl, ?_⟩
        subst h148
        have e : (16 : Int) + (n7 : Int) = ((16 + n7 : Nat) : Int) := by omega
        rw [exS_trap, e]; exact ⟨o, hM1, own_x K1, fun d hd => .inl hd⟩
       ·
        refine sV rfl rfl rfl ?_
        show TrP 154 _ _ _ _
        refine tH [(0, _), (1, _), (2, _), (4, _), (11, _), (12, _), (22, _), (43, _), (61, _), (88, _), (110, _), (147, _)] ?_
        refine tF rfl ?_
        refine Tri.skip ?_
        refine ⟨trivial, _, rfl, ?_⟩
        rw [exS_other X.fs h13 h23 h44 h62 h89 h111 h148]; exact ⟨o, hM.kp hX kZ, kpL kZ, fun d hd => .inl hd⟩
theorem find_none {ps : List (List UInt8)} {s : List UInt8} : ∀ (vs : List Int), s ∉ ps → (ps.zip vs).find? (fun p => decide (p.1 = s)) = none := by
  intro vs h
  rw [List.find?_eq_none]
  intro p hp
  have := (List.of_mem_zip hp).1
  simp only [decide_eq_true_eq]
  exact fun e => h (e ▸ this)
theorem bind_snoc {ps : List (List UInt8)} {vs : List Int} {s : List UInt8} {v : Int} (hl : ps.length = vs.length) (hs : s ∉ ps) : bind (ps ++ [s]) (vs ++ [v]) = upd1 (bind ps vs) s v := by
  funext t
  unfold bind upd1
  rw [List.zip_append hl, List.find?_append]
  by_cases e : t = s
  · subst e
    rw [if_pos rfl, find_none vs hs]
    simp
  · rw [if_neg e]
    show ((List.find? (fun p => decide (p.1 = t)) (ps.zip vs)).or _).elim 0 (·.2) = (List.find? (fun p => decide (p.1 = t)) (ps.zip vs)).elim 0 (·.2)
    cases (ps.zip vs).find? (fun p => decide (p.1 = t)) with
    | some q => rfl
    | none => simp [Ne.symm e]
theorem bind_take {ps : List (List UInt8)} {vs : List Int} {s : List UInt8} {v : Int} {j : Nat} (hl : vs.length = ps.length) (hn : ps.Nodup) (hs : ps[j]? = some s) (hv : vs[j]? = some v) : bind (ps.take (j + 1)) (vs.take (j + 1)) = upd1 (bind (ps.take j) (vs.take j)) s v := by
  have h1 : ps.take (j + 1) = ps.take j ++ [s] := by rw [List.take_add_one, hs]; rfl
  have h2 : vs.take (j + 1) = vs.take j ++ [v] := by rw [List.take_add_one, hv]; rfl
  have hj := (List.getElem?_eq_some_iff.1 hs).1
  rw [h1, h2]
  refine bind_snoc (by simp; omega) (fun hm => ?_)
  have hn' : (ps.take (j + 1)).Nodup := hn.sublist (List.take_sublist _ _)
  rw [h1, List.nodup_append] at hn'
  exact hn'.2.2 s hm s (by simp) rfl
theorem bind_nil : bind [] [] = fun _ => 0 := rfl

set_option maxHeartbeats 2000000 in
theorem call_step {X : Cx} (hX : CxOk X) (n : Nat) (ih : ∀ k, LstH X n k) : CallH X n := by
 intro g k vs qa st m o H hfu hM hg hvl hra hpot
 have hgm := List.mem_of_getElem? hg
 obtain ⟨hgb, hgv, hgn, hgM, hgp⟩ := hX.ok g hgm
 have hkl := (List.getElem?_eq_some_iff.1 hg).1
 obtain ⟨hlx, hlm, hlc, hlf, hlo, hlb⟩ := hM.lt
 have hcx := hM.c
 obtain ⟨gid, go, gT, gq, gc, hpf, hgB, hgle, hgL⟩ := hX.pf.at hg
 have hgg := hM.b.get hgB rfl
 obtain ⟨pp, pl, pb, b1, b2, b3, b4, b5, nb, hgcs, hpar, hloc, hbody, hval⟩ := hgL.out
 have hXM := hX.hM
 have hXl := hX.nl
 refine Sim.of_tri Try.func29 rfl ?_
 show TrP 45 _ _ _ _
 refine Tri.seq ?_
 refine tR ?_
 refine sV rfl rfl rfl ?_
 show TrP 45 _ _ _ _
 refine tH [(0, _), (1, _), (2, _), (6, _)] ?_
 refine Tri.seq ?_
 refine tR ?_
 iterate 2 refine sV rfl rfl rfl ?_
 refine sO rfl rfl (oW (at' (.ptr (some (_, _ + 0)))) rfl rfl ?_)
 refine sO rfl rfl (oW (at' (.ptr (some (_, _ + 1)))) rfl rfl ?_)
 refine sO rfl rfl (oLoad (x := .at _) rfl gG rfl ?_)
 refine sV rfl rfl rfl ?_
 refine sO rfl rfl (oIA (z := 9) (i := k) (n := X.F.nf) (by rw [← hpf]; rfl) rfl rfl rfl (by rw [hX.nf]; exact hkl) ?_)
 refine sO rfl rfl (oLoad (x := .agg [.str g.name, .slice pp g.params.length, .slice pl g.locals.length, .slice pb g.body.length, .int .i64 b1, .int .i64 b2, .str b3, .int .i64 b4, .slice b5 nb]) rfl gG (part_all hgcs hgle rfl rfl rfl) ?_)
 refine sO rfl rfl (oAlloc (cs := [.str [], .slice none 0, .slice none 0, .slice none 0, .int .i64 0, .int .i64 0, .str [], .int .i64 0, .slice none 0]) rfl rfl ?_)
 refine sO rfl rfl (oStore (n := 9) (cs' := [_, _, _, _, _, _, _, _, _]) rfl rfl rfl gG rfl (Nat.le_of_ble_eq_true rfl) rfl rfl ?_)
 show TrP 45 _ _ _ _
 refine tH [(0, _), (1, _), (2, _), (6, _), (7, _)] ?_
 refine Tri.seq ?_
 refine tR ?_
 refine sO rfl rfl (oW (at' (.map (some _))) rfl rfl ?_)
 refine sV rfl rfl rfl ?_
 show TrP 45 _ _ _ _
 refine tH [(0, _), (1, _), (2, _), (6, _), (7, _), (8, _)] ?_
 refine Tri.seq ?_
 refine Tri.seq ?_
 refine tR ?_
 refine sO rfl rfl (oW (at' (.ptr (some (_, 1)))) rfl rfl ?_)
 refine sO rfl rfl (oLoad (x := .at _) rfl gG rfl ?_)
 iterate 2 refine sV rfl rfl rfl ?_
 show TrP 45 _ _ _ _
 refine tH [(0, _), (1, _), (2, _), (6, _), (7, _), (8, _), (21, _), (22, _), (23, _)] ?_
 refine Tri.block ?_
 refine Tri.loop (fun k' lk1 H1 => ∃ (j : Nat), k' = g.params.length - j ∧ j ≤ g.params.length ∧ VarE H1 (H.n + 1) (bind (g.params.take j) (vs.take j)) ∧ H1.get H.n = some (.cells 56 1 [.str g.name, .slice pp g.params.length, .slice pl g.locals.length, .slice pb g.body.length, .int .i64 b1, .int .i64 b2, .str b3, .int .i64 b4, .slice b5 nb]) ∧ Kp [] H H1 ∧ Has lk1 [(0, at' (.ptr (some (X.x, 0)))), (2, at' (.slice qa vs.length)), (7, at' (.ptr (some (H.n, 0)))), (8, at' (.map (some (H.n + 1)))), (21, at' (.slice pp g.params.length)), (22, at' (.int .i64 g.params.length)), (23, at' (.int .i64 j))]) (g.params.length) (⟨0, rfl, by omega, ⟨[], (by first | exact Heap.push_new | exact gG), fun s => rfl⟩, gG, kZ, ⟨rfl, rfl, rfl, rfl, rfl, rfl, rfl, trivial⟩⟩) ?_
 rintro k' lk1 H1 ⟨j, hk1, hj, hv1, hcl, hk, hh⟩
 refine Tri.has hh ?_
 have hn1 := hk.n
 have hll := Heap.get_lt hcl
 refine Tri.seq ?_
 refine tR ?_
 refine sO rfl rfl (oP rfl (fun h24 => ?_) (fun h24 => ?_))
 ·
  show TrP 45 _ _ _ _
  refine tH [(0, _), (2, _), (7, _), (8, _), (21, _), (22, _), (23, _), (24, _)] ?_
  refine Tri.seq ?_
  refine tT rfl ?_
  refine Tri.skip ?_
  show TrP 45 _ _ _ _
  refine tH [(0, _), (2, _), (7, _), (8, _), (21, _), (22, _), (23, _), (24, _)] ?_
  refine Tri.seq ?_
  refine Tri.block ?_
  refine Tri.seq ?_
  refine tR ?_
  refine sV rfl rfl rfl ?_
  obtain ⟨s, hs⟩ : ∃ s, g.params[j]? = some s := ⟨_, List.getElem?_eq_getElem (by omega)⟩
  obtain ⟨v, hv⟩ : ∃ v, vs[j]? = some v := ⟨_, List.getElem?_eq_getElem (by omega)⟩
  obtain ⟨pid, po, pT, pq, pc, rfl, hpB, hple, hpL⟩ := hpar.at hs
  have hpg := (hM.b.trans0 hk).get hpB rfl
  obtain ⟨es1, hes1, hf1⟩ := hv1
  have hml := Heap.get_lt hes1
  obtain ⟨aid, ao, aT, aq, ac, rfl, hra1, hale, haL⟩ := hra.at (fun _ => rfl) hv
  have hra2 := hk.get hra1 rfl
  refine sO rfl rfl (oIA (z := 1) rfl rfl rfl rfl (by omega) ?_)
  refine sO rfl rfl (oLoad (x := .at (.str s)) rfl hpg (part_one hpL rfl rfl rfl) ?_)
  iterate 2 refine sV rfl rfl rfl ?_
  show TrP 45 _ _ _ _
  refine tH [(0, _), (2, _), (7, _), (8, _), (9, _), (10, _), (21, _), (22, _), (23, _), (24, _)] ?_
  refine tR ?_
  iterate 4 refine sV rfl rfl rfl ?_
  refine sO rfl rfl (oIA (z := 1) (i := j) (n := vs.length) rfl rfl rfl rfl (by omega) ?_)
  refine sO rfl rfl (oLoad (x := .at (.int .i64 v)) rfl hra2 (part_one haL rfl rfl rfl) ?_)
  refine sO rfl rfl (oMapUp rfl rfl rfl rfl rfl hes1 ?_)
  show TrP 45 _ _ _ _
  refine tH [(0, _), (2, _), (7, _), (8, _), (9, _), (10, _), (21, _), (22, _), (23, _), (24, _)] ?_
  refine tR ?_
  refine sO rfl rfl (oAdd (m := 1) rfl (by omega) ?_)
  refine sV rfl rfl rfl ?_
  have hb := bind_take hvl hgn hs hv
  exact ⟨g.params.length - (j + 1), by omega, j + 1, rfl, by omega, by rw [hb]; exact VarE.set hml hf1, gG, (Kp.set hk hml (.inr (by omega))), ⟨rfl, rfl, rfl, rfl, rfl, rfl, rfl, trivial⟩⟩
 ·
  show TrP 45 _ _ _ _
  refine tH [(0, _), (2, _), (7, _), (8, _), (21, _), (22, _), (23, _), (24, _)] ?_
  refine Tri.seq ?_
  refine tF rfl ?_
  refine Tri.exit ?_
  show TrP 45 _ _ _ _
  refine tH [(0, _), (2, _), (7, _), (8, _), (21, _), (22, _), (23, _), (24, _)] ?_
  refine Tri.seq ?_
  refine tR ?_
  have hv1 : VarE H1 (H.n + 1) (bind g.params vs) := by
    have h := hv1
    rw [show g.params.take j = g.params from List.take_of_length_le (by omega), show vs.take j = vs from List.take_of_length_le (by omega)] at h
    exact h
  refine sV rfl rfl rfl ?_
  refine sO rfl rfl (oW (at' (.ptr (some (_, 3)))) rfl rfl ?_)
  refine sO rfl rfl (oLoad (x := .at _) rfl gG rfl ?_)
  refine sV rfl rfl rfl ?_
  refine sO rfl rfl (oC rfl (fnOk_of Try.func48 (by decide) rfl) (ih (htSl g.body) g.body { st with f := bind g.params vs } (H.n + 1) o _ pb hfu (Nat.le_refl _) (show H.n + 1 ≠ X.F.mf by omega) (hM.newv hX hk hv1 (by omega)) hbody hgb hgM (by unfold Pot at hpot ⊢; simp only []; omega)) ?_)
  rintro u G2 ⟨o2, hM2, hk2, ho2⟩
  have hcell2 : G2.get H.n = some (.cells 56 1 [.str g.name, .slice pp g.params.length, .slice pl g.locals.length, .slice pb g.body.length, .int .i64 b1, .int .i64 b2, .str b3, .int .i64 b4, .slice b5 nb]) := hk2.g _ _ gG rfl (by simp only [own, List.mem_cons, List.mem_append, not_or]; exact ⟨by omega, by omega, fun hm => by have := hlo _ hm; omega, fun hm => by have := hM.aln _ hm; omega⟩)
  have K2 : Kp (X.x :: (rid o ++ X.al)) H G2 := (kpL hk).trans hk2 fun i hi => by
    simp only [own, List.mem_cons] at hi ⊢
    rcases hi with h | h | h
    · exact .inl (.inl h)
    · exact .inr (by omega)
    · exact .inl (.inr h)
  have hn2 := hk.n
  have ho2 : ∀ d ∈ rid o2, d ∈ rid o ∨ H.n ≤ d := fun d hd => (ho2 d hd).imp id (fun h => by omega)
  show TrP 45 _ _ _ _
  refine tH [(0, _), (2, _), (7, _), (8, _), (21, _), (22, _), (23, _), (24, _)] ?_
  refine Tri.seq ?_
  refine tR ?_
  refine sV rfl rfl rfl ?_
  refine sO rfl rfl (oW (at' (.ptr (some (_, 4)))) rfl rfl ?_)
  refine sO rfl rfl (oLoad (x := .agg [_, _, _, _, _]) rfl gG rfl ?_)
  refine sV rfl rfl rfl ?_
  refine sO rfl rfl (oC rfl (fnOk_of Try.func49 (by decide) rfl) (exprM hX g.value _ (H.n + 1) o2 _ _ hM2 hval hgv) ?_)
  rintro u G3 ⟨rfl, hM3, hk3⟩
  have K3 : Kp (X.x :: (rid o ++ X.al)) H G3 := K2.trans hk3 fun i hi => .inl (by simp only [List.mem_cons, List.not_mem_nil, or_false] at hi; subst hi; simp)
  refine sV rfl rfl rfl ?_
  show TrP 45 _ _ _ _
  refine tH [(0, _), (2, _), (6, _), (7, _), (8, _), (21, _), (22, _), (23, _), (24, _)] ?_
  refine Tri.ret ?_
  refine ⟨trivial, _, rfl, ?_⟩
  exact ⟨rfl, o2, hM.back hX K3 hM3 ho2, K3, ho2⟩
/-- All of it, at every fuel. -/
theorem runs_all {X : Cx} (hX : CxOk X) : ∀ n, n ≤ 1000 → (∀ k, LstH X n k) ∧ CallH X n := by
  intro n
  induction n using Nat.strongRecOn
  rename_i n ih
  intro hn
  have hC : ∀ j, j < n → CallH X j := fun j hj => (ih j hj (by omega)).2
  have hL : ∀ k, StmtH X n k ∧ LstH X n k := by
    intro k
    induction k using Nat.strongRecOn
    rename_i k ihk
    exact ⟨stmt_step hX n k hn (fun j hj => (ihk j hj).2) hC, stmts_step hX n k fun j hj => (ihk j hj).1⟩
  exact ⟨fun k => (hL k).2, call_step hX n fun k => (hL k).2⟩
end Go.Proofs.Ytnhobbjbgljpnaa
