/-
  CONTRACTS of the interpreter's machine: expr (printed by wip/tools/walk.py from wip/specs/intD.py). Written in this session.
-/
import Derived.Test.YtnhobbjbgljpnaaId
namespace Go.Proofs.Ytnhobbjbgljpnaa
open Go.Ea
set_option maxRecDepth 100000
set_option linter.unusedVariables false
set_option linter.unusedSimpArgs false
/-- Every node is one that the parser makes. -/
def WX (e : Exp) : Prop := ∃ d, ∀ a ∈ preE d e, wfX1 a.1 = true
theorem WX.kid {e k : Exp} (h : WX e) (hk : k ∈ e.kids) : WX k := by
  obtain ⟨d, h⟩ := h
  refine ⟨d + 1, fun a ha => h a ?_⟩
  rw [preE_eq]
  refine List.mem_cons_of_mem _ ?_
  have key : ∀ l : List Exp, k ∈ l → a ∈ preEl (d + 1) l := by
    intro l
    induction l with
    | nil => intro h; cases h
    | cons x r ih =>
      intro h
      simp only [preEl, List.mem_append]
      rcases List.mem_cons.1 h with rfl | h
      · exact .inl ha
      · exact .inr (ih h)
  exact key _ hk
theorem WX.self {e : Exp} (h : WX e) : wfX1 e = true := by
  obtain ⟨d, h⟩ := h
  have := h (e, d) (by rw [preE_eq]; simp)
  exact this
theorem wf3 {e : Exp} (h : wfX1 e = true) (hk : e.kind = 3) : e.kids.length = 1 := by
  unfold wfX1 at h
  rw [if_neg (by omega), if_neg (by omega), if_pos hk] at h
  simp only [vX, Bool.and_eq_true, decide_eq_true_eq] at h
  omega
theorem wf5 {e : Exp} (h : wfX1 e = true) (hk : e.kind = 5) : e.kids.length = 3 := by
  unfold wfX1 at h
  rw [if_neg (by omega), if_neg (by omega), if_neg (by omega), if_pos hk] at h
  simp only [Bool.and_eq_true, decide_eq_true_eq] at h
  omega
theorem wf4 {e : Exp} (h : wfX1 e = true) (h1 : ¬ e.kind = 1) (h2 : ¬ e.kind = 2) (h3 : ¬ e.kind = 3) (h5 : ¬ e.kind = 5) : e.kids.length = 1 ∨ e.kids.length = 2 := by
  unfold wfX1 at h
  rw [if_neg h1, if_neg h2, if_neg h3, if_neg h5] at h
  split at h
  · simp only [Bool.and_eq_true, vOp] at h
    have h' := h.2.2
    split at h'
    · simp only [decide_eq_true_eq] at h'; omega
    · simp only [Bool.and_eq_true, decide_eq_true_eq] at h'; omega
  · cases h

section
variable {P : Program} {eqs : Eqs} {lk : Env} {H : Heap} {K : AV → Heap → Prop}
theorem oLookA {t : TypeId} {x ix : Operand} {id : Nat} {s : List UInt8} {l : Ents} {kt et : TypeId} {z : A1} {a : AT} (hx : rho lk x = some (at' (.map (some id)))) (hi : rho lk ix = some (at' (.str s))) (hu : P.underlying t = some (.map kt et)) (hk : keyD (P.underlying kt) (.str s) = true) (hz : zeroOf P et = some z) (hg : H.get id = some (.map (ents l))) (hv : (lkM l s).getD z = .at a)
    (k : K (at' a) H) : opP P eqs (.lookup t x ix false) lk H K := oLook hx hi hu hk hz hg (by rw [hv]; exact k)
end
/-- What stands before an expression is evaluated. -/
structure PreX (x : Nat) (F : Fix) (out : AT) (m : Nat) (f : Vars) (pl : List UInt8 → Option Nat) (A : Arrs) (B : Heap) (c : Ctl) (H : Heap) : Prop where
  c : H.get x = some (.cells 77 1 (mcC F c out))
  v : VarE H m f
  a : ArrE H F.mc pl A
  b : Kp [] B H
theorem PreX.step {x : Nat} {F : Fix} {out : AT} {m : Nat} {f : Vars} {pl : List UInt8 → Option Nat} {A : Arrs} {B : Heap} {c c' : Ctl} {H G : Heap} (h : PreX x F out m f pl A B c H) (hk : Kp [x] H G) (hc : G.get x = some (.cells 77 1 (mcC F c' out))) (hmx : m ≠ x ∧ F.mc ≠ x) (hpl : ∀ s i, pl s = some i → i ≠ x) (hB : B.n ≤ x) : PreX x F out m f pl A B c' G :=
  ⟨hc, h.v.kp hk (by simpa using hmx.1), h.a.kp hk (by simpa using hmx.2) (fun s i hp => by simpa using hpl s i hp), h.b.trans hk fun i hi => .inr (by simp only [List.mem_cons, List.not_mem_nil, or_false] at hi; subst hi; exact hB)⟩
theorem PreX.kp {x : Nat} {F : Fix} {out : AT} {m : Nat} {f : Vars} {pl : List UInt8 → Option Nat} {A : Arrs} {B : Heap} {c : Ctl} {H G : Heap} (h : PreX x F out m f pl A B c H) (hk : Kp [] H G) : PreX x F out m f pl A B c G :=
  ⟨hk.get h.c rfl, h.v.kp hk (by simp), h.a.kp hk (by simp) (fun _ _ _ => by simp), h.b.trans0 hk⟩

/-- A row that is not empty: its object. -/
theorem RowQ_ats {β : Type} {R : β → List AT → Prop} {H : Heap} {z : Nat} {xs : List β} {p : Option (Nat × Nat)} (h : RowQ H z R xs p) (hne : 0 < xs.length) : ∃ id o T q c, p = some (id, o) ∧ H.get id = some (.cells T q c) ∧ ∀ i x, xs[i]? = some x → o + i * z + z ≤ c.length ∧ R x ((c.drop (o + i * z)).take z) := by
  obtain ⟨x0, hx0⟩ : ∃ x, xs[0]? = some x := ⟨_, List.getElem?_eq_getElem hne⟩
  obtain ⟨id, o, T, q, c, hp, hg, _, _⟩ := h.at hx0
  refine ⟨id, o, T, q, c, hp, hg, fun i x hx => ?_⟩
  obtain ⟨id', o', T', q', c', hp', hg', h1, h2⟩ := h.at hx
  rw [hp] at hp'; cases hp'
  rw [hg] at hg'; cases hg'
  exact ⟨h1, h2⟩
section
variable {P : Program} {eqs : Eqs} {lk : Env} {H : Heap}
theorem look_atA {t : TypeId} {x ix : Operand} {id : Nat} {s : List UInt8} {l : Ents} {kt et : TypeId} {z : A1} {a : AT} (hx : rho lk x = some (at' (.map (some id)))) (hi : rho lk ix = some (at' (.str s))) (hu : P.underlying t = some (.map kt et)) (hk : keyD (P.underlying kt) (.str s) = true) (hz : zeroOf P et = some z) (hg : H.get id = some (.map (ents l))) (hv : (lkM l s).getD z = .at a) :
    opA (.lookup t x ix false) P eqs lk H = some (.val (at' a) H) := by
  rw [look_at hx hi hu hk hz hg, hv]; rfl
end
theorem evX_stop {A : Arrs} {f : Vars} {e : Exp} {c : Ctl} (h : c.en ≠ 0) : evX A f e c = (c, 0) := by cases e; rw [evX.eq_def]; simp only []; rw [if_pos h]
theorem evX_idx {A : Arrs} {f : Vars} {n o : Int} {nm : List UInt8} {kids : List Exp} {c : Ctl} {a : Exp} (h : c.en = 0) (ha : kids[0]? = some a) :
    evX A f (.mk 3 n nm o kids) c = if (evX A f a c).2 < 0 ∨ (evX A f a c).2 ≥ (A nm).length then (trapS (evX A f a c).1 2, 0) else ((evX A f a c).1, (A nm).getD (evX A f a c).2.toNat 0) := by
  cases kids with
  | nil => cases ha
  | cons b r =>
    simp only [List.getElem?_cons_zero, Option.some.injEq] at ha
    subst ha
    rw [evX.eq_def]; simp only []; rw [if_neg (fun hh => hh h), if_neg (by decide), if_neg (by decide), if_pos trivial]
theorem evX_cond {A : Arrs} {f : Vars} {n o : Int} {nm : List UInt8} {kids : List Exp} {c : Ctl} {a b d : Exp} (h : c.en = 0) (ha : kids[0]? = some a) (hb : kids[1]? = some b) (hd : kids[2]? = some d) :
    evX A f (.mk 5 n nm o kids) c = if (evX A f a c).2 ≠ 0 then evX A f b (evX A f a c).1 else evX A f d (evX A f a c).1 := by
  match kids, ha, hb, hd with
  | a' :: b' :: d' :: r, ha, hb, hd =>
    simp only [List.getElem?_cons_zero, List.getElem?_cons_succ, Option.some.injEq] at ha hb hd
    subst ha; subst hb; subst hd
    rw [evX.eq_def]; simp only []; rw [if_neg (fun hh => hh h), if_neg (by decide), if_neg (by decide), if_neg (by decide), if_pos trivial]
theorem evX_un {A : Arrs} {f : Vars} {k n o : Int} {nm : List UInt8} {kids : List Exp} {c : Ctl} {a : Exp} (h : c.en = 0) (h1 : ¬ k = 1) (h2 : ¬ k = 2) (h3 : ¬ k = 3) (ha : kids[0]? = some a) (hl : kids.length = 1) :
    evX A f (.mk k n nm o kids) c = ((evX A f a c).1, unS o (evX A f a c).2) := by
  match kids, ha, hl with
  | [a'], ha, _ =>
    simp only [List.getElem?_cons_zero, Option.some.injEq] at ha
    subst ha
    rw [evX.eq_def]; simp only []; rw [if_neg (fun hh => hh h), if_neg h1, if_neg h2, if_neg h3]
theorem evX_bin {A : Arrs} {f : Vars} {k n o : Int} {nm : List UInt8} {kids : List Exp} {c : Ctl} {a b : Exp} (h : c.en = 0) (h1 : ¬ k = 1) (h2 : ¬ k = 2) (h3 : ¬ k = 3) (h5 : ¬ k = 5) (ha : kids[0]? = some a) (hb : kids[1]? = some b) :
    evX A f (.mk k n nm o kids) c = if (evX A f b (evX A f a c).1).2 = 0 ∧ (o = 7 ∨ o = 8) then (trapS (evX A f b (evX A f a c).1).1 1, 0) else ((evX A f b (evX A f a c).1).1, binW o (evX A f a c).2 (evX A f b (evX A f a c).1).2) := by
  match kids, ha, hb with
  | a' :: b' :: r, ha, hb =>
    simp only [List.getElem?_cons_zero, List.getElem?_cons_succ, Option.some.injEq] at ha hb
    subst ha; subst hb
    rw [evX.eq_def]; simp only []; rw [if_neg (fun hh => hh h), if_neg h1, if_neg h2, if_neg h3, if_neg h5]

set_option maxHeartbeats 2000000 in
theorem expr_ok (x : Nat) (F : Fix) (out : AT) (m : Nat) (f : Vars) (pl : List UInt8 → Option Nat) (A : Arrs) (B : Heap) (hmx : m ≠ x ∧ F.mc ≠ x) (hpl : ∀ s i, pl s = some i → i ≠ x) (hB : B.n ≤ x) : ∀ e, (fun (e : Exp) => ∀ (c : Ctl) (H : Heap) (cs : List AT), PreX x F out m f pl A B c H → LX B e cs → WX e → Sim Try.prog 49 [at' (.ptr (some (x, 0))), .one (.agg cs), at' (.map (some m))] H (fun u G => u = at' (.int .i64 (evX A f e c).2) ∧ G.get x = some (.cells 77 1 (mcC F (evX A f e c).1 out)) ∧ Kp [x] H G)) e := by
 intro e
 refine Exp.ind (Q := fun (e : Exp) => ∀ (c : Ctl) (H : Heap) (cs : List AT), PreX x F out m f pl A B c H → LX B e cs → WX e → Sim Try.prog 49 [at' (.ptr (some (x, 0))), .one (.agg cs), at' (.map (some m))] H (fun u G => u = at' (.int .i64 (evX A f e c).2) ∧ G.get x = some (.cells 77 1 (mcC F (evX A f e c).1 out)) ∧ Kp [x] H G)) ?_ e
 intro ek en enm eo kids ih c H cs hP hL hW
 obtain ⟨p, rfl, hk⟩ := LX_iff.1 hL
 have hxl := Heap.get_lt hP.c
 have hc := hP.c
 obtain ⟨es, hes, hf⟩ := hP.v
 obtain ⟨esA, hesA, hlkA⟩ := hP.a.look enm
 have hwf := hW.self
 refine Sim.of_tri Try.func49 rfl ?_
 show TrP 123 _ _ _ _
 refine Tri.seq ?_
 refine tR ?_
 refine sO rfl rfl (oBox (cs := [_, _, _, _, _]) rfl rfl ?_)
 refine sV rfl rfl rfl ?_
 show TrP 123 _ _ _ _
 refine tH [(0, _), (1, _), (2, _), (4, _), (6, _)] ?_
 refine Tri.seq ?_
 refine Tri.seq ?_
 refine tR ?_
 iterate 2 refine sV rfl rfl rfl ?_
 refine sO rfl rfl (oW (at' (.ptr (some (_, _ + 5)))) rfl rfl ?_)
 refine sO rfl rfl (oLoad (x := .at _) rfl gG rfl ?_)
 refine sO rfl rfl (oNE rfl (fun h15 => ?_) (fun h15 => ?_))
 ·
  show TrP 123 _ _ _ _
  refine tH [(0, _), (1, _), (2, _), (4, _), (6, _), (15, _)] ?_
  refine tT rfl ?_
  refine Tri.seq ?_
  refine tR ?_
  refine sV rfl rfl rfl ?_
  show TrP 123 _ _ _ _
  refine tH [(0, _), (1, _), (2, _), (4, _), (6, _), (15, _)] ?_
  refine Tri.ret ?_
  refine ⟨trivial, _, rfl, ?_⟩
  have e : evX A f (.mk ek en enm eo kids) c = (c, 0) := by exact evX_stop h15
  rw [e]; exact ⟨rfl, gG, kZ⟩
 ·
  show TrP 123 _ _ _ _
  refine tH [(0, _), (1, _), (2, _), (4, _), (6, _), (15, _)] ?_
  refine tF rfl ?_
  refine Tri.skip ?_
  show TrP 123 _ _ _ _
  refine tH [(0, _), (1, _), (2, _), (4, _), (6, _), (15, _)] ?_
  refine Tri.seq ?_
  refine Tri.seq ?_
  refine tR ?_
  refine sO rfl rfl (oW (at' (.ptr (some (_, 0)))) rfl rfl ?_)
  refine sO rfl rfl (oLoad (x := .at _) rfl gG rfl ?_)
  show TrP 123 _ _ _ _
  refine tH [(0, _), (1, _), (2, _), (4, _), (6, _), (15, _), (17, _)] ?_
  refine Tri.block ?_
  refine Tri.seq ?_
  refine tR ?_
  refine sO rfl rfl (oE rfl (fun h19 => ?_) (fun h19 => ?_))
  ·
   refine sV rfl rfl rfl ?_
   show TrP 123 _ _ _ _
   refine tH [(0, _), (1, _), (2, _), (4, _), (6, _), (15, _), (17, _), (18, _)] ?_
   refine tT rfl ?_
   refine Tri.seq ?_
   refine tR ?_
   refine sO rfl rfl (oW (at' (.ptr (some (_, 1)))) rfl rfl ?_)
   refine sO rfl rfl (oLoad (x := .at _) rfl gG rfl ?_)
   refine sV rfl rfl rfl ?_
   show TrP 123 _ _ _ _
   refine tH [(0, _), (1, _), (2, _), (4, _), (6, _), (15, _), (17, _), (18, _)] ?_
   refine Tri.ret ?_
   refine ⟨trivial, _, rfl, ?_⟩
   have e : evX A f (.mk ek en enm eo kids) c = (c, en) := by rw [evX.eq_def]; simp only []; rw [if_neg (by omega), if_pos h19]
   rw [e]; exact ⟨rfl, gG, kZ⟩
  ·
   refine sV rfl rfl rfl ?_
   show TrP 123 _ _ _ _
   refine tH [(0, _), (1, _), (2, _), (4, _), (6, _), (15, _), (17, _), (18, _)] ?_
   refine tF rfl ?_
   refine Tri.seq ?_
   refine tR ?_
   refine sO rfl rfl (oE rfl (fun h23 => ?_) (fun h23 => ?_))
   ·
    refine sV rfl rfl rfl ?_
    show TrP 123 _ _ _ _
    refine tH [(0, _), (1, _), (2, _), (4, _), (6, _), (15, _), (17, _), (18, _), (22, _)] ?_
    refine tT rfl ?_
    refine Tri.seq ?_
    refine tR ?_
    refine sV rfl rfl rfl ?_
    refine sO rfl rfl (oW (at' (.ptr (some (_, 2)))) rfl rfl ?_)
    refine sO rfl rfl (oLoad (x := .at _) rfl gG rfl ?_)
    refine sO rfl rfl (oLookA rfl rfl rfl rfl rfl gG (hf enm) ?_)
    refine sV rfl rfl rfl ?_
    show TrP 123 _ _ _ _
    refine tH [(0, _), (1, _), (2, _), (4, _), (6, _), (15, _), (17, _), (18, _), (22, _)] ?_
    refine Tri.ret ?_
    refine ⟨trivial, _, rfl, ?_⟩
    have e : evX A f (.mk ek en enm eo kids) c = (c, f enm) := by rw [evX.eq_def]; simp only []; rw [if_neg (by omega), if_neg h19, if_pos h23]
    rw [e]; exact ⟨rfl, gG, kZ⟩
   ·
    refine sV rfl rfl rfl ?_
    show TrP 123 _ _ _ _
    refine tH [(0, _), (1, _), (2, _), (4, _), (6, _), (15, _), (17, _), (18, _), (22, _)] ?_
    refine tF rfl ?_
    refine Tri.seq ?_
    refine tR ?_
    refine sO rfl rfl (oE rfl (fun h29 => ?_) (fun h29 => ?_))
    ·
     refine sV rfl rfl rfl ?_
     show TrP 123 _ _ _ _
     refine tH [(0, _), (1, _), (2, _), (4, _), (6, _), (15, _), (17, _), (18, _), (22, _), (28, _)] ?_
     refine tT rfl ?_
     refine Tri.seq ?_
     refine Tri.drawn1 mixed eqsOk (eqs := eqs) ⟨[0, 0, 2, 6, 14, 0, 63, 0, 128, 384, 896, 0, 2048, 8064, 127, 32767], [0, 0, 0, 0, 0, 0, 0, 0, 0, 0, 0, 0, 0, 0, 0, 0], 1, [0, 1, 2, 3, 4, 5, 7, 8, 9, 10, 11, 12, 13, 6, 14, 15]⟩ (by decide +kernel) rfl ?_
     refine dL rfl rfl rfl rfl (oV rfl ?_)
     refine dL rfl rfl rfl rfl (oW (at' (.ptr (some (_, 4)))) rfl rfl ?_)
     refine dR0 rfl rfl rfl rfl (op_load_at (x := .at _) rfl gG rfl) ?_
     have hkl : kids.length = 1 := wf3 hwf h29
     obtain ⟨kid, ko, kT, kq, kc, rfl, hkB, hkat⟩ := RowQ_ats hk (by omega)
     have hkg := hP.b.get hkB rfl
     obtain ⟨e0, he0⟩ : ∃ e, kids[0]? = some e := ⟨_, List.getElem?_eq_getElem (by omega)⟩
     obtain ⟨hle0, hL0⟩ := hkat 0 e0 he0
     obtain ⟨p0, hcs0, _⟩ := hL0.out
     rw [hcs0] at hL0
     have hm0 := List.mem_of_getElem? he0
     refine dL rfl rfl rfl rfl (oIA (z := 5) (i := 0) rfl rfl rfl rfl (by omega) ?_)
     refine dR0 rfl rfl rfl rfl (op_load_at (x := .agg [.int .i64 e0.kind, .int .i64 e0.n, .str e0.name, .int .i64 e0.op, .slice p0 e0.kids.length]) rfl gG (part_all hcs0 hle0 rfl rfl rfl)) ?_
     refine dL rfl rfl rfl rfl (oV rfl ?_)
     refine dL rfl rfl rfl rfl (oV rfl ?_)
     refine dL rfl rfl rfl rfl (oV rfl ?_)
     refine dL rfl rfl rfl rfl (oW (at' (.ptr (some (_, _ + 2)))) rfl rfl ?_)
     refine dR0 rfl rfl rfl rfl (op_load_at (x := .at _) rfl gG rfl) ?_
     refine dL rfl rfl rfl rfl (oW (at' (.ptr (some (_, 2)))) rfl rfl ?_)
     refine dR0 rfl rfl rfl rfl (op_load_at (x := .at _) rfl gG rfl) ?_
     refine dR0 rfl rfl rfl rfl (look_atA rfl rfl rfl rfl rfl gG hlkA) ?_
     refine dC0 (.keep rfl (.keep rfl (.keep rfl (.drop rfl (.drop rfl .nil))))) rfl rfl rfl rfl (oC rfl (fnOk_of Try.func49 (by decide) rfl) (ih e0 hm0 c _ _ (hP.kp kZ) hL0 (hW.kid hm0)) ?_)
     rintro u G1 ⟨rfl, hc1, hk1⟩
     have hP1 := (hP.kp kZ).step hk1 hc1 hmx hpl hB
     have hcell1 : G1.get H.n = some (.cells 54 1 [.int .i64 ek, .int .i64 en, .str enm, .int .i64 eo, .slice (some (kid, ko)) kids.length]) := hk1.g _ _ gG rfl (by simp; omega)
     have K1 : Kp [x] H G1 := Kp.own2 kZ hk1
     have hxl1 := Heap.get_lt hc1
     have hbl1 := Heap.get_lt hcell1
     have hkg1 := hP1.b.get hkB rfl
     obtain ⟨esA1, hesA1, hlkA1⟩ := hP1.a.look enm
     have hmc1 : G1.get F.mc = some (.map (ents esA)) := hk1.g _ _ gG rfl (by simpa using hmx.2)
     refine ⟨⟨.inr (⟨_, rfl, look_atA rfl rfl rfl rfl rfl hmc1 hlkA⟩), .inr (⟨_, rfl, op_load_at (x := .at (.str enm)) rfl hcell1 rfl⟩), .inr (⟨_, rfl, op_load_at (x := .at (.map (some F.mc))) rfl hc1 rfl⟩), .inl rfl, .inl rfl, trivial⟩, ?_⟩
     refine dL rfl rfl rfl rfl (oV rfl ?_)
     refine dL rfl rfl rfl rfl (oV rfl ?_)
     refine dE0 ?_
     show TrP 123 _ _ _ _
     refine tH [(0, _), (1, _), (2, _), (4, _), (6, _), (7, _), (8, _), (15, _), (17, _), (18, _), (22, _), (28, _)] ?_
     refine Tri.seq ?_
     refine Tri.seq ?_
     refine tR ?_
     refine sV rfl rfl rfl ?_
     refine sO rfl rfl (oP rfl (fun h45 => ?_) (fun h45 => ?_))
     ·
      refine sV rfl rfl rfl ?_
      iterate 4 refine sN rfl rfl ?_
      refine sV rfl rfl rfl ?_
      show TrP 123 _ _ _ _
      refine tH [(0, _), (1, _), (2, _), (4, _), (6, _), (7, _), (8, _), (15, _), (17, _), (18, _), (22, _), (28, _), (51, _)] ?_
      refine tT rfl ?_
      refine Tri.seq ?_
      refine tR ?_
      refine sV rfl rfl rfl ?_
      refine sO rfl rfl (oC rfl (fnOk_of Try.func73 (by decide) rfl) (trap_ok x F (evX A f e0 c).1 out 2 G1 hc1) ?_)
      rintro u G2 ⟨hc2, hk2, hn2⟩
      have K2 : Kp [x] H G2 := Kp.own2 K1 hk2
      show TrP 123 _ _ _ _
      refine tH [(0, _), (1, _), (2, _), (4, _), (6, _), (7, _), (8, _), (15, _), (17, _), (18, _), (22, _), (28, _), (51, _)] ?_
      refine Tri.seq ?_
      refine tR ?_
      refine sV rfl rfl rfl ?_
      show TrP 123 _ _ _ _
      refine tH [(0, _), (1, _), (2, _), (4, _), (6, _), (7, _), (8, _), (15, _), (17, _), (18, _), (22, _), (28, _), (51, _)] ?_
      refine Tri.ret ?_
      refine ⟨trivial, _, rfl, ?_⟩
      subst h29
      have e : evX A f (.mk 3 en enm eo kids) c = (trapS (evX A f e0 c).1 2, 0) := by rw [evX_idx h15 he0, if_pos (by first | exact .inl h45 | exact .inr h50)]
      rw [e]; exact ⟨rfl, hc2, K2⟩
     ·
      iterate 4 refine sV rfl rfl rfl ?_
      refine sO rfl rfl (oP rfl (fun h50 => ?_) (fun h50 => ?_))
      ·
       refine sV rfl rfl rfl ?_
       show TrP 123 _ _ _ _
       refine tH [(0, _), (1, _), (2, _), (4, _), (6, _), (7, _), (8, _), (15, _), (17, _), (18, _), (22, _), (28, _), (51, _)] ?_
       refine tT rfl ?_
       refine Tri.seq ?_
       refine tR ?_
       refine sV rfl rfl rfl ?_
       refine sO rfl rfl (oC rfl (fnOk_of Try.func73 (by decide) rfl) (trap_ok x F (evX A f e0 c).1 out 2 G1 hc1) ?_)
       rintro u G2 ⟨hc2, hk2, hn2⟩
       have K2 : Kp [x] H G2 := Kp.own2 K1 hk2
       show TrP 123 _ _ _ _
       refine tH [(0, _), (1, _), (2, _), (4, _), (6, _), (7, _), (8, _), (15, _), (17, _), (18, _), (22, _), (28, _), (51, _)] ?_
       refine Tri.seq ?_
       refine tR ?_
       refine sV rfl rfl rfl ?_
       show TrP 123 _ _ _ _
       refine tH [(0, _), (1, _), (2, _), (4, _), (6, _), (7, _), (8, _), (15, _), (17, _), (18, _), (22, _), (28, _), (51, _)] ?_
       refine Tri.ret ?_
       refine ⟨trivial, _, rfl, ?_⟩
       subst h29
       have e : evX A f (.mk 3 en enm eo kids) c = (trapS (evX A f e0 c).1 2, 0) := by rw [evX_idx h15 he0, if_pos (by first | exact .inl h45 | exact .inr h50)]
       rw [e]; exact ⟨rfl, hc2, K2⟩
      ·
       refine sV rfl rfl rfl ?_
       show TrP 123 _ _ _ _
       refine tH [(0, _), (1, _), (2, _), (4, _), (6, _), (7, _), (8, _), (15, _), (17, _), (18, _), (22, _), (28, _), (51, _)] ?_
       refine tF rfl ?_
       refine Tri.skip ?_
       show TrP 123 _ _ _ _
       refine tH [(0, _), (1, _), (2, _), (4, _), (6, _), (7, _), (8, _), (15, _), (17, _), (18, _), (22, _), (28, _), (51, _)] ?_
       refine Tri.seq ?_
       refine tR ?_
       iterate 2 refine sV rfl rfl rfl ?_
       obtain ⟨n, hn⟩ : ∃ n : Nat, (evX A f e0 c).2 = (n : Int) := ⟨(evX A f e0 c).2.toNat, by omega⟩
       have hnl : n < (A enm).length := by omega
       obtain ⟨i, hpi⟩ : ∃ i, pl enm = some i := by
         cases hp : pl enm with
         | none => have := hP1.a.no enm hp; rw [this] at hnl; simp at hnl
         | some i => exact ⟨i, rfl⟩
       have hq : plq pl enm = some (i, 0) := by unfold plq; rw [hpi]; rfl
       have hrow := hP1.a.o enm i hpi
       obtain ⟨v, hv⟩ : ∃ v, (A enm)[n]? = some v := ⟨_, List.getElem?_eq_getElem hnl⟩
       refine sO rfl rfl (oIA (z := 1) (i := n) (by rw [← hq]; rfl) (by rw [← hn]; rfl) rfl rfl hnl ?_)
       refine sO rfl rfl (oLoad (x := .at (.int .i64 v)) rfl hrow (part_at rfl rfl rfl (map_at hv)) ?_)
       refine sV rfl rfl rfl ?_
       show TrP 123 _ _ _ _
       refine tH [(0, _), (1, _), (2, _), (4, _), (6, _), (7, _), (8, _), (15, _), (17, _), (18, _), (22, _), (28, _), (51, _)] ?_
       refine Tri.ret ?_
       refine ⟨trivial, _, rfl, ?_⟩
       subst h29
       have e : evX A f (.mk 3 en enm eo kids) c = ((evX A f e0 c).1, v) := by rw [evX_idx h15 he0, if_neg (by omega), hn, Int.toNat_natCast, List.getD_eq_getElem?_getD, hv]; rfl
       rw [e]; exact ⟨rfl, hc1, K1⟩
    ·
     refine sV rfl rfl rfl ?_
     show TrP 123 _ _ _ _
     refine tH [(0, _), (1, _), (2, _), (4, _), (6, _), (15, _), (17, _), (18, _), (22, _), (28, _)] ?_
     refine tF rfl ?_
     refine Tri.seq ?_
     refine tR ?_
     refine sO rfl rfl (oE rfl (fun h59 => ?_) (fun h59 => ?_))
     ·
      refine sV rfl rfl rfl ?_
      show TrP 123 _ _ _ _
      refine tH [(0, _), (1, _), (2, _), (4, _), (6, _), (15, _), (17, _), (18, _), (22, _), (28, _), (58, _)] ?_
      refine tT rfl ?_
      refine Tri.seq ?_
      refine Tri.seq ?_
      refine tR ?_
      refine sV rfl rfl rfl ?_
      refine sO rfl rfl (oW (at' (.ptr (some (_, 4)))) rfl rfl ?_)
      refine sO rfl rfl (oLoad (x := .at _) rfl gG rfl ?_)
      have hkl : kids.length = 3 := wf5 hwf h59
      obtain ⟨kid, ko, kT, kq, kc, rfl, hkB, hkat⟩ := RowQ_ats hk (by omega)
      have hkg := hP.b.get hkB rfl
      obtain ⟨e0, he0⟩ : ∃ e, kids[0]? = some e := ⟨_, List.getElem?_eq_getElem (by omega)⟩
      obtain ⟨hle0, hL0⟩ := hkat 0 e0 he0
      obtain ⟨p0, hcs0, _⟩ := hL0.out
      rw [hcs0] at hL0
      have hm0 := List.mem_of_getElem? he0
      refine sO rfl rfl (oIA (z := 5) (i := 0) rfl rfl rfl rfl (by omega) ?_)
      refine sO rfl rfl (oLoad (x := .agg [.int .i64 e0.kind, .int .i64 e0.n, .str e0.name, .int .i64 e0.op, .slice p0 e0.kids.length]) rfl gG (part_all hcs0 hle0 rfl rfl rfl) ?_)
      refine sV rfl rfl rfl ?_
      refine sO rfl rfl (oC rfl (fnOk_of Try.func49 (by decide) rfl) (ih e0 hm0 c _ _ (hP.kp kZ) hL0 (hW.kid hm0)) ?_)
      rintro u G1 ⟨rfl, hc1, hk1⟩
      have hP1 := (hP.kp kZ).step hk1 hc1 hmx hpl hB
      have hcell1 : G1.get H.n = some (.cells 54 1 [.int .i64 ek, .int .i64 en, .str enm, .int .i64 eo, .slice (some (kid, ko)) kids.length]) := hk1.g _ _ gG rfl (by simp; omega)
      have K1 : Kp [x] H G1 := Kp.own2 kZ hk1
      have hxl1 := Heap.get_lt hc1
      have hbl1 := Heap.get_lt hcell1
      have hkg1 := hP1.b.get hkB rfl
      refine sO rfl rfl (oNE rfl (fun h67 => ?_) (fun h67 => ?_))
      ·
       show TrP 123 _ _ _ _
       refine tH [(0, _), (1, _), (2, _), (4, _), (6, _), (15, _), (17, _), (18, _), (22, _), (28, _), (58, _), (67, _)] ?_
       refine tT rfl ?_
       refine Tri.seq ?_
       refine tR ?_
       refine sV rfl rfl rfl ?_
       refine sO rfl rfl (oW (at' (.ptr (some (_, 4)))) rfl rfl ?_)
       refine sO rfl rfl (oLoad (x := .at _) rfl gG rfl ?_)
       obtain ⟨e1, he1⟩ : ∃ e, kids[1]? = some e := ⟨_, List.getElem?_eq_getElem (by omega)⟩
       obtain ⟨hle1, hL1⟩ := hkat 1 e1 he1
       obtain ⟨p1, hcs1, _⟩ := hL1.out
       rw [hcs1] at hL1
       have hm1 := List.mem_of_getElem? he1
       obtain ⟨e2, he2⟩ : ∃ e, kids[2]? = some e := ⟨_, List.getElem?_eq_getElem (by omega)⟩
       obtain ⟨hle2, hL2⟩ := hkat 2 e2 he2
       obtain ⟨p2, hcs2, _⟩ := hL2.out
       rw [hcs2] at hL2
       have hm2 := List.mem_of_getElem? he2
       refine sO rfl rfl (oIA (z := 5) (i := 1) rfl rfl rfl rfl (by omega) ?_)
       refine sO rfl rfl (oLoad (x := .agg [.int .i64 e1.kind, .int .i64 e1.n, .str e1.name, .int .i64 e1.op, .slice p1 e1.kids.length]) rfl gG (part_all hcs1 hle1 rfl rfl rfl) ?_)
       refine sV rfl rfl rfl ?_
       refine sO rfl rfl (oC rfl (fnOk_of Try.func49 (by decide) rfl) (ih e1 hm1 (evX A f e0 c).1 _ _ (hP1.kp Kp.refl) hL1 (hW.kid hm1)) ?_)
       rintro u G2 ⟨rfl, hc2, hk2⟩
       have K2 : Kp [x] H G2 := Kp.own2 K1 hk2
       refine sV rfl rfl rfl ?_
       show TrP 123 _ _ _ _
       refine tH [(0, _), (1, _), (2, _), (4, _), (6, _), (15, _), (17, _), (18, _), (22, _), (28, _), (58, _), (67, _)] ?_
       refine Tri.ret ?_
       refine ⟨trivial, _, rfl, ?_⟩
       subst h59
       have e : evX A f (.mk 5 en enm eo kids) c = evX A f e1 (evX A f e0 c).1 := by rw [evX_cond h15 he0 he1 he2, if_pos h67]
       rw [e]; exact ⟨rfl, hc2, K2⟩
      ·
       show TrP 123 _ _ _ _
       refine tH [(0, _), (1, _), (2, _), (4, _), (6, _), (15, _), (17, _), (18, _), (22, _), (28, _), (58, _), (67, _)] ?_
       refine tF rfl ?_
       refine Tri.skip ?_
       show TrP 123 _ _ _ _
       refine tH [(0, _), (1, _), (2, _), (4, _), (6, _), (15, _), (17, _), (18, _), (22, _), (28, _), (58, _), (67, _)] ?_
       refine Tri.seq ?_
       refine tR ?_
       refine sV rfl rfl rfl ?_
       refine sO rfl rfl (oW (at' (.ptr (some (_, 4)))) rfl rfl ?_)
       refine sO rfl rfl (oLoad (x := .at _) rfl gG rfl ?_)
       obtain ⟨e1, he1⟩ : ∃ e, kids[1]? = some e := ⟨_, List.getElem?_eq_getElem (by omega)⟩
       obtain ⟨hle1, hL1⟩ := hkat 1 e1 he1
       obtain ⟨p1, hcs1, _⟩ := hL1.out
       rw [hcs1] at hL1
       have hm1 := List.mem_of_getElem? he1
       obtain ⟨e2, he2⟩ : ∃ e, kids[2]? = some e := ⟨_, List.getElem?_eq_getElem (by omega)⟩
       obtain ⟨hle2, hL2⟩ := hkat 2 e2 he2
       obtain ⟨p2, hcs2, _⟩ := hL2.out
       rw [hcs2] at hL2
       have hm2 := List.mem_of_getElem? he2
       refine sO rfl rfl (oIA (z := 5) (i := 2) rfl rfl rfl rfl (by omega) ?_)
       refine sO rfl rfl (oLoad (x := .agg [.int .i64 e2.kind, .int .i64 e2.n, .str e2.name, .int .i64 e2.op, .slice p2 e2.kids.length]) rfl gG (part_all hcs2 hle2 rfl rfl rfl) ?_)
       refine sV rfl rfl rfl ?_
       refine sO rfl rfl (oC rfl (fnOk_of Try.func49 (by decide) rfl) (ih e2 hm2 (evX A f e0 c).1 _ _ (hP1.kp Kp.refl) hL2 (hW.kid hm2)) ?_)
       rintro u G2 ⟨rfl, hc2, hk2⟩
       have K2 : Kp [x] H G2 := Kp.own2 K1 hk2
       refine sV rfl rfl rfl ?_
       show TrP 123 _ _ _ _
       refine tH [(0, _), (1, _), (2, _), (4, _), (6, _), (15, _), (17, _), (18, _), (22, _), (28, _), (58, _), (67, _)] ?_
       refine Tri.ret ?_
       refine ⟨trivial, _, rfl, ?_⟩
       subst h59
       have e : evX A f (.mk 5 en enm eo kids) c = evX A f e2 (evX A f e0 c).1 := by rw [evX_cond h15 he0 he1 he2, if_neg (fun hh => hh h67)]
       rw [e]; exact ⟨rfl, hc2, K2⟩
     ·
      refine sV rfl rfl rfl ?_
      show TrP 123 _ _ _ _
      refine tH [(0, _), (1, _), (2, _), (4, _), (6, _), (15, _), (17, _), (18, _), (22, _), (28, _), (58, _)] ?_
      refine tF rfl ?_
      refine Tri.skip ?_
      show TrP 123 _ _ _ _
      refine tH [(0, _), (1, _), (2, _), (4, _), (6, _), (15, _), (17, _), (18, _), (22, _), (28, _), (58, _)] ?_
      refine Tri.seq ?_
      refine tR ?_
      refine sV rfl rfl rfl ?_
      refine sO rfl rfl (oW (at' (.ptr (some (_, 4)))) rfl rfl ?_)
      refine sO rfl rfl (oLoad (x := .at _) rfl gG rfl ?_)
      have hkl : kids.length = 1 ∨ kids.length = 2 := wf4 hwf h19 h23 h29 h59
      obtain ⟨kid, ko, kT, kq, kc, rfl, hkB, hkat⟩ := RowQ_ats hk (by omega)
      have hkg := hP.b.get hkB rfl
      obtain ⟨e0, he0⟩ : ∃ e, kids[0]? = some e := ⟨_, List.getElem?_eq_getElem (by omega)⟩
      obtain ⟨hle0, hL0⟩ := hkat 0 e0 he0
      obtain ⟨p0, hcs0, _⟩ := hL0.out
      rw [hcs0] at hL0
      have hm0 := List.mem_of_getElem? he0
      refine sO rfl rfl (oIA (z := 5) (i := 0) rfl rfl rfl rfl (by omega) ?_)
      refine sO rfl rfl (oLoad (x := .agg [.int .i64 e0.kind, .int .i64 e0.n, .str e0.name, .int .i64 e0.op, .slice p0 e0.kids.length]) rfl gG (part_all hcs0 hle0 rfl rfl rfl) ?_)
      refine sV rfl rfl rfl ?_
      refine sO rfl rfl (oC rfl (fnOk_of Try.func49 (by decide) rfl) (ih e0 hm0 c _ _ (hP.kp kZ) hL0 (hW.kid hm0)) ?_)
      rintro u G1 ⟨rfl, hc1, hk1⟩
      have hP1 := (hP.kp kZ).step hk1 hc1 hmx hpl hB
      have hcell1 : G1.get H.n = some (.cells 54 1 [.int .i64 ek, .int .i64 en, .str enm, .int .i64 eo, .slice (some (kid, ko)) kids.length]) := hk1.g _ _ gG rfl (by simp; omega)
      have K1 : Kp [x] H G1 := Kp.own2 kZ hk1
      have hxl1 := Heap.get_lt hc1
      have hbl1 := Heap.get_lt hcell1
      have hkg1 := hP1.b.get hkB rfl
      refine sV rfl rfl rfl ?_
      show TrP 123 _ _ _ _
      refine tH [(0, _), (1, _), (2, _), (4, _), (6, _), (9, _), (15, _), (17, _), (18, _), (22, _), (28, _), (58, _)] ?_
      refine Tri.seq ?_
      refine Tri.seq ?_
      refine tR ?_
      refine sO rfl rfl (oW (at' (.ptr (some (_, 4)))) rfl rfl ?_)
      refine sO rfl rfl (oLoad (x := .at _) rfl gG rfl ?_)
      refine sV rfl rfl rfl ?_
      refine sO rfl rfl (oE rfl (fun h92 => ?_) (fun h92 => ?_))
      ·
       show TrP 123 _ _ _ _
       refine tH [(0, _), (1, _), (2, _), (4, _), (6, _), (9, _), (15, _), (17, _), (18, _), (22, _), (28, _), (58, _), (92, _)] ?_
       refine tT rfl ?_
       refine Tri.seq ?_
       refine tR ?_
       refine sO rfl rfl (oW (at' (.ptr (some (_, 3)))) rfl rfl ?_)
       refine sO rfl rfl (oLoad (x := .at _) rfl gG rfl ?_)
       refine sV rfl rfl rfl ?_
       refine sO rfl rfl (oF rfl (fnOk_of Try.func74 (by decide) rfl) (un_ok _ _ _) ?_)
       refine sV rfl rfl rfl ?_
       show TrP 123 _ _ _ _
       refine tH [(0, _), (1, _), (2, _), (4, _), (6, _), (9, _), (15, _), (17, _), (18, _), (22, _), (28, _), (58, _), (92, _)] ?_
       refine Tri.ret ?_
       refine ⟨trivial, _, rfl, ?_⟩
       rw [evX_un h15 h19 h23 h29 he0 (by omega)]; exact ⟨rfl, hc1, K1⟩
      ·
       show TrP 123 _ _ _ _
       refine tH [(0, _), (1, _), (2, _), (4, _), (6, _), (9, _), (15, _), (17, _), (18, _), (22, _), (28, _), (58, _), (92, _)] ?_
       refine tF rfl ?_
       refine Tri.skip ?_
       show TrP 123 _ _ _ _
       refine tH [(0, _), (1, _), (2, _), (4, _), (6, _), (9, _), (15, _), (17, _), (18, _), (22, _), (28, _), (58, _), (92, _)] ?_
       refine Tri.seq ?_
       refine tR ?_
       refine sV rfl rfl rfl ?_
       refine sO rfl rfl (oW (at' (.ptr (some (_, 4)))) rfl rfl ?_)
       refine sO rfl rfl (oLoad (x := .at _) rfl gG rfl ?_)
       obtain ⟨e1, he1⟩ : ∃ e, kids[1]? = some e := ⟨_, List.getElem?_eq_getElem (by omega)⟩
       obtain ⟨hle1, hL1⟩ := hkat 1 e1 he1
       obtain ⟨p1, hcs1, _⟩ := hL1.out
       rw [hcs1] at hL1
       have hm1 := List.mem_of_getElem? he1
       refine sO rfl rfl (oIA (z := 5) (i := 1) rfl rfl rfl rfl (by omega) ?_)
       refine sO rfl rfl (oLoad (x := .agg [.int .i64 e1.kind, .int .i64 e1.n, .str e1.name, .int .i64 e1.op, .slice p1 e1.kids.length]) rfl gG (part_all hcs1 hle1 rfl rfl rfl) ?_)
       refine sV rfl rfl rfl ?_
       refine sO rfl rfl (oC rfl (fnOk_of Try.func49 (by decide) rfl) (ih e1 hm1 (evX A f e0 c).1 _ _ (hP1.kp Kp.refl) hL1 (hW.kid hm1)) ?_)
       rintro u G2 ⟨rfl, hc2, hk2⟩
       have hP2 := (hP1.kp Kp.refl).step hk2 hc2 hmx hpl hB
       have hcell2 : G2.get H.n = some (.cells 54 1 [.int .i64 ek, .int .i64 en, .str enm, .int .i64 eo, .slice (some (kid, ko)) kids.length]) := hk2.g _ _ gG rfl (by simp; omega)
       have K2 : Kp [x] H G2 := Kp.own2 K1 hk2
       have hxl2 := Heap.get_lt hc2
       have hbl2 := Heap.get_lt hcell2
       have hkg2 := hP2.b.get hkB rfl
       refine sV rfl rfl rfl ?_
       show TrP 123 _ _ _ _
       refine tH [(0, _), (1, _), (2, _), (4, _), (6, _), (9, _), (10, _), (15, _), (17, _), (18, _), (22, _), (28, _), (58, _), (92, _)] ?_
       refine Tri.seq ?_
       refine Tri.seq ?_
       refine tR ?_
       refine sV rfl rfl rfl ?_
       refine sO rfl rfl (oE rfl (fun h105 => ?_) (fun h105 => ?_))
       ·
        refine sV rfl rfl rfl ?_
        refine sO rfl rfl (oW (at' (.ptr (some (_, 3)))) rfl rfl ?_)
        refine sO rfl rfl (oLoad (x := .at _) rfl gG rfl ?_)
        refine sO rfl rfl (oE rfl (fun h109 => ?_) (fun h109 => ?_))
        ·
         refine sV rfl rfl rfl ?_
         iterate 3 refine sN rfl rfl ?_
         iterate 2 refine sV rfl rfl rfl ?_
         show TrP 123 _ _ _ _
         refine tH [(0, _), (1, _), (2, _), (4, _), (6, _), (9, _), (10, _), (15, _), (17, _), (18, _), (22, _), (28, _), (58, _), (92, _), (115, _)] ?_
         refine tT rfl ?_
         refine Tri.seq ?_
         refine tR ?_
         refine sV rfl rfl rfl ?_
         refine sO rfl rfl (oC rfl (fnOk_of Try.func73 (by decide) rfl) (trap_ok x F (evX A f e1 (evX A f e0 c).1).1 out 1 G2 hc2) ?_)
         rintro u G3 ⟨hc3, hk3, hn3⟩
         have K3 : Kp [x] H G3 := Kp.own2 K2 hk3
         show TrP 123 _ _ _ _
         refine tH [(0, _), (1, _), (2, _), (4, _), (6, _), (9, _), (10, _), (15, _), (17, _), (18, _), (22, _), (28, _), (58, _), (92, _), (115, _)] ?_
         refine Tri.seq ?_
         refine tR ?_
         refine sV rfl rfl rfl ?_
         show TrP 123 _ _ _ _
         refine tH [(0, _), (1, _), (2, _), (4, _), (6, _), (9, _), (10, _), (15, _), (17, _), (18, _), (22, _), (28, _), (58, _), (92, _), (115, _)] ?_
         refine Tri.ret ?_
         refine ⟨trivial, _, rfl, ?_⟩
         rw [evX_bin h15 h19 h23 h29 h59 he0 he1, if_pos ⟨h105, (by first | exact .inl h109 | exact .inr h113)⟩]; exact ⟨rfl, hc3, K3⟩
        ·
         refine sV rfl rfl rfl ?_
         refine sO rfl rfl (oW (at' (.ptr (some (_, 3)))) rfl rfl ?_)
         refine sO rfl rfl (oLoad (x := .at _) rfl gG rfl ?_)
         refine sO rfl rfl (oE rfl (fun h113 => ?_) (fun h113 => ?_))
         ·
          iterate 2 refine sV rfl rfl rfl ?_
          show TrP 123 _ _ _ _
          refine tH [(0, _), (1, _), (2, _), (4, _), (6, _), (9, _), (10, _), (15, _), (17, _), (18, _), (22, _), (28, _), (58, _), (92, _), (115, _)] ?_
          refine tT rfl ?_
          refine Tri.seq ?_
          refine tR ?_
          refine sV rfl rfl rfl ?_
          refine sO rfl rfl (oC rfl (fnOk_of Try.func73 (by decide) rfl) (trap_ok x F (evX A f e1 (evX A f e0 c).1).1 out 1 G2 hc2) ?_)
          rintro u G3 ⟨hc3, hk3, hn3⟩
          have K3 : Kp [x] H G3 := Kp.own2 K2 hk3
          show TrP 123 _ _ _ _
          refine tH [(0, _), (1, _), (2, _), (4, _), (6, _), (9, _), (10, _), (15, _), (17, _), (18, _), (22, _), (28, _), (58, _), (92, _), (115, _)] ?_
          refine Tri.seq ?_
          refine tR ?_
          refine sV rfl rfl rfl ?_
          show TrP 123 _ _ _ _
          refine tH [(0, _), (1, _), (2, _), (4, _), (6, _), (9, _), (10, _), (15, _), (17, _), (18, _), (22, _), (28, _), (58, _), (92, _), (115, _)] ?_
          refine Tri.ret ?_
          refine ⟨trivial, _, rfl, ?_⟩
          rw [evX_bin h15 h19 h23 h29 h59 he0 he1, if_pos ⟨h105, (by first | exact .inl h109 | exact .inr h113)⟩]; exact ⟨rfl, hc3, K3⟩
         ·
          iterate 2 refine sV rfl rfl rfl ?_
          show TrP 123 _ _ _ _
          refine tH [(0, _), (1, _), (2, _), (4, _), (6, _), (9, _), (10, _), (15, _), (17, _), (18, _), (22, _), (28, _), (58, _), (92, _), (115, _)] ?_
          refine tF rfl ?_
          refine Tri.skip ?_
          show TrP 123 _ _ _ _
          refine tH [(0, _), (1, _), (2, _), (4, _), (6, _), (9, _), (10, _), (15, _), (17, _), (18, _), (22, _), (28, _), (58, _), (92, _), (115, _)] ?_
          refine Tri.seq ?_
          refine tR ?_
          refine sO rfl rfl (oW (at' (.ptr (some (_, 3)))) rfl rfl ?_)
          refine sO rfl rfl (oLoad (x := .at _) rfl gG rfl ?_)
          iterate 2 refine sV rfl rfl rfl ?_
          refine sO rfl rfl (oF rfl (fnOk_of Try.func19 (by decide) rfl) (bin_ok _ _ _ _) ?_)
          refine sV rfl rfl rfl ?_
          show TrP 123 _ _ _ _
          refine tH [(0, _), (1, _), (2, _), (4, _), (6, _), (9, _), (10, _), (15, _), (17, _), (18, _), (22, _), (28, _), (58, _), (92, _), (115, _)] ?_
          refine Tri.ret ?_
          refine ⟨trivial, _, rfl, ?_⟩
          rw [evX_bin h15 h19 h23 h29 h59 he0 he1, if_neg (by first | exact fun h => h105 h.1 | (rintro ⟨_, h | h⟩; exact h109 h; exact h113 h))]; exact ⟨rfl, hc2, K2⟩
       ·
        refine sV rfl rfl rfl ?_
        iterate 8 refine sN rfl rfl ?_
        refine sV rfl rfl rfl ?_
        show TrP 123 _ _ _ _
        refine tH [(0, _), (1, _), (2, _), (4, _), (6, _), (9, _), (10, _), (15, _), (17, _), (18, _), (22, _), (28, _), (58, _), (92, _), (115, _)] ?_
        refine tF rfl ?_
        refine Tri.skip ?_
        show TrP 123 _ _ _ _
        refine tH [(0, _), (1, _), (2, _), (4, _), (6, _), (9, _), (10, _), (15, _), (17, _), (18, _), (22, _), (28, _), (58, _), (92, _), (115, _)] ?_
        refine Tri.seq ?_
        refine tR ?_
        refine sO rfl rfl (oW (at' (.ptr (some (_, 3)))) rfl rfl ?_)
        refine sO rfl rfl (oLoad (x := .at _) rfl gG rfl ?_)
        iterate 2 refine sV rfl rfl rfl ?_
        refine sO rfl rfl (oF rfl (fnOk_of Try.func19 (by decide) rfl) (bin_ok _ _ _ _) ?_)
        refine sV rfl rfl rfl ?_
        show TrP 123 _ _ _ _
        refine tH [(0, _), (1, _), (2, _), (4, _), (6, _), (9, _), (10, _), (15, _), (17, _), (18, _), (22, _), (28, _), (58, _), (92, _), (115, _)] ?_
        refine Tri.ret ?_
        refine ⟨trivial, _, rfl, ?_⟩
        rw [evX_bin h15 h19 h23 h29 h59 he0 he1, if_neg (by first | exact fun h => h105 h.1 | (rintro ⟨_, h | h⟩; exact h109 h; exact h113 h))]; exact ⟨rfl, hc2, K2⟩
end Go.Proofs.Ytnhobbjbgljpnaa
