/-
  PROGRAMS THAT WERE READ: what stays of them when parts are written; how they lie. Written in this session.
-/
import Derived.Test.YtceakkomleaibaaKt
namespace Go.Proofs.Ytceakkomleaibaa
open Go.Ea
set_option maxRecDepth 100000
set_option linter.unusedVariables false
set_option linter.unusedSimpArgs false
theorem RowE.kpo {β : Type} {T : TypeId} {H H' : Heap} {z : Nat} {R R' : β → List AT → Prop} {xs : List β} {p : Option (Nat × Nat)} {own : List Nat} (h : RowE T H z R xs p) (hk : Kp own H H') (ho : ∀ d ∈ ridq p, d ∉ own) (hi : ∀ x ∈ xs, ∀ c, R x c → R' x c) : RowE T H' z R' xs p := by
  rcases h with h | ⟨id, cs, rfl, h1, h2, h3⟩
  · exact .inl h
  · exact .inr ⟨id, cs, rfl, hk.g _ _ h1 rfl (ho id (by simp [ridq])), h2, h3.imp hi⟩
section
variable {G Hf : Heap} {ida idf : Nat} {b1 b2 : List Stm} {v1 v2 : Exp} {la lb : Nat} {p1 l1 q1 p2 l2 q2 : Option (Nat × Nat)} {c1 c2 : List AT}
theorem objs_ne (h : (objs ida idf p1 l1 q1 p2 l2 q2).Nodup) : ida ≠ idf := by
  intro e
  subst e
  simp [objs] at h
theorem Laid.keep (h : Laid G ida idf b1 b2 v1 v2 la lb p1 l1 q1 p2 l2 q2 c1 c2) (hk : Kp ([ida, idf] ++ ridq q1) G Hf) : LFn Hf (fnG b2 v2) (fnD [103] (.slice p2 1) (.slice l2 1) (.slice q2 b2.length) c2) ∧ RowQ Hf 1 LT1 [[120], [121]] p1 ∧ RowQ Hf 1 LT1 [[105], [106]] l1 ∧ LX Hf v1 c1 ∧ Kp [] (G.cuts (objs ida idf p1 l1 q1 p2 l2 q2)) Hf := by
  have hd := h.nd
  have hU : Kp [] (G.cuts (objs ida idf p1 l1 q1 p2 l2 q2)) Hf := Kp.cuts (ds' := []) (hk.weaken fun d hd => by
    simp only [objs, List.mem_append] at hd ⊢
    rcases hd with hd | hd
    · exact .inl hd
    · exact .inr (.inr (.inr (.inl hd)))) (fun d hd => by cases hd)
  have dis : ∀ r, (r = p1 ∨ r = l1 ∨ r = p2 ∨ r = l2 ∨ r = q2) → ∀ d ∈ ridq r, d ∉ [ida, idf] ++ ridq q1 := by
    intro r hr d hdr hm
    simp only [objs, List.nodup_append, List.nodup_cons, List.mem_append, List.mem_cons, List.not_mem_nil, or_false] at hd hm
    obtain ⟨g1, g2, g3⟩ := hd
    obtain ⟨e1, e2, e3⟩ := g2
    obtain ⟨f1, f2, f3⟩ := e2
    obtain ⟨k1, k2, k3⟩ := f2
    rcases hm with hm | hm
    · rcases hr with rfl | rfl | rfl | rfl | rfl <;> exact g3 d hm d (by simp [hdr]) rfl
    · rcases hr with rfl | rfl | rfl | rfl | rfl
      · exact e3 d hdr d (by simp [hm]) rfl
      · exact f3 d hdr d (by simp [hm]) rfl
      · exact k3 d hm d (by simp [hdr]) rfl
      · exact k3 d hm d (by simp [hdr]) rfl
      · exact k3 d hm d (by simp [hdr]) rfl
  refine ⟨⟨p2, l2, q2, c2, rfl, (RowE.kpo h.hp2 hk (dis _ (by simp)) fun _ _ _ h => h).q, (RowE.kpo h.hl2 hk (dis _ (by simp)) fun _ _ _ h => h).q, (RowE.kpo h.hq2 hk (dis _ (by simp)) fun s _ => LM.kp hU s).q, h.hc2.kp hU⟩, (RowE.kpo h.hp1 hk (dis _ (by simp)) fun _ _ _ h => h).q, (RowE.kpo h.hl1 hk (dis _ (by simp)) fun _ _ _ h => h).q, h.hc1.kp hU, hU⟩
theorem Laid.body (h : Laid G ida idf b1 b2 v1 v2 la lb p1 l1 q1 p2 l2 q2 c1 c2) (hk : Kp [ida, idf] G Hf) : RowQ Hf 17 (LM Hf) b1 q1 := by
  have hU := (h.keep (hk.weaken fun d hd => List.mem_append_left _ hd)).2.2.2.2
  have hd := h.nd
  refine (RowE.kpo h.hq1 hk (fun d hdr hm => ?_) fun s _ => LM.kp hU s).q
  simp only [objs, List.nodup_append, List.nodup_cons, List.mem_append, List.mem_cons, List.not_mem_nil, or_false] at hd hm
  exact hd.2.2 d hm d (by simp [hdr]) rfl
theorem lprog {T1 T2 : TypeId} {k1 k2 : Nat} {za zb : Int} {f g : Fn1} {d1 d2 : List AT} (ha : Hf.get ida = some (.cells T1 k1 [.str [97], .int .i64 za, .str [98], .int .i64 zb])) (hf : Hf.get idf = some (.cells T2 k2 (d1 ++ d2))) (h1 : LFn Hf f d1) (h2 : LFn Hf g d2) : LPr Hf (prg za zb f g) [.slice (some (ida, 0)) 2, .slice (some (idf, 0)) 2] := by
  refine ⟨some (ida, 0), some (idf, 0), rfl, ⟨fun h => (by cases h), fun id' o hp => .inr ?_⟩, ⟨fun h => (by cases h), fun id' o hp => .inr ?_⟩⟩
  · cases hp
    exact ⟨_, _, _, ha, by simp [prg], rfl, rfl, rfl⟩
  · cases hp
    have e1 := h1.len; have e2 := h2.len
    have e : ((d1 ++ d2).drop 0).take ((prg za zb f g).funcs.length * 9) = d1 ++ d2 := by
      rw [List.drop_zero]
      exact List.take_of_length_le (by rw [List.length_append, e1, e2]; exact Nat.le_refl 18)
    refine ⟨_, _, _, hf, by rw [List.length_append, e1, e2]; exact Nat.le_refl 18, ?_⟩
    rw [e]
    refine ⟨?_, ?_, ?_⟩
    · rw [List.take_append_of_le_length (by omega), List.take_of_length_le (by omega)]; exact h1
    · rw [List.drop_append, List.drop_eq_nil_of_le (by omega), List.nil_append, e1, Nat.sub_self, List.drop_zero, List.take_of_length_le (by omega)]; exact h2
    · show List.drop 9 (List.drop 9 _) = []
      rw [List.drop_drop]
      exact List.drop_eq_nil_of_le (by rw [List.length_append, e1, e2]; exact Nat.le_refl 18)
end
section
variable {G : Heap} {ida idf : Nat} {b1 b2 : List Stm} {v1 v2 : Exp} {la lb : Nat} {p1 l1 q1 p2 l2 q2 : Option (Nat × Nat)} {c1 c2 : List AT}
/-- As it was read. -/
theorem Laid.prog (h : Laid G ida idf b1 b2 v1 v2 la lb p1 l1 q1 p2 l2 q2 c1 c2) : LPr G (prg la lb (fnF b1 v1) (fnG b2 v2)) [.slice (some (ida, 0)) 2, .slice (some (idf, 0)) 2] := by
  obtain ⟨k1, k2, k3, k4, _⟩ := h.keep Kp.refl
  exact lprog h.a h.f ⟨p1, l1, q1, c1, rfl, k2, k3, h.body Kp.refl, k4⟩ k1
end
theorem drawnTwo1 {P : Program} {eqs : Eqs} {N : Nat} {lk : Env} {H : Heap} {Q : PostA} (hm : P.follows .mixedOrders = true) (hQ : EqsOk P eqs) {id : Nat} {ops : Array Oper} (i j : Nat) (hij : i ≠ j) (pl pl' : Plan)
    (hp : okP (addEA j i ops).toList pl = true) (hp' : okP (addEA i j ops).toList pl' = true) (hM : pl.M = 1) (hM' : pl'.M = 1)
    (h : wpD P eqs N (addEA j i ops).toList pl H.n (Q .normal) pl.sched lk (Heap.push H .dead) [] []) (h' : wpD P eqs N (addEA i j ops).toList pl' H.n (Q .normal) pl'.sched lk (Heap.push H .dead) [] []) :
    Tri P N (.region id ops true) lk H Q := Tri.drawnTwo hm hQ i j hij pl pl' hp hp' _ _ (by rw [hM]; rfl) (by rw [hM']; rfl) h h'
theorem drawnTwo2 {P : Program} {eqs : Eqs} {N : Nat} {lk : Env} {H : Heap} {Q : PostA} (hm : P.follows .mixedOrders = true) (hQ : EqsOk P eqs) {id : Nat} {ops : Array Oper} (i j : Nat) (hij : i ≠ j) (pl pl' : Plan)
    (hp : okP (addEA j i ops).toList pl = true) (hp' : okP (addEA i j ops).toList pl' = true) (hM : pl.M = 2) (hM' : pl'.M = 2)
    (h : wpD P eqs N (addEA j i ops).toList pl H.n (Q .normal) pl.sched lk (Heap.push (Heap.push H .dead) .dead) [] []) (h' : wpD P eqs N (addEA i j ops).toList pl' H.n (Q .normal) pl'.sched lk (Heap.push (Heap.push H .dead) .dead) [] []) :
    Tri P N (.region id ops true) lk H Q := Tri.drawnTwo hm hQ i j hij pl pl' hp hp' _ _ (by rw [hM]; rfl) (by rw [hM']; rfl) h h'
end Go.Proofs.Ytceakkomleaibaa
