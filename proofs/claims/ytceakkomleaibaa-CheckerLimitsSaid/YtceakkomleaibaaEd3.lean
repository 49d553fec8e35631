/-
  THE ENGINE, part 19: a closed call that takes and gives plain values is a contract at every heap. Over any program. Written in this session.
-/
import Derived.Test.YtceakkomleaibaaEd2
namespace Go.Ea
def plainT : AT → Bool
  | .bool _ | .int _ _ | .str _ | .ptr none | .slice none _ | .map none | .fn _ [] | .nilFn | .nilIf => true
  | _ => false
def plain1 : A1 → Bool
  | .at a => plainT a
  | .agg cs => cs.all plainT
def plain : AV → Bool
  | .one x => plain1 x
  | .tup xs => xs.all plain1
theorem F2.impL {A B : Type} {R S : A → B → Prop} : ∀ {l : List A} {m : List B}, (∀ a ∈ l, ∀ b, R a b → S a b) → F2 R l m → F2 S l m
  | _, _, _, .nil => .nil
  | _, _, h, .cons h1 h2 => .cons (h _ (by simp) _ h1) (F2.impL (fun a ha b hb => h a (by simp [ha]) b hb) h2)
theorem AR.plain {α α' : Al} {a : AT} {v : Value} (hp : plainT a = true) (h : AR α a v) : AR α' a v := by
  match a, hp, h with
  | .bool _, _, h | .int _ _, _, h | .str _, _, h | .ptr none, _, h | .slice none _, _, h | .map none, _, h | .nilFn, _, h | .nilIf, _, h => exact h
  | .fn f [], _, ⟨arr, h1, h2⟩ =>
    refine ⟨arr, h1, ?_⟩
    generalize arr.toList = l at h2
    cases h2
    exact .nil
theorem V1.plain {α α' : Al} {x : A1} {v : Value} (hp : plain1 x = true) (h : V1 α x v) : V1 α' x v := by
  match x, hp, h with
  | .at a, hp, h => exact AR.plain hp h
  | .agg cs, hp, ⟨arr, h1, h2⟩ => exact ⟨arr, h1, F2.impL (fun a ha b hb => AR.plain (by simp only [plain1, List.all_eq_true] at hp; exact hp a ha) hb) h2⟩
theorem VR.plain {α α' : Al} {a : AV} {v : Value} (hp : plain a = true) (h : VR α a v) : VR α' a v := by
  match a, hp, h with
  | .one x, hp, h => exact V1.plain hp h
  | .tup xs, hp, ⟨arr, h1, h2⟩ => exact ⟨arr, h1, F2.impL (fun a ha b hb => V1.plain (by simp only [Ea.plain, List.all_eq_true] at hp; exact hp a ha) hb) h2⟩
theorem Sim.lift {P : Program} {f : FuncId} {args : List AV} {Q : AV → Prop} (ha : ∀ a ∈ args, plain a = true) (h : Sim P f args Heap.empty fun u _ => plain u = true ∧ Q u) (H : Heap) : Sim P f args H fun u G => Q u ∧ G = H := by
  intro base α w xs hR hx
  refine (h w.heap.size (fun _ => none) w xs (R.start P w) (F2.impL (fun a hm b hb => VR.plain (ha a hm) hb) hx)).mono fun e w' ⟨v, v', H', α', h1, ⟨h2, h3⟩, h4, _, h6⟩ => ?_
  have hb : ∀ k, k < w.heap.size → w'.heap[k]? = w.heap[k]? := fun k hk => h6.blk k hk (noRw_empty _ k)
  exact ⟨v, v', H, α, h1, ⟨h3, rfl⟩, VR.plain h2 h4, hR.move h6.size hb, ⟨h6.os, h6.tape, h6.output, h6.size, Nat.le_refl _, Sub.refl _, fun _ _ => rfl, fun k hk _ => hb k hk, fun _ _ h => h, fun _ _ h => h, fun _ h => h, h6.fz⟩⟩
/-- From an evaluation. -/
theorem Sim.of_run {P : Program} {K : Orc} (hK : OrcOk P K) {f : FuncId} {args : List AV} {v : AV} {X : Heap} (h : K f args Heap.empty = some (v, X)) (ha : ∀ a ∈ args, plain a = true) (hv : plain v = true) (H : Heap) : Sim P f args H fun u G => u = v ∧ G = H :=
  Sim.lift (Q := fun u => u = v) ha ((hK _ _ _ _ _ h).2.mono fun u G ⟨h1, _⟩ => by subst h1; exact ⟨hv, rfl⟩) H
end Go.Ea
