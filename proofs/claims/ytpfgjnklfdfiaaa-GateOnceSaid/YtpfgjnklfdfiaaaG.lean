/- Walks that communicate: loops and blocks. -/
import Derived.Test.YtpfgjnklfdfiaaaF
namespace Go.Proofs.Ytpfgjnklfdfiaaa
open Go.RowKit Go.Conc
variable {P : Program} {Q : Exit → Act → World → Prop} {a : Act} {w : World}

theorem Nrm.loop {c : Code} (I : Nat → Act → World → Prop) (n : Nat) (h0 : I n a w)
    (round : ∀ n a w, I n a w → Nrm P c (Exit.then (fun a' w' => ∃ m, m < n ∧ I m a' w') Q) a w) : Nrm P (.loop c) Q a w := by
  have key : ∀ n a w, I n a w → ∀ (b : Frame), b.kind = .normal → ∀ (k : List Item) (cs : List Frame), ∃ e a' w', Q e a' w' ∧ Arrives P (lone (b.at a (.code c :: .inLoop c :: k)) cs w) b k cs e a' w' := by
    intro n
    induction n using Nat.strongRecOn with
    | _ n ih =>
      intro a w hI b hb k cs
      obtain ⟨e, a₁, w₁, hq, hr⟩ := round n a w hI b hb (.inLoop c :: k) cs
      by_cases he : e = .normal
      · subst he
        obtain ⟨m, hm, hI'⟩ := hq
        obtain ⟨e₂, a₂, w₂, hq₂, hr₂⟩ := ih m hm a₁ w₁ hI' b hb k cs
        exact ⟨e₂, a₂, w₂, hq₂, .of_steps (Steps.trans hr (.one step_inLoop)) hr₂⟩
      · refine ⟨e, a₁, w₁, ?_, .pass (x := .inLoop c) rfl (fun _ _ => .inl he) hr⟩
        cases e <;> first | exact absurd rfl he | exact hq
  intro b hb k cs
  obtain ⟨e, a', w', hq, hr⟩ := key n a w h0 b hb k cs
  exact ⟨e, a', w', hq, .of_steps (.one step_loop) hr⟩

theorem Nrm.cond {c : Operand} {x y : Code} {t : Bool} (hc : a.eval c = .bool t) (h : Nrm P (if t then x else y) Q a w) : Nrm P (.cond c x y) Q a w := by
  intro b hb k cs
  obtain ⟨e, a', w', q, r⟩ := h b hb k cs
  exact ⟨e, a', w', q, .of_steps (.one (step_cond hc)) r⟩
theorem Nrm.block {id : Nat} {c : Code} (h : Nrm P c (Exit.inBlock id Q) a w) : Nrm P (.block id c) Q a w := by
  intro b hb k cs
  obtain ⟨e, a₁, w₁, hq, hr⟩ := h b hb (.inBlock id :: k) cs
  cases e with
  | normal => exact ⟨.normal, a₁, w₁, hq, .head step_block (Steps.trans hr (.one step_inBlock))⟩
  | exit id' =>
    by_cases hid : id' = id
    · subst hid
      simp only [Exit.inBlock, if_true] at hq
      exact ⟨.normal, a₁, w₁, hq, .head step_block (hr k (by simp [exitTo]))⟩
    · simp only [Exit.inBlock, if_neg hid] at hq
      have hne : (id == id') = false := beq_false_of_ne (fun e => hid e.symm)
      exact ⟨.exit id', a₁, w₁, hq, fun k' hk => .head step_block (hr k' (by simp [exitTo, hne, hk]))⟩
  | goto l => exact ⟨_, a₁, w₁, hq, fun k' hk => .head step_block (hr k' (by simp [gotoIn, hk]))⟩
  | ret => exact ⟨_, a₁, w₁, hq, .of_steps (.one step_block) hr⟩
  | panic ch => exact ⟨_, a₁, w₁, hq, .of_steps (.one step_block) hr⟩
  | outgrown => exact ⟨_, a₁, w₁, hq, .of_steps (b := b) (k := k) (cs := cs) (e := .outgrown) (.one step_block) hr⟩
end Go.Proofs.Ytpfgjnklfdfiaaa
