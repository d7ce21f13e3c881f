/- A walk over code that communicates, in a frame of the plain kind: the kit's walk for what does not, a step of the machine for what does. -/
import Derived.Test.YtpfgjnklfdfiaaaRows
import Derived.WalkKit
import Derived.Conc.LoneSelect
namespace Go.Proofs.Ytpfgjnklfdfiaaa
open Go.RowKit Go.Conc

/-- The code runs to Q in every frame of the plain kind. -/
def Nrm (P : Program) (c : Code) (Q : Exit → Act → World → Prop) (a : Act) (w : World) : Prop :=
  ∀ (b : Frame), b.kind = .normal → ∀ (k : List Item) (cs : List Frame), ∃ e a' w', Q e a' w' ∧ Arrives P (lone (b.at a (.code c :: k)) cs w) b k cs e a' w'

section
variable {P : Program} {Q : Exit → Act → World → Prop} {a : Act} {w : World}

theorem Nrm.of_wp {c : Code} (h : c.wp P Q a w) : Nrm P c Q a w := fun b _ k cs => h b k cs

/-- One behind the other: what the first leaves otherwise than by its end leaves both. -/
theorem Nrm.seq {x y : Code} (h : Nrm P x (Exit.then (fun a' w' => Nrm P y Q a' w') Q) a w) : Nrm P (.seq x y) Q a w := by
  intro b hb k cs
  obtain ⟨e, a₁, w₁, hq, hr⟩ := h b hb (.code y :: k) cs
  by_cases he : e = .normal
  · subst he
    obtain ⟨e₂, a₂, w₂, hq₂, hr₂⟩ := hq b hb k cs
    exact ⟨e₂, a₂, w₂, hq₂, .of_steps (.head step_seq hr) hr₂⟩
  · refine ⟨e, a₁, w₁, ?_, .of_steps (.one step_seq) (.pass (x := .code y) rfl (fun _ _ => .inl he) hr)⟩
    cases e <;> first | exact absurd rfl he | exact hq

/-- A region whose first operation communicates, and ends at once with v. -/
theorem Nrm.region {id : Nat} {ops : Array Oper} {o : Oper} {rest : List Nat} {v : Value} {w' : World} (ho : ops[0]? = some o) (hl : List.range ops.size = 0 :: rest)
    (hs : ∀ (b : Frame) (k : List Item) (cs : List Frame), b.kind ≠ .early → step P (lone (b.at a (.inRegion ops (0 :: rest) :: k)) cs w) = .next (lone ((b.at a (.inRegion ops (0 :: rest) :: k)).finish v) cs w'))
    (h : wpOps P ops Q rest (a.put o.dst v) w') : Nrm P (.region id ops false) Q a w := by
  intro b hb k cs
  obtain ⟨e, a₁, w₁, hq, hr⟩ := wp_ops rest (a.put o.dst v) w' h b k cs
  have h1 := hs b k cs (by rw [hb]; simp)
  rw [Frame.finish_at, ho] at h1
  have h0 : step P (lone (b.at a (.code (.region id ops false) :: k)) cs w) = .next (lone (b.at a (.inRegion ops (0 :: rest) :: k)) cs w) := by
    rw [← hl]; exact step_region
  exact ⟨e, a₁, w₁, hq, .of_steps (.head h0 (.one h1)) hr⟩

theorem Nrm.mono {c : Code} {Q' : Exit → Act → World → Prop} (h : Nrm P c Q a w) (hq : ∀ e a w, Q e a w → Q' e a w) : Nrm P c Q' a w :=
  fun b hb k cs => let ⟨e, a', w', q, r⟩ := h b hb k cs; ⟨e, a', w', hq _ _ _ q, r⟩

/-- A function whose body so runs. -/
theorem calls_of_nrm {f : FuncId} {fn : Func} {c : Code} {args : Array Value} {R : Ending → World → Prop} (hf : P.funcs[f]? = some fn) (hc : fn.body = some c)
    (h : Nrm P c (bodyPost P fn R) { tmps := args ++ Array.replicate (fn.ntmps - args.size) undef, defers := [] } w) : Calls P f args w R := by
  intro cs
  obtain ⟨b, hb⟩ : ∃ b : Frame, b = { (default : Frame) with fn := f, kind := .normal } := ⟨_, rfl⟩
  have hin : Frame.enter P f args .normal = b.at { tmps := args ++ Array.replicate (fn.ntmps - args.size) undef, defers := [] } [.code c] := by
    simp [Frame.enter, Frame.at, hf, hc, hb]
  obtain ⟨e, a', w', hq, hr⟩ := h b (by rw [hb]) [] cs
  rw [← hin] at hr
  have hkd : b.kind ≠ .early := by rw [hb]; simp
  subst hb
  cases e with
  | normal =>
    obtain ⟨hd, v, hv, hR⟩ := hq
    exact ⟨.returned v, w', _, hR, Steps.trans hr (.one step_end), rfl, rfl, hd, rfl, fn, hf, hv⟩
  | ret =>
    obtain ⟨hd, v, hv, hR⟩ := hq
    obtain ⟨todo, hs⟩ := hr
    exact ⟨.returned v, w', _, hR, hs, rfl, rfl, hd, rfl, fn, hf, hv⟩
  | panic chain =>
    obtain ⟨hd, hR⟩ := hq
    obtain ⟨todo, hs⟩ := hr
    exact ⟨.panicked chain, w', _, hR, hs, rfl, rfl, hd, fn, hf⟩
  | exit id => exact hq.elim
  | goto l => exact hq.elim
  | outgrown => exact ⟨.outgrown, w', { (default : Frame) with fn := f, kind := .normal }, hq, hr.resolve_left hkd, rfl, trivial⟩
end
end Go.Proofs.Ytpfgjnklfdfiaaa
