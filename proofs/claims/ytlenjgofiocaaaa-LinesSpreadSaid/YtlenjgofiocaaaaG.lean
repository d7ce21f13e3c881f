/- A quiet region that draws its order, in the round of a range over a function. -/
import Derived.Test.YtlenjgofiocaaaaE
import Derived.Sort.QuietIn
namespace Go.Proofs.Ytlenjgofiocaaaa
open Go.RowKit

def noDefer (o : Oper) : Bool := match o.op with
  | .defer _ => false
  | _ => true
theorem noDefer_ne {o : Oper} (h : noDefer o = true) : ∀ c, o.op ≠ .defer c := by
  intro c e
  simp [noDefer, e] at h

section
variable {F : Fence} {n : Nat} {P : Program} {ops : Array Oper} {Q : Exit → Act → World → Prop} {md : Region.Mode}
theorem operIn_round {o : Oper} {a : Act} {w : World} {K : Act → World → Prop} (l : Nat) (hro : F.round = none) (hd : noDefer o = true) (h : o.wpIn F n P a w K Q) : o.wpIn (F.inRound l) n P a w K Q := by
  unfold Oper.wpIn at *
  rw [hro, Oper.semAt_none] at h
  rw [Fence.inRound_round, Oper.semAt_eq _ _ _ (noDefer_ne hd)]
  exact h
theorem opIn_round {i : Nat} {a : Act} {w : World} {K : Act → World → Prop} (l : Nat) (hro : F.round = none) (hd : ∀ (j : Nat) (o : Oper), ops[j]? = some o → noDefer o = true) (h : wpOpIn F n P ops Q i K a w) : wpOpIn (F.inRound l) n P ops Q i K a w := by
  unfold wpOpIn at *
  cases ho : ops[i]? with
  | none => simpa [ho] using h
  | some o =>
    simp only [ho] at h ⊢
    split
    · rename_i hw
      rw [if_pos hw] at h
      exact operIn_round l hro (hd i o ho) h
    · rename_i hw
      rw [if_neg hw] at h
      exact h
theorem anyIn_round (l : Nat) (hro : F.round = none) (hd : ∀ (j : Nat) (o : Oper), ops[j]? = some o → noDefer o = true) : ∀ (fuel : Nat) (listed : Array Bool) (a : Act) (w : World), wpAnyIn F n P md ops Q fuel listed a w → wpAnyIn (F.inRound l) n P md ops Q fuel listed a w
  | 0, _, _, _, h => h
  | fuel + 1, _, _, _, h => ⟨h.1, fun i hi => opIn_round l hro hd (wpOpIn_mono (fun _ _ h' => anyIn_round l hro hd fuel _ _ _ h') (h.2 i hi))⟩

theorem region_quiet_round {id : Nat} {a : Act} {w : World} {ls : List Oper} (l : Nat) (hro : F.round = none) (hm : P.follows .mixedOrders = true) (hB : Region.lexB .any ls.toArray = true) (hd : ls.all noDefer = true)
    (h : wpQuietIn F n P ls.toArray (fun w' => ∃ n, w' = w.drewN n) (fun a' => ∀ w', (∃ n, w' = w.drewN n) → Q .normal a' w') ls a) : (Code.region id ls.toArray true).wpIn (F.inRound l) n P Q a w := by
  have hB' := hB
  simp only [Region.lexB, Bool.and_eq_true] at hB'
  refine wpIn_region_any hm (anyIn_round l hro ?_ _ _ _ _ (wpAnyIn_of_quiet (C := fun w' => ∃ n, w' = w.drewN n) (Q := fun a' => ∀ w', (∃ n, w' = w.drewN n) → Q .normal a' w') hro (fun _ w' hw' h => h w' hw') _ _ _ _ ⟨1, rfl⟩ ?_))
  · intro j o ho
    have hm : o ∈ ls := by
      have : ls[j]? = some o := by simpa using ho
      exact List.mem_of_getElem? this
    exact List.all_eq_true.1 hd o hm
  · have := wpAnyQIn_lex (F := F) (n := n) (P := P) (C := fun w' => ∃ n, w' = w.drewN n) (md := .any) (ops := ls.toArray) hB'.1 ls 0 (Array.replicate ls.toArray.size false) a (by simp) (by simpa using hB'.2) h
    simpa using this
end
end Go.Proofs.Ytlenjgofiocaaaa
