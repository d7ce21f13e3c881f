/- append inside a region that draws its order: onto a row of the call's own, from a slice that reads as a list. -/
import Derived.Test.YtbcjpchjidgpeaaM
namespace Go.Proofs.Ytbcjpchjidgpeaa
open Go.RowKit

theorem step_append_src {P : Program} {ops : Array Oper} {o : Oper} {a : Act} {w : World} {K : Act → World → Prop} {Q : Exit → Act → World → Prop} {E : Prop} (hgd : o.guard = none) (s x : Operand) (t : TypeId)
    (ho : o.op = Op.call { callee := Callee.builtin Builtin.append, args := #[s, x], argTypes := #[t, t] })
    (base : Nat) (e : TypeId) (i : TypeInfo) (z : Value) (size bytes : Nat) (ht : P.underlying t = some (.slice e)) (hi : P.info? e = some i) (hz : i.zero = some z)
    (hsize : i.size = size) (hby : i.bytes = bytes) (hzs : z.cells.size = size) (hsz : 0 < size)
    (v : Value) (n : Nat) (xs : List Value) (hs : a.eval s = v) (hown : w.ownsRow base e size v n xs)
    (g : Nat) (A : Option Addr) (m c : Nat) (news : List Value) (hx : a.eval x = .slice A m c) (hl : news.length = m * size) (hr : Rd w g A news) (h1 : ∀ u ∈ news, u.oneCell' = true)
    (h63 : n + m ≤ maxLen) (hbytes : (n + m) * bytes ≤ 140737488355328) (hbase : base ≤ w.heap.size)
    (h : ∀ A' c' w', n + m ≤ c' → w'.ownsRow base e size (.slice A' (n + m) c') (n + m) (xs ++ news) → w.grownBy w' v.ownBlock → K (a.put o.dst (.slice A' (n + m) c')) w') :
    if Region.wanted o (yielded ops a.tmps) = true then Oper.wp P o a w K Q else E := by
  have hw : Region.wanted o (yielded ops a.tmps) = true := by simp [Region.wanted, hgd]
  rw [if_pos hw]
  obtain ⟨v', w', hrun, h2, h3, _⟩ := run_append_src (P := P) w base t o.type e i z size bytes ht hi hz hsize hby hzs hsz v n xs hown g A m c news hl hr h1 h63 hbytes hbase
  unfold Oper.wp execOp
  simp only [ho, resolve, invoke, builtin, Sem.run_bind, Sem.run_pure, Result.andThen_ok, List.map_toArray, List.map_cons, List.map_nil, hs, hx, hrun]
  obtain ⟨A', c', rfl, hc⟩ := ownsRow_form h2
  exact h A' c' w' hc h2 h3

/-- An empty row in a block of its own. -/
theorem own_fresh {w : World} {g base : Nat} {e : TypeId} (h : At w g e #[]) (hb : base ≤ g) (size : Nat) : w.ownsRow base e size (.slice (some ⟨g, 0, none⟩) 0 0) 0 [] :=
  ⟨by simp, .inr ⟨g, 0, #[], rfl, hb, h, Nat.le_refl _, by simp [maxLen], by simp, by simp⟩⟩
theorem ownsRow_kept' {w w' : World} {base : Nat} {e : TypeId} {size n : Nat} {v : Value} {xs : List Value} {S : Nat → Prop} (h : w.ownsRow base e size v n xs) (k : Only S w w') (hS : ∀ i, v.ownBlock = some i → ¬ S i) : w'.ownsRow base e size v n xs := by
  refine ⟨h.1, ?_⟩
  rcases h.2 with h1 | ⟨g, cap, cur, h1, h2, h3, h4⟩
  · exact .inl h1
  · exact .inr ⟨g, cap, cur, h1, h2, (k.block g (Array.getElem?_eq_some_iff.1 h3).1 (hS g (by rw [h1]; rfl))).trans h3, h4⟩
/-- An append onto a row of one's own changes nothing that lay there before base. -/
theorem Only.append {S : Nat → Prop} {a w w' : World} {base : Nat} {e : TypeId} {size n : Nat} {v : Value} {xs : List Value} (h : Only S a w) (hown : w.ownsRow base e size v n xs) (k : w.grownBy w' v.ownBlock) (hb : ∀ i, i < a.heap.size → base ≤ i → S i) : Only S a w' :=
  h.grown k fun i hi e => hb i hi (hown.lt i e).1
theorem Rd.grown {w w' : World} {g : Nat} {A : Option Addr} {xs : List Value} {row : Option Nat} (h : Rd w g A xs) (k : w.grownBy w' row) (hne : A ≠ none → row ≠ some g) : Rd w' g A xs := by
  rcases h with h | ⟨off, rfl, h2, h3⟩
  · exact .inl h
  · exact Rd.only (.inr ⟨off, rfl, h2, h3⟩) (Only.of_grown k) (fun e => hne (by simp) e.symm)
theorem At.grown {w w' : World} {g : Nat} {t : TypeId} {cs : Array Value} {row : Option Nat} (h : At w g t cs) (k : w.grownBy w' row) (hne : row ≠ some g) : At w' g t cs :=
  h.only (Only.of_grown k) (fun e => hne e.symm)
theorem own_ne {w : World} {base : Nat} {e : TypeId} {size n : Nat} {v : Value} {xs : List Value} (h : w.ownsRow base e size v n xs) {g : Nat} (hg : g < base) : v.ownBlock ≠ some g := fun e => by
  have := (h.lt g e).1; omega
theorem own_row {w : World} {base : Nat} {e : TypeId} {size n c : Nat} {A : Option Addr} {xs : List Value} (h : w.ownsRow base e size (.slice A n c) n xs) (hne : xs ≠ []) : ∃ g, base ≤ g ∧ Rd w g A xs := by
  rcases h.2 with ⟨he, rfl⟩ | ⟨g, cap, cur, he, hb, hg, _, _, hs, hx⟩
  · exact absurd (List.eq_nil_of_length_eq_zero (by simpa using h.1)) hne
  · injection he with hA _ _
    subst hA
    refine ⟨g, hb, .inr ⟨0, rfl, (Array.getElem?_eq_some_iff.1 hg).1, fun j u hu => ?_⟩⟩
    rw [Nat.zero_add, cell_of_row w g j cur e (0, 0) hg]
    rw [← hx, List.getElem?_take] at hu
    split at hu
    · simpa using hu
    · cases hu
end Go.Proofs.Ytbcjpchjidgpeaa
