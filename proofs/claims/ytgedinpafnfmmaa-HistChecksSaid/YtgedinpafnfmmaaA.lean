/- Hist: the map of states. -/
import Derived.Test.YtgedinpafnfmmaaM
import Derived.Maps.Own
import Derived.Maps.Keyed
import Derived.DeepKeys5
namespace Go.Proofs.Ytgedinpafnfmmaa
open Go.RowKit

theorem klaw : Go.Maps.Keyed Try.prog 38 :=
  Go.Maps.Keyed.of_law (deep_law_laid (by kernel_rfl) (m := 3) (by omega) (of_decide_eq_true (by kernel_rfl)) (by kernel_rfl) (by kernel_rfl))

def kv (d v : Int) : Value := .agg #[.int .i64 d, .int .i64 v]
theorem lits1 (m : Nat) (d : Int) (hd : (Lit.int .i64 d).wf = true) : Try.prog.keyLits (m + 1) 3 [.int .i64 d] = some [.int .i64 d] := by
  simp [Program.keyLits, Try.underlying3, hd]
theorem lits2 (m : Nat) (d v : Int) (hd : (Lit.int .i64 d).wf = true) (hv : (Lit.int .i64 v).wf = true) : Try.prog.keyLits (m + 2) 38 [.int .i64 d, .int .i64 v] = some [.int .i64 d, .int .i64 v] := by
  have h3 : Try.prog.cellsOf 38 = 2 := by kernel_rfl
  have h4 : Try.prog.cellsOf 3 = 1 := by kernel_rfl
  unfold Program.keyLits
  simp [Try.underlying38, h3, h4, lits1, hd, hv]
theorem key_some (d v : Int) (hd : (Lit.int .i64 d).wf = true) (hv : (Lit.int .i64 v).wf = true) : ∃ l, keyOf Try.prog 38 (kv d v) = some l := by
  have h1 : Try.prog.keyType 38 = true := by kernel_rfl
  have h2 : Try.prog.types.size = 61 := by kernel_rfl
  have h3 : Try.prog.cellsOf 38 = 2 := by kernel_rfl
  have h5 : (kv d v).cells.toList = [.int .i64 d, .int .i64 v] := rfl
  have h6 : (kv d v).formed Try.prog 38 = true := by
    simp [kv, Value.formed, Try.underlying38, h3]
  exact ⟨_, by simp only [keyOf, Try.underlying38, h1, h6, h2, h5, lits2 60 d v hd hv]; rfl⟩

/-- Block b holds a map whose keys are the pairs of which S holds, each with a 1. -/
def MapAt (w : World) (b : Nat) (S : Int → Int → Prop) : Prop :=
  ∃ (es : Array MapEntry) (clock : Nat), w.heap[b]? = some (.map es clock) ∧ (∀ e ∈ es.toList, e.val = .int .i64 1 ∧ ∃ d v, e.key = kv d v ∧ (Lit.int .i64 d).wf = true ∧ (Lit.int .i64 v).wf = true) ∧
    ∀ d v, S d v ↔ ∃ e ∈ es.toList, e.key = kv d v

theorem kv_inj {d v d' v' : Int} (h : kv d v = kv d' v') : d = d' ∧ v = v' := by simpa [kv] using h

theorem MapAt.lt {w : World} {b : Nat} {S : Int → Int → Prop} (h : MapAt w b S) : b < w.heap.size := by
  obtain ⟨es, clock, h, _⟩ := h
  exact (Array.getElem?_eq_some_iff.1 h).1
theorem MapAt.only {w w' : World} {b : Nat} {S : Int → Int → Prop} {T : Nat → Prop} (h : MapAt w b S) (k : Only T w w') (hb : ¬ T b) : MapAt w' b S := by
  have hlt := h.lt
  obtain ⟨es, clock, h, h2⟩ := h
  exact ⟨es, clock, (k.block b hlt hb).trans h, h2⟩
theorem MapAt.new (w : World) : MapAt (w.alloc (.map #[] 0)) w.heap.size (fun _ _ => False) :=
  ⟨#[], 0, heap_alloc_new w _, by simp, by simp⟩

theorem look {w : World} {b : Nat} {S : Int → Int → Prop} (h : MapAt w b S) (d v : Int) (hd : (Lit.int .i64 d).wf = true) (hv : (Lit.int .i64 v).wf = true) :
    (¬ S d v ∧ (Instr.lookup 40 (.map (some b)) (kv d v) false).run Try.prog w = .ok (.int .i64 0) w) ∨ (S d v ∧ (Instr.lookup 40 (.map (some b)) (kv d v) false).run Try.prog w = .ok (.int .i64 1) w) := by
  obtain ⟨es, clock, hb, hes, hS⟩ := h
  obtain ⟨l, hl⟩ := key_some d v hd hv
  have hz : (zeroValue 3).run Try.prog w = .ok (.int .i64 0) w := by kernel_rfl
  rcases klaw.find w hl es.toList (fun e he => by obtain ⟨_, d, v, hk, h1, h2⟩ := hes e he; rw [hk]; exact key_some d v h1 h2) with ⟨h1, h2⟩ | ⟨j, e, h1, h2, h3⟩
  · refine .inl ⟨fun hs => ?_, by simp [Instr.lookup, run_underlying Try.underlying40, MapKept.run_getObj_map hb, klaw.check w _ hl, h1, hz, Result.andThen]⟩
    obtain ⟨e, he, hk⟩ := (hS d v).1 hs
    exact h2 e he hk
  · have hm := List.mem_of_getElem? h2
    refine .inr ⟨(hS d v).2 ⟨e, hm, h3⟩, by simp [Instr.lookup, run_underlying Try.underlying40, MapKept.run_getObj_map hb, klaw.check w _ hl, h1, (hes e hm).1, Result.andThen]⟩

theorem put_new {w : World} {b : Nat} {S : Int → Int → Prop} (h : MapAt w b S) (d v : Int) (hd : (Lit.int .i64 d).wf = true) (hv : (Lit.int .i64 v).wf = true) (hn : ¬ S d v) :
    ∃ w', (Instr.mapUpdate 40 (.map (some b)) (kv d v) (.int .i64 1)).run Try.prog w = .ok () w' ∧ Only (fun i => i = b) w w' ∧ MapAt w' b (fun d' v' => S d' v' ∨ (d' = d ∧ v' = v)) := by
  obtain ⟨es, clock, hb, hes, hS⟩ := h
  have hlt := (Array.getElem?_eq_some_iff.1 hb).1
  obtain ⟨l, hl⟩ := key_some d v hd hv
  rcases klaw.find w hl es.toList (fun e he => by obtain ⟨_, d, v, hk, h1, h2⟩ := hes e he; rw [hk]; exact key_some d v h1 h2) with ⟨h1, h2⟩ | ⟨j, e, h1, h2, h3⟩
  · refine ⟨{ w with heap := w.heap.setIfInBounds b (.map (es.push ⟨kv d v, .int .i64 1, clock⟩) (clock + 1)) }, ?_, ⟨rfl, rfl, rfl, by simp, fun i hi hs => ?_⟩, es.push ⟨kv d v, .int .i64 1, clock⟩, clock + 1, ?_, ?_, ?_⟩
    · simp [Instr.mapUpdate, run_underlying Try.underlying40, MapKept.run_getObj_map hb, klaw.check w _ hl, h1, MapKept.run_setObj_map _ hb, Result.andThen]
    · simp only
      rw [Array.getElem?_setIfInBounds_ne (fun e => hs e.symm)]
    · simp only
      rw [Array.getElem?_setIfInBounds_self_of_lt hlt]
    · intro e he
      rw [Array.toList_push, List.mem_append, List.mem_singleton] at he
      rcases he with he | rfl
      · exact hes e he
      · exact ⟨rfl, d, v, rfl, hd, hv⟩
    · intro d' v'
      constructor
      · rintro (hs | ⟨rfl, rfl⟩)
        · obtain ⟨e, he, hk⟩ := (hS d' v').1 hs
          exact ⟨e, by simp [he], hk⟩
        · exact ⟨⟨kv d' v', .int .i64 1, clock⟩, by simp, rfl⟩
      · rintro ⟨e, he, hk⟩
        rw [Array.toList_push, List.mem_append, List.mem_singleton] at he
        rcases he with he | rfl
        · exact .inl ((hS d' v').2 ⟨e, he, hk⟩)
        · obtain ⟨h1, h2⟩ := kv_inj hk
          exact .inr ⟨h1.symm, h2.symm⟩
  · exact absurd ((hS d v).2 ⟨e, List.mem_of_getElem? h2, h3⟩) hn
end Go.Proofs.Ytgedinpafnfmmaa
