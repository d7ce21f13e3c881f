/- Gate: Take. -/
import Derived.Test.YtpfgjnklfdfiaaaD
namespace Go.Proofs.Ytpfgjnklfdfiaaa
open Go.RowKit Go.Conc

set_option maxHeartbeats 1000000 in
theorem take_none (b cu cm many nu nm : Nat) (kind : Int) (w : World) (h : GAt w b cu cm many nu nm) (h0 : leftN nu nm kind = 0) :
    Calls Try.prog 13 #[.pointer (some ⟨b, 0, none⟩), .int .i64 kind] w fun e w' => e = .returned (.bool false) ∧ w' = w := by
  have Ho := Lib.hid (of_any b cu cm many nu nm kind w h)
  refine calls_of_nrm Try.func13 rfl ?_
  simp only [Try.ntmps13, List.size_toArray, List.length_cons, List.length_nil, Nat.reduceAdd, Nat.reduceSub, Array.replicate_succ, Array.replicate_zero, List.push_toArray, List.append_toArray, List.nil_append, List.cons_append]
  simp only [Try.f13]
  refine Nrm.seq (Nrm.of_wp ?_)
  go_wp2
  refine Nrm.seq (Nrm.of_wp ?_)
  go_wp2_with (fail)
  refine Ho.out.mono ?_
  rintro e w1 ⟨rfl, rfl⟩
  go_wp2
  rcases hk : ofC cu cm kind with _ | c
  · refine Nrm.seq (Nrm.region (v := .tuple #[goInt (-1), .bool false, .bool false]) (w' := w1) rfl rfl (fun bb k cs hb => ?_) ?_)
    · exact step_lone_select_recv_nil (z := .bool false) (stepG_comm rfl rfl hb (by simp [execOp, rcaseNil, Act.eval]))
    · simp only [wpOps]
      go_simp
      refine Or.inl (Or.inl (Nrm.of_wp ?_))
      go_wp2
      go_ret
      exact ⟨rfl, rfl⟩
  · have hc : ∃ s r, w1.heap[c]? = some (.chan many #[] false s r false) := by
      by_cases h1 : kind = 1
      · obtain ⟨s, r, q⟩ := h.u
        simp [ofC, h1] at hk
        simp [leftN, h1] at h0
        subst hk; subst h0
        exact ⟨s, r, by simpa using q⟩
      · by_cases h2 : kind = 2
        · obtain ⟨s, r, q⟩ := h.m
          simp [ofC, h2] at hk
          simp [leftN, h2] at h0
          subst hk; subst h0
          exact ⟨s, r, by simpa using q⟩
        · simp [ofC, h1, h2] at hk
    obtain ⟨s, r, hc⟩ := hc
    refine Nrm.seq (Nrm.region (v := .tuple #[goInt (-1), .bool false, .bool false]) (w' := w1) rfl rfl (fun bb k cs hb => ?_) ?_)
    · exact step_lone_select_default (z := .bool false) (stepG_comm rfl rfl hb (by simp [execOp, rcase, Act.eval])) hc
    · simp only [wpOps]
      go_simp
      refine Or.inl (Or.inl (Nrm.of_wp ?_))
      go_wp2
      go_ret
      exact ⟨rfl, rfl⟩

theorem rep_pop (n : Nat) (v : Value) : (Array.replicate (n + 1) v).extract 1 (Array.replicate (n + 1) v).size = Array.replicate n v := by
  apply Array.ext
  · simp
  · intro i h1 h2; simp

theorem ChAt.far {w : World} {c c' cap n cap' s r : Nat} {buf : Array Value} {cl tm : Bool} (h : ChAt w c cap n) (hne : c ≠ c') : ChAt (w.setChan c' cap' buf cl s r tm) c cap n := by
  obtain ⟨s, r, q⟩ := h
  refine ⟨s, r, ?_⟩
  simp only [World.setChan]
  rw [Array.getElem?_setIfInBounds_ne (by omega)]
  exact q

theorem ChAt.lt {w : World} {c cap n : Nat} (h : ChAt w c cap n) : c < w.heap.size := by
  obtain ⟨s, r, q⟩ := h
  exact (Array.getElem?_eq_some_iff.1 q).1
theorem Only.setChan {S : Nat → Prop} {a w : World} (h : Only S a w) {c : Nat} (hc : c < a.heap.size → S c) (cap : Nat) (buf : Array Value) (cl : Bool) (s r : Nat) (tm : Bool) : Only S a (w.setChan c cap buf cl s r tm) :=
  ⟨h.os, h.tape, h.output, by simpa [World.setChan] using h.size, fun i hi hs => by
    have hne : c ≠ i := by rintro rfl; exact hs (hc hi)
    simp only [World.setChan]
    rw [Array.getElem?_setIfInBounds_ne hne]
    exact h.block i hi hs⟩
theorem At.setChan {w : World} {g : Nat} {t : TypeId} {cells : Array Value} (h : At w g t cells) {c : Nat} (hne : c ≠ g) (cap : Nat) (buf : Array Value) (cl : Bool) (s r : Nat) (tm : Bool) : At (w.setChan c cap buf cl s r tm) g t cells := by
  unfold At
  simp only [World.setChan]
  rw [Array.getElem?_setIfInBounds_ne hne]
  exact h
end Go.Proofs.Ytpfgjnklfdfiaaa
