/- Gate: lay. -/
import Derived.Test.YtpfgjnklfdfiaaaG
namespace Go.Proofs.Ytpfgjnklfdfiaaa
open Go.RowKit Go.Conc

theorem rep_push (n : Nat) (v : Value) : (Array.replicate n v).push v = Array.replicate (n + 1) v := by
  apply Array.ext
  · simp
  · intro i h1 h2; simp [Array.getElem_push]

theorem ChAt.here {w : World} {c : Nat} (h : c < w.heap.size) (cap n s r : Nat) : ChAt (w.setChan c cap (Array.replicate n (.bool true)) false s r false) c cap n := by
  refine ⟨s, r, ?_⟩
  simp only [World.setChan]
  rw [Array.getElem?_setIfInBounds_self_of_lt h]

set_option maxHeartbeats 2000000 in
theorem lay_any (c cap n m : Nat) (w : World) (hc : ChAt w c cap n) (hm : n + m ≤ cap) (hb : cap < 100000) :
    Calls Try.prog 20 #[.chan (some c), .int .i64 m] w fun e w' => e = .returned (.tuple #[]) ∧ ChAt w' c cap (n + m) ∧ Only (fun i => i = c) w w' := by
  refine calls_of_nrm Try.func20 rfl ?_
  simp only [Try.ntmps20, List.size_toArray, List.length_cons, List.length_nil, Nat.reduceAdd, Nat.reduceSub, Array.replicate_succ, Array.replicate_zero, List.push_toArray, List.append_toArray, List.nil_append, List.cons_append]
  simp only [Try.f20]
  refine Nrm.seq (Nrm.of_wp ?_)
  go_wp2
  refine Nrm.block ?_
  refine Nrm.loop (fun d a' w' => ∃ (k : Nat) (u6 u7 u8 u9 u10 u11 : Value), d = m - k ∧ k ≤ m ∧ ChAt w' c cap (n + k) ∧ Only (fun i => i = c) w w' ∧
    a' = { tmps := #[.chan (some c), .int .i64 m, undef, undef, .int .i64 m, .int .i64 k, u6, u7, u8, u9, u10, u11], defers := [] }) m ?_ ?_
  · exact ⟨0, undef, undef, undef, undef, undef, undef, by omega, by omega, hc, Only.refl _ _, rfl⟩
  · rintro d a' w' ⟨k, u6, u7, u8, u9, u10, u11, rfl, hk, hc', hO, rfl⟩
    refine Nrm.seq (Nrm.of_wp ?_)
    go_wp2
    by_cases hkm : k < m
    · have hd : decide ((k : Int) < (m : Int)) = true := by simp; omega
      obtain ⟨s, r, hc'⟩ := hc'
      refine Nrm.seq (Nrm.cond (t := true) (by simp [Act.eval]; omega) (Nrm.of_wp ?_))
      simp only [if_true]
      go_wp2
      refine Nrm.seq (Nrm.block ?_)
      refine Nrm.seq (Nrm.of_wp ?_)
      go_wp2
      refine Nrm.seq (Nrm.region (v := .tuple #[goInt 0, .bool false]) (w' := w'.setChan c cap (Array.replicate (n + k + 1) (.bool true)) false (s + 1) r false) rfl rfl (fun bb k cs hb => ?_) ?_)
      · refine Eq.trans (step_lone_select_send_room (v := .bool true) (z' := .bool false) (stepG_comm rfl rfl hb (by simp [execOp, scase, Act.eval])) hc' (by simp; omega)) ?_
        rw [rep_push]
        rfl
      · simp only [wpOps]
        go_simp
        refine Or.inl (Or.inl (Nrm.of_wp ?_))
        go_wp2
        refine Nrm.of_wp ?_
        go_wp2
        have hlt : c < w'.heap.size := (Array.getElem?_eq_some_iff.1 hc').1
        exact ⟨m - (k + 1), by omega, k + 1, rfl, by omega, ChAt.here hlt cap (n + k + 1) (s + 1) r, hO.setChan (fun _ => rfl) _ _ _ _ _ _, _, _, _, _, _, _, by simp; exact ⟨rfl, rfl, rfl, rfl, rfl, rfl⟩⟩
    · have hd : decide ((k : Int) < (m : Int)) = false := by simp; omega
      have hkk : k = m := by omega
      subst hkk
      refine Nrm.seq (Nrm.cond (t := false) (by simp [Act.eval]) (Nrm.of_wp ?_))
      go_wp2
      refine bodyPost_end (results_none rfl _ _ _) rfl ?_
      exact ⟨rfl, hc', hO⟩
end Go.Proofs.Ytpfgjnklfdfiaaa
