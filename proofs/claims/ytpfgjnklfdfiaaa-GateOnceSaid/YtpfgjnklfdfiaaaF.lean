/- Gate: Take, where a token lies. -/
import Derived.Test.YtpfgjnklfdfiaaaE
namespace Go.Proofs.Ytpfgjnklfdfiaaa
open Go.RowKit Go.Conc

/-- From the channel that the kind names one token goes. -/
theorem take_ch (b c cap n : Nat) (kind : Int) (w : World) (hc : ChAt w c cap (n + 1)) (ho : Calls Try.prog 19 #[.pointer (some ⟨b, 0, none⟩), .int .i64 kind] w fun e w' => e = .returned (.chan (some c)) ∧ w' = w) :
    Calls Try.prog 13 #[.pointer (some ⟨b, 0, none⟩), .int .i64 kind] w fun e w' => e = .returned (.bool true) ∧ ∃ s r, w' = w.setChan c cap (Array.replicate n (.bool true)) false s r false := by
  have Ho := Lib.hid ho
  obtain ⟨s, r, hc⟩ := hc
  have hp := rep_pop n (.bool true)
  have hg : (Array.replicate (n + 1) (Value.bool true)).getD 0 undef = .bool true := by simp [Array.getD]
  refine calls_of_nrm Try.func13 rfl ?_
  simp only [Try.ntmps13, List.size_toArray, List.length_cons, List.length_nil, Nat.reduceAdd, Nat.reduceSub, Array.replicate_succ, Array.replicate_zero, List.push_toArray, List.append_toArray, List.nil_append, List.cons_append]
  simp only [Try.f13]
  refine Nrm.seq (Nrm.of_wp ?_)
  go_wp2
  refine Nrm.seq (Nrm.of_wp ?_)
  go_wp2_with (fail)
  refine Ho.out.mono ?_
  rintro e w1 ⟨rfl, rfl⟩
  go_wp2
  refine Nrm.seq (Nrm.region (v := .tuple #[goInt 0, .bool true, .bool true]) (w' := w1.setChan c cap (Array.replicate n (.bool true)) false s (r + 1) false) rfl rfl (fun bb k cs hb => ?_) ?_)
  · refine Eq.trans (step_lone_select_recv_buf (z := .bool false) (stepG_comm rfl rfl hb (by simp [execOp, rcase, Act.eval])) hc (by simp)) ?_
    rw [hp, hg]
    rfl
  · simp only [wpOps]
    go_simp
    refine Or.inl (Or.inl (Nrm.of_wp ?_))
    go_wp2
    go_ret
    exact ⟨rfl, s, r + 1, rfl⟩
end Go.Proofs.Ytpfgjnklfdfiaaa
