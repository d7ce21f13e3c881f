/- Top: what a device says that holds nothing: ready, all, Scan. -/
import Derived.Test.YtjobaplioidogaaGreatO
import Derived.Defers
import Derived.Recover
namespace Go.Proofs.YtjobaplioidogaaGreat
open Go.RowKit

set_option maxHeartbeats 1000000 in
theorem ready_any (d gb mp pp : Nat) (G : Ge) (l : List Bk) (es : Array MapEntry) (ck : Nat) (w : World) (k : NAt w d gb mp pp G l es ck) :
    Calls Tryz.prog 108 #[.pointer (some ⟨d, 0, none⟩)] w fun e w' => e = .returned (.tuple #[]) ∧ w' = w := by
  have HF := Lib.hid (off_any d gb mp pp G l es ck w k)
  clear k
  go_enter Tryz.func108, Tryz.ntmps108
  go_wp2_with (fail)
  refine HF.out.mono ?_
  rintro e w1 ⟨rfl, rfl⟩
  go_wp2
  refine bodyPost_end (results_none rfl _ _ _) rfl ?_
  exact ⟨rfl, rfl⟩

theorem ta_nil (w : World) : (Instr.typeAssert .nilIface 20 41 true).run Tryz.prog w = .ok (.tuple #[.int .i64 0, .bool false]) w := by kernel_rfl
set_option maxRecDepth 100000 in
theorem cut_scan (p q : Addr) (w : World) :
    CallsD Tryz.prog 104 #[.pointer (some p), .pointer (some q)] .returning w fun e u' w' => e = .returned (.tuple #[]) ∧ u' = .returning ∧ w' = w := by
  have ta := ta_nil
  refine callsD_of_wpS Tryz.func104 rfl fun c₀ cs hu => ?_
  apply wpS_seq
  apply wpS_region
  simp [wpOpsS, go_sem, recoverD, hu, Tryz.ntmps104, Exit.thenS, ta]
  apply wpS_seq
  apply wpS_region
  simp [wpOpsS, go_sem, recoverD, Exit.thenS, Act.eval, Array.replicate]
  refine wpS_cond (t := false) (by simp [Act.eval, Array.replicate]) ?_
  simp only [Bool.false_eq_true, if_false]
  refine wpS_of_wp (wp_skip ?_)
  cases c₀
  simp_all [bodyPostS, results, Tryz.results104]

set_option maxRecDepth 100000 in
set_option maxHeartbeats 4000000 in
theorem all_none (d gb mp pp : Nat) (G : Ge) (l : List Bk) (ck : Nat) (w : World) (k : NAt w d gb mp pp G l #[] ck) :
    Calls Tryz.prog 105 #[.pointer (some ⟨d, 0, none⟩)] w fun e w' => e = .returned (.slice none 0 0) ∧ Only (fun _ => False) w w' := by
  have HRD := Lib.hid (ready_any d gb mp pp G l #[] ck w k)
  have HGE := Lib.hid (fun W (o : Only (fun _ => False) w W) => geometry_any d gb mp pp G l #[] ck W (k.quiet o))
  have HAL := Lib.hid (fun W => all_any G k.is W)
  have HRN := Lib.hid (fun W (o : Only (fun _ => False) w W) (i : Nat) (hi : (i : Int) < G.al) => read_none d gb mp pp G l ck i hi W (k.quiet o))
  have hal := k.is.al
  obtain ⟨n, hn⟩ : ∃ n : Nat, G.al = n := ⟨G.al.toNat, by omega⟩
  rw [hn] at HAL HRN hal
  clear k hn
  unfold Ge.val at HGE HAL
  go_enter Tryz.func105, Tryz.ntmps105
  go_wp2_with (fail)
  refine HRD.out.mono ?_
  rintro e w1 ⟨rfl, rfl⟩
  go_wp2_with (fail)
  refine (HGE.out _ (Only.refl _ _)).mono ?_
  rintro e w2 ⟨rfl, hO⟩
  have HO2 := Lib.hid hO
  clear hO
  go_wp2_with (fail)
  refine (HAL.out _).mono ?_
  rintro e w3 ⟨rfl, hO⟩
  have HO3 := Lib.hid (HO2.out.trans hO)
  clear hO
  obtain ⟨w0, hw0⟩ : ∃ w0, w0 = w1 := ⟨_, rfl⟩
  subst hw0
  go_wp2_with (fail)
  go_loopw [3, 4, 5, 6, 7, 14] (fun v3 v4 v5 v6 v7 v14 wr => ∃ i : Nat, i ≤ n ∧ v3 = .slice none 0 0 ∧ v14 = .int .i64 i ∧ Only (fun _ => False) w0 wr) (fun _ _ _ _ _ v14 _ => (n - intOf v14).toNat)
  case atStart => exact ⟨0, by omega, rfl, rfl, HO3.out⟩
  case round =>
    obtain ⟨i, hi, rfl, rfl, hO⟩ := hrel
    have HOi := Lib.hid hO
    clear hO
    by_cases hin : i < n
    · have i1 : (i : Int) < n := by omega
      go_wp2_with (fail)
      refine (HRN.out _ HOi.out i i1).mono ?_
      rintro e w4 ⟨rfl, hO⟩
      have HO4 := Lib.hid (HOi.out.trans hO)
      clear hO
      go_wp2
      go_roundw
      case rel => exact ⟨i + 1, by omega, rfl, by simp, HO4.out⟩
      case measure => simp [intOf]; omega
    · obtain rfl : i = n := by omega
      have i1 : decide ((i : Int) < i) = false := by simp
      go_wp2
      go_ret
      exact ⟨rfl, HOi.out⟩
end Go.Proofs.YtjobaplioidogaaGreat
