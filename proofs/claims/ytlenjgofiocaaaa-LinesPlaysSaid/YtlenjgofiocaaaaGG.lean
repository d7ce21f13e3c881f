/- Lines: does; LinesPlays walked. -/
import Derived.Test.YtlenjgofiocaaaaFF
import Derived.Test.YtlenjgofiocaaaaZ
namespace Go.Proofs.Ytlenjgofiocaaaa
open Go.RowKit

/-- Both, behind a call. -/
structure Both (b off c gb r offr cr rb : Nat) (G : Ge) (l : List Ln) (w w' : World) : Prop where
  h : ∃ (l' : List Ln) (op' : Int), LAt w' b G l' off c gb op' ∧ RAt w' r G l' offr cr rb ∧ Inv l' op' ∧ Only (fun i => i = b ∨ i = gb ∨ i = r ∨ i = rb) w w'
theorem LAt.neR {w : World} {b off c gb r offr cr rb : Nat} {G : Ge} {l l' : List Ln} {op : Int} (k : LAt w b G l off c gb op) (kr : RAt w r G l' offr cr rb) : b ≠ r ∧ b ≠ rb ∧ gb ≠ r ∧ gb ≠ rb := by
  refine ⟨k.st.ne kr.st (by decide), ?_, ?_, ?_⟩
  · exact (kr.row.neAt k.st (by simp) (by decide)).symm
  · exact k.row.neAt kr.st (by simp) (by decide)
  · exact k.row.ne kr.row (by simp) (by simp) (by decide)

set_option maxRecDepth 100000 in
set_option maxHeartbeats 8000000 in
theorem does_any (b off c gb r offr cr rb : Nat) (G : Ge) (l : List Ln) (op : Int) (hI : Inv l op) (o : Opr) (w : World) (k : LAt w b G l off c gb op) (kr : RAt w r G l offr cr rb) :
    Calls Try.prog 21 #[.pointer (some ⟨b, 0, none⟩), .pointer (some ⟨r, 0, none⟩), .agg #[.int .i64 o.d, .int .i64 o.n, .bool o.own]] w fun e w' => e = .returned (.bool true) ∧ Both b off c gb r offr cr rb G l w w' := by
  obtain ⟨od, on, own⟩ := o
  have ob := (Only.refl (fun i => i = b ∨ i = gb ∨ i = r ∨ i = rb) w).alloc (.cells #[.int .i64 od, .int .i64 on, .bool own] 39)
  have nb := At.new w 39 #[.int .i64 od, .int .i64 on, .bool own]
  have ob0 := (Only.refl (fun _ => False) w).alloc (.cells #[.int .i64 od, .int .i64 on, .bool own] 39)
  have HK := Lib.hid (k.quiet ob0)
  have HR := Lib.hid (kr.quiet ob0)
  have HO := Lib.hid ob
  have HNE := Lib.hid (k.neR kr)
  have HI := Lib.hid hI
  have HC := Lib.hid (refCurrent_any r offr cr rb G l op hI _ HR.out)
  clear k kr hI ob0
  go_enter Try.func21, Try.ntmps21
  go_upto_if 19 with (fail)
  obtain ⟨wb, hwb⟩ : ∃ wb, w.alloc (.cells #[.int .i64 od, .int .i64 on, .bool own] 39) = wb := ⟨_, rfl⟩
  rw [hwb] at HK HR HO HC nb ⊢
  have c0 := nb.cell 0
  simp only [List.getElem?_toArray, List.getElem?_cons_zero, List.getElem?_cons_succ] at c0
  clear hwb nb ob
  go_cut [7] (fun v7 wy => (∃ nn : Int, v7 = .int .i64 nn) ∧ wy = wb)
  case first =>
    cases own
    · go_wp2_with (fail)
      go_meet
      exact ⟨⟨_, rfl⟩, rfl⟩
    · go_wp2_with (fail)
      refine HC.out.mono ?_
      rintro e w4 ⟨rfl, rfl⟩
      go_wp2_with (fail)
      go_meet
      exact ⟨⟨_, rfl⟩, rfl⟩
  case rest =>
    obtain ⟨⟨nn, rfl⟩, rfl⟩ := hcut
    clear HC
    by_cases hput : od = 0 ∨ od = 1
    case pos =>
      have hp2 : ((od == 0) = true) ∨ ((od == 0) = false ∧ (od == 1) = true) := by
        rcases hput with h | h
        · exact .inl (by simp [h])
        · exact .inr (by simp [h])
      clear hput
      by_cases hop : 0 ≤ op
      · have H1 := Lib.hid (open_busy b off c gb G l op wc HK.out hop)
        have H2 : Hid (∀ W, Only (fun _ => False) wc W → Calls Try.prog 37 #[.pointer (some ⟨r, 0, none⟩)] W fun e w' => e = .returned (.tuple #[.int .i64 0, .int .i64 13]) ∧ w' = W) := Lib.hid (fun W o => refOpen_busy r offr cr rb G l op HI.out hop W (HR.out.quiet o))
        clear hop
        rcases hp2 with t0 | ⟨t0, t1⟩
        all_goals
          go_wp2_with (fail)
          refine H1.out.mono ?_
          rintro e w4 ⟨rfl, hO⟩
          have HO4 := Lib.hid hO
          clear hO
          go_wp2_with (fail)
          refine (H2.out w4 HO4.out).mono ?_
          rintro e w5 ⟨rfl, rfl⟩
          go_wp2
          go_ret
          exact ⟨rfl, ⟨l, op, HK.out.quiet HO4.out, HR.out.quiet HO4.out, HI.out, HO.out.trans (HO4.out.mono (fun _ _ h => h.elim))⟩⟩
      · have hop' : op < 0 := by omega
        have H1 := Lib.hid (open_any b off c gb G l op wc HK.out hop')
        have H2 : Hid (∀ W, RAt W r G l offr cr rb → Calls Try.prog 37 #[.pointer (some ⟨r, 0, none⟩)] W (ROpenP r offr cr rb G l W (bst (flt l 0 l.length)))) := Lib.hid (fun W kr => refOpen_any r offr cr rb G l op HI.out hop' W kr)
        have HOPN := Lib.hid (fun (y : Ent l) hb => HI.out.opened hop' (y := y) hb)
        clear hop hop'
        cases hb : bst (flt l 0 l.length) with
        | none =>
          rw [hb] at H1 H2
          unfold OpenP at H1
          unfold ROpenP at H2
          clear hb HOPN
          rcases hp2 with t0 | ⟨t0, t1⟩
          all_goals
            go_wp2_with (fail)
            refine H1.out.mono ?_
            rintro e w4 ⟨rfl, hO⟩
            have HO4 := Lib.hid hO
            clear hO
            go_wp2_with (fail)
            refine (H2.out w4 (HR.out.quiet HO4.out)).mono ?_
            rintro e w5 ⟨rfl, hO⟩
            have HO5 := Lib.hid (HO4.out.trans hO)
            clear hO
            go_wp2
            go_ret
            exact ⟨rfl, ⟨l, op, HK.out.quiet HO5.out, HR.out.quiet HO5.out, HI.out, HO.out.trans (HO5.out.mono (fun _ _ h => h.elim))⟩⟩
        | some y =>
          have HIN := Lib.hid (HOPN.out y hb)
          rw [hb] at H1 H2
          unfold OpenP at H1
          unfold ROpenP at H2
          clear hb HOPN
          rcases hp2 with t0 | ⟨t0, t1⟩
          all_goals
            go_wp2_with (fail)
            refine H1.out.mono ?_
            rintro e w4 ⟨rfl, hk, hO⟩
            have HK4 := Lib.hid hk
            have HO4 := Lib.hid hO
            clear hO hk
            go_wp2_with (fail)
            refine (H2.out w4 (HR.out.only HO4.out (by have := HNE.out; omega) (by have := HNE.out; omega))).mono ?_
            rintro e w5 ⟨rfl, hkr, hO⟩
            have HK5 := Lib.hid (HK4.out.only hO (by have := HNE.out; omega) (by have := HNE.out; omega))
            have HR5 := Lib.hid hkr
            have HO5 : Hid (Only (fun i => i = b ∨ i = gb ∨ i = r ∨ i = rb) w w5) := Lib.hid ((HO.out.trans (HO4.out.mono (fun i _ h => by rcases h with h | h; exact .inl h; exact .inr (.inl h)))).trans (hO.mono (fun i _ h => .inr (.inr (.inr h)))))
            clear hO hkr
            go_wp2
            go_ret
            exact ⟨rfl, ⟨_, _, HK5.out, HR5.out, HIN.out, HO5.out⟩⟩
    have n0 : (od == 0) = false := beq_false_of_ne (fun h => hput (.inl h))
    have n1 : (od == 1) = false := beq_false_of_ne (fun h => hput (.inr h))
    clear hput
    by_cases h2 : od = 2
    case pos =>
      subst h2
      clear n0 n1
      rcases HI.out.b with hop | ⟨i, hi, hop⟩
      · have H1 := Lib.hid (close_no b off c gb G l op (by omega) wc HK.out)
        have H2 := Lib.hid (refClose_no r offr cr rb G l op HI.out (by omega) wc HR.out)
        clear hop
        go_wp2_with (fail)
        refine H1.out.mono ?_
        rintro e w4 ⟨rfl, rfl⟩
        go_wp2_with (fail)
        refine H2.out.mono ?_
        rintro e w5 ⟨rfl, rfl⟩
        go_wp2
        go_ret
        exact ⟨rfl, ⟨l, op, HK.out, HR.out, HI.out, HO.out⟩⟩
      · subst hop
        have H1 := Lib.hid (close_ok b off c gb G l i hi wc HK.out)
        have H2 : Hid (∀ W, RAt W r G l offr cr rb → Calls Try.prog 38 #[.pointer (some ⟨r, 0, none⟩)] W fun e w' => e = .returned (.tuple #[.int .i64 i, .int .i64 0]) ∧ RAt w' r G (l.set i { l[i] with s := 2 }) offr cr rb ∧ Only (fun j => j = rb) W w') := Lib.hid (fun W kr => refClose_ok r offr cr rb G l i hi HI.out W kr)
        have HIN := Lib.hid (HI.out.close hi)
        go_wp2_with (fail)
        refine H1.out.mono ?_
        rintro e w4 ⟨rfl, hk, hO⟩
        have HK4 := Lib.hid hk
        have HO4 := Lib.hid hO
        clear hO hk
        go_wp2_with (fail)
        refine (H2.out w4 (HR.out.only HO4.out (by have := HNE.out; omega) (by have := HNE.out; omega))).mono ?_
        rintro e w5 ⟨rfl, hkr, hO⟩
        have HK5 := Lib.hid (HK4.out.only hO (by have := HNE.out; omega) (by have := HNE.out; omega))
        have HR5 := Lib.hid hkr
        have HO5 : Hid (Only (fun i => i = b ∨ i = gb ∨ i = r ∨ i = rb) w w5) := Lib.hid ((HO.out.trans (HO4.out.mono (fun i _ h => by rcases h with h | h; exact .inl h; exact .inr (.inl h)))).trans (hO.mono (fun i _ h => .inr (.inr (.inr h)))))
        clear hO hkr
        go_wp2
        go_ret
        exact ⟨rfl, ⟨_, _, HK5.out, HR5.out, HIN.out, HO5.out⟩⟩
    have n2 : (od == 2) = false := beq_false_of_ne h2
    clear h2
    by_cases h3 : od = 3
    case pos =>
      subst h3
      clear n0 n1 n2
      have H1 := Lib.hid (release_any b off c gb G l op nn wc HK.out)
      have H2 : Hid (∀ W, RAt W r G l offr cr rb → Calls Try.prog 39 #[.pointer (some ⟨r, 0, none⟩), .int .i64 nn] W fun e w' => e = .returned (.int .i64 (findE l nn 2)) ∧ RAt w' r G (relM l nn) offr cr rb ∧ Only (fun j => j = rb) W w') := Lib.hid (fun W kr => refRelease_any r offr cr rb G l nn W kr)
      have HIN := Lib.hid (HI.out.rel nn)
      generalize findE l nn 2 = er at *
      generalize relM l nn = lx at *
      go_wp2_with (fail)
      refine H1.out.mono ?_
      rintro e w4 ⟨rfl, hk, hO⟩
      have HK4 := Lib.hid hk
      have HO4 := Lib.hid hO
      clear hO hk
      go_wp2_with (fail)
      refine (H2.out w4 (HR.out.only HO4.out (by have := HNE.out; omega) (by have := HNE.out; omega))).mono ?_
      rintro e w5 ⟨rfl, hkr, hO⟩
      have HK5 := Lib.hid (HK4.out.only hO (by have := HNE.out; omega) (by have := HNE.out; omega))
      have HR5 := Lib.hid hkr
      have HO5 : Hid (Only (fun i => i = b ∨ i = gb ∨ i = r ∨ i = rb) w w5) := Lib.hid ((HO.out.trans (HO4.out.mono (fun i _ h => .inr (.inl h)))).trans (hO.mono (fun i _ h => .inr (.inr (.inr h)))))
      clear hO hkr
      go_wp2
      go_ret
      exact ⟨rfl, ⟨_, _, HK5.out, HR5.out, HIN.out, HO5.out⟩⟩
    have n3 : (od == 3) = false := beq_false_of_ne h3
    clear h3
    by_cases h4 : od = 4
    case pos =>
      subst h4
      clear n0 n1 n2 n3
      have H1 := Lib.hid (erased_any b off c gb G l HI.out.w op nn wc HK.out)
      have H2 : Hid (∀ W, RAt W r G l offr cr rb → Calls Try.prog 40 #[.pointer (some ⟨r, 0, none⟩), .int .i64 nn] W fun e w' => e = .returned (.int .i64 (findE l nn 1)) ∧ RAt w' r G (erM l nn) offr cr rb ∧ Only (fun j => j = rb) W w') := Lib.hid (fun W kr => refErased_any r offr cr rb G l HI.out.w nn W kr)
      have HIN := Lib.hid (HI.out.er nn)
      generalize findE l nn 1 = er at *
      generalize erM l nn = lx at *
      go_wp2_with (fail)
      refine H1.out.mono ?_
      rintro e w4 ⟨rfl, hk, hO⟩
      have HK4 := Lib.hid hk
      have HO4 := Lib.hid hO
      clear hO hk
      go_wp2_with (fail)
      refine (H2.out w4 (HR.out.only HO4.out (by have := HNE.out; omega) (by have := HNE.out; omega))).mono ?_
      rintro e w5 ⟨rfl, hkr, hO⟩
      have HK5 := Lib.hid (HK4.out.only hO (by have := HNE.out; omega) (by have := HNE.out; omega))
      have HR5 := Lib.hid hkr
      have HO5 : Hid (Only (fun i => i = b ∨ i = gb ∨ i = r ∨ i = rb) w w5) := Lib.hid ((HO.out.trans (HO4.out.mono (fun i _ h => .inr (.inl h)))).trans (hO.mono (fun i _ h => .inr (.inr (.inr h)))))
      clear hO hkr
      go_wp2
      go_ret
      exact ⟨rfl, ⟨_, _, HK5.out, HR5.out, HIN.out, HO5.out⟩⟩
    have n4 : (od == 4) = false := beq_false_of_ne h4
    clear h4
    by_cases h5 : od = 5
    case pos =>
      subst h5
      clear n0 n1 n2 n3 n4
      have H1 := Lib.hid (lose_any b off c gb G l HI.out.g op nn wc HK.out)
      have H2 : Hid (∀ W, RAt W r G l offr cr rb → Calls Try.prog 41 #[.pointer (some ⟨r, 0, none⟩), .int .i64 nn] W fun e w' => e = .returned (.int .i64 (loseE l nn)) ∧ RAt w' r G (loseM l nn) offr cr rb ∧ Only (fun j => j = rb) W w') := Lib.hid (fun W kr => refLose_any r offr cr rb G l HI.out.g nn W kr)
      have HIN := Lib.hid (HI.out.lose nn)
      generalize loseE l nn = er at *
      generalize loseM l nn = lx at *
      go_wp2_with (fail)
      refine H1.out.mono ?_
      rintro e w4 ⟨rfl, hk, hO⟩
      have HK4 := Lib.hid hk
      have HO4 := Lib.hid hO
      clear hO hk
      go_wp2_with (fail)
      refine (H2.out w4 (HR.out.only HO4.out (by have := HNE.out; omega) (by have := HNE.out; omega))).mono ?_
      rintro e w5 ⟨rfl, hkr, hO⟩
      have HK5 := Lib.hid (HK4.out.only hO (by have := HNE.out; omega) (by have := HNE.out; omega))
      have HR5 := Lib.hid hkr
      have HO5 : Hid (Only (fun i => i = b ∨ i = gb ∨ i = r ∨ i = rb) w w5) := Lib.hid ((HO.out.trans (HO4.out.mono (fun i _ h => .inr (.inl h)))).trans (hO.mono (fun i _ h => .inr (.inr (.inr h)))))
      clear hO hkr
      go_wp2
      go_ret
      exact ⟨rfl, ⟨_, _, HK5.out, HR5.out, HIN.out, HO5.out⟩⟩
    have n5 : (od == 5) = false := beq_false_of_ne h5
    clear h5
    by_cases h6 : od = 6
    case pos =>
      subst h6
      clear n0 n1 n2 n3 n4 n5
      have H1 := Lib.hid (use_any b off c gb G l op nn wc HK.out)
      have H2 : Hid (∀ W, RAt W r G l offr cr rb → Calls Try.prog 42 #[.pointer (some ⟨r, 0, none⟩), .int .i64 nn] W fun e w' => e = .returned (.int .i64 (findE l nn 0)) ∧ RAt w' r G (useM l nn) offr cr rb ∧ Only (fun j => j = rb) W w') := Lib.hid (fun W kr => refUse_any r offr cr rb G l nn W kr)
      have HIN := Lib.hid (HI.out.use nn)
      generalize findE l nn 0 = er at *
      generalize useM l nn = lx at *
      go_wp2_with (fail)
      refine H1.out.mono ?_
      rintro e w4 ⟨rfl, hk, hO⟩
      have HK4 := Lib.hid hk
      have HO4 := Lib.hid hO
      clear hO hk
      go_wp2_with (fail)
      refine (H2.out w4 (HR.out.only HO4.out (by have := HNE.out; omega) (by have := HNE.out; omega))).mono ?_
      rintro e w5 ⟨rfl, hkr, hO⟩
      have HK5 := Lib.hid (HK4.out.only hO (by have := HNE.out; omega) (by have := HNE.out; omega))
      have HR5 := Lib.hid hkr
      have HO5 : Hid (Only (fun i => i = b ∨ i = gb ∨ i = r ∨ i = rb) w w5) := Lib.hid ((HO.out.trans (HO4.out.mono (fun i _ h => .inr (.inl h)))).trans (hO.mono (fun i _ h => .inr (.inr (.inr h)))))
      clear hO hkr
      go_wp2
      go_ret
      exact ⟨rfl, ⟨_, _, HK5.out, HR5.out, HIN.out, HO5.out⟩⟩
    have n6 : (od == 6) = false := beq_false_of_ne h6
    clear h6
    go_wp2
    go_ret
    exact ⟨rfl, ⟨l, op, HK.out, HR.out, HI.out, HO.out⟩⟩

set_option maxRecDepth 100000 in
set_option maxHeartbeats 16000000 in
theorem linesPlays_walk (G : Ge) (hw : G.Wf) (good wear : List Int) (Ag Aw : Option Addr) (cg cw gg gw : Nat) (go co : Nat) (Ao : Option Addr) (ops : List Opr) (w : World) (hg : Rd w gg Ag (iv good)) (hwr : Rd w gw Aw (iv wear)) (hro : Rd w go Ao (ocs ops)) :
    Calls Try.prog 7 #[G.val, .agg #[.slice Ag good.length cg, .slice Aw wear.length cw], .slice Ao ops.length co] w fun e w' => e = .returned (.bool true) ∧ Below w.heap.size w w' := by
  have o1 := (Only.refl (fun _ => False) w).alloc (.cells #[.int .i64 G.c, .int .i64 G.l, .int .i64 G.b, .int .i64 G.p, .int .i64 G.s] 23)
  have n1 := At.new w 23 #[.int .i64 G.c, .int .i64 G.l, .int .i64 G.b, .int .i64 G.p, .int .i64 G.s]
  have hs1 : (w.alloc (.cells #[.int .i64 G.c, .int .i64 G.l, .int .i64 G.b, .int .i64 G.p, .int .i64 G.s] 23)).heap.size = w.heap.size + 1 := by simp
  have HO0 := Lib.hid (o1.alloc (.cells #[.slice Ag good.length cg, .slice Aw wear.length cw] 36))
  have HN0 := Lib.hid (n1.alloc (.cells #[.slice Ag good.length cg, .slice Aw wear.length cw] 36))
  have m1 := At.new (w.alloc (.cells #[.int .i64 G.c, .int .i64 G.l, .int .i64 G.b, .int .i64 G.p, .int .i64 G.s] 23)) 36 #[.slice Ag good.length cg, .slice Aw wear.length cw]
  rw [hs1] at m1
  have HM0 := Lib.hid m1
  have HNEW : Hid (∀ W, Only (fun _ => False) w W → Calls Try.prog 10 #[G.val, .slice Ag good.length cg, .slice Aw wear.length cw] W (NewP G good wear W)) :=
    Lib.hid (fun W o => new_any G hw good wear Ag Aw cg cw gg gw W (hg.only o id) (hwr.only o id))
  have HR := Lib.hid hro
  have HRNEW : Hid (∀ W, Only (fun _ => False) w W → Calls Try.prog 11 #[G.val, .slice Ag good.length cg, .slice Aw wear.length cw] W (RNewP G good wear W)) :=
    Lib.hid (fun W o => refnew_any G hw good wear Ag Aw cg cw gg gw W (hg.only o id) (hwr.only o id))
  clear o1 n1 hs1 m1 hg hwr hw hro
  obtain ⟨N, hN⟩ : ∃ N, ops.length = N := ⟨_, rfl⟩
  have HL := Lib.hid hN
  unfold Ge.val at HNEW HRNEW ⊢
  rw [hN]
  clear hN
  go_enter Try.func7, Try.ntmps7
  go_wp2_with (fail)
  refine (awake_any _).mono ?_
  rintro e w1 ⟨rfl, hO⟩
  have HO1 := Lib.hid (HO0.out.trans hO)
  have a1 := HN0.out.only hO id
  have s1 := HM0.out.only hO id
  have g0 := a1.cell 0
  have g1 := a1.cell 1
  have g2 := a1.cell 2
  have g3 := a1.cell 3
  have g4 := a1.cell 4
  have q0 := s1.cell 0
  have q1 := s1.cell 1
  simp only [List.getElem?_toArray, List.getElem?_cons_zero, List.getElem?_cons_succ] at g0 g1 g2 g3 g4 q0 q1
  have HN1 := Lib.hid a1
  have HM1 := Lib.hid s1
  clear hO a1 s1 HN0 HM0 HO0
  go_wp2_with (fail)
  refine (HNEW.out w1 HO1.out).mono ?_
  clear g0 g1 g2 g3 g4 q0 q1
  rintro e w2 (⟨hok, b, off, c, gb, rfl, k, hb1, hb2, hO⟩ | ⟨hno, rfl, hO⟩)
  all_goals
    have HO2 := Lib.hid (HO1.out.trans hO)
    have a1 := HN1.out.only hO id
    have s1 := HM1.out.only hO id
    have g0 := a1.cell 0
    have g1 := a1.cell 1
    have g2 := a1.cell 2
    have g3 := a1.cell 3
    have g4 := a1.cell 4
    have q0 := s1.cell 0
    have q1 := s1.cell 1
    simp only [List.getElem?_toArray, List.getElem?_cons_zero, List.getElem?_cons_succ] at g0 g1 g2 g3 g4 q0 q1
    clear a1 s1 hO
  case inr =>
    have HNO := Lib.hid hno
    clear hno
    go_wp2_with (fail)
    refine (HRNEW.out w2 HO2.out).mono ?_
    rintro e w3 (⟨hok, _⟩ | ⟨_, rfl, hO⟩)
    · exact absurd hok HNO.out
    have HO3 := Lib.hid (HO2.out.trans hO)
    clear hO g0 g1 g2 g3 g4 q0 q1
    go_wp2_with (fail)
    go_loopw [12, 13] (fun v12 v13 wr => v12 = .int .i64 0 ∧ wr = w3) (fun _ _ _ => 0)
    case atStart => exact ⟨rfl, rfl⟩
    case round =>
      obtain ⟨rfl, rfl⟩ := hrel
      by_cases hN0 : (0 : Int) < N
      · go_wp2
        go_ret
        exact ⟨rfl, HO3.out.below (Nat.le_refl _) (fun _ _ => id)⟩
      · have d0 : decide (0 < (N : Int)) = false := decide_eq_false hN0
        go_wp2
        go_ret
        exact ⟨rfl, HO3.out.below (Nat.le_refl _) (fun _ _ => id)⟩
  have hlb1 : w.heap.size < b ∧ w.heap.size < gb := by have := HN1.out.lt; omega
  have HGB := Lib.hid hlb1
  have HOK := Lib.hid hok
  have HK := Lib.hid k
  clear hok k hb1 hb2 hlb1
  go_wp2_with (fail)
  refine (HRNEW.out w2 HO2.out).mono ?_
  rintro e w3 (⟨_, r, offr, cr, rb, rfl, kr, hr1, hr2, hO⟩ | ⟨hno, _⟩)
  case inr => exact absurd HOK.out hno
  have HO3 := Lib.hid (HO2.out.trans hO)
  have HK3 := Lib.hid (HK.out.quiet hO)
  have HR3 := Lib.hid kr
  have HI3 := Lib.hid (Inv.new HOK.out)
  have HRB : Hid (w.heap.size ≤ r ∧ w.heap.size ≤ rb) := Lib.hid (by have := HO2.out.size; omega)
  have HG := Lib.hid (newOk_g HOK.out).1
  clear hO kr hr1 hr2 g0 g1 g2 g3 g4 q0 q1
  go_wp2_with (fail)
  go_loopw [12, 13] (fun v12 v13 wr => ∃ (i : Nat) (l : List Ln) (op : Int), i ≤ N ∧ i ≤ 100 ∧ v12 = .int .i64 i ∧ LAt wr b G l off c gb op ∧ RAt wr r G l offr cr rb ∧ Inv l op ∧ Only (fun _ => False) w wr) (fun v12 _ wr => (N - intOf v12).toNat)
  case atStart => exact ⟨0, _, -1, by omega, by omega, rfl, HK3.out, HR3.out, HI3.out, HO3.out⟩
  case round =>
    obtain ⟨i, l, op, hi, hi100, rfl, hk, hkr, hI, hO⟩ := hrel
    have HKi := Lib.hid hk
    have HRi := Lib.hid hkr
    have HIi := Lib.hid hI
    have HOi := Lib.hid hO
    clear hk hkr hI hO HO3 HK3 HR3 HI3
    by_cases hin : i < N
    case neg =>
      obtain rfl : i = N := by omega
      have i1 : decide ((i : Int) < i) = false := by simp
      go_wp2
      go_ret
      exact ⟨rfl, HOi.out.below (Nat.le_refl _) (fun _ _ => id)⟩
    have i0 : (0 : Int) ≤ i := by omega
    have i1 : (i : Int) < N := by omega
    by_cases h100 : i < 100
    case neg =>
      have i2 : decide ((i : Int) < 100) = false := by simp; omega
      go_wp2
      go_ret
      exact ⟨rfl, HOi.out.below (Nat.le_refl _) (fun _ _ => id)⟩
    have i2 : (i : Int) < 100 := by omega
    obtain ⟨offo, rfl, c0, c1, c2⟩ := op_cells HR.out HOi.out (show i < ops.length by rw [HL.out]; exact hin)
    generalize ops[i]'(by rw [HL.out]; exact hin) = o at *
    have HD := Lib.hid (does_any b off c gb r offr cr rb G l op HIi.out o wr HKi.out HRi.out)
    obtain ⟨od, on, own⟩ := o
    simp only at c0 c1 c2 HD
    go_wp2_with (fail)
    refine HD.out.mono ?_
    rintro e w4 ⟨rfl, hB⟩
    obtain ⟨l', op', hk, hkr, hI, hO⟩ := hB.h
    have HO4 := Lib.hid (HOi.out.trans' hO (S := fun _ => False) (fun j hj h => by have h1 := HGB.out; have h2 := HRB.out; have h : j = b ∨ j = gb ∨ j = r ∨ j = rb := h; omega))
    have HAL := Lib.hid (alike_any b off c gb r offr cr rb G HG.out l' op' hI w4 hk hkr)
    have HK4 := Lib.hid hk
    have HR4 := Lib.hid hkr
    have HI4 := Lib.hid hI
    clear hk hkr hI hO hB c0 c1 c2 HD
    go_wp2_with (fail)
    refine HAL.out.mono ?_
    rintro e w5 ⟨rfl, hO⟩
    have HFIN := Lib.hid (And.intro (HK4.out.quiet hO) (And.intro (HR4.out.quiet hO) (HO4.out.trans hO)))
    clear hO HAL
    go_wp2
    go_roundw
    case rel => exact ⟨i + 1, l', op', by omega, by omega, by simp, HFIN.out.1, HFIN.out.2.1, HI4.out, HFIN.out.2.2⟩
    case measure => simp [intOf]; omega
end Go.Proofs.Ytlenjgofiocaaaa
