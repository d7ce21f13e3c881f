/- Ring: RingPlays: does: a call on the ring and on the document's. -/
import Derived.Test.YtookghkfghdadaaAH
import Derived.Deep.DeepCutAuto
import Derived.Deep.CutBlock
import Derived.Outline
namespace Go.Proofs.Ytookghkfghdadaa
open Go.RowKit

/-- What a call leaves: both rings, of one mind. -/
def DoP (B b g d size h : Nat) (L : XL) (w w' : World) : Prop :=
  ∃ (t' h' : Nat) (l' : List RC) (ps' : List PS) (ss' : List Int) (L' : XL), RgAt w' b g t' h' l' ∧ XM B w' d size ps' ss' L' ∧ Rl l' size t' h' ps' ss' ∧ h' ≤ h + 1 ∧ Only (fun i => i = b ∨ i = g ∨ L.S d i) w w'

set_option maxRecDepth 100000 in
set_option maxHeartbeats 16000000 in
theorem does_any (B b g d size t h : Nat) (l : List RC) (ps : List PS) (ss : List Int) (L : XL) (o : Opr) (w : World) (hrd : ∀ W, Only (fun i => B ≤ i) w W → ∃ gr, Rd W gr o.A (bv o.x.data)) (hd : o.x.data.length ≤ 1000)
    (k : RgAt w b g t h l) (kx : XM B w d size ps ss L) (kr : Rl l size t h ps ss) (hB : B ≤ w.heap.size) (hbB : B ≤ b ∧ B ≤ g) (hs : size ≤ 256) (hh : h < 100000) :
    Calls Try.prog 26 #[.pointer (some ⟨b, 0, none⟩), .pointer (some ⟨d, 0, none⟩), .agg o.cells.toArray] w fun e w' => e = .returned (.bool true) ∧ DoP B b g d size h L w w' := by
  obtain ⟨od, on, ola, ox, oA, ocap⟩ := o
  obtain ⟨xk, xl, xs, xf, xd⟩ := ox
  simp only at hrd hd
  have hwB : B ≤ (w.alloc (.cells #[.int .i64 od, .int .i64 on, .bool ola, .int .i64 xk, .int .i64 xl, .int .i64 xs, .slice oA xd.length ocap, .int .i64 xf] 47)).heap.size := by simp; omega
  have ob := (Only.refl (fun _ => False) w).alloc (.cells #[.int .i64 od, .int .i64 on, .bool ola, .int .i64 xk, .int .i64 xl, .int .i64 xs, .slice oA xd.length ocap, .int .i64 xf] 47)
  have nb := At.new w 47 #[.int .i64 od, .int .i64 on, .bool ola, .int .i64 xk, .int .i64 xl, .int .i64 xs, .slice oA xd.length ocap, .int .i64 xf]
  have HK := Lib.hid (k.quiet ob)
  have HKX := Lib.hid (kx.quiet ob)
  have HRL := Lib.hid kr
  have HRD := Lib.hid hrd
  have HOW := Lib.hid (ob.mono (fun i _ e => e.elim) : Only (fun i => B ≤ i) _ _)
  have HO := Lib.hid (ob.mono (fun i _ e => e.elim) : Only (fun i => i = b ∨ i = g ∨ L.S d i) _ _)
  have HH := Lib.hid (xhead_any B d size ps ss L _ HKX.out)
  have HLB := Lib.hid (And.intro k.st.lt k.row.lt)
  have HLX := Lib.hid (And.intro kx.st.lt (And.intro (fun e => kx.sl.lt e : L.A8 ≠ none → L.g8 < w.heap.size) (fun e => kx.sr.lt e : L.A9 ≠ none → L.g9 < w.heap.size)))
  have hbig := kr.hp
  have hlen := kr.wn.len
  have hwin := kr.wn.win
  rw [hbig] at HH
  clear hrd k kx kr ob
  unfold Opr.cells
  go_enter Try.func26, Try.ntmps26
  go_upto_region 2 with (fail)
  obtain ⟨wb, hwb⟩ : ∃ wb, w.alloc (.cells #[.int .i64 od, .int .i64 on, .bool ola, .int .i64 xk, .int .i64 xl, .int .i64 xs, .slice oA xd.length ocap, .int .i64 xf] 47) = wb := ⟨_, rfl⟩
  rw [hwb] at HK HKX HOW HO HH nb hwB ⊢
  have c0 := nb.cell 0
  have c1 := nb.cell 1
  have c2 := nb.cell 2
  have c3 := nb.cell 3
  have c4 := nb.cell 4
  have c5 := nb.cell 5
  have c6 := nb.cell 6
  have c7 := nb.cell 7
  simp only [List.getElem?_toArray, List.getElem?_cons_zero, List.getElem?_cons_succ] at c0 c1 c2 c3 c4 c5 c6 c7
  have HX := Lib.hid nb
  clear hwb nb
  go_cut [31] (fun v31 wy => (∃ bb : Bool, v31 = .bool bb) ∧ wy = wb)
  case first =>
    cases ola
    · go_wp2_with (fail)
      go_meet
      exact ⟨⟨_, rfl⟩, rfl⟩
    · by_cases h2 : 0 ≤ on
      · have d2 : decide (0 ≤ on) = true := by simp [h2]
        go_wp2_with (fail)
        go_meet
        exact ⟨⟨_, rfl⟩, rfl⟩
      · have d2 : decide (0 ≤ on) = false := by simp; omega
        go_wp2_with (fail)
        go_meet
        exact ⟨⟨_, rfl⟩, rfl⟩
  case rest =>
   obtain ⟨⟨bb, rfl⟩, rfl⟩ := hcut
   go_upto_if 31 with (fail)
   go_cut [7] (fun v7 wy => (∃ nn : Int, v7 = .int .i64 nn) ∧ wy = wc)
   case first =>
    cases bb
    · go_wp2_with (fail)
      go_meet
      exact ⟨⟨_, rfl⟩, rfl⟩
    · go_wp2_with (fail)
      refine HH.out.mono ?_
      rintro e w4 ⟨rfl, rfl⟩
      go_wp2_with (fail)
      go_meet
      exact ⟨⟨_, rfl⟩, rfl⟩
   case rest =>
    obtain ⟨⟨nn, rfl⟩, rfl⟩ := hcut
    clear HH
    by_cases hput : od = 0 ∨ od = 1
    case pos =>
      have hp2 : ((od == 0) = true) ∨ ((od == 0) = false ∧ (od == 1) = true) := by
        rcases hput with h | h
        · exact .inl (by simp [h])
        · exact .inr (by simp [h])
      clear hput
      by_cases hfull : size + t - h = 0
      · have H1 := Lib.hid (put_full b g t h l (.int .i64 xk) (.int .i64 xl) (.int .i64 xs) (.slice oA xd.length ocap) (.int .i64 xf) wc HK.out (by rw [hlen]; exact hfull))
        have H2 : Hid (∀ W, Only (fun _ => False) wc W → Calls Try.prog 40 #[.pointer (some ⟨d, 0, none⟩), .agg #[.int .i64 xk, .int .i64 xl, .int .i64 xs, .slice oA xd.length ocap, .int .i64 xf]] W fun e w' => e = .returned (.tuple #[.int .i64 0, .int .i64 11]) ∧ Only (fun _ => False) W w') :=
          Lib.hid (fun W o => xput_full B d size ps ss L t HRL.out.tl hs _ _ _ _ _ (by rw [hbig]; omega) W (HKX.out.quiet o))
        clear hfull
        rcases hp2 with t0 | ⟨t0, t1⟩
        all_goals
          go_wp2_with (fail)
          refine H1.out.mono ?_
          rintro e w4 ⟨rfl, hO⟩
          have HO4 := Lib.hid hO
          have hX4 := HX.out.only hO id
          have y3 := hX4.cell 3
          have y4 := hX4.cell 4
          have y5 := hX4.cell 5
          have y6 := hX4.cell 6
          have y7 := hX4.cell 7
          simp only [List.getElem?_toArray, List.getElem?_cons_zero, List.getElem?_cons_succ] at y3 y4 y5 y6 y7
          clear hO hX4
          go_wp2_with (fail)
          refine (H2.out w4 HO4.out).mono ?_
          rintro e w5 ⟨rfl, hO5⟩
          have HO5 := Lib.hid (HO4.out.trans hO5)
          clear hO5
          go_wp2
          go_ret
          exact ⟨rfl, t, h, l, ps, ss, L, HK.out.quiet HO5.out, HKX.out.quiet HO5.out, HRL.out, by omega, HO.out.trans (HO5.out.mono (fun i _ e => e.elim))⟩
      · obtain ⟨gr, hgr⟩ := HRD.out wc HOW.out
        have H1 := Lib.hid (put_any b g t h l ⟨xk, xl, xs, xf, xd⟩ oA ocap gr wc HK.out (by rw [hlen]; omega) hh hgr (by simp only; omega))
        simp only [Sl.val] at H1
        have H2 : Hid (∀ W gr, XM B W d size ps ss L → B ≤ W.heap.size → Rd W gr oA (bv xd) → Calls Try.prog 40 #[.pointer (some ⟨d, 0, none⟩), .agg #[.int .i64 xk, .int .i64 xl, .int .i64 xs, .slice oA xd.length ocap, .int .i64 xf]] W (XPut B d size ps ss L ⟨xk, xl, xs, xf, xd⟩ W)) :=
          Lib.hid (fun W gr kx hB hr => xput_any B d size ps ss L t HRL.out.tl hs ⟨xk, xl, xs, xf, xd⟩ oA ocap gr (by rw [hbig]; omega) W kx hB (by omega) hr (by simp only; omega))
        have hfree : h < t + size := by omega
        clear hfull hgr
        rcases hp2 with t0 | ⟨t0, t1⟩
        all_goals
          go_wp2_with (fail)
          refine H1.out.mono ?_
          rintro e w4 ⟨r, rfl, hk4, hrx, hrs, _, _, hO4⟩
          have hsz4 := hO4.size
          have HK4 := Lib.hid hk4
          have HKX4 := Lib.hid (HKX.out.turned HK.out hO4)
          have HO4 := Lib.hid (HO.out.trans (hO4.mono (fun i _ e => by rcases e with e | e; exact .inl e; exact .inr (.inl e)) : Only (fun i => i = b ∨ i = g ∨ L.S d i) _ _))
          have hX4 := HX.out.only hO4 (fun e => by have h1 := HLB.out; omega)
          obtain ⟨gr4, hgr4⟩ := HRD.out w4 (HOW.out.trans (hO4.mono (fun i _ e => by rcases e with e | e; exact (e ▸ hbB.1); exact (e ▸ hbB.2)) : Only (fun i => B ≤ i) _ _))
          have HGR4 := Lib.hid hgr4
          have HRR := Lib.hid (And.intro hrx hrs)
          have y3 := hX4.cell 3
          have y4 := hX4.cell 4
          have y5 := hX4.cell 5
          have y6 := hX4.cell 6
          have y7 := hX4.cell 7
          simp only [List.getElem?_toArray, List.getElem?_cons_zero, List.getElem?_cons_succ] at y3 y4 y5 y6 y7
          clear hO4 hX4 hk4 hrx hrs
          go_wp2_with (fail)
          refine (H2.out w4 gr4 HKX4.out (by omega) HGR4.out).mono ?_
          rintro e w5 ⟨rfl, L', q, hq, hk5, hO5⟩
          have HK5 := Lib.hid (HKX4.out.other HK4.out hO5)
          have HKX5 := Lib.hid hk5
          have HO5 := Lib.hid (HO4.out.trans (hO5.mono (fun i _ e => .inr (.inr e)) : Only (fun i => i = b ∨ i = g ∨ L.S d i) _ _))
          have HQ := Lib.hid hq
          have th : ((h : Int) == (h : Int)) = true := by simp
          rw [hbig]
          clear hk5 hO5 hq
          go_wp2
          go_ret
          exact ⟨rfl, t, h + 1, _, _, _, L', HK5.out, HKX5.out, HRL.out.put hfree r HRR.out.2 q (HQ.out.trans HRR.out.1.symm), by omega, HO5.out⟩
    case neg =>
      have n0 : (od == 0) = false := beq_false_of_ne (fun e => hput (.inl e))
      have n1 : (od == 1) = false := beq_false_of_ne (fun e => hput (.inr e))
      clear hput
      by_cases h2 : od = 2
      · have t2 : (od == 2) = true := by simp [h2]
        have HT := Lib.hid (HRL.out.take on.toNat)
        clear h2
        go_upto_region 11 with (fail)
        refine wp_region_held_drew (S := (fun W => W.cell? ⟨w.heap.size, 1, none⟩ = some (.int .i64 on))) (by kernel_rfl) ?_ (fun hHeld => ?_)
        · exact c1
        refine wpAnyH_take (i := 0) (oi := { dst := some 66, op := Op.move (Operand.tmp 0), type := 23, pos := "law.go:53", after := #[], guard := none }) (v := ?_) rfl (by kernel_rfl) (by kernel_rfl) (by kernel_rfl) (fun _ _ _ h => h) (Or.inl ⟨by rfl, ?_⟩) (by assumption) ?_
        rotate_left
        · (intro w hSw; (try dsimp only at hSw); (try obtain ⟨hSa, hSb⟩ := hSw); go_simp; try with_reducible rfl)
        try simp only [Act.put, List.setIfInBounds_toArray, List.set_cons_zero, List.set_cons_succ]
        refine wpAnyH_take (i := 1) (oi := { dst := some 67, op := Op.fieldAddr 47 (Operand.tmp 5) 1, type := 0, pos := "law.go:53", after := #[], guard := none }) (v := ?_) rfl (by kernel_rfl) (by kernel_rfl) (by kernel_rfl) (fun _ _ _ h => h) (Or.inl ⟨by rfl, ?_⟩) (by assumption) ?_
        rotate_left
        · (intro w hSw; (try dsimp only at hSw); (try obtain ⟨hSa, hSb⟩ := hSw); go_simp; try with_reducible rfl)
        try simp only [Act.put, List.setIfInBounds_toArray, List.set_cons_zero, List.set_cons_succ]
        refine wpAnyH_take (i := 2) (oi := { dst := some 68, op := Op.load 3 (Operand.tmp 67), type := 3, pos := "law.go:53", after := #[{ on := 1, ground := Ground.data }], guard := none }) (v := ?_) rfl (by kernel_rfl) (by kernel_rfl) (by kernel_rfl) (fun _ _ _ h => h) (Or.inl ⟨by rfl, ?_⟩) (by assumption) ?_
        rotate_left
        · (intro w hSw; (try dsimp only at hSw); (try obtain ⟨hSa, hSb⟩ := hSw); go_simp; try with_reducible rfl)
        try simp only [Act.put, List.setIfInBounds_toArray, List.set_cons_zero, List.set_cons_succ]
        refine wpAnyH_take (i := 4) (oi := { dst := some 70, op := Op.move (Operand.tmp 1), type := 27, pos := "law.go:53", after := #[], guard := none }) (v := ?_) rfl (by kernel_rfl) (by kernel_rfl) (by kernel_rfl) (fun _ _ _ h => h) (Or.inl ⟨by rfl, ?_⟩) (by assumption) ?_
        rotate_left
        · (intro w hSw; (try dsimp only at hSw); (try obtain ⟨hSa, hSb⟩ := hSw); go_simp; try with_reducible rfl)
        try simp only [Act.put, List.setIfInBounds_toArray, List.set_cons_zero, List.set_cons_succ]
        refine wpAnyH_take (i := 5) (oi := { dst := some 71, op := Op.fieldAddr 47 (Operand.tmp 5) 1, type := 0, pos := "law.go:53", after := #[], guard := none }) (v := ?_) rfl (by kernel_rfl) (by kernel_rfl) (by kernel_rfl) (fun _ _ _ h => h) (Or.inl ⟨by rfl, ?_⟩) (by assumption) ?_
        rotate_left
        · (intro w hSw; (try dsimp only at hSw); (try obtain ⟨hSa, hSb⟩ := hSw); go_simp; try with_reducible rfl)
        try simp only [Act.put, List.setIfInBounds_toArray, List.set_cons_zero, List.set_cons_succ]
        refine wpAnyH_take (i := 6) (oi := { dst := some 72, op := Op.load 3 (Operand.tmp 71), type := 3, pos := "law.go:53", after := #[{ on := 5, ground := Ground.data }], guard := none }) (v := ?_) rfl (by kernel_rfl) (by kernel_rfl) (by kernel_rfl) (fun _ _ _ h => h) (Or.inl ⟨by rfl, ?_⟩) (by assumption) ?_
        rotate_left
        · (intro w hSw; (try dsimp only at hSw); (try obtain ⟨hSa, hSb⟩ := hSw); go_simp; try with_reducible rfl)
        try simp only [Act.put, List.setIfInBounds_toArray, List.set_cons_zero, List.set_cons_succ]
        refine wpAnyH_ready (rs := [3]) (by kernel_rfl) (by simp) ?_
        refine AllReadyH.cons (o := { dst := some 69, op := Op.call { callee := Callee.value (Operand.func 18), args := #[Operand.tmp 66, Operand.tmp 68], argTypes := #[23, 3] }, type := 32, pos := "law.go:53", after := #[{ on := 0, ground := Ground.data }, { on := 2, ground := Ground.data }], guard := none }) rfl (fun K hK => ?_) AllReadyH.nil
        go_simp
        refine (take_any b g t h l on _ (HK.out.quiet ((Only.refl (fun _ => False) wc).drew))).mono ?_
        rintro e w3 ⟨A3, c3', gO3, rfl, hr3, hg3, hk3, hO3⟩
        have hO3' := (((Only.refl (fun _ => False) wc).drew).mono (fun i _ e => e.elim) : Only (fun i => i = b ∨ i = g) _ _).trans (hO3.mono (fun i _ e => .inr e))
        have HR3 := Lib.hid hr3
        have HK3 := Lib.hid hk3
        have HKX3 := Lib.hid (HKX.out.turned HK.out hO3')
        have HX3 := Lib.hid (HX.out.only hO3' (fun e => by have h1 := HLB.out; omega))
        have HG3 : Hid (A3 ≠ none → w.heap.size < gO3) := Lib.hid (fun e => by have h1 := hg3 e; have h2 := HX.out.lt; have h3 : wc.drew.heap.size = wc.heap.size := rfl; omega)
        have HO3 := Lib.hid (HO.out.trans (hO3'.mono (fun i _ e => by rcases e with e | e; exact .inl e; exact .inr (.inl e)) : Only (fun i => i = b ∨ i = g ∨ L.S d i) _ _))
        clear hr3 hg3 hk3 hO3 hO3'
        refine hK.out _ _ ?_ (fun hHeld => ?_)
        · exact HX3.out.cell 1
        clear hK K
        try simp only [Act.put, List.setIfInBounds_toArray, List.set_cons_zero, List.set_cons_succ]
        refine wpAnyH_ready (rs := [7]) (by kernel_rfl) (by simp) ?_
        refine AllReadyH.cons (o := { dst := some 73, op := Op.call { callee := Callee.value (Operand.func 42), args := #[Operand.tmp 70, Operand.tmp 72], argTypes := #[27, 3] }, type := 32, pos := "law.go:53", after := #[{ on := 4, ground := Ground.data }, { on := 6, ground := Ground.data }, { on := 3, ground := Ground.chain }], guard := none }) rfl (fun K hK => ?_) AllReadyH.nil
        go_simp
        refine (xtake_any B d size ps ss L on w3 HKX3.out).mono ?_
        rintro e w5 ⟨A5, c5', gO5, rfl, hr5, hk5, hO5⟩
        have HK5 := Lib.hid (HKX3.out.other HK3.out (hO5.mono (fun i _ e => .inr (.inr e)) : Only (L.S d) _ _))
        have HKX5 := Lib.hid hk5
        have HR5 := Lib.hid hr5
        have HRT := Lib.hid (HR3.out.only hO5 (fun hA e => by have h1 := HG3.out hA; have h2 := HLX.out.2.2 e.1; omega))
        have HX5 := Lib.hid (HX3.out.only hO5 (fun e => by have h2 := HLX.out.2.2 e.1; omega))
        have HO5 := Lib.hid (HO3.out.trans (hO5.mono (fun i _ e => .inr (.inr (.inr (.inr e)))) : Only (fun i => i = b ∨ i = g ∨ L.S d i) _ _))
        clear hk5 hO5 hr5
        rw [HT.out.1] at HRT ⊢
        refine hK.out _ _ ?_ (fun hHeld => ?_)
        · exact HX5.out.cell 1
        clear hK K
        try simp only [Act.put, List.setIfInBounds_toArray, List.set_cons_zero, List.set_cons_succ]
        refine wpAnyH_ready (rs := [8]) (by kernel_rfl) (by simp) ?_
        refine AllReadyH.cons (o := { dst := some 74, op := Op.call { callee := Callee.value (Operand.func 41), args := #[Operand.tmp 69, Operand.tmp 73], argTypes := #[32, 32] }, type := 4, pos := "law.go:53", after := #[{ on := 3, ground := Ground.data }, { on := 7, ground := Ground.data }, { on := 7, ground := Ground.chain }], guard := none }) rfl (fun K hK => ?_) AllReadyH.nil
        go_simp
        refine (xsame_any _ A3 A5 c3' c5' gO3 gO5 w5 HRT.out HR5.out).mono ?_
        rintro e w6 ⟨rfl, hO6⟩
        have HX6 := Lib.hid (HX5.out.only hO6 id)
        have HK5 := Lib.hid (HK5.out.quiet hO6)
        have HKX5 := Lib.hid (HKX5.out.quiet hO6)
        have HO5 := Lib.hid (HO5.out.trans (hO6.mono (fun i _ e => e.elim)))
        clear hO6
        refine hK.out _ _ ?_ (fun hHeld => ?_)
        · exact HX6.out.cell 1
        clear hK K
        try simp only [Act.put, List.setIfInBounds_toArray, List.set_cons_zero, List.set_cons_succ]
        refine wpAnyH_take (i := 9) (oi := { dst := some 6, op := Op.assign (Operand.tmp 74), type := 4, pos := "law.go:53", after := #[{ on := 8, ground := Ground.data }, { on := 8, ground := Ground.chain }, { on := 0, ground := Ground.phase }, { on := 1, ground := Ground.phase }, { on := 2, ground := Ground.phase }, { on := 3, ground := Ground.phase }, { on := 4, ground := Ground.phase }, { on := 5, ground := Ground.phase }, { on := 6, ground := Ground.phase }, { on := 7, ground := Ground.phase }, { on := 8, ground := Ground.phase }], guard := none }) (v := ?_) rfl (by kernel_rfl) (by kernel_rfl) (by kernel_rfl) (fun _ _ _ h => h) (Or.inl ⟨by rfl, ?_⟩) (by assumption) ?_
        rotate_left
        · (intro w hSw; (try dsimp only at hSw); (try obtain ⟨hSa, hSb⟩ := hSw); go_simp; try with_reducible rfl)
        try simp only [Act.put, List.setIfInBounds_toArray, List.set_cons_zero, List.set_cons_succ]
        refine wpAnyH_done (by kernel_rfl) ?_ _
        go_wp2
        go_ret
        exact ⟨rfl, t, h, _, ps, _, L, HK5.out, HKX5.out, HT.out.2, by omega, HO5.out⟩
      have n2 : (od == 2) = false := beq_false_of_ne h2
      clear h2
      by_cases h3 : od = 3
      · have t3 : (od == 3) = true := by simp [h3]
        clear h3
        have he := HRL.out.turnE nn
        by_cases hE : turnE l t h nn = 0
        · obtain ⟨q, rfl, hq1, hq2, hst⟩ := turn_zero hE
          have hsx : ss.getD q 0 = 1 := by rw [← HRL.out.wn.st q hq1 hq2]; exact hst
          have H1 := Lib.hid (done_ok b g t h l q wc HK.out ⟨hq1, hq2⟩ hst)
          have H2 := Lib.hid (fun W kx => xdone_ok B d size ps ss L t HRL.out.tl q ⟨hq1, by rw [HRL.out.wn.hs]; exact hq2⟩ hsx W kx)
          have HRL5 := Lib.hid (HRL.out.done q ⟨hq1, hq2⟩)
          clear he hE hst hsx
          go_wp2_with (fail)
          refine H1.out.mono ?_
          rintro e w4 ⟨rfl, hk4, hO4⟩
          have HK4 := Lib.hid hk4
          have HKX4 := Lib.hid (HKX.out.turned HK.out hO4)
          have HO4 := Lib.hid (HO.out.trans (hO4.mono (fun i _ e => by rcases e with e | e; exact .inl e; exact .inr (.inl e)) : Only (fun i => i = b ∨ i = g ∨ L.S d i) _ _))
          clear hk4 hO4
          go_wp2_with (fail)
          refine (H2.out w4 HKX4.out).mono ?_
          rintro e w5 ⟨rfl, hk5, hO5⟩
          have HK5 := Lib.hid (HKX4.out.other HK4.out (hO5.mono (fun i _ e => .inr (.inr e)) : Only (L.S d) _ _))
          have HKX5 := Lib.hid hk5
          have HO5 := Lib.hid (HO4.out.trans (hO5.mono (fun i _ e => .inr (.inr (.inr (.inr e)))) : Only (fun i => i = b ∨ i = g ∨ L.S d i) _ _))
          clear hk5 hO5
          go_wp2
          go_ret
          exact ⟨rfl, _, h, _, ps, _, L, HK5.out, HKX5.out, HRL5.out, by omega, HO5.out⟩
        · have H1 := Lib.hid (done_no b g t h l nn wc HK.out hE)
          have H2 : Hid (∀ W, XM B W d size ps ss L → Calls Try.prog 43 #[.pointer (some ⟨d, 0, none⟩), .int .i64 nn] W fun e w' => e = .returned (.int .i64 (turnE l t h nn)) ∧ w' = W) :=
            Lib.hid (fun W kx => by rw [he]; exact xdone_no B d size ps ss L t HRL.out.tl nn (by rw [← he]; exact hE) W kx)
          generalize turnE l t h nn = z at *
          have tz : (z == z) = true := by simp
          clear he hE
          go_wp2_with (fail)
          refine H1.out.mono ?_
          rintro e w4 ⟨rfl, hO4⟩
          have HO4 := Lib.hid hO4
          clear hO4
          go_wp2_with (fail)
          refine (H2.out w4 (HKX.out.quiet HO4.out)).mono ?_
          rintro e w5 ⟨rfl, rfl⟩
          go_wp2
          go_ret
          exact ⟨rfl, t, h, l, ps, ss, L, HK.out.quiet HO4.out, HKX.out.quiet HO4.out, HRL.out, by omega, HO.out.trans (HO4.out.mono (fun i _ e => e.elim))⟩
      have n3 : (od == 3) = false := beq_false_of_ne h3
      clear h3
      by_cases h4 : od = 4
      · have t4 : (od == 4) = true := by simp [h4]
        clear h4
        have he := HRL.out.turnE nn
        by_cases hE : turnE l t h nn = 0
        · obtain ⟨q, rfl, hq1, hq2, hst⟩ := turn_zero hE
          have hsx : ss.getD q 0 = 1 := by rw [← HRL.out.wn.st q hq1 hq2]; exact hst
          have H1 := Lib.hid (back_ok b g t h l q wc HK.out ⟨hq1, hq2⟩ hst)
          have H2 := Lib.hid (fun W kx => xback_ok B d size ps ss L t HRL.out.tl q ⟨hq1, by rw [HRL.out.wn.hs]; exact hq2⟩ hsx W kx)
          have HRL5 := Lib.hid (HRL.out.back q ⟨hq1, hq2⟩ hsx)
          clear he hE hst hsx
          go_wp2_with (fail)
          refine H1.out.mono ?_
          rintro e w4 ⟨rfl, hk4, hO4⟩
          have HK4 := Lib.hid hk4
          have HKX4 := Lib.hid (HKX.out.turned HK.out hO4)
          have HO4 := Lib.hid (HO.out.trans (hO4.mono (fun i _ e => by rcases e with e | e; exact .inl e; exact .inr (.inl e)) : Only (fun i => i = b ∨ i = g ∨ L.S d i) _ _))
          clear hk4 hO4
          go_wp2_with (fail)
          refine (H2.out w4 HKX4.out).mono ?_
          rintro e w5 ⟨rfl, hk5, hO5⟩
          have HK5 := Lib.hid (HKX4.out.other HK4.out (hO5.mono (fun i _ e => .inr (.inr e)) : Only (L.S d) _ _))
          have HKX5 := Lib.hid hk5
          have HO5 := Lib.hid (HO4.out.trans (hO5.mono (fun i _ e => .inr (.inr (.inr (.inr e)))) : Only (fun i => i = b ∨ i = g ∨ L.S d i) _ _))
          clear hk5 hO5
          go_wp2
          go_ret
          exact ⟨rfl, t, h, _, ps, _, L, HK5.out, HKX5.out, HRL5.out, by omega, HO5.out⟩
        · have H1 := Lib.hid (back_no b g t h l nn wc HK.out hE)
          have H2 : Hid (∀ W, XM B W d size ps ss L → Calls Try.prog 44 #[.pointer (some ⟨d, 0, none⟩), .int .i64 nn] W fun e w' => e = .returned (.int .i64 (turnE l t h nn)) ∧ w' = W) :=
            Lib.hid (fun W kx => by rw [he]; exact xback_no B d size ps ss L t HRL.out.tl nn (by rw [← he]; exact hE) W kx)
          generalize turnE l t h nn = z at *
          have tz : (z == z) = true := by simp
          clear he hE
          go_wp2_with (fail)
          refine H1.out.mono ?_
          rintro e w4 ⟨rfl, hO4⟩
          have HO4 := Lib.hid hO4
          clear hO4
          go_wp2_with (fail)
          refine (H2.out w4 (HKX.out.quiet HO4.out)).mono ?_
          rintro e w5 ⟨rfl, rfl⟩
          go_wp2
          go_ret
          exact ⟨rfl, t, h, l, ps, ss, L, HK.out.quiet HO4.out, HKX.out.quiet HO4.out, HRL.out, by omega, HO.out.trans (HO4.out.mono (fun i _ e => e.elim))⟩
      have n4 : (od == 4) = false := beq_false_of_ne h4
      clear h4
      by_cases h5 : od = 5
      · have t5 : (od == 5) = true := by simp [h5]
        clear h5
        by_cases hp : nn < t ∨ (h : Int) ≤ nn
        · have H1 := Lib.hid (get_no b g t h l nn wc HK.out hp)
          have H2 := Lib.hid (fun W kx => xget_no B d size ps ss L t HRL.out.tl nn (by rw [hbig]; exact hp) W kx)
          unfold zeroSlot at H1 H2
          clear hp
          go_wp2_with (fail)
          refine H1.out.mono ?_
          rintro e w4 ⟨rfl, hO4⟩
          have HO4 := Lib.hid hO4
          clear hO4
          have oA1 := ((Only.refl (fun _ => False) w4).alloc (.cells #[.int .i64 0, .int .i64 0, .int .i64 0, .slice none 0 0, .int .i64 0] 37))
          have HZ := Lib.hid (At.new w4 37 #[.int .i64 0, .int .i64 0, .int .i64 0, .slice none 0 0, .int .i64 0])
          have HOA := Lib.hid oA1
          have H3 := Lib.hid (H2.out _ ((HKX.out.quiet HO4.out).quiet oA1))
          clear oA1 H2
          go_wp2_with (fail)
          refine H3.out.mono ?_
          rintro e w5 ⟨rfl, hO5⟩
          have HZ5 := Lib.hid (HZ.out.only hO5 id)
          have HO5 := Lib.hid ((HO4.out.trans HOA.out).trans hO5)
          have oA5 := ((Only.refl (fun _ => False) w5).alloc (.cells #[.int .i64 0, .int .i64 0, .int .i64 0, .slice none 0 0, .int .i64 0] 37))
          have HZ6 := Lib.hid (HZ5.out.only oA5 id)
          have HS := Lib.hid (same_l 0 0 0 0 0 [] none none 0 0 0 0 (w5.alloc (.cells #[.int .i64 0, .int .i64 0, .int .i64 0, .slice none 0 0, .int .i64 0] 37)) (.inl rfl) (.inl rfl))
          have HO6 := Lib.hid (HO5.out.trans oA5)
          have z0 := HZ6.out.cell 0
          have z1 := HZ6.out.cell 1
          have z2 := HZ6.out.cell 2
          have z3 := HZ6.out.cell 3
          have z4 := HZ6.out.cell 4
          simp only [List.getElem?_toArray, List.getElem?_cons_zero, List.getElem?_cons_succ] at z0 z1 z2 z3 z4
          clear hO5 oA5
          go_wp2_with (fail)
          refine HS.out.mono ?_
          rintro e w7 ⟨rfl, hO7⟩
          have HO7 := Lib.hid (HO6.out.trans hO7)
          have tb : ((0 : Int) == 0) = true := by simp
          clear hO7
          go_wp2
          go_ret
          exact ⟨rfl, t, h, l, ps, ss, L, HK.out.quiet HO7.out, HKX.out.quiet HO7.out, HRL.out, by omega, HO.out.trans (HO7.out.mono (fun i _ e => e.elim))⟩
        · obtain ⟨q, rfl⟩ : ∃ q : Nat, nn = q := ⟨nn.toNat, by omega⟩
          have H1 := Lib.hid (get_in b g t h l q wc HK.out ⟨by omega, by omega⟩)
          have H2 : Hid (∀ W, XM B W d size ps ss L → Calls Try.prog 45 #[.pointer (some ⟨d, 0, none⟩), .int .i64 q] W (GetPost (slotOf l q) W)) :=
            Lib.hid (fun W kx => by rw [HRL.out.sl q (by omega) (by omega)]; exact xget_in B d size ps ss L t HRL.out.tl q ⟨by omega, by omega⟩ W kx)
          generalize slotOf l q = x at *
          obtain ⟨yk, yl, ys, yf, yd⟩ := x
          clear hp
          go_wp2_with (fail)
          refine H1.out.mono ?_
          rintro e w4 ⟨A4, c4', g4, rfl, hr4, _, _, hO4⟩
          simp only [Sl.val]
          have HO4 := Lib.hid hO4
          have oA1 := ((Only.refl (fun _ => False) w4).alloc (.cells #[.int .i64 yk, .int .i64 yl, .int .i64 ys, .slice A4 yd.length c4', .int .i64 yf] 37))
          have HZ := Lib.hid (At.new w4 37 #[.int .i64 yk, .int .i64 yl, .int .i64 ys, .slice A4 yd.length c4', .int .i64 yf])
          have HOA := Lib.hid oA1
          have H3 := Lib.hid (H2.out _ ((HKX.out.quiet HO4.out).quiet oA1))
          have HR4 := Lib.hid (hr4.rd.only oA1 id)
          clear oA1 H2 hO4 hr4
          go_wp2_with (fail)
          refine H3.out.mono ?_
          rintro e w5 ⟨A5, c5', g5, rfl, hr5, _, _, hO5⟩
          simp only [Sl.val]
          have HZ5 := Lib.hid (HZ.out.only hO5 id)
          have HO5 := Lib.hid ((HO4.out.trans HOA.out).trans hO5)
          have oA5 := ((Only.refl (fun _ => False) w5).alloc (.cells #[.int .i64 yk, .int .i64 yl, .int .i64 ys, .slice A5 yd.length c5', .int .i64 yf] 37))
          have HZ6 := Lib.hid (HZ5.out.only oA5 id)
          have HS := Lib.hid (same_l yk yl yl ys yf yd A4 A5 c4' c5' g4 g5 (w5.alloc (.cells #[.int .i64 yk, .int .i64 yl, .int .i64 ys, .slice A5 yd.length c5', .int .i64 yf] 37)) ((HR4.out.only hO5 id).only oA5 id) (hr5.rd.only oA5 id))
          have HO6 := Lib.hid (HO5.out.trans oA5)
          have z0 := HZ6.out.cell 0
          have z1 := HZ6.out.cell 1
          have z2 := HZ6.out.cell 2
          have z3 := HZ6.out.cell 3
          have z4 := HZ6.out.cell 4
          simp only [List.getElem?_toArray, List.getElem?_cons_zero, List.getElem?_cons_succ] at z0 z1 z2 z3 z4
          clear hO5 oA5 hr5
          have tb : (yl == yl) = true := by simp
          rw [tb] at HS
          go_wp2_with (fail)
          refine HS.out.mono ?_
          rintro e w7 ⟨rfl, hO7⟩
          have HO7 := Lib.hid (HO6.out.trans hO7)
          clear hO7
          go_wp2
          go_ret
          exact ⟨rfl, t, h, l, ps, ss, L, HK.out.quiet HO7.out, HKX.out.quiet HO7.out, HRL.out, by omega, HO.out.trans (HO7.out.mono (fun i _ e => e.elim))⟩
      have n5 : (od == 5) = false := beq_false_of_ne h5
      clear h5
      by_cases h6 : od = 6
      · have t6 : (od == 6) = true := by simp [h6]
        clear h6
        have H1 := Lib.hid (find_any b g t h l on wc HK.out)
        have H2 : Hid (∀ W, XM B W d size ps ss L → Calls Try.prog 46 #[.pointer (some ⟨d, 0, none⟩), .int .i64 on] W fun e w' => e = .returned (foundV (fd (okAt l on) t h)) ∧ w' = W) :=
          Lib.hid (fun W kx => by rw [HRL.out.find on]; exact xfind_any B d size ps ss L t HRL.out.tl on W kx)
        generalize fd (okAt l on) t h = F at *
        have hF : ∃ (z : Int) (bb : Bool), foundV F = .tuple #[.int .i64 z, .bool bb] := by
          cases F
          · exact ⟨_, _, rfl⟩
          · exact ⟨_, _, rfl⟩
        obtain ⟨z, bb, hF⟩ := hF
        rw [hF] at H1 H2
        have tz : (z == z) = true := by simp
        have tb : (bb == bb) = true := by simp
        clear hF
        go_wp2_with (fail)
        refine H1.out.mono ?_
        rintro e w4 ⟨rfl, hO4⟩
        have HO4 := Lib.hid hO4
        have y1 : w4.cell? ⟨w.heap.size, 1, none⟩ = some (.int .i64 on) := (HX.out.only hO4 id).cell 1
        clear hO4
        go_wp2_with (fail)
        refine (H2.out w4 (HKX.out.quiet HO4.out)).mono ?_
        rintro e w5 ⟨rfl, rfl⟩
        go_wp2
        go_ret
        exact ⟨rfl, t, h, l, ps, ss, L, HK.out.quiet HO4.out, HKX.out.quiet HO4.out, HRL.out, by omega, HO.out.trans (HO4.out.mono (fun i _ e => e.elim))⟩
      have n6 : (od == 6) = false := beq_false_of_ne h6
      clear h6
      go_wp2
      go_ret
      exact ⟨rfl, t, h, l, ps, ss, L, HK.out, HKX.out, HRL.out, by omega, HO.out⟩
end Go.Proofs.Ytookghkfghdadaa
