/- WholeFar: FarY, FarYb, FarYc. -/
import Derived.Test.YtpcdcemcjbeajaaGreatDoorWf13
import Derived.Test.YtpcdcemcjbeajaaGreatDoorWf14
import Derived.Test.YtpcdcemcjbeajaaGreatDoorWf18
section
set_option maxHeartbeats 400000
set_option linter.unusedVariables false
set_option linter.unusedSimpArgs false
set_option maxRecDepth 100000
namespace Go.Proofs.YtpcdcemcjbeajaaGreatDoor
open Go Go.RowKit Go.Shelf
theorem a_c0n {s : Sta} (hw : WF { s with t0 := .nil }) (hcl : s.b.calls < 1000000) (hll : s.b.lL < 990) (n : Int) {w : World} (hown : ∀ p ∈ blocks { s with t0 := .nil }, w.heap[p.1]? = some p.2) (hnd : (keys (blocks { s with t0 := .nil })).Nodup) :
    Ctr Tryz.prog 8 [.pointer (some ⟨(s.F 1).1, 0, none⟩), actVal 5 0 4294967298 n] w (blocks { s with t0 := .nil }) fun y L' => ∃ (F : Nat → Nat × Nat) (J : Nat → List Value) (o : Obj) (tl : V1) (Jk : List Ent),
      let s' : Sta := { s with F := F, t0 := .cli, J := J, O := o, b := { s.b with calls := s.b.calls + 1, lL := s.b.lL + 1, fn := n, fcl := s.b.calls + 1, told := tl, rows := updR s.b.rows 1 (s.b.rows 1 ++ eCall (s.b.calls + 1)) } }
      (F 1).1 = (s.F 1).1 ∧ L'.Perm (blocks s' ++ Jk) ∧ WF s' ∧ ∃ v, y = .tuple #[v, .int .i64 0] := by
  have hH0 := len_s hw
  have hH : 0 < s.b.H := hH0
  obtain ⟨b, hb⟩ : ∃ b : Bs, b = { s.b with n := n, hm := 0, ob := obW [(2, o2 s.b.H 0), (11, o11 s.b.lL 1 [iI 2, tK 60, iI 0, iI 0, iI 0, iI 0])] { s with t0 := .nil } } := ⟨_, rfl⟩
  have hob : ∀ i, fnB (b.ob i) = true := by rw [hb]; exact fn_obW _ (and2 (fn_o2) (and2 (fn_o11 rfl) (rfl)))
  have q1 : ((mn 0, O.tb t_c0n) :: e0).map (deE (DA (s.F) b noN) (xS (s.J) s.O)) = [0, 1, 2, 3, 7, 8, 9].flatMap (kk { { s with t0 := .nil } with net := s.net, hms := s.hms } [] []) := by
    subst hb
    exact mapEq ⟨rfl, rfl, rfl, rfl, de_row rfl (mid2 hw (by rfl) (len_s hw) (row20 hw)), de_row rfl (all1 hw (by rfl)), rfl, rfl, rfl, rfl, rfl, rfl, rfl, rfl, rfl, rfl, rfl, rfl, rfl, rfl, rfl, rfl, trivial⟩
  have htb : AllP (t_c0n.map (TbOk (tauA b))) := by
    subst hb
    exact ⟨fa0, fa1 hH, fa2 hH, fa3 rfl, fa4 hcl, fa5 hw.bL rfl rfl rfl, trivial⟩
  have hneed : AllP (needE (DA (s.F) b noN) 48 (xS (s.J) s.O) ((mn 0, O.tb t_c0n) :: e0)) := by
    refine AllP.app.2 ⟨htb, ?_⟩
    refine (show e0 = comE ++ (hp0 ++ (h0n)) from rfl) ▸ ?_
    rw [needE_app, needE_app]
    subst hb
    exact AllP.app.2 ⟨need_com ⟨hw.com.1, hw.com.2⟩ (op_tks hw.com.2) (op2 hw (len_s hw) hw.com.1), AllP.app.2 ⟨need_hp0 hw.hp, need_h0n hw.h0⟩⟩
  refine (act_of r_c0n (by decide +kernel) hob q1 (by subst hb; rfl) (blocks_sel px px [0, 1, 2, 3, 7, 8, 9] [4, 5, 6, 10, 11, 12, 13, 14, 15] (by decide)) hneed trivial hown hnd).mono ?_
  rintro y L' ⟨e, z, Jk, rfl, h2, h3⟩
  generalize hF : fw [(5, 130), (29, 123), (30, 121), (31, 120), (38, 115), (39, 114)] (s.F) e s.F = F
  generalize hJ : jw [(4, 4), (5, 130), (8, 8), (12, 12), (14, 14), (22, 22), (25, 25), (29, 123), (39, 114)] z s.J = J
  generalize htl : vS (some ⟨(adX (adl (s.F)) e (mn 127)).1, 0, none⟩) 1 (adX (adl (s.F)) e (mn 127)).2 = tl
  refine ⟨F, J, (z (mn 0)).2, tl, _, by subst hF; rfl, act_fin (s := { s with t0 := .nil }) (s' := { s with F := F, t0 := .cli, J := J, O := (z (mn 0)).2, b := { s.b with calls := s.b.calls + 1, lL := s.b.lL + 1, fn := n, fcl := s.b.calls + 1, told := tl, rows := updR s.b.rows 1 (s.b.rows 1 ++ eCall (s.b.calls + 1)) } }) (net' := s.net) (hms' := s.hms) (xp' := []) (xh' := []) px px [0, 1, 2, 3, 7, 8, 9] [4, 5, 6, 10, 11, 12, 13, 14, 15] (by decide) h2 (by subst hF hJ htl; rfl) (post_idx [0, 1, 2, 3, 4, 26, 5, 6, 7, 8, 9, 10, 11, 12, 13, 14, 15, 16, 17, 18, 19, 20, 25, 24, 23, 22, 21] [] (by decide) (by subst hb hF hJ htl; exact mapEq ⟨rfl, rfl, rfl, rfl, de_row rfl (mid2 hw (by rfl) (len_s hw) (row20 hw)), de_row rfl (app1 hw (by rfl) (by rfl)), rfl, rfl, rfl, rfl, rfl, rfl, rfl, rfl, rfl, rfl, rfl, rfl, rfl, rfl, rfl, rfl, rfl, rfl, rfl, rfl, rfl, trivial⟩)), ?_, _, rfl⟩
  have g4 := inf_op 4 (mn 4) 2 111 0 s.b.H h3 rfl (by subst hb; rfl) (mid_len (by show 0 * 1 + 0 + 1 ≤ s.b.H * 1; omega))
  have g8 := inf_c 7 (mn 8) h3 rfl
  have g12 := inf_c 11 (mn 12) h3 rfl
  have g14 := inf_c 13 (mn 14) h3 rfl
  have g22 := inf_c 16 (mn 22) h3 rfl
  have g25 := inf_c 19 (mn 25) h3 rfl
  have g39 := inf_c 21 (mn 114) h3 rfl
  have g29 := inf_c 25 (mn 123) h3 rfl
  have g5 := inf_op 26 (mn 130) 11 50 5 (s.b.lL + 1) h3 rfl (by subst hb; rfl) (len11 _ _ rfl)
  subst hF hJ htl
  exact { hw with com := ⟨g4, g5⟩, h0 := ⟨g22, g25⟩, hp := ⟨g8, g12, g14, hw.hp.2.2.2⟩, rt := ⟨g29, g39⟩, rL := rl_app (k := 1) hw.rL rfl, bL := by show s.b.lL + 1 ≤ 1000; omega }
theorem a_c0r {s : Sta} (hw : WF { s with t0 := .row }) (hcl : s.b.calls < 1000000) (hll : s.b.lL < 990) (n : Int) {w : World} (hown : ∀ p ∈ blocks { s with t0 := .row }, w.heap[p.1]? = some p.2) (hnd : (keys (blocks { s with t0 := .row })).Nodup) :
    Ctr Tryz.prog 8 [.pointer (some ⟨(s.F 1).1, 0, none⟩), actVal 5 0 4294967298 n] w (blocks { s with t0 := .row }) fun y L' => ∃ (F : Nat → Nat × Nat) (J : Nat → List Value) (o : Obj) (tl : V1) (Jk : List Ent),
      let s' : Sta := { s with F := F, t0 := .cli, J := J, O := o, b := { s.b with calls := s.b.calls + 1, lL := s.b.lL + 1, fn := n, fcl := s.b.calls + 1, told := tl, rows := updR s.b.rows 1 (s.b.rows 1 ++ eCall (s.b.calls + 1)) } }
      (F 1).1 = (s.F 1).1 ∧ L'.Perm (blocks s' ++ Jk) ∧ WF s' ∧ ∃ v, y = .tuple #[v, .int .i64 0] := by
  have hH0 := len_s hw
  have hH : 0 < s.b.H := hH0
  obtain ⟨b, hb⟩ : ∃ b : Bs, b = { s.b with n := n, hm := 0, ob := obW [(2, o2 s.b.H 0), (11, o11 s.b.lL 1 [iI 2, tK 60, iI 0, iI 0, iI 0, iI 0])] { s with t0 := .row } } := ⟨_, rfl⟩
  have hob : ∀ i, fnB (b.ob i) = true := by rw [hb]; exact fn_obW _ (and2 (fn_o2) (and2 (fn_o11 rfl) (rfl)))
  have q1 : ((mn 0, O.tb t_c0r) :: e2).map (deE (DA (s.F) b noN) (xS (s.J) s.O)) = [0, 1, 2, 3, 7, 8, 9].flatMap (kk { { s with t0 := .row } with net := s.net, hms := s.hms } [] []) := by
    subst hb
    exact mapEq ⟨rfl, rfl, rfl, rfl, de_row rfl (mid2 hw (by rfl) (len_s hw) (row20 hw)), de_row rfl (all1 hw (by rfl)), rfl, rfl, rfl, rfl, rfl, rfl, rfl, rfl, rfl, rfl, rfl, rfl, rfl, rfl, rfl, rfl, rfl, trivial⟩
  have htb : AllP (t_c0r.map (TbOk (tauA b))) := by
    subst hb
    exact ⟨fa0, fa1 hH, fa2 hH, fa3 rfl, fa4 hcl, fa5 hw.bL rfl rfl rfl, trivial⟩
  have hneed : AllP (needE (DA (s.F) b noN) 48 (xS (s.J) s.O) ((mn 0, O.tb t_c0r) :: e2)) := by
    refine AllP.app.2 ⟨htb, ?_⟩
    refine (show e2 = comE ++ (hp0 ++ (h0r)) from rfl) ▸ ?_
    rw [needE_app, needE_app]
    subst hb
    exact AllP.app.2 ⟨need_com ⟨hw.com.1, hw.com.2⟩ (op_tks hw.com.2) (op2 hw (len_s hw) hw.com.1), AllP.app.2 ⟨need_hp0 hw.hp, need_h0r hw.h0 hw.rt⟩⟩
  refine (act_of r_c0r (by decide +kernel) hob q1 (by subst hb; rfl) (blocks_sel px px [0, 1, 2, 3, 7, 8, 9] [4, 5, 6, 10, 11, 12, 13, 14, 15] (by decide)) hneed trivial hown hnd).mono ?_
  rintro y L' ⟨e, z, Jk, rfl, h2, h3⟩
  generalize hF : fw [(5, 130), (29, 123), (30, 121), (31, 120), (38, 115), (39, 114)] (s.F) e s.F = F
  generalize hJ : jw [(4, 4), (5, 130), (8, 8), (12, 12), (14, 14), (22, 22), (25, 25), (29, 123), (39, 114)] z s.J = J
  generalize htl : vS (some ⟨(adX (adl (s.F)) e (mn 127)).1, 0, none⟩) 1 (adX (adl (s.F)) e (mn 127)).2 = tl
  refine ⟨F, J, (z (mn 0)).2, tl, _, by subst hF; rfl, act_fin (s := { s with t0 := .row }) (s' := { s with F := F, t0 := .cli, J := J, O := (z (mn 0)).2, b := { s.b with calls := s.b.calls + 1, lL := s.b.lL + 1, fn := n, fcl := s.b.calls + 1, told := tl, rows := updR s.b.rows 1 (s.b.rows 1 ++ eCall (s.b.calls + 1)) } }) (net' := s.net) (hms' := s.hms) (xp' := []) (xh' := []) px px [0, 1, 2, 3, 7, 8, 9] [4, 5, 6, 10, 11, 12, 13, 14, 15] (by decide) h2 (by subst hF hJ htl; rfl) (post_idx [0, 1, 2, 3, 4, 26, 5, 6, 7, 8, 9, 10, 11, 12, 13, 14, 15, 16, 17, 18, 19, 20, 25, 24, 23, 22, 21] [] (by decide) (by subst hb hF hJ htl; exact mapEq ⟨rfl, rfl, rfl, rfl, de_row rfl (mid2 hw (by rfl) (len_s hw) (row20 hw)), de_row rfl (app1 hw (by rfl) (by rfl)), rfl, rfl, rfl, rfl, rfl, rfl, rfl, rfl, rfl, rfl, rfl, rfl, rfl, rfl, rfl, rfl, rfl, rfl, rfl, rfl, rfl, trivial⟩)), ?_, _, rfl⟩
  have g4 := inf_op 4 (mn 4) 2 111 0 s.b.H h3 rfl (by subst hb; rfl) (mid_len (by show 0 * 1 + 0 + 1 ≤ s.b.H * 1; omega))
  have g8 := inf_c 7 (mn 8) h3 rfl
  have g12 := inf_c 11 (mn 12) h3 rfl
  have g14 := inf_c 13 (mn 14) h3 rfl
  have g22 := inf_c 16 (mn 22) h3 rfl
  have g25 := inf_c 19 (mn 25) h3 rfl
  have g39 := inf_c 21 (mn 114) h3 rfl
  have g29 := inf_c 25 (mn 123) h3 rfl
  have g5 := inf_op 26 (mn 130) 11 50 5 (s.b.lL + 1) h3 rfl (by subst hb; rfl) (len11 _ _ rfl)
  subst hF hJ htl
  exact { hw with com := ⟨g4, g5⟩, h0 := ⟨g22, g25⟩, hp := ⟨g8, g12, g14, hw.hp.2.2.2⟩, rt := ⟨g29, g39⟩, rL := rl_app (k := 1) hw.rL rfl, bL := by show s.b.lL + 1 ≤ 1000; omega }
theorem a_c0bc {s : Sta} (hw : WF { s with t0 := .cli }) (n : Int) {w : World} (hown : ∀ p ∈ blocks { s with t0 := .cli }, w.heap[p.1]? = some p.2) (hnd : (keys (blocks { s with t0 := .cli })).Nodup) :
    Ctr Tryz.prog 8 [.pointer (some ⟨(s.F 1).1, 0, none⟩), actVal 5 0 4294967298 n] w (blocks { s with t0 := .cli }) fun y L' => ∃ (J : Nat → List Value) (o : Obj) (Jk : List Ent),
      let s' : Sta := { s with t0 := .cli, J := J, O := o, b := { s.b with told := vS none 0 0 } }
      L'.Perm (blocks s' ++ Jk) ∧ WF s' ∧ ∃ v, y = .tuple #[v, .int .i64 9] := by
  have hH0 := len_s hw
  have hH : 0 < s.b.H := hH0
  obtain ⟨b, hb⟩ : ∃ b : Bs, b = { s.b with n := n, hm := 0, ob := obW [(2, o2 s.b.H 0)] { s with t0 := .cli } } := ⟨_, rfl⟩
  have hob : ∀ i, fnB (b.ob i) = true := by rw [hb]; exact fn_obW _ (and2 (fn_o2) (rfl))
  have q1 : ((mn 0, O.tb t_c0b) :: e3).map (deE (DA (s.F) b noN) (xS (s.J) s.O)) = [0, 1, 2, 7].flatMap (kk { { s with t0 := .cli } with net := s.net, hms := s.hms } [] []) := by
    subst hb
    exact mapEq ⟨rfl, rfl, rfl, rfl, de_row rfl (mid2 hw (by rfl) (len_s hw) (row20 hw)), de_row rfl (all1 hw (by rfl)), rfl, rfl, rfl, rfl, rfl, rfl, rfl, trivial⟩
  have htb : AllP (t_c0b.map (TbOk (tauA b))) := by
    subst hb
    exact ⟨fa0, fa1 hH, fa2 hH, fa3 rfl, trivial⟩
  have hneed : AllP (needE (DA (s.F) b noN) 48 (xS (s.J) s.O) ((mn 0, O.tb t_c0b) :: e3)) := by
    refine AllP.app.2 ⟨htb, ?_⟩
    refine (show e3 = comE ++ (h0t) from rfl) ▸ ?_
    rw [needE_app]
    subst hb
    exact AllP.app.2 ⟨need_com ⟨hw.com.1, hw.com.2⟩ (op_tks hw.com.2) (op2 hw (len_s hw) hw.com.1), need_h0t hw.h0 hw.rt.1⟩
  refine (act_of r_c0b (by decide +kernel) hob q1 (by subst hb; rfl) (blocks_sel px px [0, 1, 2, 7] [3, 4, 5, 6, 8, 9, 10, 11, 12, 13, 14, 15] (by decide)) hneed trivial hown hnd).mono ?_
  rintro y L' ⟨e, z, Jk, rfl, h2, h3⟩
  generalize hJ : jw [(4, 4), (5, 5), (22, 22), (25, 25)] z s.J = J
  refine ⟨J, (z (mn 0)).2, _, act_fin (s := { s with t0 := .cli }) (s' := { s with t0 := .cli, J := J, O := (z (mn 0)).2, b := { s.b with told := vS none 0 0 } }) (net' := s.net) (hms' := s.hms) (xp' := []) (xh' := []) px px [0, 1, 2, 7] [3, 4, 5, 6, 8, 9, 10, 11, 12, 13, 14, 15] (by decide) h2 (by subst hJ; rfl) (post_idx [0, 1, 2, 3, 4, 5, 6, 7, 8, 9, 10, 11, 12] [] (by decide) (by subst hb hJ; exact mapEq ⟨rfl, rfl, rfl, rfl, de_row rfl (mid2 hw (by rfl) (len_s hw) (row20 hw)), de_row rfl (all1 hw (by rfl)), rfl, rfl, rfl, rfl, rfl, rfl, rfl, trivial⟩)), ?_, _, rfl⟩
  have g4 := inf_op 4 (mn 4) 2 111 0 s.b.H h3 rfl (by subst hb; rfl) (mid_len (by show 0 * 1 + 0 + 1 ≤ s.b.H * 1; omega))
  have g5 := inf_op 5 (mn 5) 1 50 5 s.b.lL h3 rfl (by subst hb; rfl) (tks_len _ _)
  have g22 := inf_c 8 (mn 22) h3 rfl
  have g25 := inf_c 11 (mn 25) h3 rfl
  subst hJ
  exact { hw with com := ⟨g4, g5⟩, h0 := ⟨g22, g25⟩ }
theorem a_c0bb {s : Sta} (hw : WF { s with t0 := .bak }) (n : Int) {w : World} (hown : ∀ p ∈ blocks { s with t0 := .bak }, w.heap[p.1]? = some p.2) (hnd : (keys (blocks { s with t0 := .bak })).Nodup) :
    Ctr Tryz.prog 8 [.pointer (some ⟨(s.F 1).1, 0, none⟩), actVal 5 0 4294967298 n] w (blocks { s with t0 := .bak }) fun y L' => ∃ (J : Nat → List Value) (o : Obj) (Jk : List Ent),
      let s' : Sta := { s with t0 := .bak, J := J, O := o, b := { s.b with told := vS none 0 0 } }
      L'.Perm (blocks s' ++ Jk) ∧ WF s' ∧ ∃ v, y = .tuple #[v, .int .i64 9] := by
  have hH0 := len_s hw
  have hH : 0 < s.b.H := hH0
  obtain ⟨b, hb⟩ : ∃ b : Bs, b = { s.b with n := n, hm := 0, ob := obW [(2, o2 s.b.H 0)] { s with t0 := .bak } } := ⟨_, rfl⟩
  have hob : ∀ i, fnB (b.ob i) = true := by rw [hb]; exact fn_obW _ (and2 (fn_o2) (rfl))
  have q1 : ((mn 0, O.tb t_c0b) :: e3).map (deE (DA (s.F) b noN) (xS (s.J) s.O)) = [0, 1, 2, 7].flatMap (kk { { s with t0 := .bak } with net := s.net, hms := s.hms } [] []) := by
    subst hb
    exact mapEq ⟨rfl, rfl, rfl, rfl, de_row rfl (mid2 hw (by rfl) (len_s hw) (row20 hw)), de_row rfl (all1 hw (by rfl)), rfl, rfl, rfl, rfl, rfl, rfl, rfl, trivial⟩
  have htb : AllP (t_c0b.map (TbOk (tauA b))) := by
    subst hb
    exact ⟨fa0, fa1 hH, fa2 hH, fa3 rfl, trivial⟩
  have hneed : AllP (needE (DA (s.F) b noN) 48 (xS (s.J) s.O) ((mn 0, O.tb t_c0b) :: e3)) := by
    refine AllP.app.2 ⟨htb, ?_⟩
    refine (show e3 = comE ++ (h0t) from rfl) ▸ ?_
    rw [needE_app]
    subst hb
    exact AllP.app.2 ⟨need_com ⟨hw.com.1, hw.com.2⟩ (op_tks hw.com.2) (op2 hw (len_s hw) hw.com.1), need_h0t hw.h0 hw.rt.1⟩
  refine (act_of r_c0b (by decide +kernel) hob q1 (by subst hb; rfl) (blocks_sel px px [0, 1, 2, 7] [3, 4, 5, 6, 8, 9, 10, 11, 12, 13, 14, 15] (by decide)) hneed trivial hown hnd).mono ?_
  rintro y L' ⟨e, z, Jk, rfl, h2, h3⟩
  generalize hJ : jw [(4, 4), (5, 5), (22, 22), (25, 25)] z s.J = J
  refine ⟨J, (z (mn 0)).2, _, act_fin (s := { s with t0 := .bak }) (s' := { s with t0 := .bak, J := J, O := (z (mn 0)).2, b := { s.b with told := vS none 0 0 } }) (net' := s.net) (hms' := s.hms) (xp' := []) (xh' := []) px px [0, 1, 2, 7] [3, 4, 5, 6, 8, 9, 10, 11, 12, 13, 14, 15] (by decide) h2 (by subst hJ; rfl) (post_idx [0, 1, 2, 3, 4, 5, 6, 7, 8, 9, 10, 11, 12] [] (by decide) (by subst hb hJ; exact mapEq ⟨rfl, rfl, rfl, rfl, de_row rfl (mid2 hw (by rfl) (len_s hw) (row20 hw)), de_row rfl (all1 hw (by rfl)), rfl, rfl, rfl, rfl, rfl, rfl, rfl, trivial⟩)), ?_, _, rfl⟩
  have g4 := inf_op 4 (mn 4) 2 111 0 s.b.H h3 rfl (by subst hb; rfl) (mid_len (by show 0 * 1 + 0 + 1 ≤ s.b.H * 1; omega))
  have g5 := inf_op 5 (mn 5) 1 50 5 s.b.lL h3 rfl (by subst hb; rfl) (tks_len _ _)
  have g22 := inf_c 8 (mn 22) h3 rfl
  have g25 := inf_c 11 (mn 25) h3 rfl
  subst hJ
  exact { hw with com := ⟨g4, g5⟩, h0 := ⟨g22, g25⟩ }
theorem a_s0nn {s : Sta} (hw : WF { s with t0 := .nil, rg := true }) (hrc : s.b.rc = 0) (n : Int) {w : World} (hown : ∀ p ∈ blocks { s with t0 := .nil, rg := true }, w.heap[p.1]? = some p.2) (hnd : (keys (blocks { s with t0 := .nil, rg := true })).Nodup) :
    Ctr Tryz.prog 8 [.pointer (some ⟨(s.F 1).1, 0, none⟩), actVal 21 0 0 n] w (blocks { s with t0 := .nil, rg := true }) fun y L' => ∃ (J : Nat → List Value) (o : Obj) (Jk : List Ent),
      let s' : Sta := { s with t0 := .nil, rg := true, J := J, O := o, b := { s.b with told := vS none 0 0 } }
      L'.Perm (blocks s' ++ Jk) ∧ WF s' ∧ ∃ v, y = .tuple #[v, .int .i64 12] := by
  have hH0 := len_s hw
  have hH : 0 < s.b.H := hH0
  obtain ⟨b, hb⟩ : ∃ b : Bs, b = { s.b with n := n, hm := 0, ob := obW [(2, o2 s.b.H 0)] { s with t0 := .nil, rg := true } } := ⟨_, rfl⟩
  have hob : ∀ i, fnB (b.ob i) = true := by rw [hb]; exact fn_obW _ (and2 (fn_o2) (rfl))
  have q1 : ((mn 0, O.tb t_s0nn) :: e61).map (deE (DA (s.F) b noN) (xS (s.J) s.O)) = [0, 1, 2, 7, 10, 11, 8, 9].flatMap (kk { { s with t0 := .nil, rg := true } with net := s.net, hms := s.hms } [] []) := by
    subst hb
    exact mapEq ⟨rfl, rfl, rfl, rfl, de_row rfl (mid2 hw (by rfl) (len_s hw) (row20 hw)), de_row rfl (all1 hw (by rfl)), rfl, rfl, rfl, rfl, rfl, rfl, rfl, rfl, de_row0 rfl (all7 hw rfl (by rfl)), trivial⟩
  have htb : AllP (t_s0nn.map (TbOk (tauA b))) := by
    subst hb
    exact ⟨fa0, fa1 hH, fa2 hH, fa3 rfl, fa59 hrc, trivial⟩
  have hneed : AllP (needE (DA (s.F) b noN) 48 (xS (s.J) s.O) ((mn 0, O.tb t_s0nn) :: e61)) := by
    refine AllP.app.2 ⟨htb, ?_⟩
    refine (show e61 = comE ++ (h0n ++ (rgO)) from rfl) ▸ ?_
    rw [needE_app, needE_app]
    subst hb
    exact AllP.app.2 ⟨need_com ⟨hw.com.1, hw.com.2⟩ (op_tks hw.com.2) (op2 hw (len_s hw) hw.com.1), AllP.app.2 ⟨need_h0n hw.h0, need_rgO (hw.rrg rfl) op_tks0⟩⟩
  refine (act_of r_s0nn (by decide +kernel) hob q1 (by subst hb; rfl) (blocks_sel px px [0, 1, 2, 7, 10, 11, 8, 9] [3, 4, 5, 6, 12, 13, 14, 15] (by decide)) hneed trivial hown hnd).mono ?_
  rintro y L' ⟨e, z, Jk, rfl, h2, h3⟩
  generalize hJ : jw [(4, 4), (5, 5), (22, 22), (25, 25)] z s.J = J
  refine ⟨J, (z (mn 0)).2, _, act_fin (s := { s with t0 := .nil, rg := true }) (s' := { s with t0 := .nil, rg := true, J := J, O := (z (mn 0)).2, b := { s.b with told := vS none 0 0 } }) (net' := s.net) (hms' := s.hms) (xp' := []) (xh' := []) px px [0, 1, 2, 7, 10, 11, 8, 9] [3, 4, 5, 6, 12, 13, 14, 15] (by decide) h2 (by subst hJ; rfl) (post_idx [0, 1, 2, 3, 4, 5, 6, 7, 8, 9, 10, 11, 12, 13, 14] [] (by decide) (by subst hb hJ; exact mapEq ⟨rfl, rfl, rfl, rfl, de_row rfl (mid2 hw (by rfl) (len_s hw) (row20 hw)), de_row rfl (all1 hw (by rfl)), rfl, rfl, rfl, rfl, rfl, rfl, rfl, rfl, de_row0 rfl (all7 hw rfl (by rfl)), trivial⟩)), ?_, _, rfl⟩
  have g4 := inf_op 4 (mn 4) 2 111 0 s.b.H h3 rfl (by subst hb; rfl) (mid_len (by show 0 * 1 + 0 + 1 ≤ s.b.H * 1; omega))
  have g5 := inf_op 5 (mn 5) 1 50 5 s.b.lL h3 rfl (by subst hb; rfl) (tks_len _ _)
  have g22 := inf_c 8 (mn 22) h3 rfl
  have g25 := inf_c 11 (mn 25) h3 rfl
  subst hJ
  exact { hw with com := ⟨g4, g5⟩, h0 := ⟨g22, g25⟩ }
theorem a_s0nr {s : Sta} (hw : WF { s with t0 := .row, rg := true }) (hrc : s.b.rc = 0) (n : Int) {w : World} (hown : ∀ p ∈ blocks { s with t0 := .row, rg := true }, w.heap[p.1]? = some p.2) (hnd : (keys (blocks { s with t0 := .row, rg := true })).Nodup) :
    Ctr Tryz.prog 8 [.pointer (some ⟨(s.F 1).1, 0, none⟩), actVal 21 0 0 n] w (blocks { s with t0 := .row, rg := true }) fun y L' => ∃ (J : Nat → List Value) (o : Obj) (Jk : List Ent),
      let s' : Sta := { s with t0 := .row, rg := true, J := J, O := o, b := { s.b with told := vS none 0 0 } }
      L'.Perm (blocks s' ++ Jk) ∧ WF s' ∧ ∃ v, y = .tuple #[v, .int .i64 12] := by
  have hH0 := len_s hw
  have hH : 0 < s.b.H := hH0
  obtain ⟨b, hb⟩ : ∃ b : Bs, b = { s.b with n := n, hm := 0, ob := obW [(2, o2 s.b.H 0)] { s with t0 := .row, rg := true } } := ⟨_, rfl⟩
  have hob : ∀ i, fnB (b.ob i) = true := by rw [hb]; exact fn_obW _ (and2 (fn_o2) (rfl))
  have q1 : ((mn 0, O.tb t_s0nr) :: e67).map (deE (DA (s.F) b noN) (xS (s.J) s.O)) = [0, 1, 2, 7, 10, 11, 8, 9].flatMap (kk { { s with t0 := .row, rg := true } with net := s.net, hms := s.hms } [] []) := by
    subst hb
    exact mapEq ⟨rfl, rfl, rfl, rfl, de_row rfl (mid2 hw (by rfl) (len_s hw) (row20 hw)), de_row rfl (all1 hw (by rfl)), rfl, rfl, rfl, rfl, rfl, rfl, rfl, rfl, de_row0 rfl (all7 hw rfl (by rfl)), rfl, trivial⟩
  have htb : AllP (t_s0nr.map (TbOk (tauA b))) := by
    subst hb
    exact ⟨fa0, fa1 hH, fa2 hH, fa3 rfl, fa59 hrc, trivial⟩
  have hneed : AllP (needE (DA (s.F) b noN) 48 (xS (s.J) s.O) ((mn 0, O.tb t_s0nr) :: e67)) := by
    refine AllP.app.2 ⟨htb, ?_⟩
    refine (show e67 = comE ++ (h0q ++ (rgO ++ ([b33]))) from rfl) ▸ ?_
    rw [needE_app, needE_app, needE_app]
    subst hb
    exact AllP.app.2 ⟨need_com ⟨hw.com.1, hw.com.2⟩ (op_tks hw.com.2) (op2 hw (len_s hw) hw.com.1), AllP.app.2 ⟨need_h0q hw.h0, AllP.app.2 ⟨need_rgO (hw.rrg rfl) op_tks0, need_r0 hw.rt⟩⟩⟩
  refine (act_of r_s0nr (by decide +kernel) hob q1 (by subst hb; rfl) (blocks_sel px px [0, 1, 2, 7, 10, 11, 8, 9] [3, 4, 5, 6, 12, 13, 14, 15] (by decide)) hneed trivial hown hnd).mono ?_
  rintro y L' ⟨e, z, Jk, rfl, h2, h3⟩
  generalize hJ : jw [(4, 4), (5, 5), (22, 22), (25, 25), (29, 29)] z s.J = J
  refine ⟨J, (z (mn 0)).2, _, act_fin (s := { s with t0 := .row, rg := true }) (s' := { s with t0 := .row, rg := true, J := J, O := (z (mn 0)).2, b := { s.b with told := vS none 0 0 } }) (net' := s.net) (hms' := s.hms) (xp' := []) (xh' := []) px px [0, 1, 2, 7, 10, 11, 8, 9] [3, 4, 5, 6, 12, 13, 14, 15] (by decide) h2 (by subst hJ; rfl) (post_idx [0, 1, 2, 3, 4, 5, 6, 7, 8, 9, 10, 11, 12, 13, 14, 15] [] (by decide) (by subst hb hJ; exact mapEq ⟨rfl, rfl, rfl, rfl, de_row rfl (mid2 hw (by rfl) (len_s hw) (row20 hw)), de_row rfl (all1 hw (by rfl)), rfl, rfl, rfl, rfl, rfl, rfl, rfl, rfl, de_row0 rfl (all7 hw rfl (by rfl)), rfl, trivial⟩)), ?_, _, rfl⟩
  have g4 := inf_op 4 (mn 4) 2 111 0 s.b.H h3 rfl (by subst hb; rfl) (mid_len (by show 0 * 1 + 0 + 1 ≤ s.b.H * 1; omega))
  have g5 := inf_op 5 (mn 5) 1 50 5 s.b.lL h3 rfl (by subst hb; rfl) (tks_len _ _)
  have g22 := inf_c 8 (mn 22) h3 rfl
  have g25 := inf_c 11 (mn 25) h3 rfl
  have g29 := inf_c 15 (mn 29) h3 rfl
  subst hJ
  exact { hw with com := ⟨g4, g5⟩, h0 := ⟨g22, g25⟩, rt := g29 }
theorem a_s0mn {s : Sta} (hw : WF { s with t0 := .nil, rg := false, b := { s.b with rf := 0, rc := 0 } }) (n : Int) {w : World} (hown : ∀ p ∈ blocks { s with t0 := .nil, rg := false, b := { s.b with rf := 0, rc := 0 } }, w.heap[p.1]? = some p.2) (hnd : (keys (blocks { s with t0 := .nil, rg := false, b := { s.b with rf := 0, rc := 0 } })).Nodup) :
    Ctr Tryz.prog 8 [.pointer (some ⟨(s.F 1).1, 0, none⟩), actVal 21 0 0 n] w (blocks { s with t0 := .nil, rg := false, b := { s.b with rf := 0, rc := 0 } }) fun y L' => ∃ (J : Nat → List Value) (o : Obj) (Jk : List Ent),
      let s' : Sta := { s with t0 := .nil, rg := false, J := J, O := o, b := { s.b with told := vS none 0 0, rf := 0, rc := 0 } }
      L'.Perm (blocks s' ++ Jk) ∧ WF s' ∧ ∃ v, y = .tuple #[v, .int .i64 12] := by
  have hH0 := len_s hw
  have hH : 0 < s.b.H := hH0
  obtain ⟨b, hb⟩ : ∃ b : Bs, b = { s.b with n := n, hm := 0, ob := obW [(2, o2 s.b.H 0)] { s with t0 := .nil, rg := false, b := { s.b with rf := 0, rc := 0 } } } := ⟨_, rfl⟩
  have hob : ∀ i, fnB (b.ob i) = true := by rw [hb]; exact fn_obW _ (and2 (fn_o2) (rfl))
  have q1 : ((mn 0, O.tb t_s0mn) :: e63).map (deE (DA (s.F) b noN) (xS (s.J) s.O)) = [0, 1, 2, 7, 10, 11, 8, 9].flatMap (kk { { s with t0 := .nil, rg := false, b := { s.b with rf := 0, rc := 0 } } with net := s.net, hms := s.hms } [] []) := by
    subst hb
    exact mapEq ⟨rfl, rfl, rfl, rfl, de_row rfl (mid2 hw (by rfl) (len_s hw) (row20 hw)), de_row rfl (all1 hw (by rfl)), rfl, rfl, rfl, rfl, rfl, rfl, rfl, rfl, trivial⟩
  have htb : AllP (t_s0mn.map (TbOk (tauA b))) := by
    subst hb
    exact ⟨fa0, fa1 hH, fa2 hH, fa3 rfl, trivial⟩
  have hneed : AllP (needE (DA (s.F) b noN) 48 (xS (s.J) s.O) ((mn 0, O.tb t_s0mn) :: e63)) := by
    refine AllP.app.2 ⟨htb, ?_⟩
    refine (show e63 = comE ++ (h0n ++ (rgN)) from rfl) ▸ ?_
    rw [needE_app, needE_app]
    subst hb
    exact AllP.app.2 ⟨need_com ⟨hw.com.1, hw.com.2⟩ (op_tks hw.com.2) (op2 hw (len_s hw) hw.com.1), AllP.app.2 ⟨need_h0n hw.h0, need_rgN⟩⟩
  refine (act_of r_s0mn (by decide +kernel) hob q1 (by subst hb; rfl) (blocks_sel px px [0, 1, 2, 7, 10, 11, 8, 9] [3, 4, 5, 6, 12, 13, 14, 15] (by decide)) hneed trivial hown hnd).mono ?_
  rintro y L' ⟨e, z, Jk, rfl, h2, h3⟩
  generalize hJ : jw [(4, 4), (5, 5), (22, 22), (25, 25)] z s.J = J
  refine ⟨J, (z (mn 0)).2, _, act_fin (s := { s with t0 := .nil, rg := false, b := { s.b with rf := 0, rc := 0 } }) (s' := { s with t0 := .nil, rg := false, J := J, O := (z (mn 0)).2, b := { s.b with told := vS none 0 0, rf := 0, rc := 0 } }) (net' := s.net) (hms' := s.hms) (xp' := []) (xh' := []) px px [0, 1, 2, 7, 10, 11, 8, 9] [3, 4, 5, 6, 12, 13, 14, 15] (by decide) h2 (by subst hJ; rfl) (post_idx [0, 1, 2, 3, 4, 5, 6, 7, 8, 9, 10, 11, 12, 13] [] (by decide) (by subst hb hJ; exact mapEq ⟨rfl, rfl, rfl, rfl, de_row rfl (mid2 hw (by rfl) (len_s hw) (row20 hw)), de_row rfl (all1 hw (by rfl)), rfl, rfl, rfl, rfl, rfl, rfl, rfl, rfl, trivial⟩)), ?_, _, rfl⟩
  have g4 := inf_op 4 (mn 4) 2 111 0 s.b.H h3 rfl (by subst hb; rfl) (mid_len (by show 0 * 1 + 0 + 1 ≤ s.b.H * 1; omega))
  have g5 := inf_op 5 (mn 5) 1 50 5 s.b.lL h3 rfl (by subst hb; rfl) (tks_len _ _)
  have g22 := inf_c 8 (mn 22) h3 rfl
  have g25 := inf_c 11 (mn 25) h3 rfl
  subst hJ
  exact { hw with com := ⟨g4, g5⟩, h0 := ⟨g22, g25⟩ }
theorem a_s0mr {s : Sta} (hw : WF { s with t0 := .row, rg := false, b := { s.b with rf := 0, rc := 0 } }) (n : Int) {w : World} (hown : ∀ p ∈ blocks { s with t0 := .row, rg := false, b := { s.b with rf := 0, rc := 0 } }, w.heap[p.1]? = some p.2) (hnd : (keys (blocks { s with t0 := .row, rg := false, b := { s.b with rf := 0, rc := 0 } })).Nodup) :
    Ctr Tryz.prog 8 [.pointer (some ⟨(s.F 1).1, 0, none⟩), actVal 21 0 0 n] w (blocks { s with t0 := .row, rg := false, b := { s.b with rf := 0, rc := 0 } }) fun y L' => ∃ (J : Nat → List Value) (o : Obj) (Jk : List Ent),
      let s' : Sta := { s with t0 := .row, rg := false, J := J, O := o, b := { s.b with told := vS none 0 0, rf := 0, rc := 0 } }
      L'.Perm (blocks s' ++ Jk) ∧ WF s' ∧ ∃ v, y = .tuple #[v, .int .i64 12] := by
  have hH0 := len_s hw
  have hH : 0 < s.b.H := hH0
  obtain ⟨b, hb⟩ : ∃ b : Bs, b = { s.b with n := n, hm := 0, ob := obW [(2, o2 s.b.H 0)] { s with t0 := .row, rg := false, b := { s.b with rf := 0, rc := 0 } } } := ⟨_, rfl⟩
  have hob : ∀ i, fnB (b.ob i) = true := by rw [hb]; exact fn_obW _ (and2 (fn_o2) (rfl))
  have q1 : ((mn 0, O.tb t_s0mr) :: e69).map (deE (DA (s.F) b noN) (xS (s.J) s.O)) = [0, 1, 2, 7, 10, 11, 8, 9].flatMap (kk { { s with t0 := .row, rg := false, b := { s.b with rf := 0, rc := 0 } } with net := s.net, hms := s.hms } [] []) := by
    subst hb
    exact mapEq ⟨rfl, rfl, rfl, rfl, de_row rfl (mid2 hw (by rfl) (len_s hw) (row20 hw)), de_row rfl (all1 hw (by rfl)), rfl, rfl, rfl, rfl, rfl, rfl, rfl, rfl, rfl, trivial⟩
  have htb : AllP (t_s0mr.map (TbOk (tauA b))) := by
    subst hb
    exact ⟨fa0, fa1 hH, fa2 hH, fa3 rfl, trivial⟩
  have hneed : AllP (needE (DA (s.F) b noN) 48 (xS (s.J) s.O) ((mn 0, O.tb t_s0mr) :: e69)) := by
    refine AllP.app.2 ⟨htb, ?_⟩
    refine (show e69 = comE ++ (h0q ++ (rgN ++ ([b33]))) from rfl) ▸ ?_
    rw [needE_app, needE_app, needE_app]
    subst hb
    exact AllP.app.2 ⟨need_com ⟨hw.com.1, hw.com.2⟩ (op_tks hw.com.2) (op2 hw (len_s hw) hw.com.1), AllP.app.2 ⟨need_h0q hw.h0, AllP.app.2 ⟨need_rgN, need_r0 hw.rt⟩⟩⟩
  refine (act_of r_s0mr (by decide +kernel) hob q1 (by subst hb; rfl) (blocks_sel px px [0, 1, 2, 7, 10, 11, 8, 9] [3, 4, 5, 6, 12, 13, 14, 15] (by decide)) hneed trivial hown hnd).mono ?_
  rintro y L' ⟨e, z, Jk, rfl, h2, h3⟩
  generalize hJ : jw [(4, 4), (5, 5), (22, 22), (25, 25), (29, 29)] z s.J = J
  refine ⟨J, (z (mn 0)).2, _, act_fin (s := { s with t0 := .row, rg := false, b := { s.b with rf := 0, rc := 0 } }) (s' := { s with t0 := .row, rg := false, J := J, O := (z (mn 0)).2, b := { s.b with told := vS none 0 0, rf := 0, rc := 0 } }) (net' := s.net) (hms' := s.hms) (xp' := []) (xh' := []) px px [0, 1, 2, 7, 10, 11, 8, 9] [3, 4, 5, 6, 12, 13, 14, 15] (by decide) h2 (by subst hJ; rfl) (post_idx [0, 1, 2, 3, 4, 5, 6, 7, 8, 9, 10, 11, 12, 13, 14] [] (by decide) (by subst hb hJ; exact mapEq ⟨rfl, rfl, rfl, rfl, de_row rfl (mid2 hw (by rfl) (len_s hw) (row20 hw)), de_row rfl (all1 hw (by rfl)), rfl, rfl, rfl, rfl, rfl, rfl, rfl, rfl, rfl, trivial⟩)), ?_, _, rfl⟩
  have g4 := inf_op 4 (mn 4) 2 111 0 s.b.H h3 rfl (by subst hb; rfl) (mid_len (by show 0 * 1 + 0 + 1 ≤ s.b.H * 1; omega))
  have g5 := inf_op 5 (mn 5) 1 50 5 s.b.lL h3 rfl (by subst hb; rfl) (tks_len _ _)
  have g22 := inf_c 8 (mn 22) h3 rfl
  have g25 := inf_c 11 (mn 25) h3 rfl
  have g29 := inf_c 14 (mn 29) h3 rfl
  subst hJ
  exact { hw with com := ⟨g4, g5⟩, h0 := ⟨g22, g25⟩, rt := g29 }
theorem a_s0co {s : Sta} (hw : WF { s with t0 := .cli, rg := true }) (hrc : 0 < s.b.rc) (hv : -9223372036854775808 ≤ s.b.v + s.b.fn ∧ s.b.v + s.b.fn ≤ 9223372036854775807) (hcl : s.b.fcl ≠ 0) (hll : s.b.lL < 990) (n : Int) {w : World} (hown : ∀ p ∈ blocks { s with t0 := .cli, rg := true }, w.heap[p.1]? = some p.2) (hnd : (keys (blocks { s with t0 := .cli, rg := true })).Nodup) :
    Ctr Tryz.prog 8 [.pointer (some ⟨(s.F 1).1, 0, none⟩), actVal 21 0 0 n] w (blocks { s with t0 := .cli, rg := true }) fun y L' => ∃ (F : Nat → Nat × Nat) (J : Nat → List Value) (o : Obj) (tl : V1) (Jk : List Ent),
      let s' : Sta := { s with F := F, t0 := .row, rg := true, J := J, O := o, b := { s.b with v := s.b.v + s.b.fn, lL := s.b.lL + 2, told := tl, rows := updR s.b.rows 1 (s.b.rows 1 ++ (eRun (s.b.v + s.b.fn) s.b.fn ++ eDone s.b.fcl (s.b.v + s.b.fn))) } }
      (F 1).1 = (s.F 1).1 ∧ L'.Perm (blocks s' ++ Jk) ∧ WF s' ∧ ∃ v, y = .tuple #[v, .int .i64 0] := by
  have hH0 := len_s hw
  have hH : 0 < s.b.H := hH0
  obtain ⟨b, hb⟩ : ∃ b : Bs, b = { s.b with n := n, hm := 0, ob := obW [(2, o2 s.b.H 0), (11, o11 s.b.lL 2 [iI 4, iU 4294967297, iI 0, tK 166, tK 28, iI 0, iI 3, tK 29, iI 0, tK 166, iI 0, iI 0])] { s with t0 := .cli, rg := true } } := ⟨_, rfl⟩
  have hob : ∀ i, fnB (b.ob i) = true := by rw [hb]; exact fn_obW _ (and2 (fn_o2) (and2 (fn_o11 rfl) (rfl)))
  have q1 : ((mn 0, O.tb t_s0co) :: e75).map (deE (DA (s.F) b noN) (xS (s.J) s.O)) = [0, 1, 2, 3, 7, 10, 11, 8, 9].flatMap (kk { { s with t0 := .cli, rg := true } with net := s.net, hms := s.hms } [] []) := by
    subst hb
    exact mapEq ⟨rfl, rfl, rfl, rfl, de_row rfl (mid2 hw (by rfl) (len_s hw) (row20 hw)), de_row rfl (all1 hw (by rfl)), rfl, rfl, rfl, rfl, rfl, rfl, rfl, rfl, rfl, rfl, rfl, rfl, rfl, rfl, rfl, rfl, rfl, de_row0 rfl (all7 hw rfl (by rfl)), rfl, rfl, rfl, rfl, rfl, trivial⟩
  have htb : AllP (t_s0co.map (TbOk (tauA b))) := by
    subst hb
    exact ⟨fa0, fa1 hH, fa2 hH, fa3 rfl, fa60 hrc, fa61, fa81 hv, fa82 hcl, fa83 hw.bL rfl rfl rfl, trivial⟩
  have hneed : AllP (needE (DA (s.F) b noN) 48 (xS (s.J) s.O) ((mn 0, O.tb t_s0co) :: e75)) := by
    refine AllP.app.2 ⟨htb, ?_⟩
    refine (show e75 = comE ++ (hp1 ++ (h0t ++ (rgO ++ ((thC ++ frC))))) from rfl) ▸ ?_
    rw [needE_app, needE_app, needE_app, needE_app]
    subst hb
    exact AllP.app.2 ⟨need_com ⟨hw.com.1, hw.com.2⟩ (op_tks hw.com.2) (op2 hw (len_s hw) hw.com.1), AllP.app.2 ⟨need_hp1 hw.hp, AllP.app.2 ⟨need_h0t hw.h0 hw.rt.1, AllP.app.2 ⟨need_rgO (hw.rrg rfl) op_tks0, need_thC hw.rt⟩⟩⟩⟩
  refine (act_of r_s0co (by decide +kernel) hob q1 (by subst hb; rfl) (blocks_sel px px [0, 1, 2, 3, 7, 10, 11, 8, 9] [4, 5, 6, 12, 13, 14, 15] (by decide)) hneed trivial hown hnd).mono ?_
  rintro y L' ⟨e, z, Jk, rfl, h2, h3⟩
  generalize hF : fw [(5, 98)] (s.F) e s.F = F
  generalize hJ : jx 29 [.slice (some ⟨(s.F 30).1, 0, none⟩) 0 1] (jw [(4, 4), (5, 98), (8, 8), (12, 12), (14, 14), (22, 22), (25, 25), (29, 29)] z s.J) = J
  generalize htl : vS (some ⟨(adX (adl (s.F)) e (mn 86)).1, 0, none⟩) 2 (adX (adl (s.F)) e (mn 86)).2 = tl
  refine ⟨F, J, (z (mn 0)).2, tl, _, by subst hF; rfl, act_fin (s := { s with t0 := .cli, rg := true }) (s' := { s with F := F, t0 := .row, rg := true, J := J, O := (z (mn 0)).2, b := { s.b with v := s.b.v + s.b.fn, lL := s.b.lL + 2, told := tl, rows := updR s.b.rows 1 (s.b.rows 1 ++ (eRun (s.b.v + s.b.fn) s.b.fn ++ eDone s.b.fcl (s.b.v + s.b.fn))) } }) (net' := s.net) (hms' := s.hms) (xp' := []) (xh' := []) px px [0, 1, 2, 3, 7, 10, 11, 8, 9] [4, 5, 6, 12, 13, 14, 15] (by decide) h2 (by subst hF hJ htl; rfl) (post_idx [0, 1, 2, 3, 4, 29, 5, 6, 7, 8, 9, 10, 11, 12, 13, 14, 15, 16, 17, 18, 19, 20, 21, 22, 23] [24, 25, 26, 27, 28] (by decide) (by subst hb hF hJ htl; exact mapEq ⟨rfl, rfl, rfl, rfl, de_row rfl (mid2 hw (by rfl) (len_s hw) (row20 hw)), de_row rfl (app1 hw (by rfl) (by rfl)), rfl, rfl, rfl, rfl, rfl, rfl, rfl, rfl, rfl, rfl, rfl, rfl, rfl, rfl, rfl, rfl, rfl, de_row0 rfl (all7 hw rfl (by rfl)), rfl, trivial⟩)), ?_, _, rfl⟩
  have g4 := inf_op 4 (mn 4) 2 111 0 s.b.H h3 rfl (by subst hb; rfl) (mid_len (by show 0 * 1 + 0 + 1 ≤ s.b.H * 1; omega))
  have g8 := inf_c 7 (mn 8) h3 rfl
  have g12 := inf_c 11 (mn 12) h3 rfl
  have g14 := inf_c 13 (mn 14) h3 rfl
  have g22 := inf_c 16 (mn 22) h3 rfl
  have g25 := inf_c 19 (mn 25) h3 rfl
  have g29 := inf_c 23 (mn 29) h3 rfl
  have g5 := inf_op 29 (mn 98) 11 50 5 (s.b.lL + 2) h3 rfl (by subst hb; rfl) (len11 _ _ rfl)
  subst hF hJ htl
  exact { hw with com := ⟨g4, g5⟩, h0 := ⟨g22, g25⟩, hp := ⟨g8, g12, g14, hw.hp.2.2.2⟩, rt := by (have h : 1 + (z (mn 29)).1.length = (s.F 29).2 * 1 := g29); show 0 + ((z (mn 29)).1.length + 1) = (s.F 29).2 * 1; omega, rL := rl_app (k := 2) hw.rL rfl, bL := by show s.b.lL + 2 ≤ 1000; omega }
theorem a_s0cz {s : Sta} (hw : WF { s with t0 := .cli, rg := true }) (hrc : s.b.rc = 0) (hv : -9223372036854775808 ≤ s.b.v + s.b.fn ∧ s.b.v + s.b.fn ≤ 9223372036854775807) (hcl : s.b.fcl ≠ 0) (hll : s.b.lL < 990) (n : Int) {w : World} (hown : ∀ p ∈ blocks { s with t0 := .cli, rg := true }, w.heap[p.1]? = some p.2) (hnd : (keys (blocks { s with t0 := .cli, rg := true })).Nodup) :
    Ctr Tryz.prog 8 [.pointer (some ⟨(s.F 1).1, 0, none⟩), actVal 21 0 0 n] w (blocks { s with t0 := .cli, rg := true }) fun y L' => ∃ (F : Nat → Nat × Nat) (J : Nat → List Value) (o : Obj) (tl : V1) (Jk : List Ent),
      let s' : Sta := { s with F := F, t0 := .row, rg := true, J := J, O := o, b := { s.b with v := s.b.v + s.b.fn, lL := s.b.lL + 2, told := tl, rows := updR s.b.rows 1 (s.b.rows 1 ++ (eRun (s.b.v + s.b.fn) s.b.fn ++ eDone s.b.fcl (s.b.v + s.b.fn))) } }
      (F 1).1 = (s.F 1).1 ∧ L'.Perm (blocks s' ++ Jk) ∧ WF s' ∧ ∃ v, y = .tuple #[v, .int .i64 0] := by
  have hH0 := len_s hw
  have hH : 0 < s.b.H := hH0
  obtain ⟨b, hb⟩ : ∃ b : Bs, b = { s.b with n := n, hm := 0, ob := obW [(2, o2 s.b.H 0), (11, o11 s.b.lL 2 [iI 4, iU 4294967297, iI 0, tK 166, tK 28, iI 0, iI 3, tK 29, iI 0, tK 166, iI 0, iI 0])] { s with t0 := .cli, rg := true } } := ⟨_, rfl⟩
  have hob : ∀ i, fnB (b.ob i) = true := by rw [hb]; exact fn_obW _ (and2 (fn_o2) (and2 (fn_o11 rfl) (rfl)))
  have q1 : ((mn 0, O.tb t_s0cz) :: e75).map (deE (DA (s.F) b noN) (xS (s.J) s.O)) = [0, 1, 2, 3, 7, 10, 11, 8, 9].flatMap (kk { { s with t0 := .cli, rg := true } with net := s.net, hms := s.hms } [] []) := by
    subst hb
    exact mapEq ⟨rfl, rfl, rfl, rfl, de_row rfl (mid2 hw (by rfl) (len_s hw) (row20 hw)), de_row rfl (all1 hw (by rfl)), rfl, rfl, rfl, rfl, rfl, rfl, rfl, rfl, rfl, rfl, rfl, rfl, rfl, rfl, rfl, rfl, rfl, de_row0 rfl (all7 hw rfl (by rfl)), rfl, rfl, rfl, rfl, rfl, trivial⟩
  have htb : AllP (t_s0cz.map (TbOk (tauA b))) := by
    subst hb
    exact ⟨fa0, fa1 hH, fa2 hH, fa3 rfl, fa59 hrc, fa61, fa81 hv, fa82 hcl, fa83 hw.bL rfl rfl rfl, trivial⟩
  have hneed : AllP (needE (DA (s.F) b noN) 48 (xS (s.J) s.O) ((mn 0, O.tb t_s0cz) :: e75)) := by
    refine AllP.app.2 ⟨htb, ?_⟩
    refine (show e75 = comE ++ (hp1 ++ (h0t ++ (rgO ++ ((thC ++ frC))))) from rfl) ▸ ?_
    rw [needE_app, needE_app, needE_app, needE_app]
    subst hb
    exact AllP.app.2 ⟨need_com ⟨hw.com.1, hw.com.2⟩ (op_tks hw.com.2) (op2 hw (len_s hw) hw.com.1), AllP.app.2 ⟨need_hp1 hw.hp, AllP.app.2 ⟨need_h0t hw.h0 hw.rt.1, AllP.app.2 ⟨need_rgO (hw.rrg rfl) op_tks0, need_thC hw.rt⟩⟩⟩⟩
  refine (act_of r_s0cz (by decide +kernel) hob q1 (by subst hb; rfl) (blocks_sel px px [0, 1, 2, 3, 7, 10, 11, 8, 9] [4, 5, 6, 12, 13, 14, 15] (by decide)) hneed trivial hown hnd).mono ?_
  rintro y L' ⟨e, z, Jk, rfl, h2, h3⟩
  generalize hF : fw [(5, 98)] (s.F) e s.F = F
  generalize hJ : jx 29 [.slice (some ⟨(s.F 30).1, 0, none⟩) 0 1] (jw [(4, 4), (5, 98), (8, 8), (12, 12), (14, 14), (22, 22), (25, 25), (29, 29)] z s.J) = J
  generalize htl : vS (some ⟨(adX (adl (s.F)) e (mn 86)).1, 0, none⟩) 2 (adX (adl (s.F)) e (mn 86)).2 = tl
  refine ⟨F, J, (z (mn 0)).2, tl, _, by subst hF; rfl, act_fin (s := { s with t0 := .cli, rg := true }) (s' := { s with F := F, t0 := .row, rg := true, J := J, O := (z (mn 0)).2, b := { s.b with v := s.b.v + s.b.fn, lL := s.b.lL + 2, told := tl, rows := updR s.b.rows 1 (s.b.rows 1 ++ (eRun (s.b.v + s.b.fn) s.b.fn ++ eDone s.b.fcl (s.b.v + s.b.fn))) } }) (net' := s.net) (hms' := s.hms) (xp' := []) (xh' := []) px px [0, 1, 2, 3, 7, 10, 11, 8, 9] [4, 5, 6, 12, 13, 14, 15] (by decide) h2 (by subst hF hJ htl; rfl) (post_idx [0, 1, 2, 3, 4, 29, 5, 6, 7, 8, 9, 10, 11, 12, 13, 14, 15, 16, 17, 18, 19, 20, 21, 22, 23] [24, 25, 26, 27, 28] (by decide) (by subst hb hF hJ htl; exact mapEq ⟨rfl, rfl, rfl, rfl, de_row rfl (mid2 hw (by rfl) (len_s hw) (row20 hw)), de_row rfl (app1 hw (by rfl) (by rfl)), rfl, rfl, rfl, rfl, rfl, rfl, rfl, rfl, rfl, rfl, rfl, rfl, rfl, rfl, rfl, rfl, rfl, de_row0 rfl (all7 hw rfl (by rfl)), rfl, trivial⟩)), ?_, _, rfl⟩
  have g4 := inf_op 4 (mn 4) 2 111 0 s.b.H h3 rfl (by subst hb; rfl) (mid_len (by show 0 * 1 + 0 + 1 ≤ s.b.H * 1; omega))
  have g8 := inf_c 7 (mn 8) h3 rfl
  have g12 := inf_c 11 (mn 12) h3 rfl
  have g14 := inf_c 13 (mn 14) h3 rfl
  have g22 := inf_c 16 (mn 22) h3 rfl
  have g25 := inf_c 19 (mn 25) h3 rfl
  have g29 := inf_c 23 (mn 29) h3 rfl
  have g5 := inf_op 29 (mn 98) 11 50 5 (s.b.lL + 2) h3 rfl (by subst hb; rfl) (len11 _ _ rfl)
  subst hF hJ htl
  exact { hw with com := ⟨g4, g5⟩, h0 := ⟨g22, g25⟩, hp := ⟨g8, g12, g14, hw.hp.2.2.2⟩, rt := by (have h : 1 + (z (mn 29)).1.length = (s.F 29).2 * 1 := g29); show 0 + ((z (mn 29)).1.length + 1) = (s.F 29).2 * 1; omega, rL := rl_app (k := 2) hw.rL rfl, bL := by show s.b.lL + 2 ≤ 1000; omega }
theorem a_s0cn {s : Sta} (hw : WF { s with t0 := .cli, rg := false, b := { s.b with rf := 0, rc := 0 } }) (hv : -9223372036854775808 ≤ s.b.v + s.b.fn ∧ s.b.v + s.b.fn ≤ 9223372036854775807) (hcl : s.b.fcl ≠ 0) (hll : s.b.lL < 990) (n : Int) {w : World} (hown : ∀ p ∈ blocks { s with t0 := .cli, rg := false, b := { s.b with rf := 0, rc := 0 } }, w.heap[p.1]? = some p.2) (hnd : (keys (blocks { s with t0 := .cli, rg := false, b := { s.b with rf := 0, rc := 0 } })).Nodup) :
    Ctr Tryz.prog 8 [.pointer (some ⟨(s.F 1).1, 0, none⟩), actVal 21 0 0 n] w (blocks { s with t0 := .cli, rg := false, b := { s.b with rf := 0, rc := 0 } }) fun y L' => ∃ (F : Nat → Nat × Nat) (J : Nat → List Value) (o : Obj) (tl : V1) (Jk : List Ent),
      let s' : Sta := { s with F := F, t0 := .row, rg := false, J := J, O := o, b := { s.b with v := s.b.v + s.b.fn, lL := s.b.lL + 2, told := tl, rows := updR s.b.rows 1 (s.b.rows 1 ++ (eRun (s.b.v + s.b.fn) s.b.fn ++ eDone s.b.fcl (s.b.v + s.b.fn))), rf := 0, rc := 0 } }
      (F 1).1 = (s.F 1).1 ∧ L'.Perm (blocks s' ++ Jk) ∧ WF s' ∧ ∃ v, y = .tuple #[v, .int .i64 0] := by
  have hH0 := len_s hw
  have hH : 0 < s.b.H := hH0
  obtain ⟨b, hb⟩ : ∃ b : Bs, b = { s.b with n := n, hm := 0, ob := obW [(2, o2 s.b.H 0), (11, o11 s.b.lL 2 [iI 4, iU 4294967297, iI 0, tK 166, tK 28, iI 0, iI 3, tK 29, iI 0, tK 166, iI 0, iI 0])] { s with t0 := .cli, rg := false, b := { s.b with rf := 0, rc := 0 } } } := ⟨_, rfl⟩
  have hob : ∀ i, fnB (b.ob i) = true := by rw [hb]; exact fn_obW _ (and2 (fn_o2) (and2 (fn_o11 rfl) (rfl)))
  have q1 : ((mn 0, O.tb t_s0cn) :: e77).map (deE (DA (s.F) b noN) (xS (s.J) s.O)) = [0, 1, 2, 3, 7, 10, 11, 8, 9].flatMap (kk { { s with t0 := .cli, rg := false, b := { s.b with rf := 0, rc := 0 } } with net := s.net, hms := s.hms } [] []) := by
    subst hb
    exact mapEq ⟨rfl, rfl, rfl, rfl, de_row rfl (mid2 hw (by rfl) (len_s hw) (row20 hw)), de_row rfl (all1 hw (by rfl)), rfl, rfl, rfl, rfl, rfl, rfl, rfl, rfl, rfl, rfl, rfl, rfl, rfl, rfl, rfl, rfl, rfl, rfl, rfl, rfl, rfl, rfl, trivial⟩
  have htb : AllP (t_s0cn.map (TbOk (tauA b))) := by
    subst hb
    exact ⟨fa0, fa1 hH, fa2 hH, fa3 rfl, fa61, fa81 hv, fa82 hcl, fa83 hw.bL rfl rfl rfl, trivial⟩
  have hneed : AllP (needE (DA (s.F) b noN) 48 (xS (s.J) s.O) ((mn 0, O.tb t_s0cn) :: e77)) := by
    refine AllP.app.2 ⟨htb, ?_⟩
    refine (show e77 = comE ++ (hp1 ++ (h0t ++ (rgN ++ ((thC ++ frC))))) from rfl) ▸ ?_
    rw [needE_app, needE_app, needE_app, needE_app]
    subst hb
    exact AllP.app.2 ⟨need_com ⟨hw.com.1, hw.com.2⟩ (op_tks hw.com.2) (op2 hw (len_s hw) hw.com.1), AllP.app.2 ⟨need_hp1 hw.hp, AllP.app.2 ⟨need_h0t hw.h0 hw.rt.1, AllP.app.2 ⟨need_rgN, need_thC hw.rt⟩⟩⟩⟩
  refine (act_of r_s0cn (by decide +kernel) hob q1 (by subst hb; rfl) (blocks_sel px px [0, 1, 2, 3, 7, 10, 11, 8, 9] [4, 5, 6, 12, 13, 14, 15] (by decide)) hneed trivial hown hnd).mono ?_
  rintro y L' ⟨e, z, Jk, rfl, h2, h3⟩
  generalize hF : fw [(5, 98)] (s.F) e s.F = F
  generalize hJ : jx 29 [.slice (some ⟨(s.F 30).1, 0, none⟩) 0 1] (jw [(4, 4), (5, 98), (8, 8), (12, 12), (14, 14), (22, 22), (25, 25), (29, 29)] z s.J) = J
  generalize htl : vS (some ⟨(adX (adl (s.F)) e (mn 86)).1, 0, none⟩) 2 (adX (adl (s.F)) e (mn 86)).2 = tl
  refine ⟨F, J, (z (mn 0)).2, tl, _, by subst hF; rfl, act_fin (s := { s with t0 := .cli, rg := false, b := { s.b with rf := 0, rc := 0 } }) (s' := { s with F := F, t0 := .row, rg := false, J := J, O := (z (mn 0)).2, b := { s.b with v := s.b.v + s.b.fn, lL := s.b.lL + 2, told := tl, rows := updR s.b.rows 1 (s.b.rows 1 ++ (eRun (s.b.v + s.b.fn) s.b.fn ++ eDone s.b.fcl (s.b.v + s.b.fn))), rf := 0, rc := 0 } }) (net' := s.net) (hms' := s.hms) (xp' := []) (xh' := []) px px [0, 1, 2, 3, 7, 10, 11, 8, 9] [4, 5, 6, 12, 13, 14, 15] (by decide) h2 (by subst hF hJ htl; rfl) (post_idx [0, 1, 2, 3, 4, 28, 5, 6, 7, 8, 9, 10, 11, 12, 13, 14, 15, 16, 17, 18, 19, 20, 21, 22] [23, 24, 25, 26, 27] (by decide) (by subst hb hF hJ htl; exact mapEq ⟨rfl, rfl, rfl, rfl, de_row rfl (mid2 hw (by rfl) (len_s hw) (row20 hw)), de_row rfl (app1 hw (by rfl) (by rfl)), rfl, rfl, rfl, rfl, rfl, rfl, rfl, rfl, rfl, rfl, rfl, rfl, rfl, rfl, rfl, rfl, rfl, rfl, trivial⟩)), ?_, _, rfl⟩
  have g4 := inf_op 4 (mn 4) 2 111 0 s.b.H h3 rfl (by subst hb; rfl) (mid_len (by show 0 * 1 + 0 + 1 ≤ s.b.H * 1; omega))
  have g8 := inf_c 7 (mn 8) h3 rfl
  have g12 := inf_c 11 (mn 12) h3 rfl
  have g14 := inf_c 13 (mn 14) h3 rfl
  have g22 := inf_c 16 (mn 22) h3 rfl
  have g25 := inf_c 19 (mn 25) h3 rfl
  have g29 := inf_c 22 (mn 29) h3 rfl
  have g5 := inf_op 28 (mn 98) 11 50 5 (s.b.lL + 2) h3 rfl (by subst hb; rfl) (len11 _ _ rfl)
  subst hF hJ htl
  exact { hw with com := ⟨g4, g5⟩, h0 := ⟨g22, g25⟩, hp := ⟨g8, g12, g14, hw.hp.2.2.2⟩, rt := by (have h : 1 + (z (mn 29)).1.length = (s.F 29).2 * 1 := g29); show 0 + ((z (mn 29)).1.length + 1) = (s.F 29).2 * 1; omega, rL := rl_app (k := 2) hw.rL rfl, bL := by show s.b.lL + 2 ≤ 1000; omega }
theorem a_s0dn {s : Sta} {fr sq cl : Nat} {m : Int} (hw : WF { s with t0 := .nil, rg := true }) (hrc : 0 < s.b.rc) (hrc2 : s.b.rc < 1000) (hrf : s.b.rf < s.b.lQ) (hq : ((s.b.rows 7).drop (s.b.rf * 25 + 0)).take 25 = qV fr sq cl m) (n : Int) {w : World} (hown : ∀ p ∈ blocks { s with t0 := .nil, rg := true }, w.heap[p.1]? = some p.2) (hnd : (keys (blocks { s with t0 := .nil, rg := true })).Nodup) :
    Ctr Tryz.prog 8 [.pointer (some ⟨(s.F 1).1, 0, none⟩), actVal 21 0 0 n] w (blocks { s with t0 := .nil, rg := true }) fun y L' => ∃ (F : Nat → Nat × Nat) (J : Nat → List Value) (o : Obj) (Jk : List Ent),
      let s' : Sta := { s with F := F, t0 := .bak, rg := true, J := J, O := o, b := { s.b with told := vS none 0 0, rf := (s.b.rf + 1) % s.b.lQ, rc := s.b.rc - 1, bfr := fr, bseq := sq, bcall := cl, bn := m, rows := updR s.b.rows 7 (setR (s.b.rows 7) (s.b.rf * 25 + 0) zV) } }
      (F 1).1 = (s.F 1).1 ∧ L'.Perm (blocks s' ++ Jk) ∧ WF s' ∧ ∃ v, y = .tuple #[v, .int .i64 0] := by
  have hH0 := len_s hw
  have hH : 0 < s.b.H := hH0
  have hlQ : 0 < s.b.lQ := by omega
  have hQ12 : s.b.lQ ≤ 12 := hw.bQ
  have h1000 : s.b.rf < 1000 := by omega
  obtain ⟨b, hb⟩ : ∃ b : Bs, b = { s.b with n := n, hm := 0, bfr := fr, bseq := sq, bcall := cl, bn := m, ob := obW [(2, o2 s.b.H 0), (7, oQ s.b.lQ s.b.rf pkS), (17, oQ s.b.lQ s.b.rf zS)] { s with t0 := .nil, rg := true } } := ⟨_, rfl⟩
  have hob : ∀ i, fnB (b.ob i) = true := by rw [hb]; exact fn_obW _ (and2 (fn_o2) (and2 (fn_mid rfl) (and2 (fn_mid rfl) (rfl))))
  have q1 : ((mn 0, O.tb t_s0dn) :: e65).map (deE (DA (s.F) b noN) (xS (s.J) s.O)) = [0, 1, 2, 3, 7, 10, 11, 8, 9].flatMap (kk { { s with t0 := .nil, rg := true } with net := s.net, hms := s.hms } [] []) := by
    subst hb
    exact mapEq ⟨rfl, rfl, rfl, rfl, de_row rfl (mid2 hw (by rfl) (len_s hw) (row20 hw)), de_row rfl (all1 hw (by rfl)), rfl, rfl, rfl, rfl, rfl, rfl, rfl, rfl, rfl, rfl, rfl, rfl, rfl, rfl, rfl, rfl, rfl, de_row0 rfl (midq hw rfl (by rfl) hrf (by show _ = vals (((s.b.rows 7).drop (s.b.rf * 25 + 0)).take 25); rw [hq]; rfl)), trivial⟩
  have htb : AllP (t_s0dn.map (TbOk (tauA b))) := by
    subst hb
    exact ⟨fa0, fa1 hH, fa2 hH, fa3 rfl, fa60 hrc, fa61, fa62 hrc, fa63 h1000, fa64 hlQ, fa65 hlQ, fa66 hrf rfl, fa67 hrf, fa68 rfl rfl, fa69 h1000, fa70 hlQ, fa71 hrc hrc2, trivial⟩
  have hneed : AllP (needE (DA (s.F) b noN) 48 (xS (s.J) s.O) ((mn 0, O.tb t_s0dn) :: e65)) := by
    refine AllP.app.2 ⟨htb, ?_⟩
    refine (show e65 = comE ++ (hp0 ++ (h0n ++ (rgO))) from rfl) ▸ ?_
    rw [needE_app, needE_app, needE_app]
    subst hb
    exact AllP.app.2 ⟨need_com ⟨hw.com.1, hw.com.2⟩ (op_tks hw.com.2) (op2 hw (len_s hw) hw.com.1), AllP.app.2 ⟨need_hp0 hw.hp, AllP.app.2 ⟨need_h0n hw.h0, need_rgO (hw.rrg rfl) (opQ hrf pkS_ok rfl)⟩⟩⟩
  refine (act_of r_s0dn (by decide +kernel) hob q1 (by subst hb; rfl) (blocks_sel px px [0, 1, 2, 3, 7, 10, 11, 8, 9] [4, 5, 6, 12, 13, 14, 15] (by decide)) hneed trivial hown hnd).mono ?_
  rintro y L' ⟨e, z, Jk, rfl, h2, h3⟩
  generalize hF : fw [(29, 137), (30, 135), (31, 133), (38, 128), (39, 127)] (s.F) e s.F = F
  generalize hJ : jw [(4, 4), (5, 5), (8, 8), (12, 12), (14, 14), (22, 22), (25, 25), (29, 137), (39, 127)] z s.J = J
  refine ⟨F, J, (z (mn 0)).2, _, by subst hF; rfl, act_fin (s := { s with t0 := .nil, rg := true }) (s' := { s with F := F, t0 := .bak, rg := true, J := J, O := (z (mn 0)).2, b := { s.b with told := vS none 0 0, rf := (s.b.rf + 1) % s.b.lQ, rc := s.b.rc - 1, bfr := fr, bseq := sq, bcall := cl, bn := m, rows := updR s.b.rows 7 (setR (s.b.rows 7) (s.b.rf * 25 + 0) zV) } }) (net' := s.net) (hms' := s.hms) (xp' := []) (xh' := []) px px [0, 1, 2, 3, 7, 10, 11, 8, 9] [4, 5, 6, 12, 13, 14, 15] (by decide) h2 (by subst hF hJ; rfl) (post_idx [0, 1, 2, 3, 4, 5, 6, 7, 8, 9, 10, 11, 12, 13, 14, 15, 16, 17, 18, 19, 20, 21, 22, 23, 28, 27, 26, 25, 24] [] (by decide) (by subst hb hF hJ; exact mapEq ⟨rfl, rfl, rfl, rfl, de_row rfl (mid2 hw (by rfl) (len_s hw) (row20 hw)), de_row rfl (all1 hw (by rfl)), rfl, rfl, rfl, rfl, rfl, rfl, rfl, rfl, rfl, rfl, rfl, rfl, rfl, rfl, rfl, rfl, rfl, de_row0 rfl (midz hw rfl (by rfl) hrf rfl (by rfl)), rfl, rfl, rfl, rfl, rfl, trivial⟩)), ?_, _, rfl⟩
  have g4 := inf_op 4 (mn 4) 2 111 0 s.b.H h3 rfl (by subst hb; rfl) (mid_len (by show 0 * 1 + 0 + 1 ≤ s.b.H * 1; omega))
  have g5 := inf_op 5 (mn 5) 1 50 5 s.b.lL h3 rfl (by subst hb; rfl) (tks_len _ _)
  have g8 := inf_c 8 (mn 8) h3 rfl
  have g12 := inf_c 12 (mn 12) h3 rfl
  have g14 := inf_c 14 (mn 14) h3 rfl
  have g22 := inf_c 17 (mn 22) h3 rfl
  have g25 := inf_c 20 (mn 25) h3 rfl
  have g39 := inf_c 24 (mn 127) h3 rfl
  have g29 := inf_c 28 (mn 137) h3 rfl
  subst hF hJ
  exact { hw with com := ⟨g4, g5⟩, h0 := ⟨g22, g25⟩, hp := ⟨g8, g12, g14, hw.hp.2.2.2⟩, rt := ⟨g29, g39⟩, rN := fun (h : true = false) => (by cases h), rQ := fun _ => by (show (setR (s.b.rows 7) _ _).length = _; have h7 : (s.b.rows 7).length = s.b.lQ * 25 := hw.rQ rfl; rw [setR_len (by show s.b.rf * 25 + 0 + 25 ≤ _; omega)]; exact h7) }
theorem a_s0dr {s : Sta} {fr sq cl : Nat} {m : Int} (hw : WF { s with t0 := .row, rg := true }) (hrc : 0 < s.b.rc) (hrc2 : s.b.rc < 1000) (hrf : s.b.rf < s.b.lQ) (hq : ((s.b.rows 7).drop (s.b.rf * 25 + 0)).take 25 = qV fr sq cl m) (n : Int) {w : World} (hown : ∀ p ∈ blocks { s with t0 := .row, rg := true }, w.heap[p.1]? = some p.2) (hnd : (keys (blocks { s with t0 := .row, rg := true })).Nodup) :
    Ctr Tryz.prog 8 [.pointer (some ⟨(s.F 1).1, 0, none⟩), actVal 21 0 0 n] w (blocks { s with t0 := .row, rg := true }) fun y L' => ∃ (F : Nat → Nat × Nat) (J : Nat → List Value) (o : Obj) (Jk : List Ent),
      let s' : Sta := { s with F := F, t0 := .bak, rg := true, J := J, O := o, b := { s.b with told := vS none 0 0, rf := (s.b.rf + 1) % s.b.lQ, rc := s.b.rc - 1, bfr := fr, bseq := sq, bcall := cl, bn := m, rows := updR s.b.rows 7 (setR (s.b.rows 7) (s.b.rf * 25 + 0) zV) } }
      (F 1).1 = (s.F 1).1 ∧ L'.Perm (blocks s' ++ Jk) ∧ WF s' ∧ ∃ v, y = .tuple #[v, .int .i64 0] := by
  have hH0 := len_s hw
  have hH : 0 < s.b.H := hH0
  have hlQ : 0 < s.b.lQ := by omega
  have hQ12 : s.b.lQ ≤ 12 := hw.bQ
  have h1000 : s.b.rf < 1000 := by omega
  obtain ⟨b, hb⟩ : ∃ b : Bs, b = { s.b with n := n, hm := 0, bfr := fr, bseq := sq, bcall := cl, bn := m, ob := obW [(2, o2 s.b.H 0), (7, oQ s.b.lQ s.b.rf pkS), (17, oQ s.b.lQ s.b.rf zS)] { s with t0 := .row, rg := true } } := ⟨_, rfl⟩
  have hob : ∀ i, fnB (b.ob i) = true := by rw [hb]; exact fn_obW _ (and2 (fn_o2) (and2 (fn_mid rfl) (and2 (fn_mid rfl) (rfl))))
  have q1 : ((mn 0, O.tb t_s0dr) :: e71).map (deE (DA (s.F) b noN) (xS (s.J) s.O)) = [0, 1, 2, 3, 7, 10, 11, 8, 9].flatMap (kk { { s with t0 := .row, rg := true } with net := s.net, hms := s.hms } [] []) := by
    subst hb
    exact mapEq ⟨rfl, rfl, rfl, rfl, de_row rfl (mid2 hw (by rfl) (len_s hw) (row20 hw)), de_row rfl (all1 hw (by rfl)), rfl, rfl, rfl, rfl, rfl, rfl, rfl, rfl, rfl, rfl, rfl, rfl, rfl, rfl, rfl, rfl, rfl, de_row0 rfl (midq hw rfl (by rfl) hrf (by show _ = vals (((s.b.rows 7).drop (s.b.rf * 25 + 0)).take 25); rw [hq]; rfl)), rfl, trivial⟩
  have htb : AllP (t_s0dr.map (TbOk (tauA b))) := by
    subst hb
    exact ⟨fa0, fa1 hH, fa2 hH, fa3 rfl, fa60 hrc, fa61, fa62 hrc, fa63 h1000, fa64 hlQ, fa65 hlQ, fa66 hrf rfl, fa67 hrf, fa68 rfl rfl, fa69 h1000, fa70 hlQ, fa71 hrc hrc2, trivial⟩
  have hneed : AllP (needE (DA (s.F) b noN) 48 (xS (s.J) s.O) ((mn 0, O.tb t_s0dr) :: e71)) := by
    refine AllP.app.2 ⟨htb, ?_⟩
    refine (show e71 = comE ++ (hp0 ++ (h0q ++ (rgO ++ ([b33])))) from rfl) ▸ ?_
    rw [needE_app, needE_app, needE_app, needE_app]
    subst hb
    exact AllP.app.2 ⟨need_com ⟨hw.com.1, hw.com.2⟩ (op_tks hw.com.2) (op2 hw (len_s hw) hw.com.1), AllP.app.2 ⟨need_hp0 hw.hp, AllP.app.2 ⟨need_h0q hw.h0, AllP.app.2 ⟨need_rgO (hw.rrg rfl) (opQ hrf pkS_ok rfl), need_r0 hw.rt⟩⟩⟩⟩
  refine (act_of r_s0dr (by decide +kernel) hob q1 (by subst hb; rfl) (blocks_sel px px [0, 1, 2, 3, 7, 10, 11, 8, 9] [4, 5, 6, 12, 13, 14, 15] (by decide)) hneed trivial hown hnd).mono ?_
  rintro y L' ⟨e, z, Jk, rfl, h2, h3⟩
  generalize hF : fw [(29, 137), (30, 135), (31, 133), (38, 128), (39, 127)] (s.F) e s.F = F
  generalize hJ : jw [(4, 4), (5, 5), (8, 8), (12, 12), (14, 14), (22, 22), (25, 25), (29, 137), (39, 127)] z s.J = J
  refine ⟨F, J, (z (mn 0)).2, _, by subst hF; rfl, act_fin (s := { s with t0 := .row, rg := true }) (s' := { s with F := F, t0 := .bak, rg := true, J := J, O := (z (mn 0)).2, b := { s.b with told := vS none 0 0, rf := (s.b.rf + 1) % s.b.lQ, rc := s.b.rc - 1, bfr := fr, bseq := sq, bcall := cl, bn := m, rows := updR s.b.rows 7 (setR (s.b.rows 7) (s.b.rf * 25 + 0) zV) } }) (net' := s.net) (hms' := s.hms) (xp' := []) (xh' := []) px px [0, 1, 2, 3, 7, 10, 11, 8, 9] [4, 5, 6, 12, 13, 14, 15] (by decide) h2 (by subst hF hJ; rfl) (post_idx [0, 1, 2, 3, 4, 5, 6, 7, 8, 9, 10, 11, 12, 13, 14, 15, 16, 17, 18, 19, 20, 21, 22, 23, 28, 27, 26, 25, 24] [] (by decide) (by subst hb hF hJ; exact mapEq ⟨rfl, rfl, rfl, rfl, de_row rfl (mid2 hw (by rfl) (len_s hw) (row20 hw)), de_row rfl (all1 hw (by rfl)), rfl, rfl, rfl, rfl, rfl, rfl, rfl, rfl, rfl, rfl, rfl, rfl, rfl, rfl, rfl, rfl, rfl, de_row0 rfl (midz hw rfl (by rfl) hrf rfl (by rfl)), rfl, rfl, rfl, rfl, rfl, trivial⟩)), ?_, _, rfl⟩
  have g4 := inf_op 4 (mn 4) 2 111 0 s.b.H h3 rfl (by subst hb; rfl) (mid_len (by show 0 * 1 + 0 + 1 ≤ s.b.H * 1; omega))
  have g5 := inf_op 5 (mn 5) 1 50 5 s.b.lL h3 rfl (by subst hb; rfl) (tks_len _ _)
  have g8 := inf_c 8 (mn 8) h3 rfl
  have g12 := inf_c 12 (mn 12) h3 rfl
  have g14 := inf_c 14 (mn 14) h3 rfl
  have g22 := inf_c 17 (mn 22) h3 rfl
  have g25 := inf_c 20 (mn 25) h3 rfl
  have g39 := inf_c 24 (mn 127) h3 rfl
  have g29 := inf_c 28 (mn 137) h3 rfl
  subst hF hJ
  exact { hw with com := ⟨g4, g5⟩, h0 := ⟨g22, g25⟩, hp := ⟨g8, g12, g14, hw.hp.2.2.2⟩, rt := ⟨g29, g39⟩, rN := fun (h : true = false) => (by cases h), rQ := fun _ => by (show (setR (s.b.rows 7) _ _).length = _; have h7 : (s.b.rows 7).length = s.b.lQ * 25 := hw.rQ rfl; rw [setR_len (by show s.b.rf * 25 + 0 + 25 ≤ _; omega)]; exact h7) }
end Go.Proofs.YtpcdcemcjbeajaaGreatDoor
end
section
set_option maxHeartbeats 400000
set_option linter.unusedVariables false
set_option linter.unusedSimpArgs false
set_option maxRecDepth 100000
namespace Go.Proofs.YtpcdcemcjbeajaaGreatDoor
open Go Go.RowKit Go.Shelf
theorem a_s0ba {s : Sta} (hw : WF { s with t0 := .bak, nr := true, rg := true }) (hrc : 0 < s.b.rc) (hs : look 0 s.b.bfr s.sent = none) (hp : PkB 0 s.b.bfr (1) s.b.bcall (s.b.v + s.b.bn)) (hv : -9223372036854775808 ≤ s.b.v + s.b.bn ∧ s.b.v + s.b.bn ≤ 9223372036854775807) (hll : s.b.lL < 990) (hb12 : s.net.length < 12) (n : Int) {w : World} (hown : ∀ p ∈ blocks { s with t0 := .bak, nr := true, rg := true }, w.heap[p.1]? = some p.2) (hnd : (keys (blocks { s with t0 := .bak, nr := true, rg := true })).Nodup) :
    Ctr Tryz.prog 8 [.pointer (some ⟨(s.F 1).1, 0, none⟩), actVal 21 0 0 n] w (blocks { s with t0 := .bak, nr := true, rg := true }) fun y L' => ∃ (F : Nat → Nat × Nat) (J : Nat → List Value) (o : Obj) (tl : V1) (pb : Nat) (pc : Nat) (pj : List Value) (Jk : List Ent),
      let s' : Sta := { s with F := F, t0 := .row, nr := true, rg := true, net := s.net ++ [⟨pb, pc, pj, 2, 0, s.b.bfr, 1, s.b.bcall, s.b.v + s.b.bn⟩], sent := s.sent ++ [(0, s.b.bfr, 1, s.sck)], sck := s.sck + 1, J := J, O := o, b := { s.b with v := s.b.v + s.b.bn, lL := s.b.lL + 1, lR := s.b.lR + 1, told := tl, rows := updR (updR s.b.rows 1 (s.b.rows 1 ++ eRun (s.b.v + s.b.bn) s.b.bn)) 3 (s.b.rows 3 ++ [Pk.slice ⟨pb, pc, pj, 2, 0, s.b.bfr, 1, s.b.bcall, s.b.v + s.b.bn⟩]) } }
      (F 1).1 = (s.F 1).1 ∧ L'.Perm (blocks s' ++ Jk) ∧ WF s' ∧ ∃ v, y = .tuple #[v, .int .i64 0] := by
  have hH0 := len_s hw
  have hH : 0 < s.b.H := hH0
  have hlR : s.b.lR = s.net.length := hw.lR
  have hnR0 := rnetR hw rfl
  have hnR : s.b.lR ≤ (s.F 16).2 := hnR0
  obtain ⟨b, hb⟩ : ∃ b : Bs, b = { s.b with n := n, hm := 0, ob := obW [(2, o2 s.b.H 0), (11, o11 s.b.lL 1 [iI 4, iU 4294967297, iI 0, tK 148, tK 33, iI 0]), (13, o13 s.b.lR [rL 88 40]), (14, .m ((s.sent ++ [(0, s.b.bfr, 1, s.sck)]).map sentS) (s.sck + 1))] { s with t0 := .bak, nr := true, rg := true } } := ⟨_, rfl⟩
  have hob : ∀ i, fnB (b.ob i) = true := by rw [hb]; exact fn_obW _ (and2 (fn_o2) (and2 (fn_o11 rfl) (and2 (fn_ap rfl) (and2 (fn_sent _ _) (rfl)))))
  have q1 : ((mn 0, O.tb t_s0ba) :: e72).map (deE (DA (s.F) b noN) (xS (s.J) s.O)) = [0, 1, 2, 3, 4, 5, 6, 7, 10, 11, 8, 9, 14].flatMap (kk { { s with t0 := .bak, nr := true, rg := true } with net := s.net, hms := s.hms } [] []) := by
    subst hb
    exact mapEq ⟨rfl, rfl, rfl, rfl, de_row rfl (mid2 hw (by rfl) (len_s hw) (row20 hw)), de_row rfl (all1 hw (by rfl)), rfl, rfl, rfl, rfl, rfl, rfl, rfl, rfl, rfl, rfl, de_row rfl (all3 hw (by rfl)), de_sent rfl, de_came rfl, rfl, rfl, rfl, rfl, rfl, rfl, rfl, rfl, de_row0 rfl (all7 hw rfl (by rfl)), rfl, rfl, rfl, rfl, rfl, trivial⟩
  have htb : AllP (t_s0ba.map (TbOk (tauA b))) := by
    subst hb
    exact ⟨fa0, fa1 hH, fa2 hH, fa3 rfl, fa60 hrc, fa61, fa72 hv, lkN rfl rfl rfl hs, fa74 hp, fa12 (by show s.b.lR < 4096; omega), fa75 (by show s.b.lR ≤ 1000; omega) rfl rfl rfl, upN rfl rfl rfl hs rfl, fa5 hw.bL rfl rfl rfl, trivial⟩
  have hneed : AllP (needE (DA (s.F) b noN) 48 (xS (s.J) s.O) ((mn 0, O.tb t_s0ba) :: e72)) := by
    refine AllP.app.2 ⟨htb, ?_⟩
    refine (show e72 = comE ++ (hp1 ++ (netR ++ (h0t ++ (rgO ++ ((thB ++ frB)))))) from rfl) ▸ ?_
    rw [needE_app, needE_app, needE_app, needE_app, needE_app]
    subst hb
    exact AllP.app.2 ⟨need_com ⟨hw.com.1, hw.com.2⟩ (op_tks hw.com.2) (op2 hw (len_s hw) hw.com.1), AllP.app.2 ⟨need_hp1 hw.hp, AllP.app.2 ⟨need_netR hnR (op_tks (hw.rnet rfl)) op_sent op_came, AllP.app.2 ⟨need_h0t hw.h0 hw.rt.1, AllP.app.2 ⟨need_rgO (hw.rrg rfl) op_tks0, need_thB hw.rt⟩⟩⟩⟩⟩
  refine (act_of r_s0ba (by decide +kernel) hob q1 (by subst hb; rfl) (blocks_sel px px [0, 1, 2, 3, 4, 5, 6, 7, 10, 11, 8, 9, 14] [12, 13, 15] (by decide)) hneed trivial hown hnd).mono ?_
  rintro y L' ⟨e, z, Jk, rfl, h2, h3⟩
  generalize hF : fw [(5, 104), (16, 91)] (s.F) e s.F = F
  generalize hJ : jx 29 [.slice (some ⟨(s.F 30).1, 0, none⟩) 0 1] (jw [(4, 4), (5, 104), (8, 8), (12, 12), (14, 14), (16, 91), (22, 22), (25, 25), (29, 29), (88, 88)] z s.J) = J
  generalize htl : vS (some ⟨(adX (adl (s.F)) e (mn 82)).1, 0, none⟩) 1 (adX (adl (s.F)) e (mn 82)).2 = tl
  generalize hpb : (adX (adl s.F) e (mn 88)).1 = pb
  generalize hpc : (adX (adl s.F) e (mn 88)).2 = pc
  generalize hpj : (z (mn 88)).1 = pj
  refine ⟨F, J, (z (mn 0)).2, tl, pb, pc, pj, _, by subst hF; rfl, act_fin (s := { s with t0 := .bak, nr := true, rg := true }) (s' := { s with F := F, t0 := .row, nr := true, rg := true, net := s.net ++ [⟨pb, pc, pj, 2, 0, s.b.bfr, 1, s.b.bcall, s.b.v + s.b.bn⟩], sent := s.sent ++ [(0, s.b.bfr, 1, s.sck)], sck := s.sck + 1, J := J, O := (z (mn 0)).2, b := { s.b with v := s.b.v + s.b.bn, lL := s.b.lL + 1, lR := s.b.lR + 1, told := tl, rows := updR (updR s.b.rows 1 (s.b.rows 1 ++ eRun (s.b.v + s.b.bn) s.b.bn)) 3 (s.b.rows 3 ++ [Pk.slice ⟨pb, pc, pj, 2, 0, s.b.bfr, 1, s.b.bcall, s.b.v + s.b.bn⟩]) } }) (net' := s.net) (hms' := s.hms) (xp' := [⟨pb, pc, pj, 2, 0, s.b.bfr, 1, s.b.bcall, s.b.v + s.b.bn⟩]) (xh' := []) (List.Perm.refl _) px [0, 1, 2, 3, 4, 5, 6, 7, 10, 11, 8, 9, 14] [12, 13, 15] (by decide) h2 (by subst hF hJ htl hpb hpc hpj; rfl) (post_idx [0, 1, 2, 3, 4, 34, 5, 6, 7, 8, 9, 10, 11, 12, 13, 14, 33, 15, 16, 17, 18, 19, 20, 21, 22, 23, 24, 25, 26, 32] [27, 28, 29, 30, 31] (by decide) (by subst hb hF hJ htl hpb hpc hpj; exact mapEq ⟨rfl, rfl, rfl, rfl, de_row rfl (mid2 hw (by rfl) (len_s hw) (row20 hw)), de_row rfl (app1 hw (by rfl) (by rfl)), rfl, rfl, rfl, rfl, rfl, rfl, rfl, rfl, rfl, rfl, de_row rfl (app3 hw (by rfl) (by rfl)), de_sent rfl, de_came rfl, rfl, rfl, rfl, rfl, rfl, rfl, rfl, rfl, de_row0 rfl (all7 hw rfl (by rfl)), rfl, de_pk2 rfl, trivial⟩)), ?_, _, rfl⟩
  have g4 := inf_op 4 (mn 4) 2 111 0 s.b.H h3 rfl (by subst hb; rfl) (mid_len (by show 0 * 1 + 0 + 1 ≤ s.b.H * 1; omega))
  have g8 := inf_c 7 (mn 8) h3 rfl
  have g12 := inf_c 11 (mn 12) h3 rfl
  have g14 := inf_c 13 (mn 14) h3 rfl
  have g22 := inf_c 19 (mn 22) h3 rfl
  have g25 := inf_c 22 (mn 25) h3 rfl
  have g29 := inf_c 26 (mn 29) h3 rfl
  have g88 := inf_c 32 (mn 88) h3 rfl
  have g16 := inf_op 33 (mn 91) 13 161 0 (s.b.lR + 1) h3 rfl (by subst hb; rfl) (len13 _ rfl)
  have g5 := inf_op 34 (mn 104) 11 50 5 (s.b.lL + 1) h3 rfl (by subst hb; rfl) (len11 _ _ rfl)
  subst hF hJ htl hpb hpc hpj
  exact { hw with com := ⟨g4, g5⟩, h0 := ⟨g22, g25⟩, hp := ⟨g8, g12, g14, hw.hp.2.2.2⟩, rt := by (have h : 1 + (z (mn 29)).1.length = (s.F 29).2 * 1 := g29); show 0 + ((z (mn 29)).1.length + 1) = (s.F 29).2 * 1; omega, rL := rl_app (k := 1) hw.rL rfl, bL := by show s.b.lL + 1 ≤ 1000; omega, rnet := fun _ => g16, rR := rR_app hw _, lR := by (show s.b.lR + 1 = (s.net ++ [_]).length); rw [List.length_append, hlR]; rfl, bR := by (show (s.net ++ [_]).length ≤ 12); rw [List.length_append]; show s.net.length + 1 ≤ 12; omega, nR := fun (h : true = false) => (by cases h), rP := rP_app hw (by (have h : 40 + (z (mn 88)).1.length = (adX (adl s.F) e (mn 88)).2 * 1 := g88); show 40 + (z (mn 88)).1.length = (adX (adl s.F) e (mn 88)).2; omega) }
theorem a_s0bp {s : Sta} {q : Nat} (hw : WF { s with t0 := .bak, nr := true, rg := true }) (hrc : 0 < s.b.rc) (hs : look 0 s.b.bfr s.sent = some q) (hq : q < 1000000) (hp : PkB 0 s.b.bfr (q + 1) s.b.bcall (s.b.v + s.b.bn)) (hv : -9223372036854775808 ≤ s.b.v + s.b.bn ∧ s.b.v + s.b.bn ≤ 9223372036854775807) (hll : s.b.lL < 990) (hb12 : s.net.length < 12) (n : Int) {w : World} (hown : ∀ p ∈ blocks { s with t0 := .bak, nr := true, rg := true }, w.heap[p.1]? = some p.2) (hnd : (keys (blocks { s with t0 := .bak, nr := true, rg := true })).Nodup) :
    Ctr Tryz.prog 8 [.pointer (some ⟨(s.F 1).1, 0, none⟩), actVal 21 0 0 n] w (blocks { s with t0 := .bak, nr := true, rg := true }) fun y L' => ∃ (F : Nat → Nat × Nat) (J : Nat → List Value) (o : Obj) (tl : V1) (pb : Nat) (pc : Nat) (pj : List Value) (Jk : List Ent),
      let s' : Sta := { s with F := F, t0 := .row, nr := true, rg := true, net := s.net ++ [⟨pb, pc, pj, 2, 0, s.b.bfr, q + 1, s.b.bcall, s.b.v + s.b.bn⟩], sent := setL 0 s.b.bfr (q + 1) s.sent, sck := s.sck, J := J, O := o, b := { s.b with v := s.b.v + s.b.bn, lL := s.b.lL + 1, lR := s.b.lR + 1, told := tl, rows := updR (updR s.b.rows 1 (s.b.rows 1 ++ eRun (s.b.v + s.b.bn) s.b.bn)) 3 (s.b.rows 3 ++ [Pk.slice ⟨pb, pc, pj, 2, 0, s.b.bfr, q + 1, s.b.bcall, s.b.v + s.b.bn⟩]) } }
      (F 1).1 = (s.F 1).1 ∧ L'.Perm (blocks s' ++ Jk) ∧ WF s' ∧ ∃ v, y = .tuple #[v, .int .i64 0] := by
  have hH0 := len_s hw
  have hH : 0 < s.b.H := hH0
  have hlR : s.b.lR = s.net.length := hw.lR
  have hnR0 := rnetR hw rfl
  have hnR : s.b.lR ≤ (s.F 16).2 := hnR0
  obtain ⟨b, hb⟩ : ∃ b : Bs, b = { s.b with n := n, hm := 0, seq := q, ob := obW [(2, o2 s.b.H 0), (11, o11 s.b.lL 1 [iI 4, iU 4294967297, iI 0, tK 148, tK 33, iI 0]), (13, o13 s.b.lR [rL 88 40]), (4, .m (sentT 0 s.b.bfr (.s (tK 20)) s.sent) s.sck), (14, .m (sentT 0 s.b.bfr (.s (tK 81)) s.sent) s.sck)] { s with t0 := .bak, nr := true, rg := true } } := ⟨_, rfl⟩
  have hob : ∀ i, fnB (b.ob i) = true := by rw [hb]; exact fn_obW _ (and2 (fn_o2) (and2 (fn_o11 rfl) (and2 (fn_ap rfl) (and2 (fn_T _ _) (and2 (fn_T _ _) (rfl))))))
  have q1 : ((mn 0, O.tb t_s0bp) :: e72).map (deE (DA (s.F) b noN) (xS (s.J) s.O)) = [0, 1, 2, 3, 4, 5, 6, 7, 10, 11, 8, 9, 14].flatMap (kk { { s with t0 := .bak, nr := true, rg := true } with net := s.net, hms := s.hms } [] []) := by
    subst hb
    exact mapEq ⟨rfl, rfl, rfl, rfl, de_row rfl (mid2 hw (by rfl) (len_s hw) (row20 hw)), de_row rfl (all1 hw (by rfl)), rfl, rfl, rfl, rfl, rfl, rfl, rfl, rfl, rfl, rfl, de_row rfl (all3 hw (by rfl)), (de_sentT (q := q) rfl rfl (by rw [hs]; rfl)).trans (by rw [setL_id hs]; rfl), de_came rfl, rfl, rfl, rfl, rfl, rfl, rfl, rfl, rfl, de_row0 rfl (all7 hw rfl (by rfl)), rfl, rfl, rfl, rfl, rfl, trivial⟩
  have htb : AllP (t_s0bp.map (TbOk (tauA b))) := by
    subst hb
    exact ⟨fa0, fa1 hH, fa2 hH, fa3 rfl, fa60 hrc, fa61, fa72 hv, lkS rfl rfl rfl hs, fa16 hq, fa79 hp, fa12 (by show s.b.lR < 4096; omega), fa75 (by show s.b.lR ≤ 1000; omega) rfl rfl rfl, upS rfl rfl rfl hs rfl, fa5 hw.bL rfl rfl rfl, trivial⟩
  have hneed : AllP (needE (DA (s.F) b noN) 48 (xS (s.J) s.O) ((mn 0, O.tb t_s0bp) :: e72)) := by
    refine AllP.app.2 ⟨htb, ?_⟩
    refine (show e72 = comE ++ (hp1 ++ (netR ++ (h0t ++ (rgO ++ ((thB ++ frB)))))) from rfl) ▸ ?_
    rw [needE_app, needE_app, needE_app, needE_app, needE_app]
    subst hb
    exact AllP.app.2 ⟨need_com ⟨hw.com.1, hw.com.2⟩ (op_tks hw.com.2) (op2 hw (len_s hw) hw.com.1), AllP.app.2 ⟨need_hp1 hw.hp, AllP.app.2 ⟨need_netR hnR (op_tks (hw.rnet rfl)) op_T op_came, AllP.app.2 ⟨need_h0t hw.h0 hw.rt.1, AllP.app.2 ⟨need_rgO (hw.rrg rfl) op_tks0, need_thB hw.rt⟩⟩⟩⟩⟩
  refine (act_of r_s0bp (by decide +kernel) hob q1 (by subst hb; rfl) (blocks_sel px px [0, 1, 2, 3, 4, 5, 6, 7, 10, 11, 8, 9, 14] [12, 13, 15] (by decide)) hneed trivial hown hnd).mono ?_
  rintro y L' ⟨e, z, Jk, rfl, h2, h3⟩
  generalize hF : fw [(5, 104), (16, 91)] (s.F) e s.F = F
  generalize hJ : jx 29 [.slice (some ⟨(s.F 30).1, 0, none⟩) 0 1] (jw [(4, 4), (5, 104), (8, 8), (12, 12), (14, 14), (16, 91), (22, 22), (25, 25), (29, 29), (88, 88)] z s.J) = J
  generalize htl : vS (some ⟨(adX (adl (s.F)) e (mn 82)).1, 0, none⟩) 1 (adX (adl (s.F)) e (mn 82)).2 = tl
  generalize hpb : (adX (adl s.F) e (mn 88)).1 = pb
  generalize hpc : (adX (adl s.F) e (mn 88)).2 = pc
  generalize hpj : (z (mn 88)).1 = pj
  refine ⟨F, J, (z (mn 0)).2, tl, pb, pc, pj, _, by subst hF; rfl, act_fin (s := { s with t0 := .bak, nr := true, rg := true }) (s' := { s with F := F, t0 := .row, nr := true, rg := true, net := s.net ++ [⟨pb, pc, pj, 2, 0, s.b.bfr, q + 1, s.b.bcall, s.b.v + s.b.bn⟩], sent := setL 0 s.b.bfr (q + 1) s.sent, sck := s.sck, J := J, O := (z (mn 0)).2, b := { s.b with v := s.b.v + s.b.bn, lL := s.b.lL + 1, lR := s.b.lR + 1, told := tl, rows := updR (updR s.b.rows 1 (s.b.rows 1 ++ eRun (s.b.v + s.b.bn) s.b.bn)) 3 (s.b.rows 3 ++ [Pk.slice ⟨pb, pc, pj, 2, 0, s.b.bfr, q + 1, s.b.bcall, s.b.v + s.b.bn⟩]) } }) (net' := s.net) (hms' := s.hms) (xp' := [⟨pb, pc, pj, 2, 0, s.b.bfr, q + 1, s.b.bcall, s.b.v + s.b.bn⟩]) (xh' := []) (List.Perm.refl _) px [0, 1, 2, 3, 4, 5, 6, 7, 10, 11, 8, 9, 14] [12, 13, 15] (by decide) h2 (by subst hF hJ htl hpb hpc hpj; rfl) (post_idx [0, 1, 2, 3, 4, 34, 5, 6, 7, 8, 9, 10, 11, 12, 13, 14, 33, 15, 16, 17, 18, 19, 20, 21, 22, 23, 24, 25, 26, 32] [27, 28, 29, 30, 31] (by decide) (by subst hb hF hJ htl hpb hpc hpj; exact mapEq ⟨rfl, rfl, rfl, rfl, de_row rfl (mid2 hw (by rfl) (len_s hw) (row20 hw)), de_row rfl (app1 hw (by rfl) (by rfl)), rfl, rfl, rfl, rfl, rfl, rfl, rfl, rfl, rfl, rfl, de_row rfl (app3 hw (by rfl) (by rfl)), de_sentT (q := q + 1) rfl rfl (by rw [hs]; rfl), de_came rfl, rfl, rfl, rfl, rfl, rfl, rfl, rfl, rfl, de_row0 rfl (all7 hw rfl (by rfl)), rfl, de_pk2 rfl, trivial⟩)), ?_, _, rfl⟩
  have g4 := inf_op 4 (mn 4) 2 111 0 s.b.H h3 rfl (by subst hb; rfl) (mid_len (by show 0 * 1 + 0 + 1 ≤ s.b.H * 1; omega))
  have g8 := inf_c 7 (mn 8) h3 rfl
  have g12 := inf_c 11 (mn 12) h3 rfl
  have g14 := inf_c 13 (mn 14) h3 rfl
  have g22 := inf_c 19 (mn 22) h3 rfl
  have g25 := inf_c 22 (mn 25) h3 rfl
  have g29 := inf_c 26 (mn 29) h3 rfl
  have g88 := inf_c 32 (mn 88) h3 rfl
  have g16 := inf_op 33 (mn 91) 13 161 0 (s.b.lR + 1) h3 rfl (by subst hb; rfl) (len13 _ rfl)
  have g5 := inf_op 34 (mn 104) 11 50 5 (s.b.lL + 1) h3 rfl (by subst hb; rfl) (len11 _ _ rfl)
  subst hF hJ htl hpb hpc hpj
  exact { hw with com := ⟨g4, g5⟩, h0 := ⟨g22, g25⟩, hp := ⟨g8, g12, g14, hw.hp.2.2.2⟩, rt := by (have h : 1 + (z (mn 29)).1.length = (s.F 29).2 * 1 := g29); show 0 + ((z (mn 29)).1.length + 1) = (s.F 29).2 * 1; omega, rL := rl_app (k := 1) hw.rL rfl, bL := by show s.b.lL + 1 ≤ 1000; omega, rnet := fun _ => g16, rR := rR_app hw _, lR := by (show s.b.lR + 1 = (s.net ++ [_]).length); rw [List.length_append, hlR]; rfl, bR := by (show (s.net ++ [_]).length ≤ 12); rw [List.length_append]; show s.net.length + 1 ≤ 12; omega, nR := fun (h : true = false) => (by cases h), rP := rP_app hw (by (have h : 40 + (z (mn 88)).1.length = (adX (adl s.F) e (mn 88)).2 * 1 := g88); show 40 + (z (mn 88)).1.length = (adX (adl s.F) e (mn 88)).2; omega) }
theorem a_s0za {s : Sta} (hw : WF { s with t0 := .bak, nr := true, rg := true }) (hrc : s.b.rc = 0) (hs : look 0 s.b.bfr s.sent = none) (hp : PkB 0 s.b.bfr (1) s.b.bcall (s.b.v + s.b.bn)) (hv : -9223372036854775808 ≤ s.b.v + s.b.bn ∧ s.b.v + s.b.bn ≤ 9223372036854775807) (hll : s.b.lL < 990) (hb12 : s.net.length < 12) (n : Int) {w : World} (hown : ∀ p ∈ blocks { s with t0 := .bak, nr := true, rg := true }, w.heap[p.1]? = some p.2) (hnd : (keys (blocks { s with t0 := .bak, nr := true, rg := true })).Nodup) :
    Ctr Tryz.prog 8 [.pointer (some ⟨(s.F 1).1, 0, none⟩), actVal 21 0 0 n] w (blocks { s with t0 := .bak, nr := true, rg := true }) fun y L' => ∃ (F : Nat → Nat × Nat) (J : Nat → List Value) (o : Obj) (tl : V1) (pb : Nat) (pc : Nat) (pj : List Value) (Jk : List Ent),
      let s' : Sta := { s with F := F, t0 := .row, nr := true, rg := true, net := s.net ++ [⟨pb, pc, pj, 2, 0, s.b.bfr, 1, s.b.bcall, s.b.v + s.b.bn⟩], sent := s.sent ++ [(0, s.b.bfr, 1, s.sck)], sck := s.sck + 1, J := J, O := o, b := { s.b with v := s.b.v + s.b.bn, lL := s.b.lL + 1, lR := s.b.lR + 1, told := tl, rows := updR (updR s.b.rows 1 (s.b.rows 1 ++ eRun (s.b.v + s.b.bn) s.b.bn)) 3 (s.b.rows 3 ++ [Pk.slice ⟨pb, pc, pj, 2, 0, s.b.bfr, 1, s.b.bcall, s.b.v + s.b.bn⟩]) } }
      (F 1).1 = (s.F 1).1 ∧ L'.Perm (blocks s' ++ Jk) ∧ WF s' ∧ ∃ v, y = .tuple #[v, .int .i64 0] := by
  have hH0 := len_s hw
  have hH : 0 < s.b.H := hH0
  have hlR : s.b.lR = s.net.length := hw.lR
  have hnR0 := rnetR hw rfl
  have hnR : s.b.lR ≤ (s.F 16).2 := hnR0
  obtain ⟨b, hb⟩ : ∃ b : Bs, b = { s.b with n := n, hm := 0, ob := obW [(2, o2 s.b.H 0), (11, o11 s.b.lL 1 [iI 4, iU 4294967297, iI 0, tK 148, tK 33, iI 0]), (13, o13 s.b.lR [rL 88 40]), (14, .m ((s.sent ++ [(0, s.b.bfr, 1, s.sck)]).map sentS) (s.sck + 1))] { s with t0 := .bak, nr := true, rg := true } } := ⟨_, rfl⟩
  have hob : ∀ i, fnB (b.ob i) = true := by rw [hb]; exact fn_obW _ (and2 (fn_o2) (and2 (fn_o11 rfl) (and2 (fn_ap rfl) (and2 (fn_sent _ _) (rfl)))))
  have q1 : ((mn 0, O.tb t_s0za) :: e72).map (deE (DA (s.F) b noN) (xS (s.J) s.O)) = [0, 1, 2, 3, 4, 5, 6, 7, 10, 11, 8, 9, 14].flatMap (kk { { s with t0 := .bak, nr := true, rg := true } with net := s.net, hms := s.hms } [] []) := by
    subst hb
    exact mapEq ⟨rfl, rfl, rfl, rfl, de_row rfl (mid2 hw (by rfl) (len_s hw) (row20 hw)), de_row rfl (all1 hw (by rfl)), rfl, rfl, rfl, rfl, rfl, rfl, rfl, rfl, rfl, rfl, de_row rfl (all3 hw (by rfl)), de_sent rfl, de_came rfl, rfl, rfl, rfl, rfl, rfl, rfl, rfl, rfl, de_row0 rfl (all7 hw rfl (by rfl)), rfl, rfl, rfl, rfl, rfl, trivial⟩
  have htb : AllP (t_s0za.map (TbOk (tauA b))) := by
    subst hb
    exact ⟨fa0, fa1 hH, fa2 hH, fa3 rfl, fa59 hrc, fa61, fa72 hv, lkN rfl rfl rfl hs, fa74 hp, fa12 (by show s.b.lR < 4096; omega), fa75 (by show s.b.lR ≤ 1000; omega) rfl rfl rfl, upN rfl rfl rfl hs rfl, fa5 hw.bL rfl rfl rfl, trivial⟩
  have hneed : AllP (needE (DA (s.F) b noN) 48 (xS (s.J) s.O) ((mn 0, O.tb t_s0za) :: e72)) := by
    refine AllP.app.2 ⟨htb, ?_⟩
    refine (show e72 = comE ++ (hp1 ++ (netR ++ (h0t ++ (rgO ++ ((thB ++ frB)))))) from rfl) ▸ ?_
    rw [needE_app, needE_app, needE_app, needE_app, needE_app]
    subst hb
    exact AllP.app.2 ⟨need_com ⟨hw.com.1, hw.com.2⟩ (op_tks hw.com.2) (op2 hw (len_s hw) hw.com.1), AllP.app.2 ⟨need_hp1 hw.hp, AllP.app.2 ⟨need_netR hnR (op_tks (hw.rnet rfl)) op_sent op_came, AllP.app.2 ⟨need_h0t hw.h0 hw.rt.1, AllP.app.2 ⟨need_rgO (hw.rrg rfl) op_tks0, need_thB hw.rt⟩⟩⟩⟩⟩
  refine (act_of r_s0za (by decide +kernel) hob q1 (by subst hb; rfl) (blocks_sel px px [0, 1, 2, 3, 4, 5, 6, 7, 10, 11, 8, 9, 14] [12, 13, 15] (by decide)) hneed trivial hown hnd).mono ?_
  rintro y L' ⟨e, z, Jk, rfl, h2, h3⟩
  generalize hF : fw [(5, 104), (16, 91)] (s.F) e s.F = F
  generalize hJ : jx 29 [.slice (some ⟨(s.F 30).1, 0, none⟩) 0 1] (jw [(4, 4), (5, 104), (8, 8), (12, 12), (14, 14), (16, 91), (22, 22), (25, 25), (29, 29), (88, 88)] z s.J) = J
  generalize htl : vS (some ⟨(adX (adl (s.F)) e (mn 82)).1, 0, none⟩) 1 (adX (adl (s.F)) e (mn 82)).2 = tl
  generalize hpb : (adX (adl s.F) e (mn 88)).1 = pb
  generalize hpc : (adX (adl s.F) e (mn 88)).2 = pc
  generalize hpj : (z (mn 88)).1 = pj
  refine ⟨F, J, (z (mn 0)).2, tl, pb, pc, pj, _, by subst hF; rfl, act_fin (s := { s with t0 := .bak, nr := true, rg := true }) (s' := { s with F := F, t0 := .row, nr := true, rg := true, net := s.net ++ [⟨pb, pc, pj, 2, 0, s.b.bfr, 1, s.b.bcall, s.b.v + s.b.bn⟩], sent := s.sent ++ [(0, s.b.bfr, 1, s.sck)], sck := s.sck + 1, J := J, O := (z (mn 0)).2, b := { s.b with v := s.b.v + s.b.bn, lL := s.b.lL + 1, lR := s.b.lR + 1, told := tl, rows := updR (updR s.b.rows 1 (s.b.rows 1 ++ eRun (s.b.v + s.b.bn) s.b.bn)) 3 (s.b.rows 3 ++ [Pk.slice ⟨pb, pc, pj, 2, 0, s.b.bfr, 1, s.b.bcall, s.b.v + s.b.bn⟩]) } }) (net' := s.net) (hms' := s.hms) (xp' := [⟨pb, pc, pj, 2, 0, s.b.bfr, 1, s.b.bcall, s.b.v + s.b.bn⟩]) (xh' := []) (List.Perm.refl _) px [0, 1, 2, 3, 4, 5, 6, 7, 10, 11, 8, 9, 14] [12, 13, 15] (by decide) h2 (by subst hF hJ htl hpb hpc hpj; rfl) (post_idx [0, 1, 2, 3, 4, 34, 5, 6, 7, 8, 9, 10, 11, 12, 13, 14, 33, 15, 16, 17, 18, 19, 20, 21, 22, 23, 24, 25, 26, 32] [27, 28, 29, 30, 31] (by decide) (by subst hb hF hJ htl hpb hpc hpj; exact mapEq ⟨rfl, rfl, rfl, rfl, de_row rfl (mid2 hw (by rfl) (len_s hw) (row20 hw)), de_row rfl (app1 hw (by rfl) (by rfl)), rfl, rfl, rfl, rfl, rfl, rfl, rfl, rfl, rfl, rfl, de_row rfl (app3 hw (by rfl) (by rfl)), de_sent rfl, de_came rfl, rfl, rfl, rfl, rfl, rfl, rfl, rfl, rfl, de_row0 rfl (all7 hw rfl (by rfl)), rfl, de_pk2 rfl, trivial⟩)), ?_, _, rfl⟩
  have g4 := inf_op 4 (mn 4) 2 111 0 s.b.H h3 rfl (by subst hb; rfl) (mid_len (by show 0 * 1 + 0 + 1 ≤ s.b.H * 1; omega))
  have g8 := inf_c 7 (mn 8) h3 rfl
  have g12 := inf_c 11 (mn 12) h3 rfl
  have g14 := inf_c 13 (mn 14) h3 rfl
  have g22 := inf_c 19 (mn 22) h3 rfl
  have g25 := inf_c 22 (mn 25) h3 rfl
  have g29 := inf_c 26 (mn 29) h3 rfl
  have g88 := inf_c 32 (mn 88) h3 rfl
  have g16 := inf_op 33 (mn 91) 13 161 0 (s.b.lR + 1) h3 rfl (by subst hb; rfl) (len13 _ rfl)
  have g5 := inf_op 34 (mn 104) 11 50 5 (s.b.lL + 1) h3 rfl (by subst hb; rfl) (len11 _ _ rfl)
  subst hF hJ htl hpb hpc hpj
  exact { hw with com := ⟨g4, g5⟩, h0 := ⟨g22, g25⟩, hp := ⟨g8, g12, g14, hw.hp.2.2.2⟩, rt := by (have h : 1 + (z (mn 29)).1.length = (s.F 29).2 * 1 := g29); show 0 + ((z (mn 29)).1.length + 1) = (s.F 29).2 * 1; omega, rL := rl_app (k := 1) hw.rL rfl, bL := by show s.b.lL + 1 ≤ 1000; omega, rnet := fun _ => g16, rR := rR_app hw _, lR := by (show s.b.lR + 1 = (s.net ++ [_]).length); rw [List.length_append, hlR]; rfl, bR := by (show (s.net ++ [_]).length ≤ 12); rw [List.length_append]; show s.net.length + 1 ≤ 12; omega, nR := fun (h : true = false) => (by cases h), rP := rP_app hw (by (have h : 40 + (z (mn 88)).1.length = (adX (adl s.F) e (mn 88)).2 * 1 := g88); show 40 + (z (mn 88)).1.length = (adX (adl s.F) e (mn 88)).2; omega) }
theorem a_s0zp {s : Sta} {q : Nat} (hw : WF { s with t0 := .bak, nr := true, rg := true }) (hrc : s.b.rc = 0) (hs : look 0 s.b.bfr s.sent = some q) (hq : q < 1000000) (hp : PkB 0 s.b.bfr (q + 1) s.b.bcall (s.b.v + s.b.bn)) (hv : -9223372036854775808 ≤ s.b.v + s.b.bn ∧ s.b.v + s.b.bn ≤ 9223372036854775807) (hll : s.b.lL < 990) (hb12 : s.net.length < 12) (n : Int) {w : World} (hown : ∀ p ∈ blocks { s with t0 := .bak, nr := true, rg := true }, w.heap[p.1]? = some p.2) (hnd : (keys (blocks { s with t0 := .bak, nr := true, rg := true })).Nodup) :
    Ctr Tryz.prog 8 [.pointer (some ⟨(s.F 1).1, 0, none⟩), actVal 21 0 0 n] w (blocks { s with t0 := .bak, nr := true, rg := true }) fun y L' => ∃ (F : Nat → Nat × Nat) (J : Nat → List Value) (o : Obj) (tl : V1) (pb : Nat) (pc : Nat) (pj : List Value) (Jk : List Ent),
      let s' : Sta := { s with F := F, t0 := .row, nr := true, rg := true, net := s.net ++ [⟨pb, pc, pj, 2, 0, s.b.bfr, q + 1, s.b.bcall, s.b.v + s.b.bn⟩], sent := setL 0 s.b.bfr (q + 1) s.sent, sck := s.sck, J := J, O := o, b := { s.b with v := s.b.v + s.b.bn, lL := s.b.lL + 1, lR := s.b.lR + 1, told := tl, rows := updR (updR s.b.rows 1 (s.b.rows 1 ++ eRun (s.b.v + s.b.bn) s.b.bn)) 3 (s.b.rows 3 ++ [Pk.slice ⟨pb, pc, pj, 2, 0, s.b.bfr, q + 1, s.b.bcall, s.b.v + s.b.bn⟩]) } }
      (F 1).1 = (s.F 1).1 ∧ L'.Perm (blocks s' ++ Jk) ∧ WF s' ∧ ∃ v, y = .tuple #[v, .int .i64 0] := by
  have hH0 := len_s hw
  have hH : 0 < s.b.H := hH0
  have hlR : s.b.lR = s.net.length := hw.lR
  have hnR0 := rnetR hw rfl
  have hnR : s.b.lR ≤ (s.F 16).2 := hnR0
  obtain ⟨b, hb⟩ : ∃ b : Bs, b = { s.b with n := n, hm := 0, seq := q, ob := obW [(2, o2 s.b.H 0), (11, o11 s.b.lL 1 [iI 4, iU 4294967297, iI 0, tK 148, tK 33, iI 0]), (13, o13 s.b.lR [rL 88 40]), (4, .m (sentT 0 s.b.bfr (.s (tK 20)) s.sent) s.sck), (14, .m (sentT 0 s.b.bfr (.s (tK 81)) s.sent) s.sck)] { s with t0 := .bak, nr := true, rg := true } } := ⟨_, rfl⟩
  have hob : ∀ i, fnB (b.ob i) = true := by rw [hb]; exact fn_obW _ (and2 (fn_o2) (and2 (fn_o11 rfl) (and2 (fn_ap rfl) (and2 (fn_T _ _) (and2 (fn_T _ _) (rfl))))))
  have q1 : ((mn 0, O.tb t_s0zp) :: e72).map (deE (DA (s.F) b noN) (xS (s.J) s.O)) = [0, 1, 2, 3, 4, 5, 6, 7, 10, 11, 8, 9, 14].flatMap (kk { { s with t0 := .bak, nr := true, rg := true } with net := s.net, hms := s.hms } [] []) := by
    subst hb
    exact mapEq ⟨rfl, rfl, rfl, rfl, de_row rfl (mid2 hw (by rfl) (len_s hw) (row20 hw)), de_row rfl (all1 hw (by rfl)), rfl, rfl, rfl, rfl, rfl, rfl, rfl, rfl, rfl, rfl, de_row rfl (all3 hw (by rfl)), (de_sentT (q := q) rfl rfl (by rw [hs]; rfl)).trans (by rw [setL_id hs]; rfl), de_came rfl, rfl, rfl, rfl, rfl, rfl, rfl, rfl, rfl, de_row0 rfl (all7 hw rfl (by rfl)), rfl, rfl, rfl, rfl, rfl, trivial⟩
  have htb : AllP (t_s0zp.map (TbOk (tauA b))) := by
    subst hb
    exact ⟨fa0, fa1 hH, fa2 hH, fa3 rfl, fa59 hrc, fa61, fa72 hv, lkS rfl rfl rfl hs, fa16 hq, fa79 hp, fa12 (by show s.b.lR < 4096; omega), fa75 (by show s.b.lR ≤ 1000; omega) rfl rfl rfl, upS rfl rfl rfl hs rfl, fa5 hw.bL rfl rfl rfl, trivial⟩
  have hneed : AllP (needE (DA (s.F) b noN) 48 (xS (s.J) s.O) ((mn 0, O.tb t_s0zp) :: e72)) := by
    refine AllP.app.2 ⟨htb, ?_⟩
    refine (show e72 = comE ++ (hp1 ++ (netR ++ (h0t ++ (rgO ++ ((thB ++ frB)))))) from rfl) ▸ ?_
    rw [needE_app, needE_app, needE_app, needE_app, needE_app]
    subst hb
    exact AllP.app.2 ⟨need_com ⟨hw.com.1, hw.com.2⟩ (op_tks hw.com.2) (op2 hw (len_s hw) hw.com.1), AllP.app.2 ⟨need_hp1 hw.hp, AllP.app.2 ⟨need_netR hnR (op_tks (hw.rnet rfl)) op_T op_came, AllP.app.2 ⟨need_h0t hw.h0 hw.rt.1, AllP.app.2 ⟨need_rgO (hw.rrg rfl) op_tks0, need_thB hw.rt⟩⟩⟩⟩⟩
  refine (act_of r_s0zp (by decide +kernel) hob q1 (by subst hb; rfl) (blocks_sel px px [0, 1, 2, 3, 4, 5, 6, 7, 10, 11, 8, 9, 14] [12, 13, 15] (by decide)) hneed trivial hown hnd).mono ?_
  rintro y L' ⟨e, z, Jk, rfl, h2, h3⟩
  generalize hF : fw [(5, 104), (16, 91)] (s.F) e s.F = F
  generalize hJ : jx 29 [.slice (some ⟨(s.F 30).1, 0, none⟩) 0 1] (jw [(4, 4), (5, 104), (8, 8), (12, 12), (14, 14), (16, 91), (22, 22), (25, 25), (29, 29), (88, 88)] z s.J) = J
  generalize htl : vS (some ⟨(adX (adl (s.F)) e (mn 82)).1, 0, none⟩) 1 (adX (adl (s.F)) e (mn 82)).2 = tl
  generalize hpb : (adX (adl s.F) e (mn 88)).1 = pb
  generalize hpc : (adX (adl s.F) e (mn 88)).2 = pc
  generalize hpj : (z (mn 88)).1 = pj
  refine ⟨F, J, (z (mn 0)).2, tl, pb, pc, pj, _, by subst hF; rfl, act_fin (s := { s with t0 := .bak, nr := true, rg := true }) (s' := { s with F := F, t0 := .row, nr := true, rg := true, net := s.net ++ [⟨pb, pc, pj, 2, 0, s.b.bfr, q + 1, s.b.bcall, s.b.v + s.b.bn⟩], sent := setL 0 s.b.bfr (q + 1) s.sent, sck := s.sck, J := J, O := (z (mn 0)).2, b := { s.b with v := s.b.v + s.b.bn, lL := s.b.lL + 1, lR := s.b.lR + 1, told := tl, rows := updR (updR s.b.rows 1 (s.b.rows 1 ++ eRun (s.b.v + s.b.bn) s.b.bn)) 3 (s.b.rows 3 ++ [Pk.slice ⟨pb, pc, pj, 2, 0, s.b.bfr, q + 1, s.b.bcall, s.b.v + s.b.bn⟩]) } }) (net' := s.net) (hms' := s.hms) (xp' := [⟨pb, pc, pj, 2, 0, s.b.bfr, q + 1, s.b.bcall, s.b.v + s.b.bn⟩]) (xh' := []) (List.Perm.refl _) px [0, 1, 2, 3, 4, 5, 6, 7, 10, 11, 8, 9, 14] [12, 13, 15] (by decide) h2 (by subst hF hJ htl hpb hpc hpj; rfl) (post_idx [0, 1, 2, 3, 4, 34, 5, 6, 7, 8, 9, 10, 11, 12, 13, 14, 33, 15, 16, 17, 18, 19, 20, 21, 22, 23, 24, 25, 26, 32] [27, 28, 29, 30, 31] (by decide) (by subst hb hF hJ htl hpb hpc hpj; exact mapEq ⟨rfl, rfl, rfl, rfl, de_row rfl (mid2 hw (by rfl) (len_s hw) (row20 hw)), de_row rfl (app1 hw (by rfl) (by rfl)), rfl, rfl, rfl, rfl, rfl, rfl, rfl, rfl, rfl, rfl, de_row rfl (app3 hw (by rfl) (by rfl)), de_sentT (q := q + 1) rfl rfl (by rw [hs]; rfl), de_came rfl, rfl, rfl, rfl, rfl, rfl, rfl, rfl, rfl, de_row0 rfl (all7 hw rfl (by rfl)), rfl, de_pk2 rfl, trivial⟩)), ?_, _, rfl⟩
  have g4 := inf_op 4 (mn 4) 2 111 0 s.b.H h3 rfl (by subst hb; rfl) (mid_len (by show 0 * 1 + 0 + 1 ≤ s.b.H * 1; omega))
  have g8 := inf_c 7 (mn 8) h3 rfl
  have g12 := inf_c 11 (mn 12) h3 rfl
  have g14 := inf_c 13 (mn 14) h3 rfl
  have g22 := inf_c 19 (mn 22) h3 rfl
  have g25 := inf_c 22 (mn 25) h3 rfl
  have g29 := inf_c 26 (mn 29) h3 rfl
  have g88 := inf_c 32 (mn 88) h3 rfl
  have g16 := inf_op 33 (mn 91) 13 161 0 (s.b.lR + 1) h3 rfl (by subst hb; rfl) (len13 _ rfl)
  have g5 := inf_op 34 (mn 104) 11 50 5 (s.b.lL + 1) h3 rfl (by subst hb; rfl) (len11 _ _ rfl)
  subst hF hJ htl hpb hpc hpj
  exact { hw with com := ⟨g4, g5⟩, h0 := ⟨g22, g25⟩, hp := ⟨g8, g12, g14, hw.hp.2.2.2⟩, rt := by (have h : 1 + (z (mn 29)).1.length = (s.F 29).2 * 1 := g29); show 0 + ((z (mn 29)).1.length + 1) = (s.F 29).2 * 1; omega, rL := rl_app (k := 1) hw.rL rfl, bL := by show s.b.lL + 1 ≤ 1000; omega, rnet := fun _ => g16, rR := rR_app hw _, lR := by (show s.b.lR + 1 = (s.net ++ [_]).length); rw [List.length_append, hlR]; rfl, bR := by (show (s.net ++ [_]).length ≤ 12); rw [List.length_append]; show s.net.length + 1 ≤ 12; omega, nR := fun (h : true = false) => (by cases h), rP := rP_app hw (by (have h : 40 + (z (mn 88)).1.length = (adX (adl s.F) e (mn 88)).2 * 1 := g88); show 40 + (z (mn 88)).1.length = (adX (adl s.F) e (mn 88)).2; omega) }
end Go.Proofs.YtpcdcemcjbeajaaGreatDoor
end
section
set_option maxHeartbeats 400000
set_option linter.unusedVariables false
set_option linter.unusedSimpArgs false
set_option maxRecDepth 100000
namespace Go.Proofs.YtpcdcemcjbeajaaGreatDoor
open Go Go.RowKit Go.Shelf
theorem a_den {s : Sta} (hw : WF { s with nr := false, net := [], b := { s.b with lR := 0 } }) (n : Int) {w : World} (hown : ∀ p ∈ blocks { s with nr := false, net := [], b := { s.b with lR := 0 } }, w.heap[p.1]? = some p.2) (hnd : (keys (blocks { s with nr := false, net := [], b := { s.b with lR := 0 } })).Nodup) :
    Ctr Tryz.prog 8 [.pointer (some ⟨(s.F 1).1, 0, none⟩), actVal 22 0 0 n] w (blocks { s with nr := false, net := [], b := { s.b with lR := 0 } }) fun y L' => ∃ (J : Nat → List Value) (o : Obj) (Jk : List Ent),
      let s' : Sta := { s with nr := false, net := [], J := J, O := o, b := { s.b with told := vS none 0 0, lR := 0 } }
      L'.Perm (blocks s' ++ Jk) ∧ WF s' ∧ ∃ v, y = .tuple #[v, .int .i64 12] := by
  have hH0 := len_s hw
  have hH : 0 < s.b.H := hH0
  obtain ⟨b, hb⟩ : ∃ b : Bs, b = { s.b with n := n, ob := obW [] { s with nr := false, net := [], b := { s.b with lR := 0 } } } := ⟨_, rfl⟩
  have hob : ∀ i, fnB (b.ob i) = true := by rw [hb]; exact fn_obW (l := []) _ (rfl)
  have q1 : ((mn 0, O.tb t_den) :: e25).map (deE (DA (s.F) b noN) (xS (s.J) s.O)) = [0, 1, 2, 4, 5, 6].flatMap (kk { { s with nr := false, net := [], b := { s.b with lR := 0 } } with net := [], hms := s.hms } [] []) := by
    subst hb
    exact mapEq ⟨rfl, rfl, rfl, rfl, de_row rfl (all2 hw (by rfl)), de_row rfl (all1 hw (by rfl)), rfl, de_sent rfl, de_came rfl, trivial⟩
  have htb : AllP (t_den.map (TbOk (tauA b))) := by
    subst hb
    trivial
  have hneed : AllP (needE (DA (s.F) b noN) 48 (xS (s.J) s.O) ((mn 0, O.tb t_den) :: e25)) := by
    refine AllP.app.2 ⟨htb, ?_⟩
    refine (show e25 = comE ++ (netN) from rfl) ▸ ?_
    rw [needE_app]
    subst hb
    exact AllP.app.2 ⟨need_com ⟨hw.com.1, hw.com.2⟩ (op_tks hw.com.2) (op_tks hw.com.1), need_netN op_sent op_came⟩
  refine (act_of r_den (by decide +kernel) hob q1 (by subst hb; rfl) (blocks_sel px px [0, 1, 2, 4, 5, 6] [3, 7, 8, 9, 10, 11, 12, 13, 14, 15] (by decide)) hneed trivial hown hnd).mono ?_
  rintro y L' ⟨e, z, Jk, rfl, h2, h3⟩
  generalize hJ : jw [(4, 4), (5, 5)] z s.J = J
  refine ⟨J, (z (mn 0)).2, _, act_fin (s := { s with nr := false, net := [], b := { s.b with lR := 0 } }) (s' := { s with nr := false, net := [], J := J, O := (z (mn 0)).2, b := { s.b with told := vS none 0 0, lR := 0 } }) (net' := []) (hms' := s.hms) (xp' := []) (xh' := []) px px [0, 1, 2, 4, 5, 6] [3, 7, 8, 9, 10, 11, 12, 13, 14, 15] (by decide) h2 (by subst hJ; rfl) (post_idx [0, 1, 2, 3, 4, 5, 6, 7, 8] [] (by decide) (by subst hb hJ; exact mapEq ⟨rfl, rfl, rfl, rfl, de_row rfl (all2 hw (by rfl)), de_row rfl (all1 hw (by rfl)), rfl, de_sent rfl, de_came rfl, trivial⟩)), ?_, _, rfl⟩
  have g4 := inf_op 4 (mn 4) 2 111 0 s.b.H h3 rfl (by subst hb; rfl) (tks_len _ _)
  have g5 := inf_op 5 (mn 5) 1 50 5 s.b.lL h3 rfl (by subst hb; rfl) (tks_len _ _)
  subst hJ
  exact { hw with com := ⟨g4, g5⟩ }
theorem a_der {s : Sta} (hw : WF { s with nr := true, net := [], b := { s.b with lR := 0 } }) (n : Int) {w : World} (hown : ∀ p ∈ blocks { s with nr := true, net := [], b := { s.b with lR := 0 } }, w.heap[p.1]? = some p.2) (hnd : (keys (blocks { s with nr := true, net := [], b := { s.b with lR := 0 } })).Nodup) :
    Ctr Tryz.prog 8 [.pointer (some ⟨(s.F 1).1, 0, none⟩), actVal 22 0 0 n] w (blocks { s with nr := true, net := [], b := { s.b with lR := 0 } }) fun y L' => ∃ (J : Nat → List Value) (o : Obj) (Jk : List Ent),
      let s' : Sta := { s with nr := true, net := [], J := J, O := o, b := { s.b with told := vS none 0 0, lR := 0 } }
      L'.Perm (blocks s' ++ Jk) ∧ WF s' ∧ ∃ v, y = .tuple #[v, .int .i64 12] := by
  have hH0 := len_s hw
  have hH : 0 < s.b.H := hH0
  obtain ⟨b, hb⟩ : ∃ b : Bs, b = { s.b with n := n, lR := 0, ob := obW [] { s with nr := true, net := [], b := { s.b with lR := 0 } } } := ⟨_, rfl⟩
  have hob : ∀ i, fnB (b.ob i) = true := by rw [hb]; exact fn_obW (l := []) _ (rfl)
  have q1 : ((mn 0, O.tb t_der) :: e27).map (deE (DA (s.F) b noN) (xS (s.J) s.O)) = [0, 1, 2, 4, 5, 6].flatMap (kk { { s with nr := true, net := [], b := { s.b with lR := 0 } } with net := [], hms := s.hms } [] []) := by
    subst hb
    exact mapEq ⟨rfl, rfl, rfl, rfl, de_row rfl (all2 hw (by rfl)), de_row rfl (all1 hw (by rfl)), rfl, de_row rfl (all3 hw (by rfl)), de_sent rfl, de_came rfl, trivial⟩
  have htb : AllP (t_der.map (TbOk (tauA b))) := by
    subst hb
    exact ⟨tb_t (i := .i64) (a := 0) (b := 0) rfl rfl rfl rfl, trivial⟩
  have hneed : AllP (needE (DA (s.F) b noN) 48 (xS (s.J) s.O) ((mn 0, O.tb t_der) :: e27)) := by
    refine AllP.app.2 ⟨htb, ?_⟩
    refine (show e27 = comE ++ (netR) from rfl) ▸ ?_
    rw [needE_app]
    subst hb
    exact AllP.app.2 ⟨need_com ⟨hw.com.1, hw.com.2⟩ (op_tks hw.com.2) (op_tks hw.com.1), need_netR (Nat.zero_le _) (op_tks (hw.rnet rfl)) op_sent op_came⟩
  refine (act_of r_der (by decide +kernel) hob q1 (by subst hb; rfl) (blocks_sel px px [0, 1, 2, 4, 5, 6] [3, 7, 8, 9, 10, 11, 12, 13, 14, 15] (by decide)) hneed trivial hown hnd).mono ?_
  rintro y L' ⟨e, z, Jk, rfl, h2, h3⟩
  generalize hJ : jw [(4, 4), (5, 5), (16, 16)] z s.J = J
  refine ⟨J, (z (mn 0)).2, _, act_fin (s := { s with nr := true, net := [], b := { s.b with lR := 0 } }) (s' := { s with nr := true, net := [], J := J, O := (z (mn 0)).2, b := { s.b with told := vS none 0 0, lR := 0 } }) (net' := []) (hms' := s.hms) (xp' := []) (xh' := []) px px [0, 1, 2, 4, 5, 6] [3, 7, 8, 9, 10, 11, 12, 13, 14, 15] (by decide) h2 (by subst hJ; rfl) (post_idx [0, 1, 2, 3, 4, 5, 6, 7, 8, 9] [] (by decide) (by subst hb hJ; exact mapEq ⟨rfl, rfl, rfl, rfl, de_row rfl (all2 hw (by rfl)), de_row rfl (all1 hw (by rfl)), rfl, de_row rfl (all3 hw (by rfl)), de_sent rfl, de_came rfl, trivial⟩)), ?_, _, rfl⟩
  have g4 := inf_op 4 (mn 4) 2 111 0 s.b.H h3 rfl (by subst hb; rfl) (tks_len _ _)
  have g5 := inf_op 5 (mn 5) 1 50 5 s.b.lL h3 rfl (by subst hb; rfl) (tks_len _ _)
  have g16 := inf_op 7 (mn 16) 3 161 0 0 h3 rfl (by subst hb; rfl) (tks_len _ _)
  subst hJ
  exact { hw with com := ⟨g4, g5⟩, rnet := fun _ => g16 }
end Go.Proofs.YtpcdcemcjbeajaaGreatDoor
end
