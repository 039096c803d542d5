/- WholeFar: FarRi, FarRj. -/
import Derived.Test.YtpcdcemcjbeajaaGreatDoorWf16
section
set_option linter.unusedVariables false
set_option linter.unusedSimpArgs false
set_option maxRecDepth 100000
namespace Go.Proofs.YtpcdcemcjbeajaaGreatDoor
open Go Go.RowKit Go.Shelf
noncomputable def ciV : List V := [.s (pP 1 0), actV 5 (tK 2) (iU 4294967297) (tK 3)]
noncomputable def ciH (many : Bool) (thr : S) : Nm × O := (mn 20, .c 118 0 0 [.b many, bF, pP 21 0, tK 17, pP 23 0, tK 18, pP 28 0, thr])
noncomputable def ciP (many tr nr : Bool) : List (Nm × O) := comE ++ (cond nr netR netN ++ (ciH many (cond tr (oS 29 6) xsn) :: (hiB ++ cond tr [b64] [])))
noncomputable def ciQ (many tr nr : Bool) : List (Nm × O) := [b48, b1, b49, b3, b58, cond nr b61 b50, cond nr b62 b55, b51, b38, cond tr b66 b54, ciH many (cond tr (oS 84 90) (rL 84 1))] ++ (hiB ++ [cond tr b67 b57, b56, b53])
noncomputable def ciT (many tr nr : Bool) : List TbE := f0 :: f1 :: f2 :: f3 :: (cond tr [cond many f14 f21] [] ++ (f6 :: f4 :: (cond tr [f15, f16, f17] [f7, f8] ++ (cond nr [f12, f13] [] ++ (cond tr f18 f9 :: f10 :: (cond tr [f19] [] ++ [f11]))))))
noncomputable def ciR (many tr nr : Bool) : Bool := okR (.t [.s (rL 90 1), .s (iI 0)]) ciV ((mn 0, .tb (ciT many tr nr)) :: ciP many tr nr) ((mn 0, .tb (ciT many tr nr)) :: ciQ many tr nr)
theorem r_ci : [(true, true, true), (true, false, true), (true, false, false), (false, true, true), (false, false, true), (false, false, false)].all (fun p => ciR p.1 p.2.1 p.2.2) = true := by decide +kernel
section
variable {b : Bs}
theorem fa6 (h : LhOk b.lh) : TbOk (tauA b) f6 := tb_i (i := .u64) (a := (b.lh : Int)) (b := 1152921504606846975) rfl rfl (by rcases h with h | h | h <;> (rw [h]; rfl)) rfl
theorem fa8 (h : PkB b.hm 0 1 (b.calls + 1) b.n) : TbOk (tauA b) f8 := ⟨_, _, rfl, rfl, 1, b.hm, 0, 1, b.calls + 1, _, 0, b.n, 0, rfl, rfl, h.1, h.2.1, h.2.2.1, h.2.2.2.1, h.2.2.2.2.1, h.2.2.2.2.2.1, h.2.2.2.2.2.2, .inl ⟨rfl, rfl, rfl, rfl⟩⟩
theorem fa17 (h : PkB b.hm 0 (b.seq + 1) (b.calls + 1) b.n) : TbOk (tauA b) f17 := ⟨_, _, rfl, rfl, 1, b.hm, 0, b.seq + 1, b.calls + 1, _, 0, b.n, 0, rfl, rfl, h.1, h.2.1, h.2.2.1, h.2.2.2.1, h.2.2.2.2.1, h.2.2.2.2.2.1, h.2.2.2.2.2.2, .inl ⟨rfl, rfl, rfl, rfl⟩⟩
theorem fa10 (h : b.calls < 1000000) : TbOk (tauA b) f10 := tb_add (i := .u64) (a := ((b.calls + 1 : Nat) : Int)) (b := 1) rfl rfl (wrap_u64 (by omega)) rfl
theorem fa14 (h : b.lT < 4) : TbOk (tauA b) f14 := tb_t (i := .i64) (a := (b.lT : Int)) (b := 4) rfl rfl rfl (by show (b.lT : Int) < 4; omega)
theorem fa20 (h : b.lT = 4) : TbOk (tauA b) f20 := tb_f (i := .i64) (a := (b.lT : Int)) (b := 4) rfl rfl rfl (by show ¬ ((b.lT : Int) < 4); omega)
theorem fa21 (h : b.lT = 0) : TbOk (tauA b) f21 := tb_t (i := .i64) (a := (b.lT : Int)) (b := 0) rfl rfl rfl (by show (b.lT : Int) = 0; omega)
theorem fa22 (h : b.lT ≠ 0) : TbOk (tauA b) f22 := tb_f (i := .i64) (a := (b.lT : Int)) (b := 0) rfl rfl rfl (by show ¬ ((b.lT : Int) = 0); omega)
theorem fa19 {k : Nat} (hl : b.lT = k) (hk : k ≤ 4) (h1 : b.ob 6 = .c 289 1 k (rowS 0 k)) (h2 : b.ob 16 = .c 289 1 (k + 1) (rowS 0 k ++ [.l (mn 82) 0 1 1 false])) : TbOk (tauA b) f19 :=
  ⟨k, _, by subst hl; rfl, by subst hl; rfl, h1, by rw [rowS_len]; omega, rfl, by decide, by decide, by omega, h2⟩
end
theorem bnd_row : ∀ {k : Nat}, k ≤ 4 → ∀ s ∈ rowS 0 k, bndS 48 s = true
  | 0, _ => by decide
  | 1, _ => by decide
  | 2, _ => by decide
  | 3, _ => by decide
  | 4, _ => by decide
  | k + 5, h => absurd h (by omega)
theorem fn_row : ∀ (k i : Nat), (rowS i k).all fnS = true
  | 0, _ => rfl
  | k + 1, i => by show (true && (rowS (i + 1) k).all fnS) = true; rw [fn_row k]; rfl
end Go.Proofs.YtpcdcemcjbeajaaGreatDoor
end
section
set_option maxHeartbeats 400000
set_option linter.unusedVariables false
set_option linter.unusedSimpArgs false
set_option maxRecDepth 100000
namespace Go.Proofs.YtpcdcemcjbeajaaGreatDoor
open Go Go.RowKit Go.Shelf
theorem de_ci {F g : Nat → Nat × Nat} {K : Nat → List Value} {b : Bs} {hs hl : V1} {lh : Nat} {many : Bool} {ths : List Th} {p : Pk} {e : Nm → Nat × Nat} {x : Nm → Xt} {thr : S} {T : Value} (x22 : (x (mn 22)).1 = K 22) (x25 : (x (mn 25)).1 = K 25) (x27 : (x (mn 27)).1 = K 27) (ht : deS (DA (fhp F g ths p) (bHm b hs hl lh many ths) e) thr = T) : (ciH many thr :: hiB).map (deE (DA (fhp F g ths p) (bHm b hs hl lh many ths) e) x) = gH20 g many hs hl T ++ hbA g K { b with lh := lh } := by
  show ((g 20).1, cel 118 [_, _, _, _, _, _, _, deS _ thr]) :: deE _ x _ :: deE _ x b41 :: deE _ x _ :: deE _ x _ :: deE _ x b44 :: deE _ x _ :: deE _ x b46 :: deE _ x _ :: [] = _
  rw [ht]
  show _ :: _ :: ((g 22).1, cel 344 (_ ++ (x (mn 22)).1)) :: _ :: _ :: ((g 25).1, cel 485 (_ ++ (x (mn 25)).1)) :: _ :: ((g 27).1, cel 148 (_ ++ (x (mn 27)).1)) :: _ = _
  rw [x22, x25, x27]
  rfl
theorem need_ci {F g : Nat → Nat × Nat} {J K : Nat → List Value} {O' : Obj} {b : Bs} {ths : List Th} {p : Pk} {many : Bool} {thr : S} (h22 : 21 + (K 22).length = (g 22).2 * 21) (h25 : 3 + (K 25).length = (g 25).2 * 3) (h27 : 36 + (K 27).length = (g 27).2 * 36) (ht : AllP (needS (DA (fhp F g ths p) b noN) thr)) : AllP (needE (DA (fhp F g ths p) b noN) 48 (xS (jhp J K p) O') (ciH many thr :: hiB)) :=
  AllP.app.2 ⟨by show AllP ((needS _ thr ++ []) ++ []); rw [List.append_nil, List.append_nil]; exact ht, show 0 + 1 ≤ (g 22).2 by omega, rfl, h22, show 0 + 1 ≤ (g 25).2 by omega, rfl, h25, show 0 + 1 ≤ (g 27).2 by omega, rfl, h27, trivial⟩
section
variable {s : Sta} {k1 k2 : List Hm} {gF : Nat → Nat × Nat} {gJ : Nat → List Value} {hs hl : V1} {lh : Nat} {many tr : Bool} {ths : List Th} (hw : WF (wH s k1 k2 ⟨gF, gJ, hs, hl, lh, many, tr, ths⟩))
include hw
theorem siG : k1.length + 1 < s.b.H ∧ (s.b.rows 2).getD (k1.length + 1) v0 = vP (gF 20).1 ∧ 21 + (gJ 22).length = (gF 22).2 * 21 ∧ 3 + (gJ 25).length = (gF 25).2 * 3 ∧ 36 + (gJ 27).length = (gF 27).2 * 36 ∧ (tr = true → ths.length * 1 + (gJ 29).length = (gF 29).2 * 1) ∧ (tr = false → ths = []) :=
  have h := rmH (s := wH s k1 k2 ⟨gF, gJ, hs, hl, lh, many, tr, ths⟩) hw (h1 := k1) (h2 := k2) (h := ⟨gF, gJ, hs, hl, lh, many, tr, ths⟩) rfl
  ⟨hmH (s := wH s k1 k2 ⟨gF, gJ, hs, hl, lh, many, tr, ths⟩) hw (h1 := k1) (h2 := k2) rfl, row20h (s := wH s k1 k2 ⟨gF, gJ, hs, hl, lh, many, tr, ths⟩) hw (h1 := k1) (h2 := k2) (h := ⟨gF, gJ, hs, hl, lh, many, tr, ths⟩) rfl, h.1.1, h.1.2.1, h.1.2.2, h.2.1, h.2.2⟩
end
noncomputable def idP (many tr : Bool) : List (Nm × O) := comE ++ (ciH many (cond tr (oS 29 6) xsn) :: (hiB ++ cond tr [b64] []))
noncomputable def idQ (many tr : Bool) : List (Nm × O) := [b0, b1, b35, b3, b4] ++ (ciH many (cond tr (oS 29 6) xsn) :: (hiB ++ cond tr [b64] []))
noncomputable def idR (many tr : Bool) (TT : List TbE) (vs : List V) (c : Nat) : Bool := okR (.t [.s xsn, .s (iI c)]) vs ((mn 0, .tb (f0 :: f1 :: f2 :: f3 :: TT)) :: idP many tr) ((mn 0, .tb (f0 :: f1 :: f2 :: f3 :: TT)) :: idQ many tr)
theorem a_id {s : Sta} {k1 k2 : List Hm} {h : Hm} (hw : WF (wH s k1 k2 h)) (h4 : h.ths.length ≤ 4) {TT : List TbE} {vs : List V} {c : Nat} {n : Int} {args : List Value} (hrun : idR h.many h.tr TT vs c = true) (hT : ∀ b : Bs, b.lT = h.ths.length → AllP (TT.map (TbOk (tauA b)))) (ha : ∀ b : Bs, b.n = n → b.hm = k1.length + 1 → vs.map (deV (DA (fhp s.F h.F h.ths pz) b noN)) = args) (hn2 : ∀ D, AllP (needVs D vs)) {w : World} (hown : ∀ p ∈ blocks (wH s k1 k2 h), w.heap[p.1]? = some p.2) (hnd : (keys (blocks (wH s k1 k2 h))).Nodup) :
    Ctr Tryz.prog 8 args w (blocks (wH s k1 k2 h)) fun y L' => ∃ (J : Nat → List Value) (o : Obj) (K : Nat → List Value) (Jk : List Ent),
      let s' : Sta := { s with hms := k1 ++ { h with J := K } :: k2, J := J, O := o, b := { s.b with told := vS none 0 0 } }
      L'.Perm (blocks s' ++ Jk) ∧ WF s' ∧ ∃ v, y = .tuple #[v, .int .i64 (c : Int)] := by
  obtain ⟨gF, gJ, hs, hl, lh, many, tr, ths⟩ := h
  have h4 : ths.length ≤ 4 := h4
  obtain ⟨hmh, hrow, r22, r25, r27, r29, hnil⟩ := siG hw
  obtain ⟨b, hb⟩ : ∃ b : Bs, b = { s.b with n := n, hm := k1.length + 1, lT := ths.length, ob := obW [(2, o2 s.b.H (k1.length + 1)), (6, .c 289 1 ths.length (rowS 0 ths.length))] (wH s k1 k2 ⟨gF, gJ, hs, hl, lh, many, tr, ths⟩) } := ⟨_, rfl⟩
  obtain ⟨run, hck⟩ := okR_i hrun
  have hob : ∀ i, fnB ((bHm b hs hl lh many ths).ob i) = true := by show ∀ i, fnB (b.ob i) = true; rw [hb]; exact fn_obW _ (and2 fn_o2 (and2 (fn_row _ _) rfl))
  have ft := fun e => fit (F := s.F) (g := gF) (b := b) (hs := hs) (hl := hl) (lh := lh) (many := many) (e := e) (p := pz) h4
  have hthr : ∀ e, deS (DA (fhp s.F gF ths pz) (bHm b hs hl lh many ths) e) (cond tr (oS 29 6) xsn) = cond tr (sl gF 29 ths.length) nilS := fun e => by subst hb; cases tr <;> rfl
  have q0 : ((mn 0, O.tb (f0 :: f1 :: f2 :: f3 :: TT)) :: comE).map (deE (DA (fhp s.F gF ths pz) (bHm b hs hl lh many ths) noN) (xS (jhp s.J gJ pz) s.O)) = [0, 1, 2].flatMap (kk { (wH s k1 k2 ⟨gF, gJ, hs, hl, lh, many, tr, ths⟩) with net := s.net, hms := k1 ++ k2 } [] [⟨gF, gJ, hs, hl, lh, many, tr, ths⟩]) := by
    subst hb
    exact mapEq ⟨rfl, rfl, rfl, rfl, de_row rfl (mid2 hw (by rfl) hmh hrow), de_row rfl (all1 hw (by rfl)), trivial⟩
  have qr : (cond tr [b64] []).map (deE (DA (fhp s.F gF ths pz) (bHm b hs hl lh many ths) noN) (xS (jhp s.J gJ pz) s.O)) = gH29 ⟨gF, gJ, hs, hl, lh, many, tr, ths⟩ := by
    cases tr
    · rfl
    · exact congrArg (· :: []) (de_row (by subst hb; rfl) (row_de (ft noN)))
  have htb : AllP ((f0 :: f1 :: f2 :: f3 :: TT).map (TbOk (tauA (bHm b hs hl lh many ths)))) := by
    have := hT (bHm b hs hl lh many ths) (by subst hb; rfl)
    subst hb
    exact ⟨fa0, fa1 hmh, fa2 hmh, fa3 rfl, this⟩
  have hneed : AllP (needE (DA (fhp s.F gF ths pz) (bHm b hs hl lh many ths) noN) 48 (xS (jhp s.J gJ pz) s.O) ((mn 0, O.tb (f0 :: f1 :: f2 :: f3 :: TT)) :: idP many tr)) := by
    refine AllP.app.2 ⟨htb, ?_⟩
    unfold idP
    rw [needE_app, ← List.cons_append, needE_app]
    refine AllP.app.2 ⟨?_, AllP.app.2 ⟨need_ci r22 r25 r27 ?_, ?_⟩⟩
    · subst hb; exact need_com ⟨hw.com.1, hw.com.2⟩ (op_tks hw.com.2) (op2 hw hmh hw.com.1)
    · cases tr
      · trivial
      · have := r29 rfl
        subst hb
        exact ⟨⟨ths.length, rfl, show ths.length ≤ (gF 29).2 by omega⟩, trivial⟩
    · cases tr
      · trivial
      · have := r29 rfl
        subst hb
        exact ⟨⟨bnd_row h4, by rw [need_row]; trivial, by show (rowS 0 ths.length).length = ths.length * 1; rw [rowS_len]; omega, by rw [rowS_len]; show ths.length + (gJ 29).length = (gF 29).2 * 1; omega, trivial⟩, trivial⟩
  have q1 : ((mn 0, O.tb (f0 :: f1 :: f2 :: f3 :: TT)) :: idP many tr).map (deE (DA (fhp s.F gF ths pz) (bHm b hs hl lh many ths) noN) (xS (jhp s.J gJ pz) s.O)) = [0, 1, 2].flatMap (kk { (wH s k1 k2 ⟨gF, gJ, hs, hl, lh, many, tr, ths⟩) with net := s.net, hms := k1 ++ k2 } [] [⟨gF, gJ, hs, hl, lh, many, tr, ths⟩]) ++ ((gH20 gF many hs hl (cond tr (sl gF 29 ths.length) nilS) ++ hbA gF gJ { b with lh := lh }) ++ gH29 ⟨gF, gJ, hs, hl, lh, many, tr, ths⟩) := by
    unfold idP
    rw [← List.cons_append, ← List.cons_append (bs := cond tr [b64] []), List.map_append, List.map_append, q0, de_ci rfl rfl rfl (hthr noN), qr]
  have hsel := blocks_sel (s := wH s k1 k2 ⟨gF, gJ, hs, hl, lh, many, tr, ths⟩) (net := s.net) (xp := []) (xh := [⟨gF, gJ, hs, hl, lh, many, tr, ths⟩]) px pmid ([0, 1, 2] ++ [15]) [3, 4, 5, 6, 7, 8, 9, 10, 11, 12, 13, 14] (by decide)
  rw [flat15] at hsel
  refine (act_of run hck hob q1 (ha _ (by subst hb; rfl) (by subst hb; rfl)) (R := [3, 4, 5, 6, 7, 8, 9, 10, 11, 12, 13, 14].flatMap (kk { (wH s k1 k2 ⟨gF, gJ, hs, hl, lh, many, tr, ths⟩) with net := s.net, hms := k1 ++ k2 } [] [⟨gF, gJ, hs, hl, lh, many, tr, ths⟩]) ++ ths.flatMap gTh) (hsel.trans ?_) hneed (hn2 _) hown hnd).mono ?_
  · classical
    have e : gHm { (wH s k1 k2 ⟨gF, gJ, hs, hl, lh, many, tr, ths⟩) with net := s.net, hms := k1 ++ k2 }.b ⟨gF, gJ, hs, hl, lh, many, tr, ths⟩ = gH20 gF many hs hl (cond tr (sl gF 29 ths.length) nilS) ++ (hbA gF gJ { b with lh := lh } ++ (gH29 ⟨gF, gJ, hs, hl, lh, many, tr, ths⟩ ++ ths.flatMap gTh)) := by subst hb; rfl
    rw [e]
    refine List.perm_iff_count.2 fun z => ?_
    simp only [List.count_append]
    omega
  rintro y L' ⟨e, z, Jk, rfl, h2, h3⟩
  generalize hJ : jw [(4, 4), (5, 5)] z s.J = J
  generalize hK : (fun k => (z (mn k)).1) = K
  have p0 : ((mn 0, O.tb (f0 :: f1 :: f2 :: f3 :: TT)) :: [b0, b1, b35, b3, b4]).map (deE (DA (fhp s.F gF ths pz) (bHm b hs hl lh many ths) e) z) = [0, 1, 2].flatMap (kk { s with hms := k1 ++ k2, J := J, O := (z (mn 0)).2, b := { s.b with told := vS none 0 0 } } [] [⟨gF, K, hs, hl, lh, many, tr, ths⟩]) := by
    subst hb hJ
    exact mapEq ⟨rfl, rfl, rfl, rfl, de_row rfl (mid2 hw (by rfl) hmh hrow), de_row rfl (all1 hw (by rfl)), trivial⟩
  have p1 := de_ci (F := s.F) (g := gF) (K := K) (b := b) (hs := hs) (hl := hl) (lh := lh) (many := many) (ths := ths) (p := pz) (e := e) (x := z) (by subst hK; rfl) (by subst hK; rfl) (by subst hK; rfl) (hthr e)
  have p2 : (cond tr [b64] []).map (deE (DA (fhp s.F gF ths pz) (bHm b hs hl lh many ths) e) z) = gH29 ⟨gF, K, hs, hl, lh, many, tr, ths⟩ := by
    cases tr
    · rfl
    · subst hK; exact congrArg (· :: []) (de_row (by subst hb; rfl) (row_de (ft e)))
  have g4 := inf_op 4 (mn 4) 2 111 0 s.b.H h3 rfl (by subst hb; rfl) (mid_len (by show (k1.length + 1) * 1 + 0 + 1 ≤ s.b.H * 1; omega))
  have g5 := inf_op 5 (mn 5) 1 50 5 s.b.lL h3 rfl (by subst hb; rfl) (tks_len _ _)
  have g22 := inf_c 8 (mn 22) h3 rfl
  have g25 := inf_c 11 (mn 25) h3 rfl
  have g27 := inf_c 13 (mn 27) h3 rfl
  have g29 : tr = true → ths.length * (0 + 1) + (z (mn 29)).1.length = (gF 29).2 * (0 + 1) := fun ht => by
    subst ht
    exact inf_op 15 (mn 29) 6 289 0 ths.length h3 rfl (by subst hb; rfl) (by rw [rowS_len]; omega)
  have hsel2 := blocks_sel (s := { s with hms := k1 ++ ⟨gF, K, hs, hl, lh, many, tr, ths⟩ :: k2, J := J, O := (z (mn 0)).2, b := { s.b with told := vS none 0 0 } }) (net := s.net) (hms := k1 ++ k2) (xp := []) (xh := [⟨gF, K, hs, hl, lh, many, tr, ths⟩]) px pmid ([0, 1, 2] ++ [15]) [3, 4, 5, 6, 7, 8, 9, 10, 11, 12, 13, 14] (by decide)
  rw [flat15] at hsel2
  have e9 : [3, 4, 5, 6, 7, 8, 9, 10, 11, 12, 13, 14].flatMap (kk { (wH s k1 k2 ⟨gF, gJ, hs, hl, lh, many, tr, ths⟩) with net := s.net, hms := k1 ++ k2 } [] [⟨gF, gJ, hs, hl, lh, many, tr, ths⟩]) = [3, 4, 5, 6, 7, 8, 9, 10, 11, 12, 13, 14].flatMap (kk { s with hms := k1 ++ k2, J := J, O := (z (mn 0)).2, b := { s.b with told := vS none 0 0 } } [] [⟨gF, K, hs, hl, lh, many, tr, ths⟩]) := by subst hJ; rfl
  have e8 : gHm s.b ⟨gF, K, hs, hl, lh, many, tr, ths⟩ = gH20 gF many hs hl (cond tr (sl gF 29 ths.length) nilS) ++ (hbA gF K { b with lh := lh } ++ (gH29 ⟨gF, K, hs, hl, lh, many, tr, ths⟩ ++ ths.flatMap gTh)) := by subst hb hK; rfl
  have e7 : ((mn 0, O.tb (f0 :: f1 :: f2 :: f3 :: TT)) :: idQ many tr).map (deE (DA (fhp s.F gF ths pz) (bHm b hs hl lh many ths) e) z) = [0, 1, 2].flatMap (kk { s with hms := k1 ++ k2, J := J, O := (z (mn 0)).2, b := { s.b with told := vS none 0 0 } } [] [⟨gF, K, hs, hl, lh, many, tr, ths⟩]) ++ ((gH20 gF many hs hl (cond tr (sl gF 29 ths.length) nilS) ++ hbA gF K { b with lh := lh }) ++ gH29 ⟨gF, K, hs, hl, lh, many, tr, ths⟩) := by
    unfold idQ
    rw [← List.cons_append, ← List.cons_append (bs := cond tr [b64] []), List.map_append, List.map_append, p0, p1, p2]
  rw [e7, e9] at h2
  refine ⟨J, (z (mn 0)).2, K, Jk, ?_, ?_, _, rfl⟩
  · classical
    refine h2.trans (List.perm_iff_count.2 fun u => ?_)
    have c2 := hsel2.count_eq u
    have c8 := congrArg (List.count u) e8
    simp only [List.count_append] at c2 c8 ⊢
    have c8 : List.count u (gHm { s.b with told := vS none 0 0 } ⟨gF, K, hs, hl, lh, many, tr, ths⟩) = _ := c8
    have c2 : _ = List.count u _ + List.count u (gHm { s.b with told := vS none 0 0 } ⟨gF, K, hs, hl, lh, many, tr, ths⟩) + _ := c2
    omega
  · have r3 : RmHm ⟨gF, K, hs, hl, lh, many, tr, ths⟩ := by subst hK; exact ⟨⟨g22, g25, g27⟩, g29, hnil⟩
    have hm' := hms_rm (s := wH s k1 k2 ⟨gF, gJ, hs, hl, lh, many, tr, ths⟩) hw (h1 := k1) (h2 := k2) (h := ⟨gF, gJ, hs, hl, lh, many, tr, ths⟩) rfl r3
    have hH' := hms_rH (s := wH s k1 k2 ⟨gF, gJ, hs, hl, lh, many, tr, ths⟩) hw (h1 := k1) (h2 := k2) (h := ⟨gF, gJ, hs, hl, lh, many, tr, ths⟩) (h' := ⟨gF, K, hs, hl, lh, many, tr, ths⟩) rfl rfl
    have hB' := hms_bH (s := wH s k1 k2 ⟨gF, gJ, hs, hl, lh, many, tr, ths⟩) hw (h1 := k1) (h2 := k2) (h := ⟨gF, gJ, hs, hl, lh, many, tr, ths⟩) (h' := ⟨gF, K, hs, hl, lh, many, tr, ths⟩) rfl
    clear p0 p1 p2 e7 e8 e9 hsel2 h2 r3 hK
    subst hJ
    exact { hw with com := ⟨g4, g5⟩, hm := hm', rH := hH', bH := hB' }
theorem r_id : ((idR true true [f20] ciV 9 && idR false true [f22] ciV 9) && (idR true false [] stV 12 && idR false false [] stV 12)) = true := by decide +kernel
theorem a_cb {s : Sta} {k1 k2 : List Hm} {h : Hm} (htr : h.tr = true) (hw : WF (wH s k1 k2 h)) (h4 : h.ths.length ≤ 4) (hbz : h.many = true ∧ h.ths.length = 4 ∨ h.many = false ∧ h.ths.length ≠ 0) (n : Int) {w : World} (hown : ∀ p ∈ blocks (wH s k1 k2 h), w.heap[p.1]? = some p.2) (hnd : (keys (blocks (wH s k1 k2 h))).Nodup) :
    Ctr Tryz.prog 8 [.pointer (some ⟨(s.F 1).1, 0, none⟩), actVal 5 ((k1.length + 1 : Nat) : Int) 4294967297 n] w (blocks (wH s k1 k2 h)) fun y L' => ∃ (J : Nat → List Value) (o : Obj) (K : Nat → List Value) (Jk : List Ent),
      let s' : Sta := { s with hms := k1 ++ { h with J := K } :: k2, J := J, O := o, b := { s.b with told := vS none 0 0 } }
      L'.Perm (blocks s' ++ Jk) ∧ WF s' ∧ ∃ v, y = .tuple #[v, .int .i64 9] := by
  have hr := r_id
  rw [Bool.and_eq_true, Bool.and_eq_true, Bool.and_eq_true] at hr
  rcases hbz with ⟨hm, h0⟩ | ⟨hm, h0⟩
  · exact a_id (n := n) (c := 9) (TT := [f20]) (vs := ciV) hw h4 (by rw [hm, htr]; exact hr.1.1) (fun b hb => ⟨fa20 (by omega), trivial⟩) (fun b h1 h2 => by show [_, deV _ (actV 5 (tK 2) (iU 4294967297) (tK 3))] = [_, actVal 5 _ _ n]; rw [← h1, ← h2]; rfl) (fun _ => trivial) hown hnd
  · exact a_id (n := n) (c := 9) (TT := [f22]) (vs := ciV) hw h4 (by rw [hm, htr]; exact hr.1.2) (fun b hb => ⟨fa22 (by omega), trivial⟩) (fun b h1 h2 => by show [_, deV _ (actV 5 (tK 2) (iU 4294967297) (tK 3))] = [_, actVal 5 _ _ n]; rw [← h1, ← h2]; rfl) (fun _ => trivial) hown hnd
theorem a_si0 {s : Sta} {k1 k2 : List Hm} {h : Hm} (htr : h.tr = false) (hw : WF (wH s k1 k2 h)) (h4 : h.ths.length ≤ 4) (n : Int) {w : World} (hown : ∀ p ∈ blocks (wH s k1 k2 h), w.heap[p.1]? = some p.2) (hnd : (keys (blocks (wH s k1 k2 h))).Nodup) :
    Ctr Tryz.prog 8 [.pointer (some ⟨(s.F 1).1, 0, none⟩), actVal 21 ((k1.length + 1 : Nat) : Int) 0 n] w (blocks (wH s k1 k2 h)) fun y L' => ∃ (J : Nat → List Value) (o : Obj) (K : Nat → List Value) (Jk : List Ent),
      let s' : Sta := { s with hms := k1 ++ { h with J := K } :: k2, J := J, O := o, b := { s.b with told := vS none 0 0 } }
      L'.Perm (blocks s' ++ Jk) ∧ WF s' ∧ ∃ v, y = .tuple #[v, .int .i64 12] := by
  have hr := r_id
  rw [Bool.and_eq_true, Bool.and_eq_true, Bool.and_eq_true] at hr
  have hrun : idR h.many h.tr [] stV 12 = true := by
    rw [htr]
    cases h.many
    · exact hr.2.2
    · exact hr.2.1
  exact a_id (n := n) (c := 12) (TT := []) (vs := stV) hw h4 hrun (fun b hb => trivial) (fun b h1 h2 => by show [_, deV _ (actV 21 (tK 2) (iU 0) (tK 3))] = [_, actVal 21 _ _ n]; rw [← h1, ← h2]; rfl) (fun _ => trivial) hown hnd
end Go.Proofs.YtpcdcemcjbeajaaGreatDoor
end
