/- WholeFar: FarRk. -/
import Derived.Test.YtpcdcemcjbeajaaGreatDoorWf19
set_option maxHeartbeats 1000000
set_option linter.unusedVariables false
set_option linter.unusedSimpArgs false
set_option maxRecDepth 100000
namespace Go.Proofs.YtpcdcemcjbeajaaGreatDoor
open Go Go.RowKit Go.Shelf
theorem r_ci1 : ∀ {many tr nr : Bool}, (tr = true → nr = true) → ciR many tr nr = true
  | _, true, false, h => Bool.noConfusion (h rfl)
  | true, true, true, _ => List.all_eq_true.1 r_ci (true, true, true) (by simp)
  | true, false, true, _ => List.all_eq_true.1 r_ci (true, false, true) (by simp)
  | true, false, false, _ => List.all_eq_true.1 r_ci (true, false, false) (by simp)
  | false, true, true, _ => List.all_eq_true.1 r_ci (false, true, true) (by simp)
  | false, false, true, _ => List.all_eq_true.1 r_ci (false, false, true) (by simp)
  | false, false, false, _ => List.all_eq_true.1 r_ci (false, false, false) (by simp)
theorem a_ci {s : Sta} {k1 k2 : List Hm} {h : Hm} (hw : WF (wH s k1 k2 h)) (h4 : h.ths.length ≤ 3) (hlh : LhOk h.lh) (hfree : h.many = false → h.ths.length = 0) (htn : h.tr = true → s.nr = true) {q ck : Nat} {l' : List Rd3} (hs' : h.tr = false ∧ look (k1.length + 1) 0 s.sent = none ∧ l' = s.sent ++ [(k1.length + 1, 0, 1, s.sck)] ∧ ck = s.sck + 1 ∧ q = 0 ∨ h.tr = true ∧ look (k1.length + 1) 0 s.sent = some q ∧ l' = setL (k1.length + 1) 0 (q + 1) s.sent ∧ ck = s.sck) {n : Int} (hq : q < 1000000) (hcl : s.b.calls < 1000000) (hll : s.b.lL < 990) (h12 : s.net.length < 12) (hp : PkB (k1.length + 1) 0 (q + 1) (s.b.calls + 1) n) {w : World} (hown : ∀ p ∈ blocks (wH s k1 k2 h), w.heap[p.1]? = some p.2) (hnd : (keys (blocks (wH s k1 k2 h))).Nodup) :
    Ctr Tryz.prog 8 [.pointer (some ⟨(s.F 1).1, 0, none⟩), actVal 5 ((k1.length + 1 : Nat) : Int) 4294967297 n] w (blocks (wH s k1 k2 h)) fun y L' => ∃ (F : Nat → Nat × Nat) (J : Nat → List Value) (o : Obj) (tl : V1) (hF : Nat → Nat × Nat) (K : Nat → List Value) (r u pb pc : Nat) (pj : List Value) (Jk : List Ent),
      let P : Pk := ⟨pb, pc, pj, 1, k1.length + 1, 0, q + 1, s.b.calls + 1, n⟩
      let s' : Sta := { s with F := F, nr := true, net := s.net ++ [P], sent := l', sck := ck, hms := k1 ++ { h with F := hF, J := K, tr := true, ths := h.ths ++ [⟨r, u, s.b.calls + 1, s.b.calls + 2, none⟩] } :: k2, J := J, O := o, b := { s.b with calls := s.b.calls + 2, lL := s.b.lL + 1, lR := s.b.lR + 1, told := tl, rows := updR (updR s.b.rows 1 (s.b.rows 1 ++ eCall (s.b.calls + 2))) 3 (s.b.rows 3 ++ [P.slice]) } }
      (F 1).1 = (s.F 1).1 ∧ L'.Perm (blocks s' ++ Jk) ∧ WF s' ∧ ∃ v, y = .tuple #[v, .int .i64 0] := by
  obtain ⟨gF, gJ, hs, hl, lh, many, tr, ths⟩ := h
  have h3 : ths.length ≤ 3 := h4
  have hle : ths.length ≤ 4 := by omega
  clear h4
  have hfree : many = false → ths.length = 0 := hfree
  have hlh : LhOk lh := hlh
  have htn : tr = true → s.nr = true := htn
  have hs' : tr = false ∧ look (k1.length + 1) 0 s.sent = none ∧ l' = s.sent ++ [(k1.length + 1, 0, 1, s.sck)] ∧ ck = s.sck + 1 ∧ q = 0 ∨ tr = true ∧ look (k1.length + 1) 0 s.sent = some q ∧ l' = setL (k1.length + 1) 0 (q + 1) s.sent ∧ ck = s.sck := hs'
  obtain ⟨hmh, hrow, r22, r25, r27, r29, hnil⟩ := siG hw
  have hlR : s.b.lR = s.net.length := hw.lR
  have hr3 : s.nr = false → s.b.rows 3 = [] ∧ s.b.lR = 0 := fun h => by
    have e : s.net = [] := hw.nR h
    have e2 : s.b.rows 3 = s.net.map Pk.slice := hw.rR
    exact ⟨by rw [e2, e]; rfl, by rw [hlR, e]; rfl⟩
  obtain ⟨S0, hS0⟩ : ∃ S0 : Sta, S0 = wH s k1 k2 ⟨gF, gJ, hs, hl, lh, many, tr, ths⟩ := ⟨_, rfl⟩
  obtain ⟨b, hb⟩ : ∃ b : Bs, b = { s.b with n := n, hm := k1.length + 1, lT := ths.length, seq := q, ob := obW ((2, o2 s.b.H (k1.length + 1)) :: (11, o11 s.b.lL 1 [iI 2, tK 79, iI 0, iI 0, iI 0, iI 0]) :: (13, o13 s.b.lR [rL 77 64]) :: cond tr [(4, .m (sentT (k1.length + 1) 0 (.s (tK 20)) s.sent) s.sck), (14, .m (sentT (k1.length + 1) 0 (.s (tK 81)) s.sent) s.sck), (6, .c 289 1 ths.length (rowS 0 ths.length)), (16, .c 289 1 (ths.length + 1) (rowS 0 ths.length ++ [.l (mn 82) 0 1 1 false]))] [(14, .m ((s.sent ++ [(k1.length + 1, 0, 1, s.sck)]).map sentS) (s.sck + 1))]) S0 } := ⟨_, rfl⟩
  obtain ⟨run, hck⟩ := okR_i (r_ci1 (many := many) htn)
  have hob : ∀ i, fnB ((bHm b hs hl lh many ths).ob i) = true := by
    show ∀ i, fnB (b.ob i) = true
    rw [hb]
    refine fn_obW _ (and2 fn_o2 (and2 (fn_o11 rfl) (and2 (fn_ap rfl) ?_)))
    cases tr
    · exact and2 (fn_sent _ _) rfl
    · exact and2 (fn_T _ _) (and2 (fn_T _ _) (and2 (fn_row _ _) (and2 (by show (rowS 0 ths.length ++ [_]).all fnS = true; rw [List.all_append, fn_row]; rfl) rfl)))
  have ft := fun e => fit (F := s.F) (g := gF) (b := b) (hs := hs) (hl := hl) (lh := lh) (many := many) (e := e) (p := pz) hle
  obtain ⟨T0, hT0⟩ : ∃ T0 : Value, T0 = cond tr (sl gF 29 ths.length) nilS := ⟨_, rfl⟩
  have hthr : deS (DA (fhp s.F gF ths pz) (bHm b hs hl lh many ths) noN) (cond tr (oS 29 6) xsn) = T0 := by subst hb hT0; cases tr <;> rfl
  have q0 : ((mn 0, O.tb (ciT many tr s.nr)) :: comE).map (deE (DA (fhp s.F gF ths pz) (bHm b hs hl lh many ths) noN) (xS (jhp s.J gJ pz) s.O)) = [0, 1, 2].flatMap (kk { S0 with net := s.net, hms := k1 ++ k2 } [] [⟨gF, gJ, hs, hl, lh, many, tr, ths⟩]) := by
    subst hb hS0
    cases tr <;> exact mapEq ⟨rfl, rfl, rfl, rfl, de_row rfl (mid2 hw (by rfl) hmh hrow), de_row rfl (all1 hw (by rfl)), trivial⟩
  have qn : (cond s.nr netR netN).map (deE (DA (fhp s.F gF ths pz) (bHm b hs hl lh many ths) noN) (xS (jhp s.J gJ pz) s.O)) = [4, 5, 6].flatMap (kk { S0 with net := s.net, hms := k1 ++ k2 } [] [⟨gF, gJ, hs, hl, lh, many, tr, ths⟩]) := by
    have hsl : deE (DA (fhp s.F gF ths pz) (bHm b hs hl lh many ths) noN) (xS (jhp s.J gJ pz) s.O) b37 = ((s.F 17).1, .map (s.sent.map sentV).toArray s.sck) := by
      rcases hs' with ⟨rfl, h1, -, -, -⟩ | ⟨rfl, h1, -⟩
      · subst hb hS0; exact de_sent rfl
      · subst hb; exact (de_sentT (q := q) rfl rfl (by rw [h1]; rfl)).trans (by rw [setL_id h1]; rfl)
    have hca : deE (DA (fhp s.F gF ths pz) (bHm b hs hl lh many ths) noN) (xS (jhp s.J gJ pz) s.O) b38 = ((s.F 18).1, .map (s.came.map cameV).toArray s.cck) := by
      subst hb hS0; cases tr <;> exact de_came rfl
    have hA3 : s.nr = true → deE (DA (fhp s.F gF ths pz) (bHm b hs hl lh many ths) noN) (xS (jhp s.J gJ pz) s.O) b60 = rowE s.F s.J 16 161 (s.b.rows 3) := fun _ => by
      subst hb hS0; cases tr <;> exact de_row rfl (all3 hw (by rfl))
    subst hS0
    show _ = netA s.F s.J s.b (netSl s.F s.nr s.b.lR) ++ (netR_ s.F s.J s.nr (s.b.rows 3) ++ (netM s.F s.sent s.sck s.came s.cck ++ []))
    cases hnr : s.nr with
    | true =>
      show [deE _ _ b59, deE _ _ b60, deE _ _ b37, deE _ _ b38] = _
      rw [hsl, hca, hA3 hnr]; subst hb; rfl
    | false =>
      show [deE _ _ b36, deE _ _ b37, deE _ _ b38] = _
      rw [hsl, hca]; subst hb; rfl
  have qh := de_ci (F := s.F) (g := gF) (K := gJ) (b := b) (hs := hs) (hl := hl) (lh := lh) (many := many) (ths := ths) (p := pz) (e := noN) (x := xS (jhp s.J gJ pz) s.O) rfl rfl rfl hthr
  have qr : (cond tr [b64] []).map (deE (DA (fhp s.F gF ths pz) (bHm b hs hl lh many ths) noN) (xS (jhp s.J gJ pz) s.O)) = gH29 ⟨gF, gJ, hs, hl, lh, many, tr, ths⟩ := by
    cases tr
    · rfl
    · exact congrArg (· :: []) (de_row (by subst hb; rfl) (row_de (ft noN)))
  have q1 : ((mn 0, O.tb (ciT many tr s.nr)) :: ciP many tr s.nr).map (deE (DA (fhp s.F gF ths pz) (bHm b hs hl lh many ths) noN) (xS (jhp s.J gJ pz) s.O)) = [0, 1, 2].flatMap (kk { S0 with net := s.net, hms := k1 ++ k2 } [] [⟨gF, gJ, hs, hl, lh, many, tr, ths⟩]) ++ ([4, 5, 6].flatMap (kk { S0 with net := s.net, hms := k1 ++ k2 } [] [⟨gF, gJ, hs, hl, lh, many, tr, ths⟩]) ++ ((gH20 gF many hs hl T0 ++ hbA gF gJ { b with lh := lh }) ++ gH29 ⟨gF, gJ, hs, hl, lh, many, tr, ths⟩)) := by
    unfold ciP
    rw [← List.cons_append, ← List.cons_append (bs := cond tr [b64] []), List.map_append, List.map_append, List.map_append, q0, qn, qh, qr]
  have htb : AllP ((ciT many tr s.nr).map (TbOk (tauA (bHm b hs hl lh many ths)))) := by
    have h14 : tr = true → TbOk (tauA (bHm b hs hl lh many ths)) (cond many f14 f21) := fun _ => by
      subst hb
      cases many
      · exact fa21 (hfree rfl)
      · exact fa14 (show ths.length < 4 by omega)
    have h6 : TbOk (tauA (bHm b hs hl lh many ths)) f6 := by subst hb; exact fa6 hlh
    have h12 : TbOk (tauA (bHm b hs hl lh many ths)) f12 := by subst hb; exact fa12 (by show s.b.lR < 4096; omega)
    have h13 : s.nr = true → TbOk (tauA (bHm b hs hl lh many ths)) f13 := fun _ => by subst hb hS0; cases tr <;> exact fa75 (by show s.b.lR ≤ 1000; omega) rfl rfl rfl
    have h11 : TbOk (tauA (bHm b hs hl lh many ths)) f11 := by subst hb hS0; cases tr <;> exact fa5 hw.bL rfl rfl rfl
    have h1 : AllP ([f0, f1, f2, f3, f4, f10].map (TbOk (tauA (bHm b hs hl lh many ths)))) := by subst hb; exact ⟨fa0, fa1 hmh, fa2 hmh, fa3 rfl, fa4 hcl, fa10 hcl, trivial⟩
    rcases hs' with ⟨rfl, h5, -, -, rfl⟩ | ⟨rfl, h5, -⟩
    · have h7 : TbOk (tauA (bHm b hs hl lh many ths)) f7 := by subst hb hS0; exact lkN rfl rfl rfl h5
      have h8 : TbOk (tauA (bHm b hs hl lh many ths)) f8 := by subst hb; exact fa8 hp
      have h9 : TbOk (tauA (bHm b hs hl lh many ths)) f9 := by subst hb hS0; exact upN rfl rfl rfl h5 rfl
      cases hnr : s.nr with
      | true => exact ⟨h1.1, h1.2.1, h1.2.2.1, h1.2.2.2.1, h6, h1.2.2.2.2.1, h7, h8, h12, h13 hnr, h9, h1.2.2.2.2.2.1, h11, trivial⟩
      | false => exact ⟨h1.1, h1.2.1, h1.2.2.1, h1.2.2.2.1, h6, h1.2.2.2.2.1, h7, h8, h9, h1.2.2.2.2.2.1, h11, trivial⟩
    · have h7 : TbOk (tauA (bHm b hs hl lh many ths)) f15 := by subst hb; exact lkS rfl rfl rfl h5
      have h16 : TbOk (tauA (bHm b hs hl lh many ths)) f16 := by subst hb; exact fa16 hq
      have h8 : TbOk (tauA (bHm b hs hl lh many ths)) f17 := by subst hb; exact fa17 hp
      have h9 : TbOk (tauA (bHm b hs hl lh many ths)) f18 := by subst hb; exact upS rfl rfl rfl h5 rfl
      have h19 : TbOk (tauA (bHm b hs hl lh many ths)) f19 := by subst hb; exact fa19 rfl hle rfl rfl
      rw [htn rfl]
      exact ⟨h1.1, h1.2.1, h1.2.2.1, h1.2.2.2.1, h14 rfl, h6, h1.2.2.2.2.1, h7, h16, h8, h12, h13 (htn rfl), h9, h1.2.2.2.2.2.1, h19, h11, trivial⟩
  have hneed : AllP (needE (DA (fhp s.F gF ths pz) (bHm b hs hl lh many ths) noN) 48 (xS (jhp s.J gJ pz) s.O) ((mn 0, O.tb (ciT many tr s.nr)) :: ciP many tr s.nr)) := by
    refine AllP.app.2 ⟨htb, ?_⟩
    unfold ciP
    rw [needE_app, needE_app, ← List.cons_append, needE_app]
    refine AllP.app.2 ⟨?_, AllP.app.2 ⟨?_, AllP.app.2 ⟨need_ci r22 r25 r27 ?_, ?_⟩⟩⟩
    · subst hb hS0
      cases tr <;> exact need_com ⟨hw.com.1, hw.com.2⟩ (op_tks hw.com.2) (op2 hw hmh hw.com.1)
    · have h17 : opPre (DA (fhp s.F gF ths pz) (bHm b hs hl lh many ths) noN) 48 (mn 17) ((xS (jhp s.J gJ pz) s.O) (mn 17)) ((bHm b hs hl lh many ths).ob 4) := by
        subst hb hS0; cases tr
        · exact op_sent
        · exact op_T
      have h18 : opPre (DA (fhp s.F gF ths pz) (bHm b hs hl lh many ths) noN) 48 (mn 18) ((xS (jhp s.J gJ pz) s.O) (mn 18)) ((bHm b hs hl lh many ths).ob 5) := by
        subst hb hS0; cases tr <;> exact op_came
      cases hnr : s.nr with
      | false => exact need_netN h17 h18
      | true =>
        have h0 := hw.rnet hnr
        have h0 : s.b.lR * 1 + (s.J 16).length = (s.F 16).2 * 1 := h0
        refine need_netR ?_ ?_ h17 h18
        · subst hb; show s.b.lR ≤ (s.F 16).2; omega
        · subst hb hS0; cases tr <;> exact op_tks h0
    · cases tr
      · trivial
      · have := r29 rfl
        subst hb
        exact ⟨⟨ths.length, rfl, show ths.length ≤ (gF 29).2 by omega⟩, trivial⟩
    · cases tr
      · trivial
      · have := r29 rfl
        subst hb
        exact ⟨⟨bnd_row hle, by rw [need_row]; trivial, by show (rowS 0 ths.length).length = ths.length * 1; rw [rowS_len]; omega, by rw [rowS_len]; show ths.length + (gJ 29).length = (gF 29).2 * 1; omega, trivial⟩, trivial⟩
  have hsel := blocks_sel (s := S0) (net := s.net) (hms := k1 ++ k2) (xp := []) (xh := [⟨gF, gJ, hs, hl, lh, many, tr, ths⟩]) (by subst hS0; exact px) (by subst hS0; exact pmid) ([0, 1, 2, 4, 5, 6] ++ [15]) [3, 7, 8, 9, 10, 11, 12, 13, 14] (by decide)
  rw [flat15] at hsel
  have hgm : gHm { S0 with net := s.net, hms := k1 ++ k2 }.b ⟨gF, gJ, hs, hl, lh, many, tr, ths⟩ = gH20 gF many hs hl T0 ++ (hbA gF gJ { b with lh := lh } ++ (gH29 ⟨gF, gJ, hs, hl, lh, many, tr, ths⟩ ++ ths.flatMap gTh)) := by subst hb hS0 hT0; rfl
  have h03 : ∀ (S : Sta) (xp : List Pk) (xh : List Hm), [0, 1, 2, 4, 5, 6].flatMap (kk S xp xh) = [0, 1, 2].flatMap (kk S xp xh) ++ [4, 5, 6].flatMap (kk S xp xh) := fun S xp xh => by rw [← List.flatMap_append]; rfl
  rw [hgm, h03] at hsel
  rw [← hS0] at hown hnd ⊢
  refine (act_of run hck hob q1 (by subst hb; rfl) (R := [3, 7, 8, 9, 10, 11, 12, 13, 14].flatMap (kk { S0 with net := s.net, hms := k1 ++ k2 } [] [⟨gF, gJ, hs, hl, lh, many, tr, ths⟩]) ++ ths.flatMap gTh) (hsel.trans ?_) hneed trivial hown hnd).mono ?_
  · classical
    refine List.perm_iff_count.2 fun z => ?_
    simp only [List.count_append]
    omega
  clear hsel hgm
  rintro y L' ⟨e, z, Jk, rfl, h2, h3'⟩
  generalize hFn : fw [(5, 91), (16, 80)] (fhp s.F gF ths pz) e s.F = F
  generalize hJ : jw [(4, 4), (5, 91), (16, 80)] z s.J = J
  generalize hhF : fs 29 (adX (adl (fhp s.F gF ths pz)) e (mn 84)) gF = hF
  generalize hK : (fun k => cond (Nat.beq k 29) (z (mn 84)).1 (z (mn k)).1) = K
  generalize htl : vS (some ⟨(adX (adl (fhp s.F gF ths pz)) e (mn 88)).1, 0, none⟩) 1 (adX (adl (fhp s.F gF ths pz)) e (mn 88)).2 = tl
  obtain ⟨P, hP⟩ : ∃ P : Pk, P = ⟨(adX (adl (fhp s.F gF ths pz)) e (mn 77)).1, (adX (adl (fhp s.F gF ths pz)) e (mn 77)).2, (z (mn 77)).1, 1, k1.length + 1, 0, q + 1, s.b.calls + 1, n⟩ := ⟨_, rfl⟩
  obtain ⟨t', ht'⟩ : ∃ t' : Th, t' = ⟨(adX (adl (fhp s.F gF ths pz)) e (mn 82)).1, (adX (adl (fhp s.F gF ths pz)) e (mn 63)).1, s.b.calls + 1, s.b.calls + 2, none⟩ := ⟨_, rfl⟩
  obtain ⟨S1, hS1⟩ : ∃ S1 : Sta, S1 = { s with F := F, nr := true, net := s.net ++ [P], sent := l', sck := ck, hms := k1 ++ ⟨hF, K, hs, hl, lh, many, true, ths ++ [t']⟩ :: k2, J := J, O := (z (mn 0)).2, b := { s.b with calls := s.b.calls + 2, lL := s.b.lL + 1, lR := s.b.lR + 1, told := tl, rows := updR (updR s.b.rows 1 (s.b.rows 1 ++ eCall (s.b.calls + 2))) 3 (s.b.rows 3 ++ [P.slice]) } } := ⟨_, rfl⟩
  have p0 : ((mn 0, O.tb (ciT many tr s.nr)) :: [b48, b1, b49, b3, b58]).map (deE (DA (fhp s.F gF ths pz) (bHm b hs hl lh many ths) e) z) = [0, 1, 2].flatMap (kk { S1 with net := s.net, hms := k1 ++ k2 } [P] [⟨hF, K, hs, hl, lh, many, true, ths ++ [t']⟩]) := by
    subst hS1 hb hFn hJ htl hS0
    cases tr <;> exact mapEq ⟨rfl, rfl, rfl, rfl, de_row rfl (mid2 hw (by rfl) hmh hrow), de_row rfl (app1 hw (by rfl) (by rfl)), trivial⟩
  have hps : deS (DA (fhp s.F gF ths pz) (bHm b hs hl lh many ths) e) (rL 77 64) = P.slice.v := by subst hP; rfl
  have pn : [cond s.nr b61 b50, cond s.nr b62 b55, b51, b38].map (deE (DA (fhp s.F gF ths pz) (bHm b hs hl lh many ths) e) z) = [4, 5, 6].flatMap (kk { S1 with net := s.net, hms := k1 ++ k2 } [P] [⟨hF, K, hs, hl, lh, many, true, ths ++ [t']⟩]) := by
    have hsl : deE (DA (fhp s.F gF ths pz) (bHm b hs hl lh many ths) e) z b51 = ((s.F 17).1, .map (l'.map sentV).toArray ck) := by
      rcases hs' with ⟨rfl, h1, rfl, rfl, -⟩ | ⟨rfl, h1, rfl, rfl⟩
      · subst hb; exact de_sent rfl
      · subst hb; exact de_sentT (q := q + 1) rfl rfl (by rw [h1]; rfl)
    have hca : deE (DA (fhp s.F gF ths pz) (bHm b hs hl lh many ths) e) z b38 = ((s.F 18).1, .map (s.came.map cameV).toArray s.cck) := by
      subst hb hS0; cases tr <;> exact de_came rfl
    have h55 : s.nr = false → deE (DA (fhp s.F gF ths pz) (bHm b hs hl lh many ths) e) z b55 = rowE F J 16 161 (s.b.rows 3 ++ [P.slice]) := fun h => by
      rw [(hr3 h).1]
      show (_, cel 161 ([deS _ (rL 77 64)] ++ (z (mn 80)).1)) = _
      rw [hps]
      subst hFn hJ; rfl
    have h62 : s.nr = true → deE (DA (fhp s.F gF ths pz) (bHm b hs hl lh many ths) e) z b62 = rowE F J 16 161 (s.b.rows 3 ++ [P.slice]) := fun h => by
      have h0 : [rL 77 64].map (deS (DA (fhp s.F gF ths pz) (bHm b hs hl lh many ths) e)) = vals [P.slice] := by
        show [deS _ (rL 77 64)] = [P.slice.v]
        rw [hps]
      subst hFn hJ hb hS0
      exact de_row rfl (app3 hw (by rfl) h0)
    subst hS1
    show _ = netA F J s.b (sl F 16 (s.b.lR + 1)) ++ ([rowE F J 16 161 (s.b.rows 3 ++ [P.slice])] ++ (netM F l' ck s.came s.cck ++ []))
    cases hnr : s.nr with
    | true =>
      show [deE _ _ b61, deE _ _ b62, deE _ _ b51, deE _ _ b38] = _
      rw [hsl, hca, h62 hnr]; subst hb hFn; rfl
    | false =>
      show [deE _ _ b50, deE _ _ b55, deE _ _ b51, deE _ _ b38] = _
      rw [hsl, hca, h55 hnr, (hr3 hnr).2]; subst hb hFn; rfl
  have pp : deE (DA (fhp s.F gF ths pz) (bHm b hs hl lh many ths) e) z (cond tr b66 b54) = (P.b, cel 5 (P.bytes.map (fun (x : Nat) => Value.int .u8 (x : Int)) ++ P.jk)) := by
    subst hP
    rcases hs' with ⟨rfl, h1, -, -, rfl⟩ | ⟨rfl, h1, -, -⟩
    · subst hb; exact de_pk1 rfl
    · subst hb; exact de_pk1 rfl
  have hl0 : tr = false → ths = [] := hnil
  have hthr2 : deS (DA (fhp s.F gF ths pz) (bHm b hs hl lh many ths) e) (cond tr (oS 84 90) (rL 84 1)) = sl hF 29 (ths ++ [t']).length := by
    subst hhF
    rw [List.length_append]
    cases tr
    · rw [hl0 rfl]; rfl
    · subst hb; rfl
  have ph := de_ci (F := s.F) (g := gF) (K := K) (b := b) (hs := hs) (hl := hl) (lh := lh) (many := many) (ths := ths) (p := pz) (e := e) (x := z) (by subst hK; rfl) (by subst hK; rfl) (by subst hK; rfl) hthr2
  have pr : deE (DA (fhp s.F gF ths pz) (bHm b hs hl lh many ths) e) z (cond tr b67 b57) = rowE hF K 29 289 ((ths ++ [t']).map Th.slice) := by
    subst hhF hK
    cases tr
    · rw [hl0 rfl]; subst ht'; rfl
    · refine de_row (by subst hb; rfl) ?_
      rw [List.map_append, row_de (ft e), List.map_append, vals_app]
      subst ht'; rfl
  have pt : [b56, b53].map (deE (DA (fhp s.F gF ths pz) (bHm b hs hl lh many ths) e) z) = gTh t' := by subst ht' hb; exact mapEq ⟨rfl, rfl, trivial⟩
  have e7 : ((mn 0, O.tb (ciT many tr s.nr)) :: ciQ many tr s.nr).map (deE (DA (fhp s.F gF ths pz) (bHm b hs hl lh many ths) e) z) = [0, 1, 2].flatMap (kk { S1 with net := s.net, hms := k1 ++ k2 } [P] [⟨hF, K, hs, hl, lh, many, true, ths ++ [t']⟩]) ++ ([4, 5, 6].flatMap (kk { S1 with net := s.net, hms := k1 ++ k2 } [P] [⟨hF, K, hs, hl, lh, many, true, ths ++ [t']⟩]) ++ (gPk P ++ ((gH20 gF many hs hl (sl hF 29 (ths ++ [t']).length) ++ hbA gF K { b with lh := lh }) ++ ([rowE hF K 29 289 ((ths ++ [t']).map Th.slice)] ++ gTh t')))) := by
    show List.map _ (((mn 0, O.tb (ciT many tr s.nr)) :: [b48, b1, b49, b3, b58]) ++ ([cond s.nr b61 b50, cond s.nr b62 b55, b51, b38] ++ ([cond tr b66 b54] ++ ((ciH many (cond tr (oS 84 90) (rL 84 1)) :: hiB) ++ ([cond tr b67 b57] ++ [b56, b53]))))) = _
    rw [List.map_append, List.map_append, List.map_append, List.map_append, List.map_append, p0, pn, ph, pt]
    congr 2
    rw [show List.map (deE (DA (fhp s.F gF ths pz) (bHm b hs hl lh many ths) e) z) [cond tr b66 b54] = [deE (DA (fhp s.F gF ths pz) (bHm b hs hl lh many ths) e) z (cond tr b66 b54)] from rfl, pp, show List.map (deE (DA (fhp s.F gF ths pz) (bHm b hs hl lh many ths) e) z) [cond tr b67 b57] = [deE (DA (fhp s.F gF ths pz) (bHm b hs hl lh many ths) e) z (cond tr b67 b57)] from rfl, pr]
    rfl
  have hsel2 := blocks_sel (s := S1) (net := s.net) (hms := k1 ++ k2) (xp := [P]) (xh := [⟨hF, K, hs, hl, lh, many, true, ths ++ [t']⟩]) (by subst hS1; exact List.Perm.refl _) (by subst hS1; exact pmid) ([0, 1, 2, 4, 5, 6, 14] ++ [15]) [3, 7, 8, 9, 10, 11, 12, 13] (by decide)
  rw [flat15] at hsel2
  have h14 : ∀ (S : Sta) (xh : List Hm), [0, 1, 2, 4, 5, 6, 14].flatMap (kk S [P] xh) = [0, 1, 2].flatMap (kk S [P] xh) ++ ([4, 5, 6].flatMap (kk S [P] xh) ++ gPk P) := fun S xh => by
    rw [show [0, 1, 2, 4, 5, 6, 14] = [0, 1, 2] ++ ([4, 5, 6] ++ [14]) from rfl, List.flatMap_append, List.flatMap_append]
    congr 2
  have e8 : gHm { S1 with net := s.net, hms := k1 ++ k2 }.b ⟨hF, K, hs, hl, lh, many, true, ths ++ [t']⟩ = gH20 gF many hs hl (sl hF 29 (ths ++ [t']).length) ++ (hbA gF K { b with lh := lh } ++ ([rowE hF K 29 289 ((ths ++ [t']).map Th.slice)] ++ (ths ++ [t']).flatMap gTh)) := by subst hS1 hb hhF; rfl
  have e9 : [3, 7, 8, 9, 10, 11, 12, 13, 14].flatMap (kk { S0 with net := s.net, hms := k1 ++ k2 } [] [⟨gF, gJ, hs, hl, lh, many, tr, ths⟩]) = [3, 7, 8, 9, 10, 11, 12, 13].flatMap (kk { S1 with net := s.net, hms := k1 ++ k2 } [P] [⟨hF, K, hs, hl, lh, many, true, ths ++ [t']⟩]) := by
    rw [show [3, 7, 8, 9, 10, 11, 12, 13, 14] = [3, 7, 8, 9, 10, 11, 12, 13] ++ [14] from rfl, List.flatMap_append, show [14].flatMap (kk { S0 with net := s.net, hms := k1 ++ k2 } [] [⟨gF, gJ, hs, hl, lh, many, tr, ths⟩]) = [] from rfl, List.append_nil]
    subst hS0 hS1 hJ hFn; rfl
  have hperm : L'.Perm (blocks S1 ++ Jk) := by
    classical
    rw [h14, e8] at hsel2
    rw [e7, e9] at h2
    refine h2.trans (List.perm_iff_count.2 fun u => ?_)
    have c2 := hsel2.count_eq u
    simp only [List.count_append, List.flatMap_append, List.flatMap_cons, List.flatMap_nil, List.append_nil] at c2 ⊢
    omega
  clear p0 pn pp ph pr pt e7 e8 e9 hsel2 h14 h2
  have g4 := inf_op 4 (mn 4) 2 111 0 s.b.H h3' rfl (by subst hb; rfl) (mid_len (by show (k1.length + 1) * 1 + 0 + 1 ≤ s.b.H * 1; omega))
  have g5 := inf_op 5 (mn 91) 11 50 5 (s.b.lL + 1) h3' rfl (by subst hb; rfl) (len11 _ _ rfl)
  have g22 := inf_c 13 (mn 22) h3' rfl
  have g25 := inf_c 16 (mn 25) h3' rfl
  have g27 := inf_c 18 (mn 27) h3' rfl
  have g16 : (s.b.lR + 1) * 1 + (z (mn 80)).1.length = (adX (adl (fhp s.F gF ths pz)) e (mn 80)).2 * 1 := by
    cases hnr : s.nr with
    | true => rw [hnr] at h3'; exact inf_op 7 (mn 80) 13 161 0 (s.b.lR + 1) h3' rfl (by subst hb; rfl) (len13 _ rfl)
    | false =>
      rw [hnr] at h3'
      have := inf_c 7 (mn 80) h3' rfl
      rw [(hr3 hnr).2]; exact this
  have g77 : 64 + (z (mn 77)).1.length = (adX (adl (fhp s.F gF ths pz)) e (mn 77)).2 * 1 := by
    cases tr
    · exact inf_c 10 (mn 77) h3' rfl
    · exact inf_c 10 (mn 77) h3' rfl
  have g29 : (ths.length + 1) * 1 + (z (mn 84)).1.length = (adX (adl (fhp s.F gF ths pz)) e (mn 84)).2 * 1 := by
    cases tr
    · rw [hl0 rfl]; exact inf_c 20 (mn 84) h3' rfl
    · exact inf_op 20 (mn 84) 16 289 0 (ths.length + 1) h3' rfl (by subst hb; rfl) (by rw [List.length_append, rowS_len]; show ths.length + 1 = _; omega)
  have hwf : WF S1 := by
    have r3 : RmHm ⟨hF, K, hs, hl, lh, many, true, ths ++ [t']⟩ := by
      subst hhF hK
      exact ⟨⟨g22, g25, g27⟩, fun _ => (by show (ths ++ [t']).length * 1 + _ = _; rw [List.length_append]; exact g29), fun (h : true = false) => (by cases h)⟩
    have hm' := hms_rm (s := wH s k1 k2 ⟨gF, gJ, hs, hl, lh, many, tr, ths⟩) hw (h1 := k1) (h2 := k2) (h := ⟨gF, gJ, hs, hl, lh, many, tr, ths⟩) rfl r3
    have hH' := hms_rH (s := wH s k1 k2 ⟨gF, gJ, hs, hl, lh, many, tr, ths⟩) hw (h1 := k1) (h2 := k2) (h := ⟨gF, gJ, hs, hl, lh, many, tr, ths⟩) (h' := ⟨hF, K, hs, hl, lh, many, true, ths ++ [t']⟩) rfl (by subst hhF; rfl)
    have hB' := hms_bH (s := wH s k1 k2 ⟨gF, gJ, hs, hl, lh, many, tr, ths⟩) hw (h1 := k1) (h2 := k2) (h := ⟨gF, gJ, hs, hl, lh, many, tr, ths⟩) (h' := ⟨hF, K, hs, hl, lh, many, true, ths ++ [t']⟩) rfl
    have hP2 : P.bytes.length + P.jk.length = P.c := by
      subst hP
      show 64 + (z (mn 77)).1.length = (adX (adl (fhp s.F gF ths pz)) e (mn 77)).2
      omega
    clear hP ht' hhF hK h3' hperm
    subst hS1 hFn hJ
    exact { hw with com := ⟨g4, g5⟩, rL := rl_app (k := 1) hw.rL rfl, bL := (by show s.b.lL + 1 ≤ 1000; omega), rnet := fun _ => g16, rR := rR_app hw P, lR := (by show s.b.lR + 1 = (s.net ++ [P]).length; rw [List.length_append, hlR]; rfl), bR := (by show (s.net ++ [P]).length ≤ 12; rw [List.length_append]; show s.net.length + 1 ≤ 12; omega), nR := fun (h : true = false) => (by cases h), rP := rP_app hw hP2, hm := hm', rH := hH', bH := hB' }
  refine ⟨F, J, (z (mn 0)).2, tl, hF, K, t'.row, t'.fr, P.b, P.c, P.jk, Jk, by subst hFn; rfl, ?_, ?_, _, rfl⟩
  · subst hS1 hP ht'; exact hperm
  · subst hS1 hP ht'; exact hwf
end Go.Proofs.YtpcdcemcjbeajaaGreatDoor
