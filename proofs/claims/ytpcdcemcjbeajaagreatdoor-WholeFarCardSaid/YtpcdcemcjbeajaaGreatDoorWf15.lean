/- WholeFar: FarP. -/
import Derived.Test.YtpcdcemcjbeajaaGreatDoorWf14
set_option linter.unusedVariables false
set_option linter.unusedSimpArgs false
set_option maxRecDepth 100000
namespace Go.Proofs.YtpcdcemcjbeajaaGreatDoor
open Go Go.RowKit Go.Shelf
noncomputable def stV : List V := [.s (pP 1 0), actV 21 (tK 2) (iU 0) (tK 3)]
noncomputable def siE (l : List Bool) : List (Nm × O) := comE ++ hmS l.length (rowS 0 l.length) (thsS 0 (rdL 0 l))
noncomputable def okR (v : V) (vs : List V) (es es' : List (Nm × O)) : Bool := chkG v es' (KA (.F 8 vs (setAll es (emp8 none)) (mn 48))) && (bndE 48 es && vs.all (bndV 48) && (fnV v && es'.all fun p => fnO p.2) && nmsB (es'.map (·.1)))
noncomputable def snT (k : Nat) : List TbE := f0 :: f1 :: f2 :: f3 :: wtF 0 k
noncomputable def snR (k : Nat) : Bool := okR (.t [.s xsn, .s (iI 12)]) stV ((mn 0, .tb (snT k)) :: siE (List.replicate k false)) ((mn 0, .tb (snT k)) :: (b0 :: b1 :: b35 :: b3 :: b4 :: hmS k (rowS 0 k) (thsS 0 (rdL 0 (List.replicate k false)))))
theorem r_sn : (List.range 5).all snR = true := by decide +kernel
noncomputable def srT (l : List Bool) (j : Nat) : List TbE := f0 :: f1 :: f2 :: f3 :: (wtF 0 l.length ++ [.bin .rem (tK 3) (iI (l.count true)) (iI ((l.take j).count true)), .bin .neq (tK (43 + j)) (iU 0) bT, .ap 1 5 [iI 3, tK (43 + j), iI 0, tK (47 + j), iI 0, iI 0] 1 50 6 11 61])
noncomputable def srH (l : List Bool) : List (Nm × O) := [(mn 1, .c 42 0 0 [pP 2 0, tK 1, oS (62 + 2 * l.count true) 61]), b1, (mn 3, .c 103 0 0 [tK 11, tK 12, iI 2, iI 2, iI 1, oS 4 1, pP 6 0, .x (.m (mn 10)), tK 13, tK 14, tK 15, pP 15 0, pP 11 0, tK 16, tK 4, xpn, xsn, rL (58 + 2 * l.count true) 1]), b3, (mn (62 + 2 * l.count true), .op 11)]
noncomputable def rowX (k j : Nat) : List S := (rowS 0 k).eraseIdx j ++ [.l (mn (30 + 2 * (k - 1))) 0 (cond (Nat.beq (j + 1) k) 0 1) 1 false]
noncomputable def srR (l : List Bool) (j : Nat) : Bool := okR (.t [.s (rL (61 + 2 * l.count true) 1), .s (iI 0)]) stV ((mn 0, .tb (srT l j)) :: siE l) ((mn 0, .tb (srT l j)) :: (srH l ++ hmS (l.length - 1) (rowX l.length j) (thsS 0 (rdL 0 l))))
noncomputable def srA (l : List Bool) : Bool := (List.range l.length).all fun j => cond (l.getD j false) (srR l j) true
theorem r_s1 : (bits 1).all srA = true := by decide +kernel
theorem r_s2 : (bits 2).all srA = true := by decide +kernel
theorem r_s3 : (bits 3).all srA = true := by decide +kernel
theorem r_s4a : ((bits 4).take 8).all srA = true := by decide +kernel
theorem r_s4b : ((bits 4).drop 8).all srA = true := by decide +kernel
theorem r_sr {l : List Bool} {j : Nat} (h4 : l.length ≤ 4) (hj : l[j]? = some true) : srR l j = true := by
  have h : srA l = true := by
    have hm := mem_bits l
    have hl : 0 < l.length := by cases l with | nil => simp at hj | cons a l => simp
    generalize hn : l.length = n at hm h4 hl
    match n, hl, h4 with
    | 1, _, _ => exact List.all_eq_true.1 r_s1 l hm
    | 2, _, _ => exact List.all_eq_true.1 r_s2 l hm
    | 3, _, _ => exact List.all_eq_true.1 r_s3 l hm
    | 4, _, _ =>
      rw [← List.take_append_drop 8 (bits 4)] at hm
      rcases List.mem_append.1 hm with hm | hm
      · exact List.all_eq_true.1 r_s4a l hm
      · exact List.all_eq_true.1 r_s4b l hm
  have h2 := List.all_eq_true.1 h j (List.mem_range.2 (List.getElem?_eq_some_iff.1 hj).1)
  rw [List.getD_eq_getElem?_getD, hj] at h2
  exact h2
theorem era_map {α β : Type} (f : α → β) (l : List α) (j : Nat) : (l.eraseIdx j).map f = (l.map f).eraseIdx j := by rw [List.eraseIdx_eq_take_drop_succ, List.eraseIdx_eq_take_drop_succ, List.map_append, List.map_take, List.map_drop]
theorem rdy_len (l : List Th) : (rdy l).length = l.length := List.length_map ..
theorem okR_i {v : V} {vs : List V} {es es' : List (Nm × O)} (h : okR v vs es es' = true) : chkG v es' (KA (.F 8 vs (setAll es (emp8 none)) (mn 48))) = true ∧ (bndE 48 es && vs.all (bndV 48) && (fnV v && es'.all fun p => fnO p.2) && nmsB (es'.map (·.1))) = true := (Bool.and_eq_true _ _).mp h
theorem a_siN {s : Sta} {k1 k2 : List Hm} {h : Hm} (htr : h.tr = true) (hw : WF (wH s k1 k2 h)) (h4 : h.ths.length ≤ 4) (hz : ∀ t ∈ h.ths, t.wt ≠ 0) (hn : ∀ t ∈ h.ths, t.rs = none) (n : Int) {w : World} (hown : ∀ p ∈ blocks (wH s k1 k2 h), w.heap[p.1]? = some p.2) (hnd : (keys (blocks (wH s k1 k2 h))).Nodup) :
    Ctr Tryz.prog 8 [.pointer (some ⟨(s.F 1).1, 0, none⟩), actVal 21 ((k1.length + 1 : Nat) : Int) 0 n] w (blocks (wH s k1 k2 h)) fun y L' => ∃ (J : Nat → List Value) (o : Obj) (K : Nat → List Value) (Jk : List Ent),
      let s' : Sta := { s with hms := k1 ++ { h with J := K } :: k2, J := J, O := o, b := { s.b with told := vS none 0 0 } }
      L'.Perm (blocks s' ++ Jk) ∧ WF s' ∧ ∃ v, y = .tuple #[v, .int .i64 12] := by
  obtain ⟨gF, gJ, hs, hl, lh, many, tr, ths⟩ := h
  have htr : tr = true := htr
  have h4 : ths.length ≤ 4 := h4
  have hz : ∀ t ∈ ths, t.wt ≠ 0 := hz
  subst htr
  obtain ⟨hmh, hrow, r22, r25, r27, r29⟩ := siH hw
  have hrd : rdy ths = List.replicate ths.length false := by
    rw [List.eq_replicate_iff]
    refine ⟨rdy_len _, fun b hb => ?_⟩
    obtain ⟨t, ht, rfl⟩ := List.mem_map.1 hb
    rw [hn t ht]; rfl
  obtain ⟨b, hb⟩ : ∃ b : Bs, b = { s.b with n := n, hm := k1.length + 1, ob := obW [(2, o2 s.b.H (k1.length + 1))] (wH s k1 k2 ⟨gF, gJ, hs, hl, lh, many, true, ths⟩) } := ⟨_, rfl⟩
  obtain ⟨run, hck⟩ := okR_i (List.all_eq_true.1 r_sn ths.length (List.mem_range.2 (Nat.lt_succ_of_le h4)))
  rw [← hrd] at run hck
  have hob : ∀ i, fnB ((bHm b hs hl lh many ths).ob i) = true := by show ∀ i, fnB (b.ob i) = true; rw [hb]; exact fn_obW _ (and2 (fn_o2) (rfl))
  have ft := fun e => fit (F := s.F) (g := gF) (b := b) (hs := hs) (hl := hl) (lh := lh) (many := many) (e := e) (p := pz) h4
  have fR : ∀ k t, ths[k]? = some t → (tauA (bHm b hs hl lh many ths)).val (47 + (0 + k)) = .int .i64 (t.rs.getD 0) := fun k t h => by rw [Nat.zero_add]; exact (fitR (ad := noN) h4 k t h).1
  have q0 : ((mn 0, O.tb (snT ths.length)) :: comE).map (deE (DA (fhp s.F gF ths pz) (bHm b hs hl lh many ths) noN) (xS (jhp s.J gJ pz) s.O)) = [0, 1, 2].flatMap (kk { (wH s k1 k2 ⟨gF, gJ, hs, hl, lh, many, true, ths⟩) with net := s.net, hms := k1 ++ k2 } [] [⟨gF, gJ, hs, hl, lh, many, true, ths⟩]) := by
    subst hb
    exact mapEq ⟨rfl, rfl, rfl, rfl, de_row rfl (mid2 hw (by rfl) hmh hrow), de_row rfl (all1 hw (by rfl)), trivial⟩
  have q1 : ((mn 0, O.tb (snT ths.length)) :: siE (rdy ths)).map (deE (DA (fhp s.F gF ths pz) (bHm b hs hl lh many ths) noN) (xS (jhp s.J gJ pz) s.O)) = [0, 1, 2, 15].flatMap (kk { (wH s k1 k2 ⟨gF, gJ, hs, hl, lh, many, true, ths⟩) with net := s.net, hms := k1 ++ k2 } [] [⟨gF, gJ, hs, hl, lh, many, true, ths⟩]) := by
    unfold siE
    rw [← List.cons_append, List.map_append, q0, rdy_len, de_hm (K := gJ) (ths' := ths) (T := ths.flatMap gTh) rfl rfl rfl (by rw [row_de (ft noN)]; rfl) (th_gen (ft noN) (rd_fit fR)), show [0, 1, 2, 15] = [0, 1, 2] ++ [15] from rfl, flat15]
    subst hb; rfl
  have htb : AllP ((snT ths.length).map (TbOk (tauA (bHm b hs hl lh many ths)))) := by
    have h5 := wt_ok (ft noN) hz
    subst hb
    exact ⟨fa0, fa1 hmh, fa2 hmh, fa3 rfl, h5⟩
  have hneed : AllP (needE (DA (fhp s.F gF ths pz) (bHm b hs hl lh many ths) noN) 48 (xS (jhp s.J gJ pz) s.O) ((mn 0, O.tb (snT ths.length)) :: siE (rdy ths))) := by
    refine AllP.app.2 ⟨htb, ?_⟩
    unfold siE
    rw [needE_app, rdy_len]
    refine AllP.app.2 ⟨?_, need_hm r22 r25 r27 r29 rd_ok⟩
    subst hb
    exact need_com ⟨hw.com.1, hw.com.2⟩ (op_tks hw.com.2) (op2 hw hmh hw.com.1)
  refine (act_of run hck hob q1 (by subst hb; rfl) (blocks_sel px pmid [0, 1, 2, 15] [3, 4, 5, 6, 7, 8, 9, 10, 11, 12, 13, 14] (by decide)) hneed trivial hown hnd).mono ?_
  rintro y L' ⟨e, z, Jk, rfl, h2, h3⟩
  have p0 : ((mn 0, O.tb (snT ths.length)) :: [b0, b1, b35, b3, b4]).map (deE (DA (fhp s.F gF ths pz) (bHm b hs hl lh many ths) e) z) = [0, 1, 2].flatMap (kk { s with hms := k1 ++ k2, J := jw [(4, 4), (5, 5)] z s.J, O := (z (mn 0)).2, b := { s.b with told := vS none 0 0 } } [] [⟨gF, fun k => (z (mn k)).1, hs, hl, lh, many, true, ths⟩]) := by
    subst hb
    exact mapEq ⟨rfl, rfl, rfl, rfl, de_row rfl (mid2 hw (by rfl) hmh hrow), de_row rfl (all1 hw (by rfl)), trivial⟩
  have p1 := de_hm (F := s.F) (p := pz) (g := gF) (b := b) (ths := ths) (hs := hs) (hl := hl) (lh := lh) (many := many) (x := z) (e := e) (K := fun k => (z (mn k)).1) (ths' := ths) (T := ths.flatMap gTh) rfl rfl rfl (by rw [row_de (ft e)]) (th_gen (x := z) (ft e) (rd_fit fR))
  generalize hJ : jw [(4, 4), (5, 5)] z s.J = J at p0
  generalize hK : (fun k => (z (mn k)).1) = K at p0 p1
  have g4 := inf_op 4 (mn 4) 2 111 0 s.b.H h3 rfl (by subst hb; rfl) (mid_len (by show (k1.length + 1) * 1 + 0 + 1 ≤ s.b.H * 1; omega))
  have g5 := inf_op 5 (mn 5) 1 50 5 s.b.lL h3 rfl (by subst hb; rfl) (tks_len _ _)
  have g22 := inf_c 8 (mn 22) h3 rfl
  have g25 := inf_c 11 (mn 25) h3 rfl
  have g27 := inf_c 13 (mn 27) h3 rfl
  have g29 := inf_c 15 (mn 29) h3 rfl
  rw [rowS_len] at g29
  refine ⟨J, (z (mn 0)).2, K, _, act_fin (s := wH s k1 k2 ⟨gF, gJ, hs, hl, lh, many, true, ths⟩) (s' := { s with hms := k1 ++ ⟨gF, K, hs, hl, lh, many, true, ths⟩ :: k2, J := J, O := (z (mn 0)).2, b := { s.b with told := vS none 0 0 } }) (net' := s.net) (hms' := k1 ++ k2) (xp' := []) (xh' := [⟨gF, K, hs, hl, lh, many, true, ths⟩]) px pmid [0, 1, 2, 15] [3, 4, 5, 6, 7, 8, 9, 10, 11, 12, 13, 14] (by decide) h2 (by subst hJ; rfl) (Y := []) ?_, ?_, _, rfl⟩
  · rw [List.append_nil, show [0, 1, 2, 15] = [0, 1, 2] ++ [15] from rfl, flat15]
    show (List.map _ (((mn 0, O.tb (snT ths.length)) :: [b0, b1, b35, b3, b4]) ++ hmS ths.length (rowS 0 ths.length) (thsS 0 (rdL 0 (rdy ths))))).Perm _
    rw [List.map_append, p0, p1]
    exact .of_eq (by subst hb; rfl)
  · subst hJ hK
    exact { hw with com := ⟨g4, g5⟩, hm := siM hw ⟨⟨g22, g25, g27⟩, fun _ => (by show ths.length * 1 + _ = _; rw [Nat.mul_one]; exact g29), fun (h : true = false) => (by cases h)⟩, rH := siR hw _ _, bH := siB hw _ }
theorem a_siR {s : Sta} {k1 k2 : List Hm} {h : Hm} (htr : h.tr = true) (hw : WF (wH s k1 k2 h)) (h4 : h.ths.length ≤ 4) (hz : ∀ t ∈ h.ths, t.wt ≠ 0) {j : Nat} {t : Th} {v n : Int} (hj : h.ths[j]? = some t) (hv : t.rs = some v) (hc : t.cl ≠ 0) (hr : n.tmod ((rdy h.ths).count true : Nat) = (((rdy h.ths).take j).count true : Nat)) (hll : s.b.lL < 990) {w : World} (hown : ∀ p ∈ blocks (wH s k1 k2 h), w.heap[p.1]? = some p.2) (hnd : (keys (blocks (wH s k1 k2 h))).Nodup) :
    Ctr Tryz.prog 8 [.pointer (some ⟨(s.F 1).1, 0, none⟩), actVal 21 ((k1.length + 1 : Nat) : Int) 0 n] w (blocks (wH s k1 k2 h)) fun y L' => ∃ (F : Nat → Nat × Nat) (J : Nat → List Value) (o : Obj) (tl : V1) (K : Nat → List Value) (Jk : List Ent),
      let s' : Sta := { s with F := F, hms := k1 ++ { h with J := K, ths := h.ths.eraseIdx j } :: k2, J := J, O := o, b := { s.b with lL := s.b.lL + 1, told := tl, rows := updR s.b.rows 1 (s.b.rows 1 ++ eDone t.cl v) } }
      (F 1).1 = (s.F 1).1 ∧ L'.Perm (blocks s' ++ Jk) ∧ WF s' ∧ ∃ v, y = .tuple #[v, .int .i64 0] := by
  obtain ⟨gF, gJ, hs, hl, lh, many, tr, ths⟩ := h
  have htr : tr = true := htr
  have h4 : ths.length ≤ 4 := h4
  have hz : ∀ t ∈ ths, t.wt ≠ 0 := hz
  subst htr
  obtain ⟨hmh, hrow, r22, r25, r27, r29⟩ := siH hw
  have hj : ths[j]? = some t := hj
  have hlt : j < ths.length := (List.getElem?_eq_some_iff.1 hj).1
  have hjr : (rdy ths)[j]? = some true := by unfold rdy; rw [List.getElem?_map, hj]; show some t.rs.isSome = _; rw [hv]; rfl
  generalize hm : (rdy ths).count true = m at hr
  have hm0 : 0 < m := by rw [← hm]; exact List.count_pos_iff.2 (List.mem_of_getElem? hjr)
  obtain ⟨b, hb⟩ : ∃ b : Bs, b = { s.b with n := n, hm := k1.length + 1, ob := obW [(2, o2 s.b.H (k1.length + 1)), (11, o11 s.b.lL 1 [iI 3, tK (43 + j), iI 0, tK (47 + j), iI 0, iI 0])] (wH s k1 k2 ⟨gF, gJ, hs, hl, lh, many, true, ths⟩) } := ⟨_, rfl⟩
  obtain ⟨run, hck⟩ := okR_i (r_sr (l := rdy ths) (by rw [rdy_len]; exact h4) hjr)
  have hob : ∀ i, fnB ((bHm b hs hl lh many ths).ob i) = true := by show ∀ i, fnB (b.ob i) = true; rw [hb]; exact fn_obW _ (and2 (fn_o2) (and2 (fn_o11 rfl) (rfl)))
  have ft := fun e => fit (F := s.F) (g := gF) (b := b) (hs := hs) (hl := hl) (lh := lh) (many := many) (e := e) (p := pz) h4
  have fR : ∀ k t, ths[k]? = some t → (tauA (bHm b hs hl lh many ths)).val (47 + (0 + k)) = .int .i64 (t.rs.getD 0) := fun k t h => by rw [Nat.zero_add]; exact (fitR (ad := noN) h4 k t h).1
  have fj : (tauA (bHm b hs hl lh many ths)).val (43 + j) = .int .u64 (t.cl : Int) ∧ (tauA (bHm b hs hl lh many ths)).val (47 + j) = .int .i64 v := by
    have h0 := ft noN j t hj
    have h1 := (fitR (b := b) (hs := hs) (hl := hl) (lh := lh) (many := many) (ad := noN) h4 j t hj).1
    rw [Nat.zero_add] at h0
    rw [hv] at h1
    exact ⟨h0.2.2.2, h1⟩
  have q0 : ((mn 0, O.tb (srT (rdy ths) j)) :: comE).map (deE (DA (fhp s.F gF ths pz) (bHm b hs hl lh many ths) noN) (xS (jhp s.J gJ pz) s.O)) = [0, 1, 2].flatMap (kk { (wH s k1 k2 ⟨gF, gJ, hs, hl, lh, many, true, ths⟩) with net := s.net, hms := k1 ++ k2 } [] [⟨gF, gJ, hs, hl, lh, many, true, ths⟩]) := by
    subst hb
    exact mapEq ⟨rfl, rfl, rfl, rfl, de_row rfl (mid2 hw (by rfl) hmh hrow), de_row rfl (all1 hw (by rfl)), trivial⟩
  have q1 : ((mn 0, O.tb (srT (rdy ths) j)) :: siE (rdy ths)).map (deE (DA (fhp s.F gF ths pz) (bHm b hs hl lh many ths) noN) (xS (jhp s.J gJ pz) s.O)) = [0, 1, 2, 15].flatMap (kk { (wH s k1 k2 ⟨gF, gJ, hs, hl, lh, many, true, ths⟩) with net := s.net, hms := k1 ++ k2 } [] [⟨gF, gJ, hs, hl, lh, many, true, ths⟩]) := by
    unfold siE
    rw [← List.cons_append, List.map_append, q0, rdy_len, de_hm (K := gJ) (ths' := ths) (T := ths.flatMap gTh) rfl rfl rfl (by rw [row_de (ft noN)]; rfl) (th_gen (ft noN) (rd_fit fR)), show [0, 1, 2, 15] = [0, 1, 2] ++ [15] from rfl, flat15]
    subst hb; rfl
  have htb : AllP ((srT (rdy ths) j).map (TbOk (tauA (bHm b hs hl lh many ths)))) := by
    have h5 := wt_ok (ft noN) hz
    rw [← rdy_len ths] at h5
    have h6 : TbOk (tauA (bHm b hs hl lh many ths)) (.bin .neq (tK (43 + j)) (iU 0) bT) := tb_t (i := .u64) (a := (t.cl : Int)) (b := 0) rfl (congrArg some fj.1) rfl (by show ¬ ((t.cl : Int) = 0); omega)
    have h7 : TbOk (tauA (bHm b hs hl lh many ths)) (.bin .rem (tK 3) (iI ((rdy ths).count true)) (iI (((rdy ths).take j).count true))) := by
      rw [hm]
      subst hb
      exact tb_rem (i := .i64) (a := n) (b := (m : Int)) rfl rfl (by omega) hr rfl
    have h8 : AllP ((wtF 0 (rdy ths).length ++ [TbE.bin .rem (tK 3) (iI ((rdy ths).count true)) (iI (((rdy ths).take j).count true)), TbE.bin .neq (tK (43 + j)) (iU 0) bT, TbE.ap 1 5 [iI 3, tK (43 + j), iI 0, tK (47 + j), iI 0, iI 0] 1 50 6 11 61]).map (TbOk (tauA (bHm b hs hl lh many ths)))) := by
      rw [List.map_append]
      refine AllP.app.2 ⟨h5, h7, h6, ?_, trivial⟩
      subst hb
      exact fa5 hw.bL rfl rfl rfl
    clear h5 h6 h7
    subst hb
    exact ⟨fa0, fa1 hmh, fa2 hmh, fa3 rfl, h8⟩
  have hneed : AllP (needE (DA (fhp s.F gF ths pz) (bHm b hs hl lh many ths) noN) 48 (xS (jhp s.J gJ pz) s.O) ((mn 0, O.tb (srT (rdy ths) j)) :: siE (rdy ths))) := by
    refine AllP.app.2 ⟨htb, ?_⟩
    unfold siE
    rw [needE_app, rdy_len]
    refine AllP.app.2 ⟨?_, need_hm r22 r25 r27 r29 rd_ok⟩
    subst hb
    exact need_com ⟨hw.com.1, hw.com.2⟩ (op_tks hw.com.2) (op2 hw hmh hw.com.1)
  refine (act_of run hck hob q1 (by subst hb; rfl) (blocks_sel px pmid [0, 1, 2, 15] [3, 4, 5, 6, 7, 8, 9, 10, 11, 12, 13, 14] (by decide)) hneed trivial hown hnd).mono ?_
  rintro y L' ⟨e, z, Jk, rfl, h2, h3⟩
  have hl1 : (ths.eraseIdx j).length = ths.length - 1 := List.length_eraseIdx_of_lt hlt
  generalize hF : fw [(5, 62 + 2 * (rdy ths).count true)] (fhp s.F gF ths pz) e s.F = F
  generalize hJ : jw [(4, 4), (5, 62 + 2 * (rdy ths).count true)] z s.J = J
  generalize htl : vS (some ⟨(adX (adl (fhp s.F gF ths pz)) e (mn (58 + 2 * (rdy ths).count true))).1, 0, none⟩) 1 (adX (adl (fhp s.F gF ths pz)) e (mn (58 + 2 * (rdy ths).count true))).2 = tl
  have p0 : ((mn 0, O.tb (srT (rdy ths) j)) :: srH (rdy ths)).map (deE (DA (fhp s.F gF ths pz) (bHm b hs hl lh many ths) e) z) = [0, 1, 2].flatMap (kk { s with F := F, hms := k1 ++ k2, J := J, O := (z (mn 0)).2, b := { s.b with lL := s.b.lL + 1, told := tl, rows := updR s.b.rows 1 (s.b.rows 1 ++ eDone t.cl v) } } [] []) := by
    have hd : [iI 3, tK (43 + j), iI 0, tK (47 + j), iI 0, iI 0].map (deS (DA (fhp s.F gF ths pz) (bHm b hs hl lh many ths) e)) = vals (eDone t.cl v) := by
      show [_, (tauA (bHm b hs hl lh many ths)).val (43 + j), _, (tauA (bHm b hs hl lh many ths)).val (47 + j), _, _] = _
      rw [fj.1, fj.2]; rfl
    subst hb hF hJ htl
    exact mapEq ⟨rfl, rfl, rfl, rfl, de_row rfl (mid2 hw (by rfl) hmh hrow), de_row rfl (app1 hw (by rfl) hd), trivial⟩
  generalize hK : (fun k => cond (Nat.beq k 29) (deS (DA (fhp s.F gF ths pz) (bHm b hs hl lh many ths) e) (.l (mn (30 + 2 * (ths.length - 1))) 0 (cond (Nat.beq (j + 1) ths.length) 0 1) 1 false) :: (z (mn 29)).1) (z (mn k)).1) = K
  have p1 := de_hm (F := s.F) (p := pz) (g := gF) (b := b) (ths := ths) (hs := hs) (hl := hl) (lh := lh) (many := many) (x := z) (e := e) (K := K) (ths' := ths.eraseIdx j) (row := rowX ths.length j) (T := ths.flatMap gTh) (by subst hK; rfl) (by subst hK; rfl) (by subst hK; rfl) (by
    unfold rowX
    rw [List.map_append, era_map, row_de (ft e)]
    subst hK
    unfold vals
    rw [era_map, era_map, List.append_assoc]; rfl) (th_gen (x := z) (ft e) (rd_fit fR))
  have g4 := inf_op 4 (mn 4) 2 111 0 s.b.H h3 rfl (by subst hb; rfl) (mid_len (by show (k1.length + 1) * 1 + 0 + 1 ≤ s.b.H * 1; omega))
  have g5 := inf_op 5 (mn (62 + 2 * (rdy ths).count true)) 11 50 5 (s.b.lL + 1) h3 rfl (by subst hb; rfl) (len11 _ _ rfl)
  have g22 := inf_c 8 (mn 22) h3 rfl
  have g25 := inf_c 11 (mn 25) h3 rfl
  have g27 := inf_c 13 (mn 27) h3 rfl
  have g29 := inf_c 15 (mn 29) h3 rfl
  have hx : (rowX (rdy ths).length j).length = ths.length := by
    unfold rowX
    rw [List.length_append, List.length_eraseIdx_of_lt (by rw [rowS_len, rdy_len]; exact hlt), rowS_len, rdy_len]
    show ths.length - 1 + 1 = _; omega
  rw [hx] at g29
  refine ⟨F, J, (z (mn 0)).2, tl, K, _, by subst hF; rfl, act_fin (s := wH s k1 k2 ⟨gF, gJ, hs, hl, lh, many, true, ths⟩) (s' := { s with F := F, hms := k1 ++ ⟨gF, K, hs, hl, lh, many, true, ths.eraseIdx j⟩ :: k2, J := J, O := (z (mn 0)).2, b := { s.b with lL := s.b.lL + 1, told := tl, rows := updR s.b.rows 1 (s.b.rows 1 ++ eDone t.cl v) } }) (net' := s.net) (hms' := k1 ++ k2) (xp' := []) (xh' := [⟨gF, K, hs, hl, lh, many, true, ths.eraseIdx j⟩]) px pmid [0, 1, 2, 15] [3, 4, 5, 6, 7, 8, 9, 10, 11, 12, 13, 14] (by decide) h2 (by subst hF hJ; rfl) (Y := gTh t) ?_, ?_, _, rfl⟩
  · rw [show [0, 1, 2, 15] = [0, 1, 2] ++ [15] from rfl, flat15]
    show (List.map _ (((mn 0, O.tb (srT (rdy ths) j)) :: srH (rdy ths)) ++ hmS ((rdy ths).length - 1) (rowX (rdy ths).length j) (thsS 0 (rdL 0 (rdy ths))))).Perm _
    rw [List.map_append, p0, rdy_len, ← hl1, p1]
    refine (perm4 (perm_er hj)).trans (.of_eq ?_)
    subst hb; rfl
  · have e29 : K 29 = deS (DA (fhp s.F gF ths pz) (bHm b hs hl lh many ths) e) (.l (mn (30 + 2 * (ths.length - 1))) 0 (cond (Nat.beq (j + 1) ths.length) 0 1) 1 false) :: (z (mn 29)).1 := by subst hK; rfl
    have r2 : (ths.eraseIdx j).length * 1 + (K 29).length = (gF 29).2 * 1 := by
      rw [hl1, e29, List.length_cons]
      have g29 : ths.length + (z (mn 29)).1.length = (gF 29).2 * 1 := g29
      omega
    have r3 : 21 + (K 22).length = (gF 22).2 * 21 ∧ 3 + (K 25).length = (gF 25).2 * 3 ∧ 36 + (K 27).length = (gF 27).2 * 36 := by subst hK; exact ⟨g22, g25, g27⟩
    clear p0 p1
    subst hF hJ
    exact { hw with com := ⟨g4, g5⟩, rL := rl_app (k := 1) hw.rL rfl, bL := (by show s.b.lL + 1 ≤ 1000; omega), hm := siM hw ⟨r3, fun _ => r2, fun (h : true = false) => (by cases h)⟩, rH := siR hw _ _, bH := siB hw _ }
end Go.Proofs.YtpcdcemcjbeajaaGreatDoor
