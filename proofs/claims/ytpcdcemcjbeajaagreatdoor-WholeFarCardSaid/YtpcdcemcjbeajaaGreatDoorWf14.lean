/- WholeFar: FarX, FarL, FarN, FarO. -/
import Derived.Shelf.Abstract
import Derived.Test.YtpcdcemcjbeajaaGreatDoorWf12
import Derived.Test.YtpcdcemcjbeajaaGreatDoorWf13
section
set_option linter.unusedVariables false
set_option linter.unusedSimpArgs false
set_option maxRecDepth 100000
namespace Go.Proofs.YtpcdcemcjbeajaaGreatDoor
open Go Go.RowKit Go.Shelf
def MapEq {α β : Type} (f : α → β) : List α → List β → Prop
  | [], [] => True
  | a :: l, b :: m => f a = b ∧ MapEq f l m
  | _, _ => False
theorem mapEq {α β : Type} {f : α → β} : ∀ {l : List α} {m : List β}, MapEq f l m → l.map f = m
  | [], [], _ => rfl
  | a :: l, b :: m, h => by rw [List.map_cons, h.1, mapEq h.2]
  | [], _ :: _, h => h.elim
  | _ :: _, [], h => h.elim
def actVal (kind at_ ref n : Int) : Value := .agg #[.int .i64 kind, .int .i64 at_, .int .u64 ref, .int .u64 0, .int .u8 0, .int .u8 0, .int .u8 0, .int .u8 0, .int .u8 0, .int .u8 0, .int .u8 0, .int .u8 0, .int .u8 0, .int .u8 0, .int .u8 0, .int .u8 0, .int .u8 0, .int .u8 0, .int .u8 0, .int .u8 0, .int .i64 0, .int .u8 0, .int .u8 0, .int .u8 0, .int .u8 0, .int .u8 0, .int .u8 0, .int .u8 0, .int .u8 0, .int .u8 0, .int .u8 0, .int .u8 0, .int .u8 0, .int .u8 0, .int .u8 0, .int .u8 0, .int .u8 0, .string ⟨⟨[]⟩⟩, .int .u64 0, .slice none 0 0, .int .i64 n, .int .i64 0, .bool false]
theorem en_act : ∀ args w, (callFunc 8 args).run Tryz.prog w = .ok (.enter 8 args) w := enters_of Tryz.func8 (by kernel_rfl) rfl
structure WF (s : Sta) : Prop where
  com : RmCom s.F s.J s.b
  hp : RmHp s.F s.J
  rnet : RmNet s.F s.J s.nr s.b
  h0 : RmH0 s.F s.J
  rt : RmT0 s.F s.J s.t0
  rrg : RmRg s.F s.rg s.b
  hm : ∀ h ∈ s.hms, RmHm h
  rL : (s.b.rows 1).length = s.b.lL * 6
  bL : s.b.lL ≤ 1000
  rH : s.b.rows 2 = vP (s.F 20).1 :: s.hms.map fun h => vP (h.F 20).1
  bH : s.b.H = s.hms.length + 1
  cH : s.b.H ≤ 4
  rR : s.b.rows 3 = s.net.map Pk.slice
  lR : s.b.lR = s.net.length
  bR : s.net.length ≤ 12
  nR : s.nr = false → s.net = []
  rP : ∀ p ∈ s.net, p.bytes.length + p.jk.length = p.c
  rN : s.rg = false → s.b.rf = 0 ∧ s.b.rc = 0
  rQ : s.rg = true → (s.b.rows 7).length = s.b.lQ * 25
  bQ : s.b.lQ ≤ 12
theorem rnetR {s : Sta} (hw : WF s) (h : s.nr = true) : s.b.lR ≤ (s.F 16).2 := by have h2 := hw.rnet h; omega
theorem fn_ap {i n : Nat} {cs : List S} (h : cs.all fnS = true) : (tks i n ++ cs).all fnS = true := by rw [List.all_append, fn_tks, h]; rfl
noncomputable def obS (s : Sta) (k : Nat) : O := match k with
  | 1 => .c 50 6 s.b.lL (tks 1000000 (s.b.lL * 6))
  | 2 => .c 111 1 s.b.H (tks 2000000 (s.b.H * 1))
  | 3 => .c 161 1 s.b.lR (tks 3000000 (s.b.lR * 1))
  | 4 => .m (s.sent.map sentS) s.sck
  | 5 => .m (s.came.map cameS) s.cck
  | 7 => .c 134 0 0 (tks 7000000 (s.b.lQ * 25))
  | _ => .m [] 0
theorem fn_obS (s : Sta) : ∀ k, fnB (obS s k) = true := by
  intro k
  unfold obS
  split
  · exact fn_tks _ _
  · exact fn_tks _ _
  · exact fn_tks _ _
  · exact fn_sent _ _
  · exact fn_came _ _
  · exact fn_tks _ _
  · rfl
section
variable {s : Sta} (hw : WF s) {f : Nat → Nat × Nat} {b : Bs} {e : Nm → Nat × Nat} (hr : b.rows = s.b.rows)
include hw hr
theorem all1 : (tks 1000000 (s.b.lL * 6)).map (deS (DA f b e)) = vals (s.b.rows 1) := by
  have h := hw.rL; have h2 := hw.bL
  rw [← hr] at h ⊢
  exact row_all (r := 1) (by decide) h.symm (by omega)
theorem all2 : (tks 2000000 (s.b.H * 1)).map (deS (DA f b e)) = vals (s.b.rows 2) := by
  have h : (s.b.rows 2).length = s.b.H * 1 := by rw [hw.rH, hw.bH]; simp
  have h2 := hw.cH
  rw [← hr] at h ⊢
  exact row_all (r := 2) (by decide) h.symm (by omega)
theorem all3 : (tks 3000000 (s.b.lR * 1)).map (deS (DA f b e)) = vals (s.b.rows 3) := by
  have h : (s.b.rows 3).length = s.b.lR * 1 := by rw [hw.rR, hw.lR]; simp
  have h2 := hw.bR; have h3 := hw.lR
  rw [← hr] at h ⊢
  exact row_all (r := 3) (by decide) h.symm (by omega)
end
theorem act_of {vs : List V} {es es' : List (Nm × O)} {v : V} (hrun : chkG v es' (KA (.F 8 vs (setAll es (emp8 none)) (mn 48))) = true) (hck : (bndE 48 es && vs.all (bndV 48) && (fnV v && es'.all fun p => fnO p.2) && nmsB (es'.map (·.1))) = true)
    {f : Nat → Nat × Nat} {b : Bs} {J : Nat → List Value} {o : Obj} {L Pr R : List Ent} {args : List Value} (hob : ∀ i, fnB (b.ob i) = true)
    (he : es.map (deE (DA f b noN) (xS J o)) = Pr) (ha : vs.map (deV (DA f b noN)) = args) (hp : L.Perm (Pr ++ R)) (hn : AllP (needE (DA f b noN) 48 (xS J o) es)) (hn2 : AllP (needVs (DA f b noN) vs)) {w : World} (hown : ∀ p ∈ L, w.heap[p.1]? = some p.2) (hnd : (keys L).Nodup) :
    Ctr Tryz.prog 8 args w L fun y L' => ∃ (e : Nm → Nat × Nat) (z : Nm → Xt) (Jk : List Ent), y = deV (DA f b e) v ∧ L'.Perm (es'.map (deE (DA f b e) z) ++ (R ++ Jk)) ∧ AllP (infE (DA f b e) z es') := by
  subst he ha
  refine (Ctr.frame hp hown hnd (fun ho hd => run_ctr sndA hrun hck en_act (adl f) (show 48 = (mn 48).val by decide +kernel) (tauA b) hob (xS J o) hn hn2 ho hd) en_act).mono ?_
  rintro y L' ⟨Lq, rfl, e, z, Jk, h1, h2, h3⟩
  classical
  refine ⟨e, z, Jk, h1, ?_, h3⟩
  refine List.perm_iff_count.2 fun p => ?_
  have := (show Lq.Perm (es'.map (deE (DA f b e) z) ++ Jk) from h2).count_eq p
  simp only [List.count_append] at this ⊢
  omega
noncomputable def jw (l : List (Nat × Nat)) (z : Nm → Xt) (J : Nat → List Value) : Nat → List Value := fun k => match l.find? (fun p => Nat.beq p.1 k) with | some p => (z (mn p.2)).1 | none => J k
noncomputable def fw (l : List (Nat × Nat)) (f : Nat → Nat × Nat) (e : Nm → Nat × Nat) (F : Nat → Nat × Nat) : Nat → Nat × Nat := fun k => match l.find? (fun p => Nat.beq p.1 k) with | some p => adX (adl f) e (mn p.2) | none => F k
def kk (s : Sta) (xp : List Pk) (xh : List Hm) (k : Nat) : List Ent := match k with
  | 0 => [((s.F 0).1, s.O)]
  | 1 => comS s
  | 2 => [rowE s.F s.J 5 50 (s.b.rows 1)]
  | 3 => hpA s.F s.J s.b (busy s.t0)
  | 4 => netA s.F s.J s.b (netSl s.F s.nr s.b.lR)
  | 5 => netR_ s.F s.J s.nr (s.b.rows 3)
  | 6 => netM s.F s.sent s.sck s.came s.cck
  | 7 => h0A s.F s.J s.b (thr0 s.F s.t0)
  | 8 => row29 s.F s.J s.t0
  | 9 => thF s.F s.J s.b s.t0
  | 10 => rgA s.F s.J s.b (rgSl s.F s.rg s.b.lQ) s.b.rf s.b.rc
  | 11 => rgR_ s.F s.rg (s.b.rows 7)
  | 12 => s.hms.flatMap (gHm s.b)
  | 13 => s.net.flatMap gPk
  | 14 => xp.flatMap gPk
  | 15 => xh.flatMap (gHm s.b)
  | _ => []
abbrev kAll : List Nat := [0, 1, 2, 3, 4, 5, 6, 7, 8, 9, 10, 11, 12, 13, 14, 15]
theorem blocks_eq (s : Sta) : blocks s = kAll.flatMap (kk s [] []) := by
  show _ = kk s [] [] 0 ++ (kk s [] [] 1 ++ (kk s [] [] 2 ++ (kk s [] [] 3 ++ (kk s [] [] 4 ++ (kk s [] [] 5 ++ (kk s [] [] 6 ++ (kk s [] [] 7 ++ (kk s [] [] 8 ++ (kk s [] [] 9 ++ (kk s [] [] 10 ++ (kk s [] [] 11 ++ (kk s [] [] 12 ++ (kk s [] [] 13 ++ [])))))))))))))
  rw [List.append_nil]; rfl
theorem blocks_x (s : Sta) (net : List Pk) (hms : List Hm) (xp : List Pk) (xh : List Hm) (h1 : s.net.Perm (net ++ xp)) (h2 : s.hms.Perm (hms ++ xh)) : (blocks s).Perm (kAll.flatMap (kk { s with net := net, hms := hms } xp xh)) := by
  classical
  rw [blocks_eq]
  have e1 := (h1.flatMap_right gPk).count_eq
  have e2 := (h2.flatMap_right (gHm s.b)).count_eq
  refine List.perm_iff_count.2 fun z => ?_
  have e1 := e1 z; have e2 := e2 z
  rw [List.flatMap_append, List.count_append] at e1 e2
  rw [show kAll = [0, 1, 2, 3, 4, 5, 6, 7, 8, 9, 10, 11] ++ [12, 13, 14, 15] from rfl, List.flatMap_append, List.flatMap_append, List.count_append, List.count_append]
  refine congr (congrArg HAdd.hAdd (show List.count z ([0, 1, 2, 3, 4, 5, 6, 7, 8, 9, 10, 11].flatMap (kk s [] [])) = List.count z ([0, 1, 2, 3, 4, 5, 6, 7, 8, 9, 10, 11].flatMap (kk s [] [])) from rfl)) ?_
  show List.count z (s.hms.flatMap (gHm s.b) ++ (s.net.flatMap gPk ++ ([] ++ ([] ++ [])))) = List.count z (hms.flatMap (gHm s.b) ++ (net.flatMap gPk ++ (xp.flatMap gPk ++ (xh.flatMap (gHm s.b) ++ []))))
  simp only [List.count_append, List.count_nil]
  omega
theorem px {α : Type} {l : List α} : l.Perm (l ++ []) := by rw [List.append_nil]
theorem blocks_sel {s : Sta} {net : List Pk} {hms : List Hm} {xp : List Pk} {xh : List Hm} (h1 : s.net.Perm (net ++ xp)) (h2 : s.hms.Perm (hms ++ xh)) (a r : List Nat) (h : kAll.Perm (a ++ r)) : (blocks s).Perm (a.flatMap (kk { s with net := net, hms := hms } xp xh) ++ r.flatMap (kk { s with net := net, hms := hms } xp xh)) := by
  refine (blocks_x s net hms xp xh h1 h2).trans ?_
  rw [← List.flatMap_append]
  exact h.flatMap_right _
theorem act_fin {s s' : Sta} {net net' : List Pk} {hms hms' : List Hm} {xp xp' : List Pk} {xh xh' : List Hm} (h1 : s'.net.Perm (net' ++ xp')) (h2 : s'.hms.Perm (hms' ++ xh')) (a r : List Nat) (h : kAll.Perm (a ++ r)) {X Y Jk L' : List Ent} (hL : L'.Perm (X ++ (r.flatMap (kk { s with net := net, hms := hms } xp xh) ++ Jk))) (hr : r.flatMap (kk { s with net := net, hms := hms } xp xh) = r.flatMap (kk { s' with net := net', hms := hms' } xp' xh')) (hx : X.Perm (a.flatMap (kk { s' with net := net', hms := hms' } xp' xh') ++ Y)) : L'.Perm (blocks s' ++ (Y ++ Jk)) := by
  classical
  have h3 := blocks_sel h1 h2 a r h
  refine hL.trans (List.perm_iff_count.2 fun z => ?_)
  have c3 := h3.count_eq z; have cx := hx.count_eq z
  rw [hr]
  simp only [List.count_append] at c3 cx ⊢
  omega
theorem perm_idx {α : Type} (d : α) (l : List α) (i : List Nat) (h : (List.range l.length).Perm i) : l.Perm (i.map fun k => l.getD k d) := by
  have : (List.range l.length).map (fun k => l.getD k d) = l := List.ext_getElem (by simp) fun n h1 h2 => by simp at h1 ⊢; simp [h1]
  exact (this ▸ h.map (fun k => l.getD k d) :)
theorem post_idx {f : Nm × O → Ent} {l : List (Nm × O)} {X : List Ent} (i j : List Nat) (h : (List.range l.length).Perm (i ++ j)) (hx : (i.map fun k => l.getD k (mn 0, .dm)).map f = X) : (l.map f).Perm (X ++ (j.map fun k => l.getD k (mn 0, .dm)).map f) := by
  rw [← hx, ← List.map_append, ← List.map_append]
  exact (perm_idx (mn 0, .dm) l (i ++ j) h).map f
theorem and2 {a b : Bool} (h : a = true) (g : b = true) : (a && b) = true := by rw [h, g]; rfl
def jx (k0 : Nat) (v : List Value) (J : Nat → List Value) : Nat → List Value := fun k => cond (Nat.beq k k0) (v ++ J k) (J k)
noncomputable def obW (l : List (Nat × O)) (s : Sta) (k : Nat) : O := match l.find? (fun p => Nat.beq p.1 k) with | some p => p.2 | none => obS s k
theorem fn_obW {l : List (Nat × O)} (s : Sta) (h : l.all (fun p => fnB p.2) = true) (k : Nat) : fnB (obW l s k) = true := by
  unfold obW
  split
  · next p hp => exact List.all_eq_true.1 h p (List.mem_of_find?_eq_some hp)
  · exact fn_obS s k
def updR (r : Nat → List V1) (k : Nat) (l : List V1) : Nat → List V1 := fun i => cond (Nat.beq i k) l (r i)
noncomputable def o2 (H hm : Nat) : O := .c 111 1 H (midT 2000000 (hm * 1 + 0) [pP 20 0] (H * 1))
noncomputable def o11 (l m : Nat) (cs : List S) : O := .c 50 6 (l + m) (tks 1000000 (l * 6) ++ cs)
section
variable {b : Bs}
theorem fa0 : TbOk (tauA b) f0 := tb_f (i := .i64) (a := (b.hm : Int)) (b := 0) rfl rfl rfl (by show ¬ ((b.hm : Int) < 0); omega)
theorem fa1 (h : b.hm < b.H) : TbOk (tauA b) f1 := tb_f (i := .i64) (a := (b.hm : Int)) (b := (b.H : Int)) rfl rfl rfl (by show ¬ ((b.hm : Int) ≥ b.H); omega)
theorem fa2 (h : b.hm < b.H) : TbOk (tauA b) f2 := ⟨b.hm, b.H, rfl, rfl, h⟩
theorem fa3 (h : b.ob 2 = o2 b.H b.hm) : TbOk (tauA b) f3 := ⟨b.hm, 111, 1, b.H, _, rfl, h, cut_mid⟩
theorem fa4 (h : b.calls < 1000000) : TbOk (tauA b) f4 := tb_add (i := .u64) (a := (b.calls : Int)) (b := 1) rfl rfl (wrap_u64 (by omega)) rfl
theorem fa5 {cs : List S} (hl : b.lL ≤ 1000) (h1 : b.ob 1 = .c 50 6 b.lL (tks 1000000 (b.lL * 6))) (h2 : b.ob 11 = o11 b.lL 1 cs) (hc : cs.length = 6) : TbOk (tauA b) (.ap 1 5 cs 1 50 6 11 61) :=
  ⟨b.lL, _, rfl, rfl, h1, tks_len _ _, hc, by decide, by decide, by omega, h2⟩
end
theorem mid2 {s : Sta} (hw : WF s) {f : Nat → Nat × Nat} {b : Bs} {e : Nm → Nat × Nat} (hr : b.rows = s.b.rows) {hm : Nat} (h : hm < s.b.H) (hf : (s.b.rows 2).getD hm v0 = vP (f 20).1) : (midT 2000000 (hm * 1 + 0) [pP 20 0] (s.b.H * 1)).map (deS (DA f b e)) = vals (s.b.rows 2) := by
  have hl : (s.b.rows 2).length = s.b.H * 1 := by rw [hw.rH, hw.bH]; simp
  have h2 := hw.cH
  rw [← hr] at hl hf ⊢
  refine mid_vals (r := 2) (by decide) hl.symm (by omega) (by show hm * 1 + 0 + 1 ≤ _; omega) ?_
  have hlt : hm < (b.rows 2).length := by omega
  have e1 : (b.rows 2).drop (hm * 1 + 0) = (b.rows 2)[hm] :: (b.rows 2).drop (hm + 1) := by
    rw [show hm * 1 + 0 = hm by omega]; exact List.drop_eq_getElem_cons hlt
  have e2 : (b.rows 2)[hm] = vP (f 20).1 := by rw [← hf]; simp [hlt]
  rw [e1, e2]; rfl
theorem op2 {s : Sta} (hw : WF s) {D : Dt} {x : Xt} {hm : Nat} (h : hm < s.b.H) (hb : s.b.H * 1 + x.1.length = (D.ad (mn 4)).2 * 1) : opPre D 48 (mn 4) x (o2 s.b.H hm) :=
  op_mid (by show hm * 1 + 0 + 1 ≤ _; omega) (by decide) trivial hb
theorem fn_o2 {H hm : Nat} : fnB (o2 H hm) = true := fn_mid rfl
theorem fn_o11 {l m : Nat} {cs : List S} (h : cs.all fnS = true) : fnB (o11 l m cs) = true := fn_ap h
theorem op_tks0 {D : Dt} {n : Nm} {x : Xt} {t m base k : Nat} : opPre D 48 n x (.c t 0 m (tks base k)) := ⟨bnd_tks 48 _ _, by rw [needL_tks]; trivial, trivial⟩
theorem all7 {s : Sta} (hw : WF s) (hg : s.rg = true) {f : Nat → Nat × Nat} {b : Bs} {e : Nm → Nat × Nat} (hr : b.rows = s.b.rows) : (tks 7000000 (s.b.lQ * 25)).map (deS (DA f b e)) = vals (s.b.rows 7) := by
  have h := hw.rQ hg; have h2 := hw.bQ
  rw [← hr] at h ⊢
  exact row_all (r := 7) (by decide) h.symm (by omega)
theorem len11 (l m : Nat) {cs : List S} (h : cs.length = m * 6) : (tks 1000000 (l * 6) ++ cs).length = (l + m) * (5 + 1) := by rw [List.length_append, tks_len, h]; omega
theorem app1 {s : Sta} (hw : WF s) {f : Nat → Nat × Nat} {b : Bs} {e : Nm → Nat × Nat} (hr : b.rows = s.b.rows) {cs : List S} {vs : List V1} (h : cs.map (deS (DA f b e)) = vals vs) : (tks 1000000 (s.b.lL * 6) ++ cs).map (deS (DA f b e)) = vals (s.b.rows 1 ++ vs) := by
  rw [List.map_append, all1 hw hr, h, vals_app]
theorem len_s {s : Sta} (hw : WF s) : 0 < s.b.H := by rw [hw.bH]; omega
theorem row20 {s : Sta} (hw : WF s) : (s.b.rows 2).getD 0 v0 = vP (s.F 20).1 := by rw [hw.rH]; rfl
theorem rl_app {r vs : List V1} {l k : Nat} (h : r.length = l * 6) (hv : vs.length = k * 6) : (r ++ vs).length = (l + k) * 6 := by rw [List.length_append, h, hv]; omega
def eCall (id : Nat) : List V1 := [vI .i64 2, vN .u64 id, vI .i64 0, vI .i64 0, vI .i64 0, vI .i64 0]
def eRun (v n : Int) : List V1 := [vI .i64 4, vN .u64 4294967297, vI .i64 0, vI .i64 v, vI .i64 n, vI .i64 0]
def eDone (id : Nat) (v : Int) : List V1 := [vI .i64 3, vN .u64 id, vI .i64 0, vI .i64 v, vI .i64 0, vI .i64 0]
noncomputable def pkS : List S := [iI 1, tK 30, iI 0, tK 31, tK 32, iB 0, iB 0, iB 0, iB 0, iB 0, iB 0, iB 0, iB 0, iB 0, iB 0, iB 0, iB 1, iB 0, iB 0, iB 0, iB 1, iI 0, tK 33, iI 0, xsn]
noncomputable def zS : List S := [iI 0, iI 0, iI 0, iU 0, iU 0, iB 0, iB 0, iB 0, iB 0, iB 0, iB 0, iB 0, iB 0, iB 0, iB 0, iB 0, iB 0, iB 0, iB 0, iB 0, iB 0, iI 0, iI 0, iI 0, xsn]
def qV (fr sq cl : Nat) (m : Int) : List V1 := [vI .i64 1, vN .i64 fr, vI .i64 0, vN .u64 sq, vN .u64 cl, vN .u8 0, vN .u8 0, vN .u8 0, vN .u8 0, vN .u8 0, vN .u8 0, vN .u8 0, vN .u8 0, vN .u8 0, vN .u8 0, vN .u8 0, vN .u8 1, vN .u8 0, vN .u8 0, vN .u8 0, vN .u8 1, vI .i64 0, vI .i64 m, vI .i64 0, vS none 0 0]
def zV : List V1 := [vI .i64 0, vI .i64 0, vI .i64 0, vN .u64 0, vN .u64 0, vN .u8 0, vN .u8 0, vN .u8 0, vN .u8 0, vN .u8 0, vN .u8 0, vN .u8 0, vN .u8 0, vN .u8 0, vN .u8 0, vN .u8 0, vN .u8 0, vN .u8 0, vN .u8 0, vN .u8 0, vN .u8 0, vI .i64 0, vI .i64 0, vI .i64 0, vS none 0 0]
noncomputable def oQ (lQ i : Nat) (cs : List S) : O := .c 134 0 0 (midT 7000000 (i * 25 + 0) cs (lQ * 25))
def setR (l : List V1) (i : Nat) (v : List V1) : List V1 := l.take i ++ (v ++ l.drop (i + v.length))
theorem setR_len {l : List V1} {i : Nat} {v : List V1} (h : i + v.length ≤ l.length) : (setR l i v).length = l.length := by simp [setR]; omega
theorem mid_set {f : Nat → Nat × Nat} {b : Bs} {e : Nm → Nat × Nat} {r i n : Nat} {cs : List S} {vs : List V1} (hr : 1 ≤ r) (hl : n = (b.rows r).length) (hb : (b.rows r).length < 1000000) (hi : i + cs.length ≤ n) (hc : cs.map (deS (DA f b e)) = vals vs) : (midT (1000000 * r) i cs n).map (deS (DA f b e)) = vals (setR (b.rows r) i vs) := by
  have hcl : cs.length = vs.length := by have := congrArg List.length hc; rwa [List.length_map, vals_len] at this
  unfold midT setR
  rw [List.map_append, List.map_append, hc, ← hcl]
  have h1 := row_seg (f := f) (b := b) (e := e) (r := r) (i := 0) (n := i) hr (by omega) hb
  have h2 := row_seg (f := f) (b := b) (e := e) (r := r) (i := i + cs.length) (n := n - (i + cs.length)) hr (by omega) hb
  rw [Nat.add_zero] at h1
  rw [h1, h2, ← vals_app, ← vals_app]
  congr 1
  rw [List.drop_zero]
  have e1 : ((b.rows r).drop (i + cs.length)).take (n - (i + cs.length)) = (b.rows r).drop (i + cs.length) := List.take_of_length_le (by simp; omega)
  rw [e1]
theorem midq {s : Sta} (hw : WF s) (hg : s.rg = true) {f : Nat → Nat × Nat} {b : Bs} {e : Nm → Nat × Nat} (hr : b.rows = s.b.rows) {i : Nat} (hi : i < s.b.lQ) (hc : pkS.map (deS (DA f b e)) = vals (((b.rows 7).drop (i * 25 + 0)).take pkS.length)) : (midT 7000000 (i * 25 + 0) pkS (s.b.lQ * 25)).map (deS (DA f b e)) = vals (s.b.rows 7) := by
  have h := hw.rQ hg; have h2 := hw.bQ
  rw [← hr] at h ⊢
  exact mid_vals (r := 7) (by decide) h.symm (by omega) (by show i * 25 + 0 + 25 ≤ _; omega) hc
theorem midz {s : Sta} (hw : WF s) (hg : s.rg = true) {f : Nat → Nat × Nat} {b : Bs} {e : Nm → Nat × Nat} (hr : b.rows = s.b.rows) {i : Nat} (hi : i < s.b.lQ) {cs : List S} {vs : List V1} (hl : cs.length = 25) (hc : cs.map (deS (DA f b e)) = vals vs) : (midT 7000000 (i * 25 + 0) cs (s.b.lQ * 25)).map (deS (DA f b e)) = vals (setR (s.b.rows 7) (i * 25 + 0) vs) := by
  have h := hw.rQ hg; have h2 := hw.bQ
  rw [← hr] at h ⊢
  exact mid_set (r := 7) (by decide) h.symm (by omega) (by rw [hl]; omega) hc
section
variable {b : Bs}
theorem fa59 (h : b.rc = 0) : TbOk (tauA b) f59 := tb_f (i := .i64) (a := (b.rc : Int)) (b := 0) rfl rfl rfl (by show ¬ ((b.rc : Int) > 0); omega)
theorem fa60 (h : 0 < b.rc) : TbOk (tauA b) f60 := tb_t (i := .i64) (a := (b.rc : Int)) (b := 0) rfl rfl rfl (by show (b.rc : Int) > 0; omega)
theorem fa61 : TbOk (tauA b) f61 := tb_rem (i := .i64) (a := b.n) (b := 1) rfl rfl (by decide) (Int.tmod_one _) rfl
theorem fa62 (h : 0 < b.rc) : TbOk (tauA b) f62 := tb_f (i := .i64) (a := 0) (b := (b.rc : Int)) rfl rfl rfl (by show ¬ ((0 : Int) ≥ b.rc); omega)
theorem fa63 (h : b.rf < 1000) : TbOk (tauA b) f63 := tb_add (i := .i64) (a := (b.rf : Int)) (b := 0) rfl rfl (wrap_i64 (by omega)) rfl
theorem fa64 (h : 0 < b.lQ) : TbOk (tauA b) f64 := tb_rem (i := .i64) (a := ((b.rf + 0 : Nat) : Int)) (b := (b.lQ : Int)) rfl rfl (by omega) rfl rfl
theorem fa65 (h : 0 < b.lQ) : TbOk (tauA b) f65 := ⟨(b.rf + 0) % b.lQ, b.lQ, rfl, rfl, Nat.mod_lt _ h⟩
theorem fa66 (h : b.rf < b.lQ) (ho : b.ob 7 = oQ b.lQ b.rf pkS) : TbOk (tauA b) f66 := ⟨b.rf, 134, 0, 0, _, (by show Value.int .i64 (((b.rf + 0) % b.lQ : Nat) : Int) = _; rw [Nat.add_zero, Nat.mod_eq_of_lt h]), ho, cut_mid⟩
theorem fa67 (h : b.rf < b.lQ) : TbOk (tauA b) f67 := ⟨b.rf, b.lQ, rfl, rfl, h⟩
theorem fa68 (h1 : b.ob 7 = oQ b.lQ b.rf pkS) (h2 : b.ob 17 = oQ b.lQ b.rf zS) : TbOk (tauA b) f68 := ⟨b.rf, 134, 0, 0, _, _, rfl, h1, over_mid rfl, h2⟩
theorem fa69 (h : b.rf < 1000) : TbOk (tauA b) f69 := tb_add (i := .i64) (a := (b.rf : Int)) (b := 1) rfl rfl (wrap_i64 (by omega)) rfl
theorem fa70 (h : 0 < b.lQ) : TbOk (tauA b) f70 := tb_rem (i := .i64) (a := ((b.rf + 1 : Nat) : Int)) (b := (b.lQ : Int)) rfl rfl (by omega) rfl rfl
theorem fa71 (h : 0 < b.rc) (h2 : b.rc < 1000) : TbOk (tauA b) f71 := tb_sub (i := .i64) (a := (b.rc : Int)) (b := 1) (c := ((b.rc - 1 : Nat) : Int)) rfl rfl (by rw [wrap_i64 (by omega)]; omega) rfl
theorem fa72 (h : -9223372036854775808 ≤ b.v + b.bn ∧ b.v + b.bn ≤ 9223372036854775807) : TbOk (tauA b) f72 := tb_add (i := .i64) (a := b.v) (b := b.bn) rfl rfl (wrap_i64 h) rfl
theorem fa81 (h : -9223372036854775808 ≤ b.v + b.fn ∧ b.v + b.fn ≤ 9223372036854775807) : TbOk (tauA b) f81 := tb_add (i := .i64) (a := b.v) (b := b.fn) rfl rfl (wrap_i64 h) rfl
theorem fa82 (h : b.fcl ≠ 0) : TbOk (tauA b) f82 := tb_t (i := .u64) (a := (b.fcl : Int)) (b := 0) rfl rfl rfl (by show ¬ ((b.fcl : Int) = 0); omega)
theorem fa83 {cs : List S} (hl : b.lL ≤ 1000) (h1 : b.ob 1 = .c 50 6 b.lL (tks 1000000 (b.lL * 6))) (h2 : b.ob 11 = o11 b.lL 2 cs) (hc : cs.length = 12) : TbOk (tauA b) (.ap 1 5 cs 2 50 6 11 167) :=
  ⟨b.lL, _, rfl, rfl, h1, tks_len _ _, hc, by decide, by decide, by omega, h2⟩
end
theorem opQ {D : Dt} {n : Nm} {x : Xt} {lQ i : Nat} {cs : List S} {o : O} (h : i < lQ) (hl : cs.length = 25 ∧ (∀ s ∈ cs, bndS 48 s = true) ∧ AllP (needL D cs)) (ho : o = oQ lQ i cs) : opPre D 48 n x o := ho ▸ ⟨bnd_mid hl.2.1, by rw [needL_mid]; exact hl.2.2, trivial⟩
theorem pkS_ok {D : Dt} : pkS.length = 25 ∧ (∀ s ∈ pkS, bndS 48 s = true) ∧ AllP (needL D pkS) := ⟨rfl, by decide, trivial⟩
noncomputable def h0q : List (Nm × O) := [b32, b15, b16, b17, b18, b19, b20]
section
variable {f : Nat → Nat × Nat} {J : Nat → List Value} {o : Obj} {b : Bs}
theorem need_h0q (h : RmH0 f J) : AllP (needE (DA f b noN) 48 (xS J o) h0q) :=
  ⟨Nat.zero_le _, show 0 + 2 ≤ (f 22).2 by have := h.1; omega, rfl, h.1, show 0 + 1 ≤ (f 25).2 by have := h.2; omega, rfl, h.2, trivial⟩
theorem need_r0 (g : RmT0 f J .row) : AllP (needE (DA f b noN) 48 (xS J o) [b33]) := ⟨rfl, g, trivial⟩
theorem need_h0t (h : RmH0 f J) (g : 1 + (J 29).length = (f 29).2 * 1) : AllP (needE (DA f b noN) 48 (xS J o) h0t) :=
  ⟨show 0 + 1 ≤ (f 29).2 by omega, show 0 + 2 ≤ (f 22).2 by have := h.1; omega, rfl, h.1, show 0 + 1 ≤ (f 25).2 by have := h.2; omega, rfl, h.2, trivial⟩
theorem need_thC (g : RmT0 f J .cli) : AllP (needE (DA f b noN) 48 (xS J o) (thC ++ frC)) := ⟨rfl, g.1, show 0 + 6 ≤ (f 39).2 by have := g.2; omega, rfl, g.2, trivial⟩
theorem need_thB (g : RmT0 f J .bak) : AllP (needE (DA f b noN) 48 (xS J o) (thB ++ frB)) := ⟨rfl, g.1, show 0 + 6 ≤ (f 39).2 by have := g.2; omega, rfl, g.2, trivial⟩
end
end Go.Proofs.YtpcdcemcjbeajaaGreatDoor
end
section
set_option linter.unusedVariables false
set_option linter.unusedSimpArgs false
set_option maxRecDepth 100000
namespace Go.Proofs.YtpcdcemcjbeajaaGreatDoor
open Go Go.RowKit Go.Shelf
theorem zB_cons {κ : Nat} {κs : List Nat} (h : zB (κ :: κs) = true) : κ = 0 ∧ zB κs = true := by
  have h : cond (Nat.beq κ 0) (zB κs) false = true := h
  cases hb : Nat.beq κ 0 with
  | true => rw [hb] at h; exact ⟨Nat.eq_of_beq_eq_true hb, h⟩
  | false => rw [hb] at h; cases h
theorem key2 {κs : List Nat} {x y : S} (hz : zB κs = true) (hk : keyB κs (.a [x, y]) = true) : κs = [0, 0] := by
  match κs, hz, hk with
  | [], _, hk => cases hk
  | [a], _, hk => cases hk
  | [a, b], hz, _ => obtain ⟨h1, hz⟩ := zB_cons hz; obtain ⟨h2, _⟩ := zB_cons hz; rw [h1, h2]
  | a :: b :: c :: l, _, hk => cases hk
theorem key3 {κs : List Nat} {x y u : S} (hz : zB κs = true) (hk : keyB κs (.a [x, y, u]) = true) : κs = [0, 0, 0] := by
  match κs, hz, hk with
  | [], _, hk => cases hk
  | [a], _, hk => cases hk
  | [a, b], _, hk => cases hk
  | [a, b, c], hz, _ => obtain ⟨h1, hz⟩ := zB_cons hz; obtain ⟨h2, hz⟩ := zB_cons hz; obtain ⟨h3, _⟩ := zB_cons hz; rw [h1, h2, h3]
  | a :: b :: c :: d :: l, _, hk => cases hk
def eq2 (a b x y : Nat) : Bool := cond (Nat.beq a x) (cond (Nat.beq b y) true false) false
def eq3 (a b c x y u : Nat) : Bool := cond (Nat.beq a x) (cond (Nat.beq b y) (cond (Nat.beq c u) true false) false) false
theorem eqK2 (a b x y : Nat) : eqK [0, 0] (.a [iI a, iI b]) (.a [iI x, iI y]) = some (eq2 a b x y) := rfl
theorem eqK3 (a b c x y u : Nat) : eqK [0, 0, 0] (.a [iI a, iI b, iU c]) (.a [iI x, iI y, iU u]) = some (eq3 a b c x y u) := rfl
theorem eq3_t {a b c x y u : Nat} (h : eq3 a b c x y u = true) : a = x ∧ b = y ∧ c = u := by
  unfold eq3 at h
  cases h1 : Nat.beq a x <;> cases h2 : Nat.beq b y <;> cases h3 : Nat.beq c u <;> rw [h1, h2, h3] at h <;> first | exact ⟨Nat.eq_of_beq_eq_true h1, Nat.eq_of_beq_eq_true h2, Nat.eq_of_beq_eq_true h3⟩ | cases h
def look (a b : Nat) : List Rd3 → Option Nat
  | [] => none
  | e :: l => cond (eq2 a b e.1 e.2.1) (some e.2.2.1) (look a b l)
def setL (a b q : Nat) : List Rd3 → List Rd3
  | [] => []
  | e :: l => cond (eq2 a b e.1 e.2.1) ((a, b, q, e.2.2.2) :: l) (e :: setL a b q l)
noncomputable def sentT (a b : Nat) (v : A1) : List Rd3 → List (A1 × A1 × Nat)
  | [] => []
  | e :: l => cond (eq2 a b e.1 e.2.1) ((.a [iI a, iI b], v, e.2.2.2) :: l.map sentS) (sentS e :: sentT a b v l)
def cmK (a b c : Nat) (l : List Rd3) : Bool := l.any fun e => eq3 a b c e.1 e.2.1 e.2.2.1
theorem find_N {a b : Nat} : ∀ {l : List Rd3}, look a b l = none → findK [0, 0] (.a [iI a, iI b]) (l.map sentS) = some none
  | [], _ => rfl
  | e :: l, h => by
    have h : cond (eq2 a b e.1 e.2.1) (some e.2.2.1) (look a b l) = none := h
    show (match eqK [0, 0] (.a [iI a, iI b]) (.a [iI e.1, iI e.2.1]) with | some true => _ | some false => findK _ _ (l.map sentS) | none => none) = _
    rw [eqK2]
    cases he : eq2 a b e.1 e.2.1 with
    | true => rw [he] at h; cases h
    | false => rw [he] at h; exact find_N h
theorem find_C {a b c : Nat} : ∀ {l : List Rd3}, cmK a b c l = false → findK [0, 0, 0] (.a [iI a, iI b, iU c]) (l.map cameS) = some none
  | [], _ => rfl
  | e :: l, h => by
    have h : (eq3 a b c e.1 e.2.1 e.2.2.1 || cmK a b c l) = false := h
    show (match eqK [0, 0, 0] (.a [iI a, iI b, iU c]) (.a [iI e.1, iI e.2.1, iU e.2.2.1]) with | some true => _ | some false => findK _ _ (l.map cameS) | none => none) = _
    rw [eqK3]
    cases he : eq3 a b c e.1 e.2.1 e.2.2.1 with
    | true => rw [he] at h; cases h
    | false => rw [he] at h; exact find_C h
theorem find_S {a b q : Nat} {v : A1} : ∀ {l : List Rd3}, look a b l = some q → findK [0, 0] (.a [iI a, iI b]) (sentT a b v l) = some (some v)
  | [], h => by cases h
  | e :: l, h => by
    have h : cond (eq2 a b e.1 e.2.1) (some e.2.2.1) (look a b l) = some q := h
    show findK _ _ (cond (eq2 a b e.1 e.2.1) _ _) = _
    cases he : eq2 a b e.1 e.2.1 with
    | true =>
      show (match eqK [0, 0] (.a [iI a, iI b]) (.a [iI a, iI b]) with | some true => _ | some false => findK _ _ (l.map sentS) | none => none) = _
      rw [eqK2, show eq2 a b a b = true by simp [eq2]]
    | false =>
      rw [he] at h
      show (match eqK [0, 0] (.a [iI a, iI b]) (.a [iI e.1, iI e.2.1]) with | some true => _ | some false => findK _ _ (sentT a b v l) | none => none) = _
      rw [eqK2, he]
      exact find_S h
theorem upd_S {a b q : Nat} {v u : A1} : ∀ {l : List Rd3}, look a b l = some q → updK [0, 0] (.a [iI a, iI b]) u (sentT a b v l) = some (sentT a b u l)
  | [], h => by cases h
  | e :: l, h => by
    have h : cond (eq2 a b e.1 e.2.1) (some e.2.2.1) (look a b l) = some q := h
    show updK _ _ _ (cond (eq2 a b e.1 e.2.1) _ _) = some (cond (eq2 a b e.1 e.2.1) _ _)
    cases he : eq2 a b e.1 e.2.1 with
    | true =>
      show (match eqK [0, 0] (.a [iI a, iI b]) (.a [iI a, iI b]) with | some true => _ | some false => (match updK _ _ u (l.map sentS) with | some r => _ | none => none) | none => none) = _
      rw [eqK2, show eq2 a b a b = true by simp [eq2]]
      rfl
    | false =>
      rw [he] at h
      show (match eqK [0, 0] (.a [iI a, iI b]) (.a [iI e.1, iI e.2.1]) with | some true => _ | some false => (match updK _ _ u (sentT a b v l) with | some r => some (sentS e :: r) | none => none) | none => none) = _
      rw [eqK2, he, upd_S h]
      rfl
theorem de_T {D : Dt} {a b q : Nat} {t : Nat} (ht : D.tk.val t = .int .u64 (q : Int)) : ∀ {l : List Rd3}, (look a b l).isSome = true → (sentT a b (.s (tK t)) l).map (deM D) = (setL a b q l).map sentV
  | [], h => by cases h
  | e :: l, h => by
    have h : (cond (eq2 a b e.1 e.2.1) (some e.2.2.1) (look a b l)).isSome = true := h
    show (cond (eq2 a b e.1 e.2.1) _ _ : List (A1 × A1 × Nat)).map (deM D) = (cond (eq2 a b e.1 e.2.1) _ _ : List Rd3).map sentV
    cases he : eq2 a b e.1 e.2.1 with
    | true =>
      show deM D (.a [iI a, iI b], .s (tK t), e.2.2.2) :: (l.map sentS).map (deM D) = sentV (a, b, q, e.2.2.2) :: l.map sentV
      rw [List.map_map]
      congr 1
      show MapEntry.mk _ (D.tk.val t) _ = _
      rw [ht]; rfl
    | false =>
      rw [he] at h
      show deM D (sentS e) :: (sentT a b _ l).map (deM D) = sentV e :: (setL a b q l).map sentV
      rw [de_T ht h]; rfl
theorem setL_id {a b q : Nat} : ∀ {l : List Rd3}, look a b l = some q → setL a b q l = l
  | [], h => by cases h
  | e :: l, h => by
    have h : cond (eq2 a b e.1 e.2.1) (some e.2.2.1) (look a b l) = some q := h
    show cond (eq2 a b e.1 e.2.1) _ _ = _
    cases he : eq2 a b e.1 e.2.1 with
    | true =>
      rw [he] at h
      injection h with h
      unfold eq2 at he
      cases h1 : Nat.beq a e.1 <;> cases h2 : Nat.beq b e.2.1 <;> rw [h1, h2] at he <;> first | cases he | skip
      rw [Nat.eq_of_beq_eq_true h1, Nat.eq_of_beq_eq_true h2, ← h]; rfl
    | false => rw [he] at h; show e :: setL a b q l = _; rw [setL_id h]
theorem same_l {k : Tk} : ∀ {l : List S} {us : List Value} {m : List S}, All2 (fun s u => tv k s = some u) l us → All2 (fun s u => tv k s = some u) m us → ∀ nm vs, All2 (okS ⟨nm, k⟩) l vs → All2 (okS ⟨nm, k⟩) m vs
  | [], [], [], _, _, nm, [], _ => trivial
  | x :: l, u :: us, y :: m, h, g, nm, v :: vs, hv => ⟨by have := tv_ok hv.1 h.1; rw [this]; exact ok_tv (σ := ⟨nm, k⟩) g.1, same_l h.2 g.2 nm vs hv.2⟩
  | [], [], [], _, _, _, _ :: _, hv => hv.elim
  | _ :: _, _ :: _, _ :: _, _, _, _, [], hv => hv.elim
  | [], _ :: _, _, h, _, _, _, _ => h.elim
  | _ :: _, [], _, h, _, _, _, _ => h.elim
  | _, [], _ :: _, _, g, _, _, _ => g.elim
  | _, _ :: _, [], _, g, _, _, _ => g.elim
theorem same_a {k : Tk} {l m : List S} (us : List Value) (h : All2 (fun s u => tv k s = some u) l us) (g : All2 (fun s u => tv k s = some u) m us) : SameKey k (.a l) (.a m) := fun nm v hv => by
  obtain ⟨vs, h1, h2⟩ := hv
  exact ⟨vs, same_l h g nm vs h1, h2⟩
section
variable {b : Bs}
theorem lkN {i x y : Nat} {kx ky : S} {l : List Rd3} {c : Nat} (hx : tv (tauA b) kx = some (.int .i64 (x : Int))) (hy : tv (tauA b) ky = some (.int .i64 (y : Int))) (ho : b.ob i = .m (l.map sentS) c) (h : look x y l = none) : TbOk (tauA b) (.lk i (.a [kx, ky]) none) :=
  ⟨.a [iI x, iI y], _, _, same_a [.int .i64 (x : Int), .int .i64 (y : Int)] ⟨hx, hy, trivial⟩ ⟨rfl, rfl, trivial⟩, ho, fun κs hz hk => by obtain rfl := key2 hz hk; exact ⟨rfl, find_N h⟩⟩
theorem upN {i i' x y : Nat} {kx ky : S} {l : List Rd3} {c : Nat} (hx : tv (tauA b) kx = some (.int .i64 (x : Int))) (hy : tv (tauA b) ky = some (.int .i64 (y : Int))) (ho : b.ob i = .m (l.map sentS) c) (h : look x y l = none) (ho' : b.ob i' = .m ((l ++ [(x, y, 1, c)]).map sentS) (c + 1)) : TbOk (tauA b) (.up i (.a [kx, ky]) (.s (iU 1)) i') :=
  ⟨.a [iI x, iI y], _, _, same_a [.int .i64 (x : Int), .int .i64 (y : Int)] ⟨hx, hy, trivial⟩ ⟨rfl, rfl, trivial⟩, ho, .inr ⟨fun κs hz hk => by obtain rfl := key2 hz hk; exact ⟨rfl, find_N h⟩, by show b.ob _ = _; rw [ho', List.map_append]; rfl⟩⟩
theorem lkS {i x y q t : Nat} {kx ky : S} {l : List Rd3} {c : Nat} (hx : tv (tauA b) kx = some (.int .i64 (x : Int))) (hy : tv (tauA b) ky = some (.int .i64 (y : Int))) (ho : b.ob i = .m (sentT x y (.s (tK t)) l) c) (h : look x y l = some q) : TbOk (tauA b) (.lk i (.a [kx, ky]) (some (.s (tK t)))) :=
  ⟨.a [iI x, iI y], _, _, same_a [.int .i64 (x : Int), .int .i64 (y : Int)] ⟨hx, hy, trivial⟩ ⟨rfl, rfl, trivial⟩, ho, fun κs hz hk => by obtain rfl := key2 hz hk; exact ⟨rfl, find_S h⟩⟩
theorem upS {i i' x y q t u : Nat} {kx ky : S} {l : List Rd3} {c : Nat} (hx : tv (tauA b) kx = some (.int .i64 (x : Int))) (hy : tv (tauA b) ky = some (.int .i64 (y : Int))) (ho : b.ob i = .m (sentT x y (.s (tK t)) l) c) (h : look x y l = some q) (ho' : b.ob i' = .m (sentT x y (.s (tK u)) l) c) : TbOk (tauA b) (.up i (.a [kx, ky]) (.s (tK u)) i') :=
  ⟨.a [iI x, iI y], _, _, same_a [.int .i64 (x : Int), .int .i64 (y : Int)] ⟨hx, hy, trivial⟩ ⟨rfl, rfl, trivial⟩, ho, .inl ⟨_, fun κs hz hk => by obtain rfl := key2 hz hk; exact ⟨rfl, find_S h⟩, _, fun κs hz hk => by obtain rfl := key2 hz hk; exact upd_S h, ho'⟩⟩
theorem lkC {x y u : Nat} {kx ky ku : S} {l : List Rd3} {c : Nat} (hx : tv (tauA b) kx = some (.int .i64 (x : Int))) (hy : tv (tauA b) ky = some (.int .i64 (y : Int))) (hu : tv (tauA b) ku = some (.int .u64 (u : Int))) (ho : b.ob 5 = .m (l.map cameS) c) (h : cmK x y u l = false) : TbOk (tauA b) (.lk 5 (.a [kx, ky, ku]) none) :=
  ⟨.a [iI x, iI y, iU u], _, _, same_a [.int .i64 (x : Int), .int .i64 (y : Int), .int .u64 (u : Int)] ⟨hx, hy, hu, trivial⟩ ⟨rfl, rfl, rfl, trivial⟩, ho, fun κs hz hk => by obtain rfl := key3 hz hk; exact ⟨rfl, find_C h⟩⟩
theorem upC {x y u : Nat} {kx ky ku : S} {l : List Rd3} {c : Nat} (hx : tv (tauA b) kx = some (.int .i64 (x : Int))) (hy : tv (tauA b) ky = some (.int .i64 (y : Int))) (hu : tv (tauA b) ku = some (.int .u64 (u : Int))) (ho : b.ob 5 = .m (l.map cameS) c) (h : cmK x y u l = false) (ho' : b.ob 15 = .m ((l ++ [(x, y, u, c)]).map cameS) (c + 1)) : TbOk (tauA b) (.up 5 (.a [kx, ky, ku]) (.a []) 15) :=
  ⟨.a [iI x, iI y, iU u], _, _, same_a [.int .i64 (x : Int), .int .i64 (y : Int), .int .u64 (u : Int)] ⟨hx, hy, hu, trivial⟩ ⟨rfl, rfl, rfl, trivial⟩, ho, .inr ⟨fun κs hz hk => by obtain rfl := key3 hz hk; exact ⟨rfl, find_C h⟩, by show b.ob _ = _; rw [ho', List.map_append]; rfl⟩⟩
end
theorem fn_T {a b t : Nat} : ∀ (l : List Rd3) (c : Nat), fnB (.m (sentT a b (.s (tK t)) l) c) = true
  | [], _ => rfl
  | e :: l, c => by
    show (List.all (cond (eq2 a b e.1 e.2.1) _ _ : List (A1 × A1 × Nat)) fun e : A1 × A1 × Nat => fnA e.1 && fnA e.2.1) = true
    cases he : eq2 a b e.1 e.2.1 with
    | true => exact fn_sent l c
    | false => exact fn_T l c
theorem bnd_T {a b t : Nat} : ∀ {l : List Rd3}, ∀ e ∈ sentT a b (.s (tK t)) l, bndA 48 e.1 = true ∧ bndA 48 e.2.1 = true
  | [], e, he => by cases he
  | r :: l, e, he => by
    have he : e ∈ (cond (eq2 a b r.1 r.2.1) ((.a [iI a, iI b], .s (tK t), r.2.2.2) :: l.map sentS) (sentS r :: sentT a b (.s (tK t)) l) : List (A1 × A1 × Nat)) := he
    cases hq : eq2 a b r.1 r.2.1 with
    | true =>
      rw [hq] at he
      rcases List.mem_cons.1 he with rfl | he
      · exact ⟨rfl, rfl⟩
      · obtain ⟨q, _, rfl⟩ := List.mem_map.1 he; exact ⟨rfl, rfl⟩
    | false =>
      rw [hq] at he
      rcases List.mem_cons.1 he with rfl | he
      · exact ⟨rfl, rfl⟩
      · exact bnd_T e he
theorem needM_T {D : Dt} {a b t : Nat} : ∀ {l : List Rd3}, needM D (sentT a b (.s (tK t)) l) = []
  | [] => rfl
  | r :: l => by
    show needM D (cond (eq2 a b r.1 r.2.1) _ _) = []
    cases hq : eq2 a b r.1 r.2.1 with
    | true => show [] ++ ([] ++ needM D (l.map sentS)) = []; rw [needM_sent]; rfl
    | false => show [] ++ ([] ++ needM D (sentT a b (.s (tK t)) l)) = []; rw [needM_T]; rfl
theorem op_T {D : Dt} {n : Nm} {x : Xt} {a b t c : Nat} {l : List Rd3} : opPre D 48 n x (.m (sentT a b (.s (tK t)) l) c) := ⟨bnd_T, by rw [needM_T]; trivial⟩
theorem de_sentT {f : Nat → Nat × Nat} {b : Bs} {e : Nm → Nat × Nat} {x : Nm → Xt} {n : Nm} {i : Nat} {a a' q t c : Nat} {l : List Rd3} (ho : b.ob i = .m (sentT a a' (.s (tK t)) l) c) (ht : (tauA b).val t = .int .u64 (q : Int)) (hl : (look a a' l).isSome = true) : deE (DA f b e) x (n, .op i) = ((adX (adl f) e n).1, .map ((setL a a' q l).map sentV).toArray c) := by
  show (_, deB (DA f b e) (x n) (b.ob i)) = _
  rw [ho]
  show (_, Obj.map ((sentT a a' _ l).map _).toArray c) = _
  rw [de_T (q := q) ht hl]
theorem de_pk2 {X : Ent} {b c fr to seq call : Nat} {jk : List Value} {n : Int} (h : X = (b, cel 5 ((pkBytes 2 fr to seq call [0, 0, 0, 0, 0, 0, 0, 0, 0, 0, 0, 0, 0, 0, 0, 0] 0 n 0).map (fun (x : Nat) => Value.int .u8 (x : Int)) ++ jk))) : X = (Pk.b ⟨b, c, jk, 2, fr, to, seq, call, n⟩, cel 5 ((Pk.bytes ⟨b, c, jk, 2, fr, to, seq, call, n⟩).map (fun (x : Nat) => Value.int .u8 (x : Int)) ++ Pk.jk ⟨b, c, jk, 2, fr, to, seq, call, n⟩)) := h
theorem de_pk1 {X : Ent} {b c fr to seq call : Nat} {jk : List Value} {n : Int} (h : X = (b, cel 5 ((pkBytes 1 fr to seq call [0, 0, 0, 0, 0, 0, 0, 0, 0, 0, 0, 1, 0, 0, 0, 1] 0 n 0).map (fun (x : Nat) => Value.int .u8 (x : Int)) ++ jk))) : X = (Pk.b ⟨b, c, jk, 1, fr, to, seq, call, n⟩, cel 5 ((Pk.bytes ⟨b, c, jk, 1, fr, to, seq, call, n⟩).map (fun (x : Nat) => Value.int .u8 (x : Int)) ++ Pk.jk ⟨b, c, jk, 1, fr, to, seq, call, n⟩)) := h
theorem len13 (l : Nat) {cs : List S} (h : cs.length = 1) : (tks 3000000 (l * 1) ++ cs).length = (l + 1) * (0 + 1) := by rw [List.length_append, tks_len, h]; omega
theorem app3 {s : Sta} (hw : WF s) {f : Nat → Nat × Nat} {b : Bs} {e : Nm → Nat × Nat} (hr : b.rows = s.b.rows) {cs : List S} {vs : List V1} (h : cs.map (deS (DA f b e)) = vals vs) : (tks 3000000 (s.b.lR * 1) ++ cs).map (deS (DA f b e)) = vals (s.b.rows 3 ++ vs) := by
  rw [List.map_append, all3 hw hr, h, vals_app]
theorem rR_app {s : Sta} (hw : WF s) (p : Pk) : s.b.rows 3 ++ [p.slice] = (s.net ++ [p]).map Pk.slice := by rw [hw.rR, List.map_append]; rfl
theorem rP_app {s : Sta} (hw : WF s) {p : Pk} (h : p.bytes.length + p.jk.length = p.c) : ∀ q ∈ s.net ++ [p], q.bytes.length + q.jk.length = q.c := fun q hq => by
  rcases List.mem_append.1 hq with hq | hq
  · exact hw.rP q hq
  · rw [List.mem_singleton.1 hq]; exact h
noncomputable def o13 (l : Nat) (cs : List S) : O := .c 161 1 (l + 1) (tks 3000000 (l * 1) ++ cs)
section
variable {b : Bs}
theorem fa12 (h : b.lR < 4096) : TbOk (tauA b) f12 := tb_f (i := .i64) (a := (b.lR : Int)) (b := 4096) rfl rfl rfl (by show ¬ ((b.lR : Int) ≥ 4096); omega)
theorem fa16 (h : b.seq < 1000000) : TbOk (tauA b) f16 := tb_add (i := .u64) (a := (b.seq : Int)) (b := 1) rfl rfl (wrap_u64 (by omega)) rfl
theorem fa75 {cs : List S} (hl : b.lR ≤ 1000) (h1 : b.ob 3 = .c 161 1 b.lR (tks 3000000 (b.lR * 1))) (h2 : b.ob 13 = o13 b.lR cs) (hc : cs.length = 1) : TbOk (tauA b) (.ap 3 7 cs 1 161 1 13 80) :=
  ⟨b.lR, _, rfl, rfl, h1, tks_len _ _, hc, by decide, by decide, by omega, h2⟩
def PkB (fr to seq call : Nat) (n : Int) : Prop := fr < 4 ∧ to < 4 ∧ fr ≠ to ∧ seq < 18446744073709551616 ∧ call < 18446744073709551616 ∧ -9223372036854775808 ≤ n ∧ n < 9223372036854775808
theorem fa74 (h : PkB b.hm b.bfr 1 b.bcall (b.v + b.bn)) : TbOk (tauA b) f74 := ⟨_, _, rfl, rfl, 2, b.hm, b.bfr, 1, b.bcall, _, 0, b.v + b.bn, 0, rfl, rfl, h.1, h.2.1, h.2.2.1, h.2.2.2.1, h.2.2.2.2.1, h.2.2.2.2.2.1, h.2.2.2.2.2.2, .inr ⟨rfl, rfl, rfl, rfl⟩⟩
theorem fa79 (h : PkB b.hm b.bfr (b.seq + 1) b.bcall (b.v + b.bn)) : TbOk (tauA b) f79 := ⟨_, _, rfl, rfl, 2, b.hm, b.bfr, b.seq + 1, b.bcall, _, 0, b.v + b.bn, 0, rfl, rfl, h.1, h.2.1, h.2.2.1, h.2.2.2.1, h.2.2.2.2.1, h.2.2.2.2.2.1, h.2.2.2.2.2.2, .inr ⟨rfl, rfl, rfl, rfl⟩⟩
end
def fpk (F : Nat → Nat × Nat) (p : Pk) : Nat → Nat × Nat := fun k => cond (Nat.beq k 19) (p.b, p.c) (F k)
def jpk (J : Nat → List Value) (p : Pk) : Nat → List Value := fun k => cond (Nat.beq k 19) p.jk (J k)
def fs (k0 : Nat) (v : Nat × Nat) (F : Nat → Nat × Nat) : Nat → Nat × Nat := fun k => cond (Nat.beq k k0) v (F k)
theorem pmid {α : Type} {a : α} {l m : List α} : (l ++ a :: m).Perm ((l ++ m) ++ [a]) := List.perm_middle.trans (List.perm_append_singleton _ _).symm
noncomputable def o3 (lR k : Nat) (w : S) : O := .c 161 1 lR (midT 3000000 (k * 1 + 0) [w] (lR * 1))
noncomputable def o23 (lR k : Nat) (w : S) : O := .c 161 1 (lR - 1) ((midT 3000000 (k * 1 + 0) [w] (lR * 1)).take (k * 1) ++ (midT 3000000 (k * 1 + 0) [w] (lR * 1)).drop ((k + 1) * 1))
def cutR (l : List V1) (k : Nat) : List V1 := l.take (k * 1) ++ l.drop ((k + 1) * 1)
theorem cutR_map {α : Type} {g : α → V1} {p : α} {l m : List α} {r : List V1} (h : r = (l ++ p :: m).map g) : cutR r l.length = (l ++ m).map g := by
  rw [h, cutR, List.map_append, List.map_append, List.map_cons]
  congr 1
  · rw [show l.length * 1 = (l.map g).length by simp, List.take_left]
  · rw [show (l.length + 1) * 1 = (l.map g).length + 1 by simp, ← List.drop_drop, List.drop_left]; rfl
theorem mid3 {s : Sta} (hw : WF s) {f : Nat → Nat × Nat} {b : Bs} {e : Nm → Nat × Nat} (hr : b.rows = s.b.rows) {l m : List Pk} {p : Pk} (hn : s.net = l ++ p :: m) {w : S} (hv : deS (DA f b e) w = p.slice.v) : (midT 3000000 (l.length * 1 + 0) [w] (s.b.lR * 1)).map (deS (DA f b e)) = vals (s.b.rows 3) := by
  have h : (s.b.rows 3).length = s.b.lR * 1 := by rw [hw.rR, hw.lR]; simp
  have h2 := hw.bR; have h3 := hw.lR; have hR := hw.rR
  rw [hn] at h2 h3 hR
  rw [List.length_append, List.length_cons] at h2 h3
  rw [← hr] at h hR ⊢
  refine mid_vals (r := 3) (by decide) h.symm (by omega) (by show l.length * 1 + 0 + 1 ≤ _; omega) ?_
  have e1 : (b.rows 3).drop (l.length * 1 + 0) = p.slice :: m.map Pk.slice := by
    rw [hR, List.map_append, show l.length * 1 + 0 = (l.map Pk.slice).length by simp, List.drop_left]; rfl
  rw [e1]
  show [deS (DA f b e) w] = [p.slice.v]
  rw [hv]
theorem cut3 {s : Sta} (hw : WF s) {f : Nat → Nat × Nat} {b : Bs} {e : Nm → Nat × Nat} (hr : b.rows = s.b.rows) {l m : List Pk} {p : Pk} (hn : s.net = l ++ p :: m) {w : S} (hv : deS (DA f b e) w = p.slice.v) : ((midT 3000000 (l.length * 1 + 0) [w] (s.b.lR * 1)).take (l.length * 1) ++ (midT 3000000 (l.length * 1 + 0) [w] (s.b.lR * 1)).drop ((l.length + 1) * 1)).map (deS (DA f b e)) = vals (cutR (s.b.rows 3) l.length) := by
  rw [List.map_append, List.map_take, List.map_drop, mid3 hw hr hn hv]
  unfold cutR vals
  rw [List.map_append, List.map_take, List.map_drop]
theorem fn_o3 {lR k : Nat} {w : S} (h : fnS w = true) : fnB (o3 lR k w) = true := fn_mid (by show (fnS w && true) = true; rw [h]; rfl)
theorem fn_o23 {lR k : Nat} {w : S} (h : fnS w = true) : fnB (o23 lR k w) = true := by
  have h1 : (midT 3000000 (k * 1 + 0) [w] (lR * 1)).all fnS = true := fn_mid (by show (fnS w && true) = true; rw [h]; rfl)
  refine List.all_eq_true.2 fun s hs => ?_
  rcases List.mem_append.1 hs with hs | hs
  · exact List.all_eq_true.1 h1 s (List.mem_of_mem_take hs)
  · exact List.all_eq_true.1 h1 s (List.mem_of_mem_drop hs)
theorem len23 {lR k : Nat} {w : S} (h : k < lR) : ((midT 3000000 (k * 1 + 0) [w] (lR * 1)).take (k * 1) ++ (midT 3000000 (k * 1 + 0) [w] (lR * 1)).drop ((k + 1) * 1)).length = (lR - 1) * (0 + 1) := by
  rw [List.length_append, List.length_take, List.length_drop, mid_len (by show k * 1 + 0 + 1 ≤ lR * 1; omega)]
  omega
section
variable {b : Bs}
theorem fa24 (h : 0 < b.lR) : TbOk (tauA b) f24 := tb_f (i := .i64) (a := (b.lR : Int)) (b := 0) rfl rfl rfl (by show ¬ ((b.lR : Int) = 0); omega)
theorem fa25 (h : 0 < b.lR) (hk : b.n.tmod (b.lR : Int) = (b.kx : Int)) : TbOk (tauA b) f25 := tb_rem (i := .i64) (a := b.n) (b := (b.lR : Int)) rfl rfl (by omega) hk rfl
theorem fa26 : TbOk (tauA b) f26 := tb_f (i := .i64) (a := (b.kx : Int)) (b := 0) rfl rfl rfl (by show ¬ ((b.kx : Int) < 0); omega)
theorem fa27 (h : b.kx < b.lR) : TbOk (tauA b) f27 := ⟨b.kx, b.lR, rfl, rfl, h⟩
theorem fa28 {w : S} (h : b.ob 3 = o3 b.lR b.kx w) : TbOk (tauA b) (.ld 3 37 1 0 [w]) := ⟨b.kx, 161, 1, b.lR, _, rfl, h, cut_mid⟩
theorem fa29 (h : PkB b.kfr b.kto b.kseq b.kcall b.kn) : TbOk (tauA b) f29 := ⟨_, _, rfl, rfl, 1, b.kfr, b.kto, b.kseq, b.kcall, _, 0, b.kn, 0, rfl, rfl, h.1, h.2.1, h.2.2.1, h.2.2.2.1, h.2.2.2.2.1, h.2.2.2.2.2.1, h.2.2.2.2.2.2, .inl ⟨rfl, rfl, rfl, rfl⟩⟩
theorem fa47 (h : PkB b.kfr b.kto b.kseq b.kcall b.kn) : TbOk (tauA b) f47 := ⟨_, _, rfl, rfl, 2, b.kfr, b.kto, b.kseq, b.kcall, _, 0, b.kn, 0, rfl, rfl, h.1, h.2.1, h.2.2.1, h.2.2.2.1, h.2.2.2.2.1, h.2.2.2.2.2.1, h.2.2.2.2.2.2, .inr ⟨rfl, rfl, rfl, rfl⟩⟩
theorem fa30 (h : b.kx < 1000) : TbOk (tauA b) f30 := tb_add (i := .i64) (a := (b.kx : Int)) (b := 1) rfl rfl (wrap_i64 (by omega)) rfl
theorem fa31 {w : S} (h : b.kx < b.lR) (h12 : b.lR ≤ 12) (h3 : b.ob 3 = o3 b.lR b.kx w) (h23 : b.ob 23 = o23 b.lR b.kx w) : TbOk (tauA b) f31 := ⟨b.lR, b.kx, _, rfl, rfl, rfl, h, h12, rfl, h3, by decide, h23⟩
theorem fa34 (h : b.kto < b.H) : TbOk (tauA b) f34 := ⟨b.kto, b.H, rfl, rfl, h⟩
theorem fa35 (h : b.ob 2 = o2 b.H b.kto) : TbOk (tauA b) f35 := ⟨b.kto, 111, 1, b.H, _, rfl, h, cut_mid⟩
theorem fa36 (h : b.rc < 16) : TbOk (tauA b) f36 := tb_f (i := .i64) (a := (b.rc : Int)) (b := 16) rfl rfl rfl (by show ¬ ((b.rc : Int) = 16); omega)
theorem fa37 (h : b.rc < b.lQ) : TbOk (tauA b) f37 := tb_f (i := .i64) (a := (b.rc : Int)) (b := (b.lQ : Int)) rfl rfl rfl (by show ¬ ((b.rc : Int) = b.lQ); omega)
theorem fa38 (h : b.rf < 1000) (h2 : b.rc < 1000) : TbOk (tauA b) f38 := tb_add (i := .i64) (a := (b.rf : Int)) (b := (b.rc : Int)) rfl rfl (wrap_i64 (by omega)) rfl
theorem fa39 (h : 0 < b.lQ) : TbOk (tauA b) f39 := tb_rem (i := .i64) (a := ((b.rf + b.rc : Nat) : Int)) (b := (b.lQ : Int)) rfl rfl (by omega) rfl rfl
theorem fa40 (h : 0 < b.lQ) : TbOk (tauA b) f40 := ⟨(b.rf + b.rc) % b.lQ, b.lQ, rfl, rfl, Nat.mod_lt _ h⟩
theorem fa41 {cs ds : List S} (h1 : b.ob 7 = oQ b.lQ ((b.rf + b.rc) % b.lQ) ds) (hl : cs.length = ds.length) (h2 : b.ob 17 = oQ b.lQ ((b.rf + b.rc) % b.lQ) cs) : TbOk (tauA b) (.st 7 136 25 0 cs 17) := ⟨(b.rf + b.rc) % b.lQ, 134, 0, 0, _, _, rfl, h1, over_mid hl, h2⟩
theorem fa42 (h : b.rc < 1000) : TbOk (tauA b) f42 := tb_add (i := .i64) (a := (b.rc : Int)) (b := 1) rfl rfl (wrap_i64 (by omega)) rfl
theorem fa43 (h : 0 < b.lR) (hk : b.n.tmod (b.lR : Int) = b.kr) : TbOk (tauA b) f43 := tb_rem (i := .i64) (a := b.n) (b := (b.lR : Int)) rfl rfl (by omega) hk rfl
theorem fa44 (h : b.kr < 0) : TbOk (tauA b) f44 := tb_t (i := .i64) (a := b.kr) (b := 0) rfl rfl rfl h
theorem fa45 (h : b.kr + b.lR = (b.kx : Int)) (h2 : b.kx < 1000) : TbOk (tauA b) f45 := tb_add (i := .i64) (a := b.kr) (b := (b.lR : Int)) rfl rfl (by rw [wrap_i64 (by omega), h]) rfl
end
theorem need_pk1 {f : Nat → Nat × Nat} {J : Nat → List Value} {o : Obj} {b : Bs} {p : Pk} (h : 64 + p.jk.length = p.c) : AllP (needE (DA (fpk f p) b noN) 48 (xS (jpk J p) o) pkC) := ⟨rfl, show 64 + p.jk.length = p.c * 1 by omega, trivial⟩
theorem need_pk2 {f : Nat → Nat × Nat} {J : Nat → List Value} {o : Obj} {b : Bs} {p : Pk} (h : 40 + p.jk.length = p.c) : AllP (needE (DA (fpk f p) b noN) 48 (xS (jpk J p) o) pkR) := ⟨rfl, show 40 + p.jk.length = p.c * 1 by omega, trivial⟩
theorem midr {s : Sta} (hw : WF s) (hg : s.rg = true) {f : Nat → Nat × Nat} {b : Bs} {e : Nm → Nat × Nat} (hr : b.rows = s.b.rows) {i : Nat} (hi : i < s.b.lQ) : (midT 7000000 (i * 25 + 0) (tks (7000000 + (i * 25 + 0)) 25) (s.b.lQ * 25)).map (deS (DA f b e)) = vals (s.b.rows 7) := by
  have h := hw.rQ hg; have h2 := hw.bQ
  rw [← hr] at h ⊢
  refine mid_vals (r := 7) (by decide) h.symm (by omega) (by rw [tks_len]; omega) ?_
  rw [tks_len]
  exact row_seg (r := 7) (by decide) (by omega) (by omega)
noncomputable def kS : List S := [iI 1, tK 23, tK 24, tK 21, tK 22, iB 0, iB 0, iB 0, iB 0, iB 0, iB 0, iB 0, iB 0, iB 0, iB 0, iB 0, iB 1, iB 0, iB 0, iB 0, iB 1, iI 0, tK 25, iI 0, xsn]
theorem len_mid (l1 l2 : List Pk) (p : Pk) {k : Nat} (h : k = (l1 ++ p :: l2).length) (h2 : (l1 ++ p :: l2).length ≤ 12) : l1.length < k ∧ k ≤ 12 ∧ k - 1 = (l1 ++ l2).length ∧ (l1 ++ l2).length ≤ 12 := by
  rw [List.length_append, List.length_cons] at h h2
  rw [List.length_append]
  omega
theorem mem_mid {l1 l2 : List Pk} {p q : Pk} (h : q ∈ l1 ++ l2) : q ∈ l1 ++ p :: l2 := by
  rcases List.mem_append.1 h with h | h
  · exact List.mem_append_left _ h
  · exact List.mem_append_right _ (List.mem_cons_of_mem _ h)
def ring4 (fr sq cl : Nat) (m : Int) : List V1 := qV fr sq cl m ++ (zV ++ (zV ++ zV))
theorem ring4_len (fr sq cl : Nat) (m : Int) : (ring4 fr sq cl m).length = 4 * 25 := by
  unfold ring4
  rw [List.length_append, List.length_append, List.length_append]
  rfl
end Go.Proofs.YtpcdcemcjbeajaaGreatDoor
end
section
set_option linter.unusedVariables false
set_option linter.unusedSimpArgs false
set_option maxRecDepth 100000
namespace Go.Proofs.YtpcdcemcjbeajaaGreatDoor
open Go Go.RowKit Go.Shelf
def thA (ths : List Th) (j : Nat) : Nat × Nat := match ths[j / 2]? with | some t => cond (Nat.beq (j % 2) 0) (t.row, 1) (t.fr, 0) | none => (0, 0)
def fhm (F h : Nat → Nat × Nat) (ths : List Th) : Nat → Nat × Nat := fun k => cond (Nat.blt k 20) (F k) (cond (Nat.blt k 30) (h k) (cond (Nat.blt k 38) (thA ths (k - 30)) (F k)))
def jhm (J h : Nat → List Value) : Nat → List Value := fun k => cond (Nat.blt k 20) (J k) (cond (Nat.blt k 30) (h k) (J k))
abbrev hmT (F : Nat → Nat × Nat) (J : Nat → List Value) (hs hl : V1) (lh : Nat) (many : Bool) (ths : List Th) : Hm := ⟨F, J, hs, hl, lh, many, true, ths⟩
abbrev wH (s : Sta) (k1 k2 : List Hm) (h : Hm) : Sta := { s with hms := k1 ++ h :: k2 }
def vB (b : Bool) : V1 := ⟨.bool b, rfl, rfl⟩
section
variable {s : Sta} {h1 h2 : List Hm} {h h' : Hm}
theorem row20h (hw : WF s) (hh : s.hms = h1 ++ h :: h2) : (s.b.rows 2).getD (h1.length + 1) v0 = vP (h.F 20).1 := by rw [hw.rH, hh]; simp
theorem hmH (hw : WF s) (hh : s.hms = h1 ++ h :: h2) : h1.length + 1 < s.b.H := by rw [hw.bH, hh, List.length_append, List.length_cons]; omega
theorem rmH (hw : WF s) (hh : s.hms = h1 ++ h :: h2) : RmHm h := hw.hm h (by rw [hh]; simp)
theorem hms_rm (hw : WF s) (hh : s.hms = h1 ++ h :: h2) (h0 : RmHm h') : ∀ g ∈ h1 ++ h' :: h2, RmHm g := fun g hg => by
  rcases List.mem_append.1 hg with hg | hg
  · exact hw.hm g (by rw [hh]; simp [hg])
  · rcases List.mem_cons.1 hg with rfl | hg
    · exact h0
    · exact hw.hm g (by rw [hh]; simp [hg])
theorem hms_rH (hw : WF s) (hh : s.hms = h1 ++ h :: h2) (h0 : (h'.F 20).1 = (h.F 20).1) : s.b.rows 2 = vP (s.F 20).1 :: (h1 ++ h' :: h2).map fun h => vP (h.F 20).1 := by rw [hw.rH, hh]; simp [h0]
theorem hms_bH (hw : WF s) (hh : s.hms = h1 ++ h :: h2) : s.b.H = (h1 ++ h' :: h2).length + 1 := by rw [hw.bH, hh]; simp
end
section
variable {s : Sta} {k1 k2 : List Hm} {gF : Nat → Nat × Nat} {gJ : Nat → List Value} {hs hl : V1} {lh : Nat} {many : Bool} {ths : List Th} (hw : WF (wH s k1 k2 (hmT gF gJ hs hl lh many ths)))
include hw
theorem siH : k1.length + 1 < s.b.H ∧ (s.b.rows 2).getD (k1.length + 1) v0 = vP (gF 20).1 ∧ 21 + (gJ 22).length = (gF 22).2 * 21 ∧ 3 + (gJ 25).length = (gF 25).2 * 3 ∧ 36 + (gJ 27).length = (gF 27).2 * 36 ∧ ths.length * 1 + (gJ 29).length = (gF 29).2 * 1 :=
  have h := rmH (s := wH s k1 k2 (hmT gF gJ hs hl lh many ths)) hw (h1 := k1) (h2 := k2) (h := hmT gF gJ hs hl lh many ths) rfl
  ⟨hmH (s := wH s k1 k2 (hmT gF gJ hs hl lh many ths)) hw (h1 := k1) (h2 := k2) (h := hmT gF gJ hs hl lh many ths) rfl, row20h (s := wH s k1 k2 (hmT gF gJ hs hl lh many ths)) hw (h1 := k1) (h2 := k2) (h := hmT gF gJ hs hl lh many ths) rfl, h.1.1, h.1.2.1, h.1.2.2, h.2.1 rfl⟩
theorem siR (K : Nat → List Value) (th : List Th) : s.b.rows 2 = vP (s.F 20).1 :: (k1 ++ hmT gF K hs hl lh many th :: k2).map fun h => vP (h.F 20).1 := hms_rH (s := wH s k1 k2 (hmT gF gJ hs hl lh many ths)) hw (h1 := k1) (h2 := k2) (h := hmT gF gJ hs hl lh many ths) (h' := hmT gF K hs hl lh many th) rfl rfl
theorem siB (h : Hm) : s.b.H = (k1 ++ h :: k2).length + 1 := hms_bH (s := wH s k1 k2 (hmT gF gJ hs hl lh many ths)) hw (h1 := k1) (h2 := k2) (h := hmT gF gJ hs hl lh many ths) rfl
theorem siM {h' : Hm} (h0 : RmHm h') : ∀ g ∈ k1 ++ h' :: k2, RmHm g := hms_rm (s := wH s k1 k2 (hmT gF gJ hs hl lh many ths)) hw (h1 := k1) (h2 := k2) (h := hmT gF gJ hs hl lh many ths) rfl h0
end
section
variable {b : Bs}
end
end Go.Proofs.YtpcdcemcjbeajaaGreatDoor
end
section
set_option linter.unusedVariables false
set_option linter.unusedSimpArgs false
set_option maxRecDepth 100000
namespace Go.Proofs.YtpcdcemcjbeajaaGreatDoor
open Go Go.RowKit Go.Shelf
def tz : Th := ⟨0, 0, 0, 0, none⟩
def bTh (b : Bs) (l : List Th) : Bs := { b with wt0 := (l.getD 0 tz).wt, wt1 := (l.getD 1 tz).wt, wt2 := (l.getD 2 tz).wt, wt3 := (l.getD 3 tz).wt, cl0 := (l.getD 0 tz).cl, cl1 := (l.getD 1 tz).cl, cl2 := (l.getD 2 tz).cl, cl3 := (l.getD 3 tz).cl, rs0 := (l.getD 0 tz).rs.getD 0, rs1 := (l.getD 1 tz).rs.getD 0, rs2 := (l.getD 2 tz).rs.getD 0, rs3 := (l.getD 3 tz).rs.getD 0, rd0 := vB (l.getD 0 tz).rs.isSome, rd1 := vB (l.getD 1 tz).rs.isSome, rd2 := vB (l.getD 2 tz).rs.isSome, rd3 := vB (l.getD 3 tz).rs.isSome }
noncomputable def frS (j : Nat) (r x : S) : List S := [iU 0, iI 0, iI 0, iI 0, xpn, iI 0, iU 0, tK (39 + j), r, x, iI 0, iI 0, iI 0, iI 0, iU 0, iU 0, iB 0, iB 0, iB 0, iB 0, iB 0, iB 0, iB 0, iB 0, iB 0, iB 0, iB 0, iB 0, iB 0, iB 0, iB 0, iB 0, iI 0, iI 0, iI 0, xsn, tK (43 + j)]
noncomputable def thsS : Nat → List (S × S) → List (Nm × O)
  | _, [] => []
  | j, p :: l => (mn (30 + 2 * j), .c 290 0 0 [pP (31 + 2 * j) 0]) :: (mn (31 + 2 * j), .c 295 0 0 (frS j p.1 p.2)) :: thsS (j + 1) l
noncomputable def rowS : Nat → Nat → List S
  | _, 0 => []
  | j, k + 1 => .l (mn (30 + 2 * j)) 0 1 1 false :: rowS (j + 1) k
noncomputable def hmS (k : Nat) (row : List S) (rest : List (Nm × O)) : List (Nm × O) := (mn 20, .c 118 0 0 [tK 138, bF, pP 21 0, tK 17, pP 23 0, tK 18, pP 28 0, rL 29 k]) :: b40 :: b41 :: b42 :: b43 :: b44 :: b45 :: b46 :: b47 :: (mn 29, .c 289 1 row.length row) :: rest
def Fit (D : Dt) (j : Nat) (t : Th) : Prop := (D.ad (mn (30 + 2 * j))).1 = t.row ∧ (D.ad (mn (31 + 2 * j))).1 = t.fr ∧ D.tk.val (39 + j) = .int .u64 (t.wt : Int) ∧ D.tk.val (43 + j) = .int .u64 (t.cl : Int)
def Fit2 (D : Dt) (t : Th) (p : S × S) : Prop := deS D p.1 = .bool t.rs.isSome ∧ deS D p.2 = .int .i64 (t.rs.getD 0)
theorem th_gen {D : Dt} {x : Nm → Xt} : ∀ {ths : List Th} {l : List (S × S)} {i : Nat}, (∀ k t, ths[k]? = some t → Fit D (i + k) t) → All2 (Fit2 D) ths l → (thsS i l).map (deE D x) = ths.flatMap gTh
  | [], [], _, _, _ => rfl
  | t :: ths, p :: l, i, h, h2 => by
    obtain ⟨h3, h4, h5, h6⟩ := h 0 t rfl
    have ih := th_gen (D := D) (x := x) (i := i + 1) (fun k t hk => by have := h (k + 1) t hk; rwa [show i + (k + 1) = i + 1 + k by omega] at this) h2.2
    rw [List.flatMap_cons, ← ih]
    show [deE D x (mn (30 + 2 * i), .c 290 0 0 [pP (31 + 2 * i) 0]), deE D x (mn (31 + 2 * i), .c 295 0 0 (frS i p.1 p.2))] ++ _ = _
    congr 1
    rw [Nat.add_zero] at h3 h4 h5 h6
    refine List.cons_eq_cons.2 ⟨?_, List.cons_eq_cons.2 ⟨?_, rfl⟩⟩
    · show ((D.ad (mn (30 + 2 * i))).1, cel 290 [.pointer (some ⟨(D.ad (mn (31 + 2 * i))).1, 0, none⟩)]) = _
      rw [h3, h4]
    · show ((D.ad (mn (31 + 2 * i))).1, cel 295 ((frS i p.1 p.2).map (deS D))) = _
      have e : (frS i p.1 p.2).map (deS D) = t.frame := by
        show [_, _, _, _, _, _, _, D.tk.val (39 + i), deS D p.1, deS D p.2, _, _, _, _, _, _, _, _, _, _, _, _, _, _, _, _, _, _, _, _, _, _, _, _, _, _, D.tk.val (43 + i)] = _
        rw [h5, h6, h2.1.1, h2.1.2]; rfl
      rw [h4, e]
  | [], _ :: _, _, _, h => h.elim
  | _ :: _, [], _, _, h => h.elim
theorem getD_th {ths : List Th} {k : Nat} {t : Th} (h : ths[k]? = some t) : ths.getD k tz = t := by rw [List.getD_eq_getElem?_getD, h]; rfl
theorem thA0 {ths : List Th} {k : Nat} {t : Th} (h : ths[k]? = some t) : thA ths (2 * k) = (t.row, 1) ∧ thA ths (2 * k + 1) = (t.fr, 0) := by
  unfold thA
  rw [show 2 * k / 2 = k by omega, show (2 * k + 1) / 2 = k by omega, h, show 2 * k % 2 = 0 by omega, show (2 * k + 1) % 2 = 1 by omega]
  exact ⟨rfl, rfl⟩
noncomputable def rdT : Nat → S
  | 0 => tK 140
  | 1 => tK 139
  | 2 => tK 141
  | _ => tK 142
def pz : Pk := ⟨0, 0, [], 0, 0, 0, 0, 0, 0⟩
abbrev fhp (F g : Nat → Nat × Nat) (ths : List Th) (p : Pk) : Nat → Nat × Nat := fpk (fhm F g ths) p
abbrev jhp (J g : Nat → List Value) (p : Pk) : Nat → List Value := jpk (jhm J g) p
def bHm (b : Bs) (hs hl : V1) (lh : Nat) (many : Bool) (l : List Th) : Bs := bTh { b with hs := hs, hl := hl, lh := lh, mny := vB many } l
theorem fit {F g : Nat → Nat × Nat} {b : Bs} {hs hl : V1} {lh : Nat} {many : Bool} {e : Nm → Nat × Nat} {ths : List Th} {p : Pk} (h4 : ths.length ≤ 4) : ∀ k t, ths[k]? = some t → Fit (DA (fhp F g ths p) (bHm b hs hl lh many ths) e) (0 + k) t := fun k t h => by
  have hk : k < ths.length := (List.getElem?_eq_some_iff.1 h).1
  obtain ⟨a1, a2⟩ := thA0 h
  have a3 := getD_th h
  rw [Nat.zero_add]
  match k, hk with
  | 0, _ => exact ⟨by show (thA ths 0).1 = _; rw [a1], by show (thA ths 1).1 = _; rw [a2], by show Value.int .u64 ((ths.getD 0 tz).wt : Int) = _; rw [a3], by show Value.int .u64 ((ths.getD 0 tz).cl : Int) = _; rw [a3]⟩
  | 1, _ => exact ⟨by show (thA ths 2).1 = _; rw [a1], by show (thA ths 3).1 = _; rw [a2], by show Value.int .u64 ((ths.getD 1 tz).wt : Int) = _; rw [a3], by show Value.int .u64 ((ths.getD 1 tz).cl : Int) = _; rw [a3]⟩
  | 2, _ => exact ⟨by show (thA ths 4).1 = _; rw [a1], by show (thA ths 5).1 = _; rw [a2], by show Value.int .u64 ((ths.getD 2 tz).wt : Int) = _; rw [a3], by show Value.int .u64 ((ths.getD 2 tz).cl : Int) = _; rw [a3]⟩
  | 3, _ => exact ⟨by show (thA ths 6).1 = _; rw [a1], by show (thA ths 7).1 = _; rw [a2], by show Value.int .u64 ((ths.getD 3 tz).wt : Int) = _; rw [a3], by show Value.int .u64 ((ths.getD 3 tz).cl : Int) = _; rw [a3]⟩
  | k + 4, hk => omega
theorem fitR {b : Bs} {hs hl : V1} {lh : Nat} {many : Bool} {ths : List Th} {ad : Nm → Nat × Nat} (h4 : ths.length ≤ 4) : ∀ k t, ths[k]? = some t → (tauA (bHm b hs hl lh many ths)).val (47 + k) = .int .i64 (t.rs.getD 0) ∧ deS ⟨ad, tauA (bHm b hs hl lh many ths)⟩ (rdT k) = .bool t.rs.isSome := fun k t h => by
  have hk : k < ths.length := (List.getElem?_eq_some_iff.1 h).1
  have a3 := getD_th h
  match k, hk with
  | 0, _ => exact ⟨by show Value.int .i64 ((ths.getD 0 tz).rs.getD 0) = _; rw [a3], by show Value.bool (ths.getD 0 tz).rs.isSome = _; rw [a3]⟩
  | 1, _ => exact ⟨by show Value.int .i64 ((ths.getD 1 tz).rs.getD 0) = _; rw [a3], by show Value.bool (ths.getD 1 tz).rs.isSome = _; rw [a3]⟩
  | 2, _ => exact ⟨by show Value.int .i64 ((ths.getD 2 tz).rs.getD 0) = _; rw [a3], by show Value.bool (ths.getD 2 tz).rs.isSome = _; rw [a3]⟩
  | 3, _ => exact ⟨by show Value.int .i64 ((ths.getD 3 tz).rs.getD 0) = _; rw [a3], by show Value.bool (ths.getD 3 tz).rs.isSome = _; rw [a3]⟩
  | k + 4, hk => omega
theorem row_de {D : Dt} : ∀ {ths : List Th} {i : Nat}, (∀ k t, ths[k]? = some t → Fit D (i + k) t) → (rowS i ths.length).map (deS D) = vals (ths.map Th.slice)
  | [], _, _ => rfl
  | t :: ths, i, h => by
    have h3 := (h 0 t rfl).1
    rw [Nat.add_zero] at h3
    have ih := row_de (D := D) (ths := ths) (i := i + 1) (fun k t hk => by have := h (k + 1) t hk; rwa [show i + (k + 1) = i + 1 + k by omega] at this)
    show Value.slice (some ⟨(D.ad (mn (30 + 2 * i))).1, 0, none⟩) 1 1 :: (rowS (i + 1) ths.length).map (deS D) = Value.slice (some ⟨t.row, 0, none⟩) 1 1 :: vals (ths.map Th.slice)
    rw [ih, h3]
theorem rowS_len : ∀ (k i : Nat), (rowS i k).length = k
  | 0, _ => rfl
  | k + 1, i => by show (rowS (i + 1) k).length + 1 = _; rw [rowS_len]
theorem need_row {D : Dt} : ∀ (k i : Nat), needL D (rowS i k) = []
  | 0, _ => rfl
  | k + 1, i => by show [] ++ needL D (rowS (i + 1) k) = _; rw [need_row]; rfl
def okP (D : Dt) (p : S × S) : Prop := needS D p.1 = [] ∧ needS D p.2 = []
theorem need_ths {D : Dt} {k : Nat} {x : Nm → Xt} : ∀ {l : List (S × S)} {i : Nat}, (∀ p ∈ l, okP D p) → needE D k x (thsS i l) = []
  | [], _, _ => rfl
  | p :: l, i, h => by
    show ([] ++ []) ++ ((needL D (frS i p.1 p.2) ++ []) ++ needE D k x (thsS (i + 1) l)) = []
    rw [need_ths (fun q hq => h q (List.mem_cons_of_mem _ hq))]
    have e : needL D (frS i p.1 p.2) = [] := by
      show needS D p.1 ++ (needS D p.2 ++ []) = []
      rw [(h p (by simp)).1, (h p (by simp)).2]; rfl
    rw [e]; rfl
section
variable {F g : Nat → Nat × Nat} {J K : Nat → List Value} {O' : Obj} {b : Bs} {ths : List Th} {p : Pk}
theorem need_hm {l : List (S × S)} (h22 : 21 + (K 22).length = (g 22).2 * 21) (h25 : 3 + (K 25).length = (g 25).2 * 3) (h27 : 36 + (K 27).length = (g 27).2 * 36) (h29 : ths.length * 1 + (K 29).length = (g 29).2 * 1) (hl : ∀ q ∈ l, okP (DA (fhp F g ths p) b noN) q) : AllP (needE (DA (fhp F g ths p) b noN) 48 (xS (jhp J K p) O') (hmS ths.length (rowS 0 ths.length) (thsS 0 l))) := by
  have e1 : needE (DA (fhp F g ths p) b noN) 48 (xS (jhp J K p) O') (thsS 0 l) = [] := need_ths hl
  have e2 : needL (DA (fhp F g ths p) b noN) (rowS 0 ths.length) = [] := need_row _ _
  have e3 : AllP ((needL (DA (fhp F g ths p) b noN) (rowS 0 ths.length) ++ [(rowS 0 ths.length).length = (rowS 0 ths.length).length * 1, (rowS 0 ths.length).length + (K 29).length = (g 29).2 * 1]) ++ needE (DA (fhp F g ths p) b noN) 48 (xS (jhp J K p) O') (thsS 0 l)) := by
    rw [e1, e2, rowS_len]
    exact ⟨by omega, by omega, trivial⟩
  exact ⟨show 0 + ths.length ≤ (g 29).2 by omega, show 0 + 1 ≤ (g 22).2 by omega, rfl, h22, show 0 + 1 ≤ (g 25).2 by omega, rfl, h25, show 0 + 1 ≤ (g 27).2 by omega, rfl, h27, e3⟩
theorem de_hm {e : Nm → Nat × Nat} {x : Nm → Xt} {hs hl : V1} {lh : Nat} {many : Bool} {ths' : List Th} {row : List S} {rest : List (Nm × O)} {T : List Ent} (x22 : (x (mn 22)).1 = K 22) (x25 : (x (mn 25)).1 = K 25) (x27 : (x (mn 27)).1 = K 27) (hr : row.map (deS (DA (fhp F g ths p) (bHm b hs hl lh many ths) e)) ++ (x (mn 29)).1 = vals (ths'.map Th.slice) ++ K 29) (hT : rest.map (deE (DA (fhp F g ths p) (bHm b hs hl lh many ths) e) x) = T) : (hmS ths'.length row rest).map (deE (DA (fhp F g ths p) (bHm b hs hl lh many ths) e) x) = gH20 g many hs hl (sl g 29 ths'.length) ++ (hbA g K { b with lh := lh } ++ ([rowE g K 29 289 (ths'.map Th.slice)] ++ T)) := by
  show deE _ x _ :: deE _ x _ :: deE _ x b41 :: deE _ x _ :: deE _ x _ :: deE _ x b44 :: deE _ x _ :: deE _ x b46 :: deE _ x _ :: ((g 29).1, cel 289 (row.map _ ++ (x (mn 29)).1)) :: rest.map _ = _
  rw [hT, hr]
  show _ :: _ :: ((g 22).1, cel 344 (_ ++ (x (mn 22)).1)) :: _ :: _ :: ((g 25).1, cel 485 (_ ++ (x (mn 25)).1)) :: _ :: ((g 27).1, cel 148 (_ ++ (x (mn 27)).1)) :: _ = _
  rw [x22, x25, x27]
  rfl
end
theorem flat15 (S : Sta) (xp : List Pk) (h : Hm) (a : List Nat) : (a ++ [15]).flatMap (kk S xp [h]) = a.flatMap (kk S xp [h]) ++ gHm S.b h := by
  rw [List.flatMap_append]
  congr 1
  show (gHm S.b h ++ []) ++ [] = _
  rw [List.append_nil, List.append_nil]
theorem perm4 {A B C D T T' Y : List Ent} (h : T.Perm (T' ++ Y)) : (A ++ (B ++ (C ++ (D ++ T)))).Perm ((A ++ (B ++ (C ++ (D ++ T')))) ++ Y) := by
  classical
  refine List.perm_iff_count.2 fun z => ?_
  have := h.count_eq z
  simp only [List.count_append] at this ⊢
  omega
theorem perm_era {α : Type} {l : List α} {j : Nat} {t : α} (h : l[j]? = some t) : l.Perm (t :: l.eraseIdx j) := by
  have hlt := (List.getElem?_eq_some_iff.1 h).1
  have e : l[j] = t := (List.getElem?_eq_some_iff.1 h).2
  rw [List.eraseIdx_eq_take_drop_succ]
  conv => lhs; rw [← List.take_append_drop j l, List.drop_eq_getElem_cons hlt, e]
  exact List.perm_middle
theorem set_id {α : Type} {l : List α} {j : Nat} {x : α} (h : l[j]? = some x) : l.set j x = l := List.ext_getElem? fun i => by
  rw [List.getElem?_set]
  split
  · next e => subst e; rw [if_pos (List.getElem?_eq_some_iff.1 h).1, h]
  · rfl
theorem perm_er {ths : List Th} {j : Nat} {t : Th} (h : ths[j]? = some t) : (ths.flatMap gTh).Perm ((ths.eraseIdx j).flatMap gTh ++ gTh t) := by
  have h1 := perm_era h
  refine (h1.flatMap_right gTh).trans ?_
  rw [List.flatMap_cons]
  exact List.perm_append_comm
noncomputable def rdL : Nat → List Bool → List (S × S)
  | _, [] => []
  | j, r :: l => (.b r, cond r (tK (47 + j)) (iI 0)) :: rdL (j + 1) l
def rdy (l : List Th) : List Bool := l.map fun t => t.rs.isSome
theorem rd_fit {D : Dt} : ∀ {ths : List Th} {i : Nat}, (∀ k t, ths[k]? = some t → D.tk.val (47 + (i + k)) = .int .i64 (t.rs.getD 0)) → All2 (Fit2 D) ths (rdL i (rdy ths))
  | [], _, _ => trivial
  | t :: ths, i, h => by
    refine ⟨?_, rd_fit (i := i + 1) (fun k t hk => by have := h (k + 1) t hk; rwa [show i + (k + 1) = i + 1 + k by omega] at this)⟩
    have h0 := h 0 t rfl
    rw [Nat.add_zero] at h0
    show deS D (.b t.rs.isSome) = _ ∧ deS D (cond t.rs.isSome (tK (47 + i)) (iI 0)) = _
    refine ⟨rfl, ?_⟩
    cases hr : t.rs with
    | none => rfl
    | some v => rw [hr] at h0; exact h0
theorem rd_ok {D : Dt} : ∀ {l : List Bool} {i : Nat}, ∀ p ∈ rdL i l, okP D p
  | [], _, p, hp => absurd (show p ∈ [] from hp) List.not_mem_nil
  | r :: l, i, p, hp => by
    rcases List.mem_cons.1 hp with rfl | hp
    · exact ⟨rfl, by cases r <;> rfl⟩
    · exact rd_ok p hp
def bits : Nat → List (List Bool)
  | 0 => [[]]
  | n + 1 => (bits n).flatMap fun l => [false :: l, true :: l]
theorem mem_bits : ∀ l : List Bool, l ∈ bits l.length
  | [] => by simp [bits]
  | b :: l => List.mem_flatMap.2 ⟨l, mem_bits l, by cases b <;> simp⟩
noncomputable def wtF : Nat → Nat → List TbE
  | _, 0 => []
  | j, k + 1 => .bin .eql (tK (39 + j)) (iU 0) bF :: wtF (j + 1) k
theorem wt_ok {D : Dt} : ∀ {ths : List Th} {i : Nat}, (∀ k t, ths[k]? = some t → Fit D (i + k) t) → (∀ t ∈ ths, t.wt ≠ 0) → AllP ((wtF i ths.length).map (TbOk D.tk))
  | [], _, _, _ => trivial
  | t :: ths, i, h, hz => by
    refine ⟨?_, wt_ok (i := i + 1) (fun k t hk => by have := h (k + 1) t hk; rwa [show i + (k + 1) = i + 1 + k by omega] at this) fun t ht => hz t (List.mem_cons_of_mem _ ht)⟩
    have h1 : D.tk.val (39 + i) = .int .u64 (t.wt : Int) := (h 0 t rfl).2.2.1
    have h0 := hz t (by simp)
    exact tb_f (i := .u64) (a := (t.wt : Int)) (b := 0) rfl (congrArg some h1) rfl (by show ¬ ((t.wt : Int) = 0); omega)
def LhOk (n : Nat) : Prop := n = 1152921508901814273 ∨ n = 2305843013508661249 ∨ n = 3458764518115508225
end Go.Proofs.YtpcdcemcjbeajaaGreatDoor
end
