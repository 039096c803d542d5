/- WholeFar: FarG, FarH, FarI, FarJ, FarK. -/
import Derived.Laws.BytesArg
import Derived.Shelf.Abstract
import Derived.Test.YtpcdcemcjbeajaaGreatDoorWf11
section
set_option linter.unusedVariables false
set_option linter.unusedSimpArgs false
set_option maxRecDepth 100000
namespace Go.Proofs.YtpcdcemcjbeajaaGreatDoor
open Go Go.RowKit
open Go.Shelf
theorem follows : Tryz.prog.follows .mixedOrders = true := by kernel_rfl
theorem ext : ExtOk Tryz.prog 318 435 := extOk ⟨⟨Tryz.f318, Tryz.func318, by decide +kernel, by kernel_rfl, by kernel_rfl, by kernel_rfl⟩⟩ ⟨⟨Tryz.f435, Tryz.func435, by decide +kernel, by kernel_rfl, by kernel_rfl, by kernel_rfl⟩⟩
theorem snd_of {mo : FuncId → Option (List V → Hp → Nm → Rs)} (hM : MemoOk Tryz.prog mo) (k : Nat) : Snd Tryz.prog (runK Tryz.prog 318 435 mo k) := runK_ok ext hM (fun ih h => drawSnd (opSnd h) follows) k
theorem snd0 : Snd Tryz.prog K0 := snd_of (fun g m h => by cases h) 300
theorem en_enc : ∀ args w, (callFunc 180 args).run Tryz.prog w = .ok (.enter 180 args) w := enters_of Tryz.func180 (by kernel_rfl) rfl
theorem en_dec : ∀ args w, (callFunc 162 args).run Tryz.prog w = .ok (.enter 162 args) w := enters_of Tryz.func162 (by kernel_rfl) rfl
theorem en_eql : ∀ args w, (callFunc 135 args).run Tryz.prog w = .ok (.enter 135 args) w := enters_of Tryz.func135 (by kernel_rfl) rfl
theorem en_del : ∀ args w, (callFunc 163 args).run Tryz.prog w = .ok (.enter 163 args) w := enters_of Tryz.func163 (by kernel_rfl) rfl
theorem run_dec : chkG (decV (mn 153) (mn 18) (mn 99) (mn 36) (mn 47) (mn 58) (mn 69) (mn 86) (mn 97) (mn 110) (mn 152) (mn 128) (mn 139) (mn 150)) ((mn 1, formO) :: decE (mn 153) (mn 18) (mn 99) (mn 36) (mn 47) (mn 58) (mn 69) (mn 86) (mn 97) (mn 110) (mn 152) (mn 128) (mn 139) (mn 150)) (K0 (.F 66 [.s (.l (mn 1) 0 343 0 true)] (set8 (mn 1) (some formO) (emp8 none)) (mn 2))) = true := by decide +kernel
noncomputable def renEs (f : Nm → Option Nm) : List (Nm × O) → Option (List O)
  | [] => some []
  | p :: l => (match renO f p.2, renEs f l with | some o, some r => some (o :: r) | _, _ => none)
theorem renEs_ok {f : Nm → Option Nm} : ∀ {es0 es : List (Nm × O)}, renEs f es0 = some (es.map (·.2)) → ∀ (j : Nat) p p', es0[j]? = some p → es[j]? = some p' → renO f p.2 = some p'.2
  | [], es, h, j, p, p', h1, _ => by simp at h1
  | q :: es0, es, h, j, p, p', h1, h2 => by
    have h' : (match renO f q.2, renEs f es0 with | some o, some r => some (o :: r) | _, _ => none) = some (es.map (·.2)) := h
    split at h'
    · rename_i o r g1 g2
      injection h' with h'
      cases es with
      | nil => simp at h2
      | cons q' es =>
        simp only [List.map_cons] at h'
        injection h' with e1 e2
        cases j with
        | zero => simp at h1 h2; subst h1 h2; rw [g1, e1]
        | succ j => exact renEs_ok (es0 := es0) (es := es) (by rw [g2, e2]) j p p' (by simpa using h1) (by simpa using h2)
    · cases h'
def chainN : List Nm → Nat → Prop
  | [], _ => True
  | x :: l, b => x.val = b ∧ chainN l (b + 1)
theorem chainN_ok : ∀ {l : List Nm} {b : Nat}, chainN l b → ∀ (j : Nat) k, l[j]? = some k → k.val = b + j
  | [], b, h, j, k, hk => by simp at hk
  | x :: l, b, h, 0, k, hk => by simp at hk; subst hk; exact h.1
  | x :: l, b, h, j + 1, k, hk => by have := chainN_ok h.2 j k (by simpa using hk); omega
theorem chainN_cons {x : Nm} {l : List Nm} {b : Nat} (h1 : x.val = b) (h2 : chainN l (b + 1)) : chainN (x :: l) b := ⟨h1, h2⟩
theorem cdec_ok {vs : List V} {h : Hp} {nx : Nm} {v : V} {h' : Hp} {nx' : Nm} (hm : decM vs h nx = .F v h' nx') : FOk Tryz.prog 66 vs h nx v h' nx' := by
  unfold decM at hm
  split at hm
  · rename_i n o len c r
    obtain ⟨t, rr, m, ks, g0, hm⟩ := onC_ok hm (fun n => by simp)
    obtain ⟨g1, hm⟩ := cond_ok hm (fun n => by simp)
    simp only [Bool.and_eq_true] at g1
    obtain ⟨a1, a2, a3, a4, a5, a6, a7, a8⟩ := g1
    obtain rfl := Nat.eq_of_beq_eq_true a1
    obtain rfl := Nat.eq_of_beq_eq_true a2
    obtain rfl := Nat.eq_of_beq_eq_true a3
    subst a4
    obtain rfl := Nat.eq_of_beq_eq_true a5
    obtain rfl := Nat.eq_of_beq_eq_true a6
    obtain rfl := Nat.eq_of_beq_eq_true a7
    obtain rfl := beqL_eq a8
    unfold decK at hm
    obtain ⟨x1, b1, hm⟩ := newK_ok hm (fun n => by simp)
    obtain ⟨x2, b2, hm⟩ := newK_ok hm (fun n => by simp)
    obtain ⟨x3, b3, hm⟩ := newK_ok hm (fun n => by simp)
    obtain ⟨x4, b4, hm⟩ := newK_ok hm (fun n => by simp)
    obtain ⟨x5, b5, hm⟩ := newK_ok hm (fun n => by simp)
    obtain ⟨x6, b6, hm⟩ := newK_ok hm (fun n => by simp)
    obtain ⟨x7, b7, hm⟩ := newK_ok hm (fun n => by simp)
    obtain ⟨x8, b8, hm⟩ := newK_ok hm (fun n => by simp)
    obtain ⟨x9, b9, hm⟩ := newK_ok hm (fun n => by simp)
    obtain ⟨x10, b10, hm⟩ := newK_ok hm (fun n => by simp)
    obtain ⟨x11, b11, hm⟩ := newK_ok hm (fun n => by simp)
    obtain ⟨x12, b12, hm⟩ := newK_ok hm (fun n => by simp)
    obtain ⟨x13, b13, hm⟩ := newK_ok hm (fun n => by simp)
    obtain ⟨x14, b14, hm⟩ := newK_ok hm (fun n => by simp)
    injection hm with e1 e2 e3
    subst e1 e2 e3
    obtain ⟨h2, nx2, r1, r2⟩ := chkG_ok run_dec
    refine memo_ren (n0 := mn 1) (n1 := mn 2) (oA := formO) (h' := h2) (nx' := nx2) (v0 := decV (mn 153) (mn 18) (mn 99) (mn 36) (mn 47) (mn 58) (mn 69) (mn 86) (mn 97) (mn 110) (mn 152) (mn 128) (mn 139) (mn 150)) (es0 := decE (mn 153) (mn 18) (mn 99) (mn 36) (mn 47) (mn 58) (mn 69) (mn 86) (mn 97) (mn 110) (mn 152) (mn 128) (mn 139) (mn 150)) snd0 (by kernel_rfl) r1 (r2 _ List.mem_cons_self) (by kernel_rfl) (fun p hp => r2 p (List.mem_cons_of_mem _ hp)) (nmIn_f (by kernel_rfl)) (nmsB_ok (by kernel_rfl)) g0 ?_ (chainN_ok ?_) (by kernel_rfl) ?_ (by kernel_rfl) (renEs_ok (by kernel_rfl))
    · rintro σ v ⟨b, cc, k1, k2⟩
      have : nmEq (mn 1) (mn 1) = true := by kernel_rfl
      exact ⟨b, cc, by show cond (nmEq (mn 1) (mn 1)) (σ n) none = _; rw [this]; exact k1, k2⟩
    · show chainN [nx, x1, x2, x3, x4, x5, x6, x7, x8, x9, x10, x11, x12, x13] nx.val
      exact (chainN_cons (by omega) (chainN_cons (by omega) (chainN_cons (by omega) (chainN_cons (by omega) (chainN_cons (by omega) (chainN_cons (by omega) (chainN_cons (by omega) (chainN_cons (by omega) (chainN_cons (by omega) (chainN_cons (by omega) (chainN_cons (by omega) (chainN_cons (by omega) (chainN_cons (by omega) (chainN_cons (by omega) trivial))))))))))))))
    · show _ = nx.val + 14
      omega
  · cases hm
theorem beqF {a b : Nat} (h : Nat.beq a b = true) : a = b := Nat.eq_of_beq_eq_true h
theorem memoD : MemoOk Tryz.prog moD := by
  intro g m hg vs h nx v h' nx' hr
  unfold moD at hg
  cases e : Nat.beq g 66 with
  | true => rw [e] at hg; injection hg with hg; subst hg; rw [beqF e]; exact cdec_ok hr
  | false => rw [e] at hg; cases hg
end Go.Proofs.YtpcdcemcjbeajaaGreatDoor
end
section
set_option linter.unusedVariables false
set_option linter.unusedSimpArgs false
set_option maxRecDepth 100000
namespace Go.Proofs.YtpcdcemcjbeajaaGreatDoor
open Go Go.RowKit
theorem HR.re {σ : Sg} {nx : Nm} {h : Hp} {L L' : List Ent} (hH : HR σ nx h L) (hr : ∀ n o b c ob, get8 n h = some o → σ n = some (b, c) → (b, ob) ∈ L → OR σ c o ob → ∃ ob', (b, ob') ∈ L' ∧ OR σ c o ob') : HR σ nx h L' :=
  ⟨hH.fresh, hH.inj, fun n o hn => by
    obtain ⟨b, c, ob, h1, h2, h3⟩ := hH.own n o hn
    obtain ⟨ob', h4, h5⟩ := hr n o b c ob hn h1 h2 h3
    exact ⟨b, c, ob', h1, h4, h5⟩⟩
theorem perm_mem {α : Type} {a : α} {L : List α} (h : a ∈ L) : ∃ Lr, L.Perm (a :: Lr) := by
  obtain ⟨s, t, rfl⟩ := List.append_of_mem h
  exact ⟨s ++ t, List.perm_middle⟩
theorem tb_of {h : Hp} {e : TbE} (he : e ∈ tbOf h) : ∃ l, get8 tbN h = some (.tb l) ∧ e ∈ l := by
  unfold tbOf at he
  split at he
  · rename_i l hl; exact ⟨l, hl, he⟩
  · cases he
theorem tvx_ok {σ : Sg} {v w : Value} {s : S} (h : okS σ s v) (hv : tvx σ.tk s = some w) : v = w := by
  unfold tvx at hv
  split at hv
  · injection hv with hv; subst hv; exact h
  · exact tv_ok h hv
theorem tvL_ok {σ : Sg} : ∀ {l : List S} {vs us : List Value}, All2 (okS σ) l vs → tvL σ.tk l = some us → vs = us
  | [], [], us, _, h => by injection h
  | s :: l, v :: vs, us, h, hv => by
    simp only [tvL] at hv
    split at hv
    · rename_i a r h1 h2
      injection hv with hv; subst hv
      rw [tvx_ok h.1 h1, tvL_ok h.2 h2]
    · cases hv
  | [], _ :: _, _, h, _ => h.elim
  | _ :: _, [], _, h, _ => h.elim
theorem tvx_all {σ : Sg} {s : S} {v : Value} (h : tvx σ.tk s = some v) : okS σ s v := by
  unfold tvx at h
  split at h
  · injection h with h; subst h; exact rfl
  · cases s with
    | i k n => injection h with h; subst h; exact rfl
    | b x => injection h with h; subst h; exact rfl
    | x e => cases e with
      | tk i => injection h with h; subst h; exact rfl
      | _ => cases h
    | _ => cases h
theorem tvL_all {σ : Sg} : ∀ {l : List S} {us : List Value}, tvL σ.tk l = some us → All2 (okS σ) l us
  | [], us, h => by injection h with h; subst h; trivial
  | s :: l, us, hv => by
    simp only [tvL] at hv
    split at hv
    · rename_i a r h1 h2
      injection hv with hv; subst hv
      exact ⟨tvx_all h1, tvL_all h2⟩
    · cases hv
theorem tvL_len {k : Tk} : ∀ {l : List S} {us : List Value}, tvL k l = some us → us.length = l.length
  | [], us, h => by injection h with h; subst h; rfl
  | s :: l, us, hv => by
    simp only [tvL] at hv
    split at hv
    · rename_i a r h1 h2
      injection hv with hv; subst hv
      simp [tvL_len h2]
    · cases hv
theorem keys1 {a : Nat} {o : Obj} : (keys [((a, o) : Ent)]).Nodup := by simp [keys]
theorem keys2 {a b : Nat} {o p : Obj} (h : a ≠ b) : (keys [((a, o) : Ent), (b, p)]).Nodup := by simp [keys, h]
theorem wx_lt {seq call un : Nat} (h1 : seq < 18446744073709551616) (h2 : call < 18446744073709551616) (h3 : un < 18446744073709551616) : ∀ x, x < 3 → wordX seq call un x < 18446744073709551616 := by
  intro x hx
  rcases x with _ | _ | _ | x
  · exact h1
  · exact h2
  · exact h3
  · omega
theorem un_ok (n : Int) : (((n % 18446744073709551616).toNat : Nat) : Int) = n % 18446744073709551616 ∧ (n % 18446744073709551616).toNat < 18446744073709551616 := by omega
theorem f_enc {us vs : List Value} (h : PkRel us vs) {aD : Nat} {od : Obj} {w : World} (hw : w.heap[aD]? = some od) : Ctr Tryz.prog 180 [.agg us.toArray] w [(aD, od)] fun y L' => ∃ (b c : Nat) (od' : Obj) (jk : List Value) (J : List Ent), y = .tuple #[.slice (some ⟨b, 0, none⟩) vs.length c, .int .i64 0] ∧ L'.Perm ((aD, od') :: (b, cel 5 (vs ++ jk)) :: J) ∧ vs.length + jk.length = c := by
  obtain ⟨kd, fr, to, seq, call, ip, me, n, cd, rfl, rfl, h1, h2, h3, h4, h5, h6, h7, ⟨rfl, rfl, rfl, rfl⟩ | ⟨rfl, rfl, rfl, rfl⟩⟩ := h
  · refine (run_ctr snd0 run_enc1 (by decide +kernel) en_enc [(aD, 0)] (show (1 : Nat) = (mn 1).val by decide +kernel) (tkE fr to seq call n (n % 18446744073709551616).toNat) (fun _ => rfl) (fun _ => ([], od)) (by
      show AllP (tEnc.map _ ++ [])
      rw [List.append_nil]
      exact allP_tb (tEnc_ok h1 h2 h3 (un_ok n).1)) True.intro (fun p hp => by rcases List.mem_singleton.1 hp with rfl; exact hw) keys1).mono ?_
    rintro y L' ⟨e, z, J, rfl, hL, hI⟩
    exact ⟨(e (mn 193)).1, (e (mn 193)).2, (z (mn 0)).2, (z (mn 193)).1, J, rfl, hL, by
      have h2 : 64 + (z (mn 193)).1.length = (e (mn 193)).2 * 1 := hI.2.1
      show 64 + _ = _
      omega⟩
  · refine (run_ctr snd0 run_enc2 (by decide +kernel) en_enc [(aD, 0)] (show (1 : Nat) = (mn 1).val by decide +kernel) (tkE fr to seq call n (n % 18446744073709551616).toNat) (fun _ => rfl) (fun _ => ([], od)) (by
      show AllP (tEnc.map _ ++ [])
      rw [List.append_nil]
      exact allP_tb (tEnc_ok h1 h2 h3 (un_ok n).1)) True.intro (fun p hp => by rcases List.mem_singleton.1 hp with rfl; exact hw) keys1).mono ?_
    rintro y L' ⟨e, z, J, rfl, hL, hI⟩
    exact ⟨(e (mn 104)).1, (e (mn 104)).2, (z (mn 0)).2, (z (mn 104)).1, J, rfl, hL, by
      have h2 : 40 + (z (mn 104)).1.length = (e (mn 104)).2 * 1 := hI.2.1
      show 40 + _ = _
      omega⟩
end Go.Proofs.YtpcdcemcjbeajaaGreatDoor
end
section
set_option linter.unusedVariables false
set_option linter.unusedSimpArgs false
set_option maxRecDepth 100000
namespace Go.Proofs.YtpcdcemcjbeajaaGreatDoor
open Go Go.RowKit
attribute [local irreducible] X RL W Ctr
theorem bytes_eq {a b : ByteArray} : (a.toList == b.toList) = decide (a = b) := by
  by_cases h : a = b
  · subst h; simp
  · rw [decide_eq_false h]
    cases he : a.toList == b.toList with
    | false => rfl
    | true =>
      have h1 : a.toList = b.toList := by simpa using he
      rw [ByteArray.toList_eq, ByteArray.toList_eq] at h1
      exact absurd (ByteArray.ext (Array.toList_inj.1 h1)) h
section
variable {c : Cx} {Qp : Po} {K : Ko} {ρ : Env} {ds : Ds} {L : List Ent} {ol rest : List Oper} {d : Option Nat} {ty : TypeId} {pos : String} {af : Array Edge} {g : Option (Nat × Bool)} {x y : Operand} {t t' : TypeId}
theorem RL.eqS {a b : ByteArray} (hw : wantE c.n ol ρ ⟨d, .binOp .eql t x y t', ty, pos, af, g⟩ = true) (hx : evE c.n ρ x = .string a) (hy : evE c.n ρ y = .string b) (h : RL c ol rest K Qp (updO ρ d (.bool (decide (a = b)))) ds L) : RL c ol (⟨d, .binOp .eql t x y t', ty, pos, af, g⟩ :: rest) K Qp ρ ds L :=
  RL.pure hw rfl (fun w => by
    rw [← bytes_eq]
    have hg : (eqGuard .eql t x y (.string a) (.string b)).run c.P w = .ok () w := rfl
    simp only [execOp, hx, hy, Sem.run_bind, hg, Result.andThen_ok]
    simp [binOp, Op.stringOp]) h
end
abbrev u8s (l : List Nat) : List Value := l.map fun (x : Nat) => Value.int .u8 (x : Int)
theorem run_conv {P : Program} {w : World} {b cp : Nat} {l : List Nat} {src e dst : TypeId} (hs : P.underlying src = some (.slice e)) (he : P.underlying e = some (.int .u8)) (hd : P.underlying dst = some .string) (h : CellsAt w b 0 (u8s l)) :
    (convert src dst (.slice (some ⟨b, 0, none⟩) l.length cp)).run P w = .ok (.string (strOfNums (l.map fun (x : Nat) => (x : Int)))) w := by
  cases l with
  | nil =>
    rw [List.length_nil, run_convert_bytes_string w src dst e _ 0 cp hs he hd]
    simp [Conv.bytesToString, loadCells]
    rfl
  | cons x l =>
    have e1 : (x :: l).length = ((x :: l).map fun (x : Nat) => (x : Int)).length := by simp
    rw [e1]
    refine run_convert_bytes_arg w src e hs he b 0 _ cp _ rfl (fun i hi => ?_) dst hd
    have hi2 : i < (x :: l).length := by rw [e1]; exact hi
    refine h i _ ?_
    rw [List.getElem?_map, List.getElem?_eq_getElem hi2]
    simp only [Option.map_some, List.getD_eq_getElem?_getD, List.getElem?_map, List.getElem?_eq_getElem hi2]
    rfl
theorem f_eql {l : List Nat} {b1 b2 c1 c2 : Nat} {w : World} (h1 : CellsAt w b1 0 (u8s l)) (h2 : CellsAt w b2 0 (u8s l)) : Ctr Tryz.prog 135 [.slice (some ⟨b1, 0, none⟩) l.length c1, .slice (some ⟨b2, 0, none⟩) l.length c2] w [] fun v _ => v = .bool true := by
  have hk : ∀ {w1 : World} {L : List Ent} {b : Nat}, St w [] w1 L → CellsAt w b 0 (u8s l) → CellsAt w1 b 0 (u8s l) := fun hw h j v hv => hw.cellI (h j v hv) (by simp)
  refine Ctr.intro0 (n := 10) Tryz.func135 rfl Tryz.ntmps135 (Nat.le_of_ble_eq_true rfl) ?_
  refine X.seq ?_
  refine X.region rfl ?_
  refine RL.assign rfl ?_
  refine RL.nil ?_
  refine X.seq ?_
  refine X.region rfl ?_
  refine RL.move rfl ?_
  refine RL.read (v := .string (strOfNums (l.map fun (x : Nat) => (x : Int)))) rfl rfl (fun w1 hw1 => ?_) ?_
  · simp only [execOp, Sem.run_bind]
    exact (congrArg (fun r => Result.andThen r _) (run_conv (cp := c1) Tryz.underlying161 Tryz.underlying5 Tryz.underlying9 (hk hw1 h1))).trans rfl
  refine RL.move rfl ?_
  refine RL.read (v := .string (strOfNums (l.map fun (x : Nat) => (x : Int)))) rfl rfl (fun w1 hw1 => ?_) ?_
  · simp only [execOp, Sem.run_bind]
    exact (congrArg (fun r => Result.andThen r _) (run_conv (cp := c2) Tryz.underlying161 Tryz.underlying5 Tryz.underlying9 (hk hw1 h2))).trans rfl
  refine RL.eqS rfl rfl rfl ?_
  refine RL.assign rfl ?_
  refine RL.nil ?_
  refine X.ret ?_
  refine ret1 rfl ?_
  show (Value.bool (decide (strOfNums _ = strOfNums _))) = _
  rw [decide_eq_true rfl]
theorem findEn_ok {cs bs : List S} : ∀ {t : List TbE}, findEn cs t = some bs → TbE.enc cs bs ∈ t
  | [], h => by cases h
  | e :: t, h => by
    cases e with
    | enc a b =>
      have h' : cond (beqL a cs) (some b) (findEn cs t) = some bs := h
      cases hb : beqL a cs with
      | false => rw [hb] at h'; exact List.mem_cons_of_mem _ (findEn_ok h')
      | true => rw [hb] at h'; injection h' with h'; subst h'; rw [beqL_eq hb]; exact List.mem_cons_self
    | _ => exact List.mem_cons_of_mem _ (findEn_ok (t := t) h)
theorem findDe_ok {cs bs : List S} : ∀ {t : List TbE}, findDe bs t = some cs → TbE.enc cs bs ∈ t
  | [], h => by cases h
  | e :: t, h => by
    cases e with
    | enc a b =>
      have h' : cond (beqL b bs) (some a) (findDe bs t) = some cs := h
      cases hb : beqL b bs with
      | false => rw [hb] at h'; exact List.mem_cons_of_mem _ (findDe_ok h')
      | true => rw [hb] at h'; injection h' with h'; subst h'; rw [beqL_eq hb]; exact List.mem_cons_self
    | _ => exact List.mem_cons_of_mem _ (findDe_ok (t := t) h)
theorem keys_app {l m : List Ent} (h : (keys (l ++ m)).Nodup) : ∀ p ∈ l, ∀ q ∈ m, p.1 ≠ q.1 := by
  unfold keys at h
  rw [List.map_append, List.nodup_append] at h
  exact fun p hp q hq e => h.2.2 p.1 (List.mem_map.2 ⟨p, hp, rfl⟩) q.1 (List.mem_map.2 ⟨q, hq, rfl⟩) e
theorem keys_perm {l m : List Ent} (h : l.Perm m) (hn : (keys l).Nodup) : (keys m).Nodup := ((h.map (fun (p : Ent) => p.1)).nodup_iff).1 hn
theorem encM_ok {vs : List V} {h : Hp} {nx : Nm} {v : V} {h' : Hp} {nx' : Nm} (hm : encM vs h nx = .F v h' nx') : FOk Tryz.prog 180 vs h nx v h' nx' := by
  unfold encM at hm
  split at hm
  · rename_i cs
    obtain ⟨bs, g0, hm⟩ := onV_ok hm (fun n => by simp)
    obtain ⟨x1, b1, hm⟩ := newK_ok hm (fun n => by simp)
    injection hm with e1 e2 e3
    subst e1 e2 e3
    have he := findEn_ok g0
    intro σ w L args hva hH hown hnd
    obtain ⟨us, ws, t1, t2, t3⟩ := tbOf_ok hH he
    cases args with
    | nil => exact hva.elim
    | cons a args =>
      obtain ⟨⟨vs', hvs, rfl⟩, hrest⟩ := hva
      cases args with
      | cons => exact hrest.elim
      | nil =>
        obtain rfl := tvL_ok hvs t1
        obtain ⟨tl, htl, _⟩ := tb_of he
        obtain ⟨b, c, ob, k1, k2, k3⟩ := hH.own tbN _ htl
        obtain ⟨Lr, hp⟩ := perm_mem k2
        refine (Called.frame (Lp := [(b, ob)]) (Lr := Lr) hp.symm hown hnd (.inl ⟨en_enc, f_enc t3 (hown _ k2)⟩)).mono ?_
        rintro x L' ⟨Lq, rfl, hk, b2, c2, od, jk, J, rfl, hL, hc2⟩
        have hk2 := keys_perm (hL.append_right Lr) hk
        have hne : ∀ p ∈ ((b, od) :: Lr : List Ent), p.1 ≠ b2 := fun p hp2 => by
          have hn3 : (keys ((b2, cel 5 (ws ++ jk)) :: (((b, od) :: J) ++ Lr))).Nodup := keys_perm (by
            rw [List.cons_append, List.cons_append]
            exact List.Perm.swap _ _ _) hk2
          refine fun e => keys_app (l := [(b2, cel 5 (ws ++ jk))]) hn3 _ List.mem_cons_self p ?_ e.symm
          rcases List.mem_cons.1 hp2 with rfl | hp2
          · simp
          · simp [hp2]
        have hH1 : HR σ nx h ((b, od) :: Lr) := hH.re fun n o b' c' ob' q1 q2 q3 q4 => by
          rcases List.mem_cons.1 (hp.mem_iff.1 q3) with e | q5
          · injection e with e1 e2
            subst e1
            obtain rfl := hH.inj n tbN _ _ _ _ _ q1 htl q2 k1
            rw [htl] at q1; injection q1 with q1; subst q1
            exact ⟨od, List.mem_cons_self, q4⟩
          · exact ⟨ob', List.mem_cons_of_mem _ q5, q4⟩
        have hbl := tvL_len t2
        obtain ⟨hle, hH2⟩ := hH1.new b1 (b := b2) (cap := c2) (o := .c 5 1 bs.length bs) (ob := cel 5 (ws ++ jk)) hne ⟨ws, jk, tvL_all t2, rfl, fun _ => ⟨by simp, by omega⟩, fun h => by cases h⟩
        refine ⟨_, hle, ⟨[_, _], ⟨⟨b2, c2, Sg.ext_same _ _, by omega, by rw [hbl]; rfl⟩, rfl, trivial⟩, rfl⟩, hH2.re fun n o b' c' ob' q1 q2 q3 q4 => ⟨ob', ?_, q4⟩⟩
        refine (hL.append_right Lr).mem_iff.2 ?_
        rcases List.mem_cons.1 q3 with e | q3
        · rw [e]; simp
        · rcases List.mem_cons.1 q3 with e | q3
          · rw [e]; simp
          · simp [q3]
  · cases hm
end Go.Proofs.YtpcdcemcjbeajaaGreatDoor
end
section
set_option linter.unusedVariables false
set_option linter.unusedSimpArgs false
set_option maxRecDepth 100000
namespace Go.Proofs.YtpcdcemcjbeajaaGreatDoor
open Go Go.RowKit
theorem pk_u8 {us vs : List Value} (h : PkRel us vs) : ∃ l : List Nat, vs = u8s l := by
  obtain ⟨kd, fr, to, seq, call, ip, me, n, cd, _, h2, _⟩ := h
  exact ⟨_, h2⟩
theorem own_cells {w : World} {b : Nat} {t : TypeId} {vs jk : List Value} (h : w.heap[b]? = some (cel t (vs ++ jk))) : CellsAt w b 0 vs := by
  intro j v hv
  have hst : St w [b] w [(b, cel t (vs ++ jk))] := St.init (L := [(b, cel t (vs ++ jk))]) (fun p hp => by rcases List.mem_singleton.1 hp with rfl; exact h) (by simp [keys])
  have := cells_cut (q := t) (o := 0) (m := vs.length) (vs := vs) (junk := jk) hst (List.mem_singleton.2 rfl)
  exact this j v (by simpa using hv)
theorem two_names {σ : Sg} {nx : Nm} {h : Hp} {L : List Ent} (hH : HR σ nx h L) {n m : Nm} {o p : O} (hn : get8 n h = some o) (hm : get8 m h = some p) (hne : n ≠ m) {b c b' c' : Nat} (h1 : σ n = some (b, c)) (h2 : σ m = some (b', c')) : b ≠ b' := fun e => by
  subst e
  exact hne (hH.inj n m _ _ _ _ _ hn hm h1 h2)
theorem eqlM_ok {vs : List V} {h : Hp} {nx : Nm} {v : V} {h' : Hp} {nx' : Nm} (hm : eqlM vs h nx = .F v h' nx') : FOk Tryz.prog 135 vs h nx v h' nx' := by
  unfold eqlM at hm
  split at hm
  · rename_i n o len c r n' o' len' c' r'
    obtain ⟨t, rr, m, ks, g0, hm⟩ := onC_ok hm (fun n => by simp)
    obtain ⟨t', rr', m', ks', g0', hm⟩ := onC_ok hm (fun n => by simp)
    obtain ⟨g1, hm9⟩ := cond_ok hm (fun n => by simp)
    simp only [Bool.and_eq_true] at g1
    obtain ⟨a1, a2, a3, a4, a5⟩ := g1
    obtain rfl := Nat.eq_of_beq_eq_true a1
    obtain rfl := Nat.eq_of_beq_eq_true a2
    obtain rfl := Nat.eq_of_beq_eq_true a3
    obtain rfl := beqL_eq a5
    obtain ⟨cs, g2, hm8⟩ := onV_ok hm9 (fun n => by simp)
    injection hm8 with e1 e2 e3
    subst e1 e2 e3
    have he := findDe_ok g2
    intro σ w L args hva hH hown hnd
    obtain ⟨us, ws, t1, t2, t3⟩ := tbOf_ok hH he
    obtain ⟨l, rfl⟩ := pk_u8 t3
    have hl : l.length = len := by have := tvL_len t2; rw [lenIs_ok a4] at this; simpa using this
    subst hl
    cases args with
    | nil => exact hva.elim
    | cons x args =>
    obtain ⟨hx, hva⟩ := hva
    cases args with
    | nil => exact hva.elim
    | cons y args =>
    obtain ⟨hy, hva⟩ := hva
    cases args with
    | cons => exact hva.elim
    | nil =>
    obtain ⟨b1, c1, ob1, k1, k2, ws1, j1, k3, rfl, _⟩ := hH.own _ _ g0
    obtain ⟨b2, c2, ob2, q1, q2, ws2, j2, q3, rfl, _⟩ := hH.own _ _ g0'
    obtain rfl := tvL_ok k3 t2
    obtain rfl := tvL_ok q3 t2
    obtain ⟨cx, rfl⟩ : ∃ cx, x = .slice (some ⟨b1, 0, none⟩) l.length cx := by
      cases r with
      | false => obtain ⟨b, cc, s1, rfl⟩ := hx; rw [k1] at s1; injection s1 with s1; injection s1 with s1 s2; subst s1; exact ⟨_, rfl⟩
      | true => obtain ⟨b, cc, s1, s3, rfl⟩ := hx; rw [k1] at s1; injection s1 with s1; injection s1 with s1 s2; subst s1; exact ⟨_, rfl⟩
    obtain ⟨cy, rfl⟩ : ∃ cx, y = .slice (some ⟨b2, 0, none⟩) l.length cx := by
      cases r' with
      | false => obtain ⟨b, cc, s1, rfl⟩ := hy; rw [q1] at s1; injection s1 with s1; injection s1 with s1 s2; subst s1; exact ⟨_, rfl⟩
      | true => obtain ⟨b, cc, s1, s3, rfl⟩ := hy; rw [q1] at s1; injection s1 with s1; injection s1 with s1 s2; subst s1; exact ⟨_, rfl⟩
    have hc := f_eql (c1 := cx) (c2 := cy) (own_cells (hown _ k2)) (own_cells (hown _ q2))
    refine (Called.frame (Lp := []) (Lr := L) (List.Perm.refl _) hown hnd (.inl ⟨en_eql, hc⟩)).mono ?_
    rintro x L' ⟨Lq, rfl, hk, rfl⟩
    exact ⟨σ, Sg.le.refl σ, rfl, hH.re fun n o b c ob _ _ h3 h4 => ⟨ob, List.mem_append_right _ h3, h4⟩⟩
  · cases hm
theorem memoE : MemoOk Tryz.prog moE := by
  intro g m hg vs h nx v h' nx' hr
  unfold moE at hg
  cases e : Nat.beq g 180 with
  | true => rw [e] at hg; injection hg with hg; subst hg; rw [beqF e]; exact encM_ok hr
  | false =>
    rw [e] at hg
    cases e2 : Nat.beq g 135 with
    | true => rw [e2] at hg; injection hg with hg; subst hg; rw [beqF e2]; exact eqlM_ok hr
    | false => rw [e2] at hg; cases hg
theorem sndE : Snd Tryz.prog KE := snd_of memoE 300
theorem tv_cs1 {fr to seq call un : Nat} {n : Int} : tvL (tkE fr to seq call n un) cs1 = some (pkCells 1 fr to seq call [0, 0, 0, 0, 0, 0, 0, 0, 0, 0, 0, 1, 0, 0, 0, 1] 0 n 0) := rfl
theorem tv_cs2 {fr to seq call un : Nat} {n : Int} : tvL (tkE fr to seq call n un) cs2 = some (pkCells 2 fr to seq call [0, 0, 0, 0, 0, 0, 0, 0, 0, 0, 0, 0, 0, 0, 0, 0] 0 n 0) := rfl
theorem tv_bs1 {fr to seq call : Nat} {n : Int} : tvL (tkE fr to seq call n (n % 18446744073709551616).toNat) bs1 = some (u8s (pkBytes 1 fr to seq call [0, 0, 0, 0, 0, 0, 0, 0, 0, 0, 0, 1, 0, 0, 0, 1] 0 n 0)) := rfl
theorem tv_bs2 {fr to seq call : Nat} {n : Int} : tvL (tkE fr to seq call n (n % 18446744073709551616).toNat) bs2 = some (u8s (pkBytes 2 fr to seq call [0, 0, 0, 0, 0, 0, 0, 0, 0, 0, 0, 0, 0, 0, 0, 0] 0 n 0)) := rfl
theorem f_dec {us vs jk : List Value} (h : PkRel us vs) {aD b c : Nat} {od : Obj} {w : World} (hw : w.heap[aD]? = some od) (hb : w.heap[b]? = some (cel 5 (vs ++ jk))) (hne : aD ≠ b) (hc : vs.length + jk.length = c) : Ctr Tryz.prog 162 [.slice (some ⟨b, 0, none⟩) vs.length c] w [(aD, od), (b, cel 5 (vs ++ jk))] fun y L' => ∃ (od' : Obj) (jk' : List Value) (J : List Ent), y = .tuple #[.agg us.toArray, .int .i64 0] ∧ L'.Perm ((aD, od') :: (b, cel 5 (vs ++ jk')) :: J) ∧ vs.length + jk'.length = c := by
  have h0 := h
  obtain ⟨kd, fr, to, seq, call, ip, me, n, cd, rfl, rfl, h1, h2, h3, h4, h5, h6, h7, ⟨rfl, rfl, rfl, rfl⟩ | ⟨rfl, rfl, rfl, rfl⟩⟩ := h
  · have hc1 : 64 + jk.length = c := hc
    refine (run_ctr sndE run_dec1 (by decide +kernel) en_dec [(aD, 0), (b, c)] (show (2 : Nat) = (mn 2).val by decide +kernel) (tkE fr to seq call n (n % 18446744073709551616).toNat) (fun _ => rfl) (fun m => (jk, od)) (by
      show AllP ((tDec cs1 bs1).map _ ++ [64 = 64 * 1, 64 + jk.length = c * 1])
      exact AllP.app.2 ⟨allP_tb (tDec_ok h1 h2 (un_ok n).1 ⟨h6, h7⟩ (wx_lt h4 h5 (un_ok n).2) ⟨_, _, tv_cs1, tv_bs1, h0⟩), rfl, by omega, trivial⟩) (show 0 + 64 ≤ c ∧ True from ⟨by omega, trivial⟩) (fun p hp => by rcases List.mem_cons.1 hp with rfl | hp; exact hw; rcases List.mem_singleton.1 hp with rfl; exact hb) (keys2 hne)).mono ?_
    rintro y L' ⟨e, z, J, rfl, hL, hI⟩
    exact ⟨(z (mn 0)).2, (z (mn 1)).1, J, rfl, hL, by
      have h2 : 64 + (z (mn 1)).1.length = c * 1 := hI.2.1
      show 64 + _ = _
      omega⟩
  · have hc1 : 40 + jk.length = c := hc
    refine (run_ctr sndE run_dec2 (by decide +kernel) en_dec [(aD, 0), (b, c)] (show (2 : Nat) = (mn 2).val by decide +kernel) (tkE fr to seq call n (n % 18446744073709551616).toNat) (fun _ => rfl) (fun m => (jk, od)) (by
      show AllP ((tDec cs2 bs2).map _ ++ [40 = 40 * 1, 40 + jk.length = c * 1])
      exact AllP.app.2 ⟨allP_tb (tDec_ok h1 h2 (un_ok n).1 ⟨h6, h7⟩ (wx_lt h4 h5 (un_ok n).2) ⟨_, _, tv_cs2, tv_bs2, h0⟩), rfl, by omega, trivial⟩) (show 0 + 40 ≤ c ∧ True from ⟨by omega, trivial⟩) (fun p hp => by rcases List.mem_cons.1 hp with rfl | hp; exact hw; rcases List.mem_singleton.1 hp with rfl; exact hb) (keys2 hne)).mono ?_
    rintro y L' ⟨e, z, J, rfl, hL, hI⟩
    exact ⟨(z (mn 0)).2, (z (mn 1)).1, J, rfl, hL, by
      have h2 : 40 + (z (mn 1)).1.length = c * 1 := hI.2.1
      show 40 + _ = _
      omega⟩
theorem pdecM_ok {vs : List V} {h : Hp} {nx : Nm} {v : V} {h' : Hp} {nx' : Nm} (hm : pdecM vs h nx = .F v h' nx') : FOk Tryz.prog 162 vs h nx v h' nx' := by
  unfold pdecM at hm
  split at hm
  · rename_i n o len c r
    obtain ⟨t, rr, m, ks, g0, hm⟩ := onC_ok hm (fun n => by simp)
    obtain ⟨g1, hm9⟩ := cond_ok hm (fun n => by simp)
    simp only [Bool.and_eq_true] at g1
    obtain ⟨a1, a2, a3, a4, a5, a6, a7⟩ := g1
    obtain rfl := Nat.eq_of_beq_eq_true a1
    obtain rfl := Nat.eq_of_beq_eq_true a2
    subst a3
    obtain rfl := Nat.eq_of_beq_eq_true a4
    obtain rfl := Nat.eq_of_beq_eq_true a5
    obtain rfl := Nat.eq_of_beq_eq_true a6
    obtain ⟨cs, g2, hm8⟩ := onV_ok hm9 (fun n => by simp)
    injection hm8 with e1 e2 e3
    subst e1 e2 e3
    have he := findDe_ok g2
    intro σ w L args hva hH hown hnd
    obtain ⟨us, ws, t1, t2, t3⟩ := tbOf_ok hH he
    have hl := tvL_len t2
    rw [lenIs_ok a7] at hl
    subst hl
    cases args with
    | nil => exact hva.elim
    | cons x args =>
    obtain ⟨hx, hva⟩ := hva
    cases args with
    | cons => exact hva.elim
    | nil =>
    obtain ⟨tl, htl, _⟩ := tb_of he
    obtain ⟨bD, cD, od, d1, d2, d3⟩ := hH.own tbN _ htl
    obtain ⟨b1, c1, ob1, k1, k2, ws1, j1, k3, rfl, k4⟩ := hH.own _ _ g0
    obtain rfl := tvL_ok k3 t2
    obtain ⟨b, cc, s1, s3, rfl⟩ := hx
    rw [k1] at s1; injection s1 with s1; injection s1 with s1 s2
    subst s1 s2
    obtain ⟨k5, k6⟩ := k4.1 (by decide)
    have hne : bD ≠ b1 := two_names hH htl g0 (fun e => by rw [e, g0] at htl; cases htl) d1 k1
    obtain ⟨L1, p1⟩ := perm_mem d2
    obtain ⟨Lr, p2⟩ := perm_mem (L := L1) (a := (b1, cel 5 (ws1 ++ j1))) (by
      rcases List.mem_cons.1 (p1.mem_iff.1 k2) with e | h
      · injection e with e1 e2; exact absurd e1.symm hne
      · exact h)
    have hp : L.Perm ([(bD, od), (b1, cel 5 (ws1 ++ j1))] ++ Lr) := p1.trans (p2.cons _)
    have hc := f_dec (c := c1 - 0) (jk := j1) t3 (hown _ d2) (hown _ k2) hne (by omega)
    refine (Called.frame (Lp := [(bD, od), (b1, cel 5 (ws1 ++ j1))]) (Lr := Lr) hp.symm hown hnd (.inl ⟨en_dec, hc⟩)).mono ?_
    rintro x L' ⟨Lq, rfl, hk, od', jk', J, rfl, hL, hc2⟩
    have hL2 := hL.append_right Lr
    refine ⟨σ, Sg.le.refl σ, ⟨[_, _], ⟨⟨us, tvL_all t1, rfl⟩, rfl, trivial⟩, rfl⟩, hH.re fun n' o' b c ob h1 h2 h3 h4 => ?_⟩
    rcases List.mem_cons.1 (hp.mem_iff.1 h3) with e | h3
    · injection e with e1 e2
      subst e1
      obtain rfl := hH.inj n' tbN _ _ _ _ _ h1 htl h2 d1
      rw [htl] at h1; injection h1 with h1; subst h1
      exact ⟨od', hL2.mem_iff.2 (by simp), h4⟩
    · rcases List.mem_cons.1 h3 with e | h3
      · injection e with e1 e2
        subst e1
        obtain rfl := hH.inj n' _ _ _ _ _ _ h1 g0 h2 k1
        rw [g0] at h1; injection h1 with h1; subst h1
        rw [k1] at h2; injection h2 with h2; injection h2 with h2 h5; subst h5
        exact ⟨cel 5 (ws1 ++ jk'), hL2.mem_iff.2 (by simp), ws1, jk', k3, rfl, fun _ => ⟨k5, by omega⟩, fun h => by cases h⟩
      · exact ⟨ob, hL2.mem_iff.2 (List.mem_append_right _ (show (b, ob) ∈ Lr from h3)), h4⟩
  · cases hm
end Go.Proofs.YtpcdcemcjbeajaaGreatDoor
end
section
set_option linter.unusedVariables false
set_option linter.unusedSimpArgs false
set_option maxRecDepth 100000
namespace Go.Proofs.YtpcdcemcjbeajaaGreatDoor
open Go Go.RowKit
noncomputable def tks : Nat → Nat → List S
  | _, 0 => []
  | i, n + 1 => tK i :: tks (i + 1) n
noncomputable def delC (a k : Nat) : List S := (tks 0 a).take k ++ ((tks 0 a).drop (k + 1) ++ [xsn])
def delSh : List (Nat × Nat) := (List.range 13).flatMap fun a => (List.range a).map fun k => (a, k)
noncomputable def delB (a k : Nat) : Bool := chkG (.s (rL 1 (a - 1))) [(mn 1, .c 161 1 a (delC a k))] (K0 (.F 163 [.s (rL 1 a), .s (iI k), .s (iI (k + 1))] (setAll [(mn 1, .c 161 1 a (tks 0 a))] (emp8 none)) (mn 2))) &&
  (bndE (mn 2).val [(mn 1, .c 161 1 a (tks 0 a))] && [V.s (rL 1 a), .s (iI k), .s (iI (k + 1))].all (bndV (mn 2).val) && (fnV (.s (rL 1 (a - 1))) && [((mn 1, .c 161 1 a (delC a k)) : Nm × O)].all fun p => fnO p.2) && nmsB ([((mn 1, .c 161 1 a (delC a k)) : Nm × O)].map (·.1)))
theorem run_del : (delSh.all fun p => delB p.1 p.2) = true := by decide +kernel
theorem del_sh {a k : Nat} (h : k < a) (h2 : a ≤ 12) : (a, k) ∈ delSh := List.mem_flatMap.2 ⟨a, List.mem_range.2 (by omega), List.mem_map.2 ⟨k, List.mem_range.2 h, rfl⟩⟩
theorem tks_map (D : Dt) : ∀ n i, (tks i n).map (deS D) = (List.range' i n).map D.tk.val
  | 0, i => rfl
  | n + 1, i => by
    show deS D (tK i) :: (tks (i + 1) n).map (deS D) = _
    rw [tks_map D n (i + 1), List.range'_succ, List.map_cons]; rfl
theorem tks_len : ∀ n i, (tks i n).length = n
  | 0, i => rfl
  | n + 1, i => by show (tks (i + 1) n).length + 1 = _; rw [tks_len n]
theorem needL_tks (D : Dt) : ∀ n i, needL D (tks i n) = []
  | 0, i => rfl
  | n + 1, i => by show needS D (tK i) ++ needL D (tks (i + 1) n) = []; rw [needL_tks D n]; rfl
def rowTk (xs : List Value) (h : ∀ v ∈ xs, v.cells = #[v] ∧ v.oneCell' = true) : Tk := ⟨fun i => (xs[i]?).getD (.bool false), fun i => by
  cases e : xs[i]? with
  | none => exact ⟨rfl, rfl⟩
  | some v => exact h v (List.mem_of_getElem? e), fun _ => .m [] 0⟩
theorem row_vals (xs : List Value) : (List.range' 0 xs.length).map (fun i => (xs[i]?).getD (.bool false)) = xs := by
  apply List.ext_getElem
  · simp
  · intro i h1 h2
    simp [h2]
theorem f_del {xs jk : List Value} (hone : ∀ v ∈ xs, v.cells = #[v] ∧ v.oneCell' = true) {b c k : Nat} {w : World} (hb : w.heap[b]? = some (cel 161 (xs ++ jk))) (hk : k < xs.length) (hle : xs.length ≤ 12) (hc : xs.length + jk.length = c) :
    Ctr Tryz.prog 163 [.slice (some ⟨b, 0, none⟩) xs.length c, .int .i64 (k : Int), .int .i64 ((k + 1 : Nat) : Int)] w [(b, cel 161 (xs ++ jk))] fun y L' => ∃ (jk' : List Value) (J : List Ent), y = .slice (some ⟨b, 0, none⟩) (xs.length - 1) c ∧ L'.Perm ((b, cel 161 (xs.take k ++ (xs.drop (k + 1) ++ [.slice none 0 0]) ++ jk')) :: J) ∧ xs.length + jk'.length = c := by
  have hB := List.all_eq_true.1 run_del _ (del_sh hk hle)
  obtain ⟨hB1, hB2⟩ := (Bool.and_eq_true _ _).mp hB
  have hm : ∀ e, (tks 0 xs.length).map (deS ⟨adX [(0, 0), (b, c)] e, rowTk xs hone⟩) = xs := fun e => (tks_map _ _ _).trans (row_vals xs)
  have hr := run_ctr snd0 hB1 hB2 en_del [(0, 0), (b, c)] (show (2 : Nat) = (mn 2).val by decide +kernel) (rowTk xs hone) (fun _ => rfl) (fun _ => (jk, .map #[] 0)) (w := w) (by
    show AllP ((needL _ (tks 0 xs.length) ++ [(tks 0 xs.length).length = xs.length * 1, (tks 0 xs.length).length + jk.length = c * 1]) ++ [])
    rw [needL_tks, tks_len]
    exact ⟨by omega, by omega, trivial⟩) (show 0 + xs.length ≤ c ∧ True from ⟨by omega, trivial⟩) (fun p hp => by
      rcases List.mem_singleton.1 hp with rfl
      show w.heap[b]? = some (cel 161 ((tks 0 xs.length).map _ ++ jk))
      rw [hm]; exact hb) (by simp [keys])
  have e1 : [((mn 1, O.c 161 1 xs.length (tks 0 xs.length)) : Nm × O)].map (deE ⟨adX [(0, 0), (b, c)] (fun _ => (0, 0)), rowTk xs hone⟩ (fun _ => (jk, .map #[] 0))) = [(b, cel 161 (xs ++ jk))] := by
    show [(b, cel 161 ((tks 0 xs.length).map _ ++ jk))] = _
    rw [hm]
  rw [e1] at hr
  refine hr.mono ?_
  rintro y L' ⟨e, z, J, rfl, hL, hI⟩
  refine ⟨(z (mn 1)).1, J, rfl, ?_, ?_⟩
  · refine hL.trans (List.Perm.of_eq ?_)
    show (b, cel 161 ((delC xs.length k).map _ ++ _)) :: _ = _
    have : ∀ D : Dt, (tks 0 xs.length).map (deS D) = xs → (delC xs.length k).map (deS D) = xs.take k ++ (xs.drop (k + 1) ++ [.slice none 0 0]) := fun D hD => by
      unfold delC
      rw [List.map_append, List.map_append, List.map_take, List.map_drop, hD]; rfl
    rw [this _ (hm e)]; rfl
  · have h2 : AllP (needL _ (delC xs.length k) ++ [(delC xs.length k).length = xs.length * 1, (delC xs.length k).length + (z (mn 1)).1.length = c * 1] ++ []) := hI
    rw [List.append_nil] at h2
    have h3 := (AllP.app.1 h2).2
    have h4 : (delC xs.length k).length = xs.length * 1 := h3.1
    have h5 : (delC xs.length k).length + (z (mn 1)).1.length = c * 1 := h3.2.1
    omega
theorem HR.reset {σ : Sg} {nx n : Nm} {h : Hp} {L L' : List Ent} {o o' : O} {b c : Nat} {ob' : Obj} (hH : HR σ nx h L) (hn : get8 n h = some o) (hb : σ n = some (b, c)) (h1 : (b, ob') ∈ L') (h2 : OR σ c o' ob') (h3 : ∀ p ∈ L, p.1 ≠ b → p ∈ L') : HR σ nx (set8 n (some o') h) L' := by
  have back : ∀ m y, get8 m (set8 n (some o') h) = some y → ∃ y', get8 m h = some y' := fun m y hm => by
    by_cases e : m = n
    · subst e; exact ⟨o, hn⟩
    · rw [get8_ne e] at hm; exact ⟨y, hm⟩
  refine ⟨hH.fresh, fun p q u v b' c' d hp hq => ?_, fun m y hm => ?_⟩
  · obtain ⟨u', hu⟩ := back p u hp
    obtain ⟨v', hv⟩ := back q v hq
    exact hH.inj p q u' v' b' c' d hu hv
  · by_cases e : m = n
    · subst e
      rw [get8_same] at hm; injection hm with hm; subst hm
      exact ⟨b, c, ob', hb, h1, h2⟩
    · rw [get8_ne e] at hm
      obtain ⟨b1, c1, ob1, k1, k2, k3⟩ := hH.own m y hm
      exact ⟨b1, c1, ob1, k1, h3 _ k2 (two_names hH hm hn e k1 hb), k3⟩
theorem findDl_ok {i l j j1 : Nat} {z : Nat × Nat} : ∀ {t : List TbE}, findDl i l j j1 t = some z → TbE.del i l j j1 161 1 z.1 z.2 ∈ t
  | [], h => by cases h
  | e :: t, h => by
    cases e with
    | del i' l' j' j1' e0 sz y1 y2 =>
      have h' : cond (Nat.beq i' i) (cond (Nat.beq l' l) (cond (Nat.beq j' j) (cond (Nat.beq j1' j1) (cond (Nat.beq e0 161) (cond (Nat.beq sz 1) (some (y1, y2)) (findDl i l j j1 t)) (findDl i l j j1 t)) (findDl i l j j1 t)) (findDl i l j j1 t)) (findDl i l j j1 t)) (findDl i l j j1 t) = some z := h
      cases q1 : Nat.beq i' i with
      | false => rw [q1] at h'; exact List.mem_cons_of_mem _ (findDl_ok h')
      | true =>
      cases q2 : Nat.beq l' l with
      | false => rw [q1, q2] at h'; exact List.mem_cons_of_mem _ (findDl_ok h')
      | true =>
      cases q3 : Nat.beq j' j with
      | false => rw [q1, q2, q3] at h'; exact List.mem_cons_of_mem _ (findDl_ok h')
      | true =>
      cases q4 : Nat.beq j1' j1 with
      | false => rw [q1, q2, q3, q4] at h'; exact List.mem_cons_of_mem _ (findDl_ok h')
      | true =>
      cases q5 : Nat.beq e0 161 with
      | false => rw [q1, q2, q3, q4, q5] at h'; exact List.mem_cons_of_mem _ (findDl_ok h')
      | true =>
      cases q6 : Nat.beq sz 1 with
      | false => rw [q1, q2, q3, q4, q5, q6] at h'; exact List.mem_cons_of_mem _ (findDl_ok h')
      | true =>
        rw [q1, q2, q3, q4, q5, q6] at h'
        injection h' with h'
        subst h'
        rw [Nat.eq_of_beq_eq_true q1, Nat.eq_of_beq_eq_true q2, Nat.eq_of_beq_eq_true q3, Nat.eq_of_beq_eq_true q4, Nat.eq_of_beq_eq_true q5, Nat.eq_of_beq_eq_true q6]
        exact List.mem_cons_self
    | _ => exact List.mem_cons_of_mem _ (findDl_ok (t := t) h)
theorem All2.ofTake {α β : Type} {R : α → β → Prop} {l : List α} {m : List β} (h : All2 R l m) (k : Nat) : All2 R (l.take k ++ l.drop (k + 1)) (m.take k ++ m.drop (k + 1)) := (h.take k).append (h.drop (k + 1))
theorem delM_ok {vs : List V} {h : Hp} {nx : Nm} {v : V} {h' : Hp} {nx' : Nm} (hm : delM vs h nx = .F v h' nx') : FOk Tryz.prog 163 vs h nx v h' nx' := by
  unfold delM at hm
  split at hm
  · rename_i n l j j1
    obtain ⟨i, g0, hm⟩ := onV_ok hm (fun n => by simp)
    obtain ⟨z, g1, hm⟩ := onV_ok hm (fun n => by simp)
    injection hm with e1 e2 e3
    subst e1 e2 e3
    intro σ w L args hva hH hown hnd
    obtain ⟨a, k, ks, t1, t2, t3, t4, t5, t6, t7, t8, t9⟩ := tbOf_ok hH (findDl_ok g1)
    cases args with
    | nil => exact hva.elim
    | cons x args =>
    obtain ⟨hx, hva⟩ := hva
    cases args with
    | nil => exact hva.elim
    | cons y args =>
    obtain ⟨hy, hva⟩ := hva
    cases args with
    | nil => exact hva.elim
    | cons y1 args =>
    obtain ⟨hy1, hva⟩ := hva
    cases args with
    | cons => exact hva.elim
    | nil =>
    obtain rfl : y = σ.tk.val j := hy
    obtain rfl : y1 = σ.tk.val j1 := hy1
    obtain ⟨b, c, m, k1, k2, k3, rfl⟩ := hx
    rw [t1] at k2; injection k2 with _ k2
    have k2' : a = m := by exact_mod_cast k2
    subst k2'
    have gn := opAt_ok g0
    obtain ⟨b', c', ob, q1, q2, q3⟩ := hH.own n _ gn
    rw [k1] at q1; injection q1 with q1; injection q1 with q1 q1'
    subst q1 q1'
    have q4 : ORb σ c (σ.tk.ob i) ob := q3
    rw [t7] at q4
    obtain ⟨ws, jk, q5, rfl, q6⟩ := q4
    obtain ⟨q7, q8⟩ := q6.1 (by decide)
    have hwl := q5.length
    have ha : a = ws.length := by omega
    subst ha
    obtain ⟨Lr, hp⟩ := perm_mem q2
    have hc := f_del (b := b) (c := c) (k := k) (jk := jk) (fun v hv => by
      obtain ⟨i2, h2⟩ := List.mem_iff_getElem?.1 hv
      have hi : i2 < ks.length := by have := (List.getElem?_eq_some_iff.1 h2).1; omega
      obtain ⟨v2, h3, h4⟩ := q5.get (i := i2) (a := ks[i2]'hi) (List.getElem?_eq_getElem hi)
      rw [h2] at h3; injection h3 with h3; subst h3
      exact okS_cell h4) (hown _ q2) t4 t5 (by omega)
    rw [t2, t3]
    refine (Called.frame (Lp := [(b, cel 161 (ws ++ jk))]) (Lr := Lr) hp.symm hown hnd (.inl ⟨en_del, hc⟩)).mono ?_
    rintro x L' ⟨Lq, rfl, hk, jk', J, rfl, hL, hc2⟩
    have hL2 := hL.append_right Lr
    refine ⟨σ, Sg.le.refl σ, ⟨b, c, ws.length - 1, k1, t6, by omega, rfl⟩, hH.reset gn k1 (hL2.mem_iff.2 List.mem_cons_self) (?_ : ORb σ c (σ.tk.ob z.1) _) fun p hp2 hpb => ?_⟩
    · rw [t9]
      refine ⟨ws.take k ++ ws.drop (k + 1), [.slice none 0 0] ++ jk', by rw [Nat.mul_one, Nat.mul_one]; exact q5.ofTake k, ?_, fun _ => ⟨?_, ?_⟩, fun h => by cases h⟩
      · simp only [List.append_assoc]
      · rw [Nat.mul_one, Nat.mul_one]; simp; omega
      · simp; omega
    · rcases List.mem_cons.1 (hp.mem_iff.1 hp2) with e | h3
      · exact absurd (by rw [e]) hpb
      · exact hL2.mem_iff.2 (List.mem_append_right _ h3)
  · cases hm
theorem memoA : MemoOk Tryz.prog moA := by
  intro g m hg vs h nx v h' nx' hr
  unfold moA at hg
  cases e : Nat.beq g 66 with
  | true => rw [e] at hg; injection hg with hg; subst hg; rw [beqF e]; exact cdec_ok hr
  | false =>
  rw [e] at hg
  cases e : Nat.beq g 180 with
  | true => rw [e] at hg; injection hg with hg; subst hg; rw [beqF e]; exact encM_ok hr
  | false =>
  rw [e] at hg
  cases e : Nat.beq g 162 with
  | true => rw [e] at hg; injection hg with hg; subst hg; rw [beqF e]; exact pdecM_ok hr
  | false =>
  rw [e] at hg
  cases e : Nat.beq g 163 with
  | true => rw [e] at hg; injection hg with hg; subst hg; rw [beqF e]; exact delM_ok hr
  | false => rw [e] at hg; cases hg
theorem sndA : Snd Tryz.prog KA := snd_of memoA 300
theorem sndD : Snd Tryz.prog KD := snd_of memoD 300
end Go.Proofs.YtpcdcemcjbeajaaGreatDoor
end
