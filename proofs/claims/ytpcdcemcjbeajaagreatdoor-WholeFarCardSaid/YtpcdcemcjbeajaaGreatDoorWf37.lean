/- WholeFar: FarTr, FarSg, FarWk, FarWz. -/
import Derived.ChangeShapes
import Derived.Deep.Slices
import Derived.OpenShut
import Derived.Test.YtpcdcemcjbeajaaGreatDoorWf27
import Derived.Test.YtpcdcemcjbeajaaGreatDoorWf29
import Derived.Test.YtpcdcemcjbeajaaGreatDoorWf30
import Derived.Test.YtpcdcemcjbeajaaGreatDoorWf32
import Derived.Test.YtpcdcemcjbeajaaGreatDoorWf33
import Derived.Test.YtpcdcemcjbeajaaGreatDoorWf34
import Derived.Test.YtpcdcemcjbeajaaGreatDoorWf35
import Derived.Test.YtpcdcemcjbeajaaGreatDoorWf36
section
set_option linter.unusedVariables false
set_option maxRecDepth 100000
namespace Go.Proofs.YtpcdcemcjbeajaaGreatDoor
open Go Go.RowKit Go.ChangeShapes Go.WideShapes Go.Deep
theorem spot_none {w : World} {a : Addr} {v : Value} (h : w.cell? a = some v) : a = ⟨a.block, a.off, none⟩ := by
  obtain ⟨b, o, s⟩ := a
  cases s with
  | none => rfl
  | some x =>
    exfalso
    unfold World.cell? at h
    simp only [Option.isSome_some, if_true] at h
    split at h <;> simp_all
theorem elem_list {α : Type} {OK : α → Prop} {enc : α → List Value} {n : Nat} {g : Nat → List Value} : (∀ i, i < n → ∃ f, OK f ∧ g i = enc f) → ∃ fs : List α, fs.length = n ∧ (∀ f ∈ fs, OK f) ∧ ∀ (i : Nat) f, fs[i]? = some f → g i = enc f := by
  induction n with
  | zero => exact fun _ => ⟨[], rfl, by simp, by simp⟩
  | succ n ih =>
    intro h
    obtain ⟨fs, h1, h2, h3⟩ := ih (fun i hi => h i (by omega))
    obtain ⟨f, hf, hg⟩ := h n (by omega)
    refine ⟨fs ++ [f], by simp [h1], fun x hx => ?_, fun i x hx => ?_⟩
    · rcases List.mem_append.1 hx with hx | hx
      · exact h2 x hx
      · rw [List.mem_singleton] at hx; exact hx ▸ hf
    · rcases Nat.lt_or_ge i n with hlt | hge
      · rw [List.getElem?_append_left (by omega)] at hx; exact h3 i x hx
      · rw [List.getElem?_append_right (by omega)] at hx
        have h4 := (List.getElem?_eq_some_iff.1 hx).1
        simp at h4
        obtain rfl : i = n := by omega
        simp [h1] at hx
        rw [← hx]; exact hg
section
variable {H : Type} {ec : TypeId × Value → H} {w : World} {base : Nat} {spare : Nat → Bool} {held : Bool} {α : Type} {enc : α → Value} {OK : α → Prop}
set_option maxRecDepth 20000 in
theorem open_row1 {t e : Nat} (ht : (Tryz.prog).underlying t = some (.slice e)) (hsz : (Tryz.prog).cellsOf e = 1)
    (helem : ∀ fuel cs x, DataW.trod ec Tryz.prog w base spare held fuel e cs = some x → ∃ f, OK f ∧ cs = [enc f]) {v : Value} {r : Reach} {b0 : Nat} {d : DataW H} {p : List MemPlace} (hv : Value.okWide Tryz.prog w r b0 t v) (h : DataW.Trod ec Tryz.prog w base spare held t v d p) : ∃ A c, ∃ fs : List α, v = .slice A fs.length c ∧ (∀ f ∈ fs, OK f) ∧ Rd w A (fs.map enc) ∧ (d = .nil ∧ fs = [] ∨ ∃ e1 e2, d = .slice e1 e2 ∧ e1.length = fs.length) := by
  obtain ⟨A, n, c, rfl⟩ := okWide_slice ht hv
  obtain ⟨fuel, hf⟩ := h
  refine ⟨A, c, ?_⟩
  rcases open_slice ht hf with ⟨hcs, hd⟩ | ⟨a, len, cap, m, k, D, Pl, hcs, _, hl, hm, hmm, hd, hx⟩
  · simp [Value.cells] at hcs
    obtain ⟨rfl, rfl, rfl⟩ := hcs
    injection hd with hd _
    exact ⟨[], rfl, by simp, ⟨0, 0, fun h => by simp at h, fun j v hv => by simp at hv⟩, .inl ⟨hd, rfl⟩⟩
  · simp [Value.cells] at hcs
    obtain ⟨rfl, rfl, rfl⟩ := hcs
    rw [hsz] at hx
    have hnm : n ≤ m := by rw [hmm]; split <;> omega
    have key : ∀ i, i < n → ∃ cs : List Value, (∃ f, OK f ∧ cs = [enc f]) ∧ ∀ j, j < 1 → w.cell? ((a.add (i * 1)).add j) = cs[j]? := fun i hi => by
      obtain ⟨cs', h1, h2⟩ := hx i (by omega)
      obtain ⟨_, _, h3⟩ := World.cells?_some h1
      exact ⟨cs', helem _ _ _ h2, h3⟩
    obtain ⟨G, hG⟩ : ∃ G : Nat → List Value, ∀ i, i < n → (∃ f, OK f ∧ G i = [enc f]) ∧ ∀ j, j < 1 → w.cell? ((a.add (i * 1)).add j) = (G i)[j]? := by
      refine ⟨fun i => if h : i < n then (key i h).choose else [], fun i hi => ?_⟩
      simp only [hi, dif_pos]
      exact (key i hi).choose_spec
    obtain ⟨fs, h1, h2, h3⟩ := elem_list (n := n) (g := G) (enc := fun f => [enc f]) (fun i hi => (hG i hi).1)
    injection hd with hd _
    subst h1
    refine ⟨fs, rfl, h2, ?_, .inr ⟨_, _, hd, by simp⟩⟩
    rcases Nat.eq_zero_or_pos fs.length with hn0 | hn0
    · rw [List.eq_nil_of_length_eq_zero hn0]; exact ⟨0, 0, fun h => by simp at h, fun j v hv => by simp at hv⟩
    · have at_ : ∀ i f, fs[i]? = some f → w.cell? (a.add i) = some (enc f) := fun i f hf => by
        have hi := (List.getElem?_eq_some_iff.1 hf).1
        have h5 := (hG i hi).2 0 (by decide)
        rw [h3 i f hf] at h5
        have e : (a.add (i * 1)).add 0 = a.add i := by simp [Addr.add]
        rw [e] at h5; exact h5
      have ha : a = ⟨a.block, a.off, none⟩ := by
        have h5 := at_ 0 fs[0] (List.getElem?_eq_getElem hn0)
        have e : a.add 0 = a := by simp [Addr.add]
        rw [e] at h5
        exact spot_none h5
      refine ⟨a.block, a.off, fun _ => by rw [← ha], fun j u hj => ?_⟩
      rw [List.getElem?_map] at hj
      cases hfj : fs[j]? with
      | none => rw [hfj] at hj; cases hj
      | some f =>
        rw [hfj] at hj; injection hj with hj
        have h6 := at_ j f hfj
        rw [ha, addr_add, hj] at h6
        exact h6
theorem open_bools {v : Value} {r : Reach} {b0 : Nat} {d : DataW H} {p : List MemPlace} (hv : Value.okWide Tryz.prog w r b0 22 v) (h : DataW.Trod ec Tryz.prog w base spare held 22 v d p) : ∃ A c, ∃ fs : List Bool, v = .slice A fs.length c ∧ Rd w A (bools fs) ∧ (d = .nil ∧ fs = [] ∨ ∃ e1 e2, d = .slice e1 e2 ∧ e1.length = fs.length) := by
  obtain ⟨A, c, fs, h1, _, h2, h3⟩ := open_row1 (OK := fun _ => True) (enc := Value.bool) Tryz.underlying22 (by kernel_rfl) (fun _ _ _ h => by
    obtain ⟨b, e, _⟩ := DataW.trod_bool Tryz.underlying4 h
    exact ⟨b, trivial, e⟩) hv h
  exact ⟨A, c, fs, h1, h2, h3⟩
theorem open_i8s {v : Value} {r : Reach} {b0 : Nat} {d : DataW H} {p : List MemPlace} (hv : Value.okWide Tryz.prog w r b0 23 v) (h : DataW.Trod ec Tryz.prog w base spare held 23 v d p) : ∃ A c, ∃ fs : List Int, v = .slice A fs.length c ∧ Rd w A (i8s fs) ∧ ∀ n ∈ fs, -128 ≤ n ∧ n ≤ 127 := by
  obtain ⟨A, c, fs, h1, h0, h2, h3⟩ := open_row1 (OK := fun n : Int => -128 ≤ n ∧ n ≤ 127) (enc := Value.int .i8) Tryz.underlying23 (by kernel_rfl) (fun _ _ _ h => by
    obtain ⟨n, e, _, hw⟩ := DataW.trod_int (k := .i8) Tryz.underlying46 h
    refine ⟨n, ?_, e⟩
    simp only [Lit.wf, IntKind.min, IntKind.max, IntKind.signed, IntKind.bits] at hw
    simp at hw
    omega) hv h
  exact ⟨A, c, fs, h1, h2, h0⟩
theorem open_is {v : Value} {r : Reach} {b0 : Nat} {d : DataW H} {p : List MemPlace} (hv : Value.okWide Tryz.prog w r b0 24 v) (h : DataW.Trod ec Tryz.prog w base spare held 24 v d p) : ∃ A c, ∃ fs : List Int, v = .slice A fs.length c ∧ Rd w A (ints fs) := by
  obtain ⟨A, c, fs, h1, _, h2, h3⟩ := open_row1 (OK := fun _ => True) (enc := Value.int .i64) Tryz.underlying24 (by kernel_rfl) (fun _ _ _ h => by
    obtain ⟨n, e, _, _⟩ := DataW.trod_int (k := .i64) Tryz.underlying3 h
    exact ⟨n, trivial, e⟩) hv h
  exact ⟨A, c, fs, h1, h2⟩
end
end Go.Proofs.YtpcdcemcjbeajaaGreatDoor
end
section
set_option linter.unusedVariables false
set_option linter.unusedSimpArgs false
set_option maxRecDepth 100000
namespace Go.Proofs.YtpcdcemcjbeajaaGreatDoor
open Go Go.RowKit
theorem all2_b {σ : Sg} : ∀ l : List Bool, All2 (okS σ) (l.map S.b) (bools l)
  | [] => trivial
  | b :: l => ⟨rfl, all2_b l⟩
theorem tk_b {σ : Sg} {fl : Nat → Bool} {i : Nat} {b : Bool} (h : σ.tk = tkF fl) (hb : fl i = b) : okS σ (tK i) (.bool b) := by
  show Value.bool b = σ.tk.val i
  rw [h, ← hb]; rfl
def flg (a b c : Bool) : Nat → Bool
  | 1 => a
  | 2 => b
  | 3 => c
  | _ => false
theorem begins (many : List Bool) : ∃ K : Ih, Snd Tryz.prog K ∧ Begins K many := by
  match many with
  | [] => exact ⟨KA, sndA, 0, flg false false false, by decide, fun hc hw => stg_begun sndA ch0 (fun σ h => ⟨rfl, trivial⟩) rfl hc hw⟩
  | [a] => exact ⟨KA, sndA, 1, flg a false false, by decide, fun hc hw => stg_begun sndA ch1 (fun σ h => ⟨rfl, tk_b h rfl, trivial⟩) rfl hc hw⟩
  | [a, b] => exact ⟨KA, sndA, 2, flg a b false, by decide, fun hc hw => stg_begun sndA ch2 (fun σ h => ⟨rfl, tk_b h rfl, tk_b h rfl, trivial⟩) rfl hc hw⟩
  | [a, b, c] => exact ⟨KS, sndS, 3, flg a b c, by decide, fun hc hw => stg_begun sndS ch3a (fun σ h => ⟨rfl, tk_b h rfl, tk_b h rfl, tk_b h rfl, trivial⟩) rfl hc hw⟩
  | a :: b :: c :: d :: l => exact ⟨KS, sndS, 3, flg a b c, by decide, fun hc hw => stg_begun sndS (len := l.length + 5) (ks := bF :: tK 1 :: tK 2 :: tK 3 :: (d :: l).map S.b) (congrFun (congrFun ch3 l.length) ((d :: l).map S.b)) (fun σ h => ⟨rfl, tk_b h rfl, tk_b h rfl, tk_b h rfl, all2_b (d :: l)⟩) (by simp) hc hw⟩
end Go.Proofs.YtpcdcemcjbeajaaGreatDoor
end
section
set_option linter.unusedVariables false
set_option linter.unusedSimpArgs false
set_option maxRecDepth 100000
namespace Go.Proofs.YtpcdcemcjbeajaaGreatDoor
open Go Go.RowKit
theorem beg_ok {vs : List V} {h : Hp} {nx : Nm} {v : V} {h' : Hp} {nx' : Nm} (hm : exactM begA (mn 1) begI gW (mn 723) wkB vs h nx = .F v h' nx') : FOk Tryz.prog 4 vs h nx v h' nx' := exactM_ok sndD run_beg hm
theorem dBody_eq : dBody = .seq (fstC dBody) (.seq (fstC (sndC dBody)) (.block 6 (.loop dLoop))) := by kernel_rfl
theorem drop_run : FOk Tryz.prog 15 [gW] (setAll wkS (emp8 none)) (mn 2003) (.t []) (setAll wkD (emp8 none)) (mn 19258) := by
  have h3 := CdOk.run sndD follows run_l3
  have h2 := CdOk.rounds sndD follows run_l2 h3
  have h1 := CdOk.rounds sndD follows run_l1 h2
  have hR := CdOk.run sndD follows run_dR
  have hA := CdOk.run sndD follows run_dA
  have hall := CdOk.seq hA (CdOk.seq hR (CdOk.block1 h1))
  rw [← dBody_eq] at hall
  exact fnCd_ok (fn := Tryz.f15) (x := dBody) Tryz.func15 (by kernel_rfl) (by kernel_rfl) (by decide +kernel) (by decide) (.inl rfl) (by kernel_rfl) hall
theorem memoW : MemoOk Tryz.prog moW := by
  intro g m hg vs h nx v h' nx' hr
  unfold moW at hg
  cases e : Nat.beq g 66 with
  | true => rw [e] at hg; injection hg with hg; subst hg; rw [beqF e]; exact cdec_ok hr
  | false =>
  rw [e] at hg
  cases e : Nat.beq g 4 with
  | true => rw [e] at hg; injection hg with hg; subst hg; rw [beqF e]; exact beg_ok hr
  | false =>
  rw [e] at hg
  cases e : Nat.beq g 15 with
  | true => rw [e] at hg; injection hg with hg; subst hg; rw [beqF e]; exact exactM_of drop_run hr
  | false =>
  rw [e] at hg
  cases e : Nat.beq g 16 with
  | true => rw [e] at hg; injection hg with hg; subst hg; rw [beqF e]; exact exactM_ok sndD run_rest hr
  | false => rw [e] at hg; cases hg
theorem w_wakes (w : World) : Ctr Tryz.prog 5 [] w [] fun v _ => v = .bool true := by
  obtain ⟨h2, nx2, r1, _⟩ := chkG_ok run_wk
  have := (snd_of memoW 300).fn 5 [] _ _ _ h2 nx2 r1 ⟨fun _ => none, rowTk [] (fun v h => absurd h List.not_mem_nil)⟩ w [] [] trivial ⟨fun _ _ => rfl, fun _ _ _ _ _ _ _ _ _ h _ => (by cases h), fun k o hk => (by rw [get8_emp] at hk; cases hk)⟩ (fun _ h => by cases h) List.nodup_nil
  rcases this with ⟨_, h3⟩ | ⟨x, w', L', h3, _⟩
  · exact h3.mono fun v L ⟨_, _, h4, _⟩ => h4
  · exact absurd (h3.symm.trans (hasB_ok (show hasB Tryz.prog 5 = true by kernel_rfl) _ w)) (by simp)
end Go.Proofs.YtpcdcemcjbeajaaGreatDoor
end
section
namespace Go.Proofs.YtpcdcemcjbeajaaGreatDoor
open Go Go.RowKit
theorem w_wholeFar (many : List Bool) (adds picks : List Int) (A0 A1 A2 : Option Addr) (c0 c1 c2 : Nat) (w : World) (hm : many.length ≤ 140737488351232) (hr0 : Rd w A0 (bools many)) (hr1 : Rd w A1 (i8s adds)) (hr2 : Rd w A2 (ints picks)) (hn : ∀ n ∈ adds, -128 ≤ n ∧ n ≤ 127) :
    Ctr Tryz.prog 3 [.slice A0 many.length c0, .slice A1 adds.length c1, .slice A2 picks.length c2] w [] fun v _ => v = .bool true := by
  obtain ⟨K, hS, hB⟩ := begins many
  exact w_far hS many hB w_wakes adds picks A0 A1 A2 c0 c1 c2 w hm hr0 hr1 hr2 hn
end Go.Proofs.YtpcdcemcjbeajaaGreatDoor
end
