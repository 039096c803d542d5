/- WholeFar: FarSa, FarSb. -/
import Derived.Test.YtpcdcemcjbeajaaGreatDoorWf12
section
set_option linter.unusedVariables false
set_option linter.unusedSimpArgs false
set_option maxRecDepth 100000
namespace Go.Proofs.YtpcdcemcjbeajaaGreatDoor
open Go Go.RowKit
noncomputable def enx : Nat → Nat
  | 0 => 902
  | 1 => 1010
  | 2 => 1120
  | _ => 1225
noncomputable def eLt (h : Nat) : Nat := enx h + 14 * h - 1
noncomputable def hbN (h i : Nat) : Nat := 686 + 3 * h + 11 * i
noncomputable def heN (h i : Nat) : Nat := enx i + 14 * h
noncomputable def evS (r : Nat) : List S := [iI 1, iU r, iI 0, iI 0, iI 0, iI 0]
noncomputable def evsS : Nat → List S
  | 0 => []
  | n + 1 => evS 4294967297 ++ evsS n
noncomputable def hmPs (h : Nat) : Nat → Nat → List S
  | _, 0 => []
  | i, n + 1 => pP (hbN h i) 0 :: hmPs h (i + 1) n
noncomputable def esF (h : Nat) : List (Nm × O) := [
 (mn (707 + 14 * h), .c 241 0 0 [iI 256, iW 1, xsn, xsn, iI 0]),
 (mn (709 + 14 * h), .c 42 0 0 [pP (708 + 14 * h) 0, iI (h + 1), rL (eLt h) (h + 3)]),
 (mn (708 + 14 * h), .c 77 0 0 [pP (683 + 3 * h) 0, xsn, xsn, xsn, xsn, xsn, xsn, xsn, xsn, xsn]),
 (mn (683 + 3 * h), .c 103 0 0 [rL (18 + 3 * h) (h + 1), .l (mn 14) 0 1 1 false, iI 2, iI 2, iI 1, rL (694 + 14 * h) (h + 1), pP (696 + 14 * h) 0, .x (.m (mn (682 + 3 * h))), pP (699 + 14 * h) 0, pP (701 + 14 * h) 0, pP (703 + 14 * h) 0, pP (706 + 14 * h) 0, pP (24 + 3 * h) 0, pP (707 + 14 * h) 0, iU 0, xpn, xsn, rL (eLt h - 3) 1]),
 (mn (694 + 14 * h), .c 111 1 (h + 1) (pP (686 + 3 * h) 0 :: hmPs h 1 h)),
 (mn (eLt h), .c 50 6 (h + 3) (evS 4294967297 ++ (evS 4294967297 ++ (evS 4294967298 ++ evsS h)))),
 (mn (696 + 14 * h), .c 212 0 0 [iW 1048576, pP (695 + 14 * h) 0]),
 (mn (695 + 14 * h), .c 332 0 0 [iI 256, iW 1, rL (757 + 14 * h) 1, xsn, iI 1]),
 (mn (757 + 14 * h), .c 488 3 1 [pP (754 + 14 * h) 0, iW 1, bT]),
 (mn (754 + 14 * h), .c 367 0 0 [iW 3, iU 0, iI 0, .l (mn (753 + 14 * h)) 0 2 2 false, xsn]),
 (mn (682 + 3 * h), .m [(.s (iU 4294967297), .a [iI 0, iI 0, iI 0], 0)] 1),
 (mn (24 + 3 * h), .c 184 0 0 [rL (681 + 3 * h) 1, iI 1]),
 (mn (681 + 3 * h), .c 159 1 1 [pP (678 + 3 * h) 0]),
 (mn (678 + 3 * h), .c 164 0 0 [rL (658 + 3 * h) 343, rL (663 + 3 * h) 2, bT, iW 1, iW 0, iW 0, iI 0]),
 (mn (658 + 3 * h), .c 5 1 343 formC),
 (mn (706 + 14 * h), .c 238 0 0 [iI 4096, xsn, .x (.m (mn (704 + 14 * h))), .x (.m (mn (705 + 14 * h)))]),
 (mn (704 + 14 * h), .m [] 0),
 (mn (705 + 14 * h), .m [] 0),
 (mn (686 + 3 * h), .c 118 0 0 [bF, bF, pP (687 + 3 * h) 0, pP (689 + 3 * h) 0, pP (691 + 3 * h) 0, pP (685 + 3 * h) 0, pP (692 + 3 * h) 0, xsn]),
 (mn (687 + 3 * h), .c 191 0 0 [iI 256, iW 1, rL (894 + 14 * h) 2, xsn, iI 2]),
 (mn (894 + 14 * h), .c 344 21 2 [iI 1, iU 4294967297, iB 0, iB 0, iB 0, iB 0, iB 0, iB 0, iB 0, iB 0, iB 0, iB 0, iB 0, iB 0, iB 0, iB 0, iB 0, iB 0, iW 1, iW 1, bT, iI 1, iU 4294967297, iB 0, iB 0, iB 0, iB 0, iB 0, iB 0, iB 0, iB 0, iB 0, iB 0, iB 0, iB 0, iB 0, iB 0, iB 0, iB 0, iW 1, iW 1, bT]),
 (mn (689 + 3 * h), .c 197 0 0 [iU 0, pP (688 + 3 * h) 0]),
 (mn (688 + 3 * h), .c 326 0 0 [iI 1024, iW 1, rL (818 + 14 * h) 1, xsn, iI 1]),
 (mn (818 + 14 * h), .c 363 3 1 [pP (812 + 14 * h) 0, iW 1, bT]),
 (mn (812 + 14 * h), .c 263 0 0 [iU 4294967297, iB 0, iB 0, iB 0, iB 0, iB 0, iB 0, iB 0, iB 0, iB 0, iB 0, iB 0, iB 0, iB 0, iB 0, iB 0, iB 0, pP (815 + 14 * h) 0, iW 0, iW 1, iW 0]),
 (mn (692 + 3 * h), .c 206 0 0 [iI 16, xsn, iI 0, iI 0])]
noncomputable def esH (h i : Nat) : List (Nm × O) := [
 (mn (hbN h i), .c 118 0 0 [tK i, bF, pP (hbN h i + 1) 0, pP (hbN h i + 3) 0, pP (hbN h i + 5) 0, pP (hbN h i - 1) 0, pP (hbN h i + 6) 0, xsn]),
 (mn (hbN h i + 1), .c 191 0 0 [iI 256, iW 1, rL (heN h i - 8) 1, xsn, iI 1]),
 (mn (heN h i - 8), .c 344 21 1 [iI 2, iU (i * 1152921504606846976 + 4294967297), iB 0, iB 0, iB 0, iB 0, iB 0, iB 0, iB 0, iB 0, iB 0, iB 0, iB 0, iB 0, iB 0, iB 0, iB 0, iB 0, iW 1, iW 1, bT]),
 (mn (hbN h i + 5), .c 203 0 0 [pP (hbN h i + 4) 0]),
 (mn (hbN h i + 4), .c 329 0 0 [iI 256, iW 1, rL (heN h i - 23) 1, xsn, iI 1]),
 (mn (heN h i - 23), .c 485 3 1 [pP (heN h i - 27) 0, iW 1, bT]),
 (mn (heN h i - 27), .c 408 0 0 [iU 0, iU 4294967297, iW 1, bF, rL (heN h i - 17) 1]),
 (mn (heN h i - 17), .c 148 36 1 [iW 0, iW 1, iU 0, iU 4294967297, iB 0, iB 0, iB 0, iB 0, iB 0, iB 0, iB 0, iB 0, iB 0, iB 0, iB 0, iB 1, iB 0, iB 0, iB 0, iB 1, iB 0, iB 0, iB 0, iB 0, iB 0, iB 0, iB 0, iB 0, iB 0, iB 0, iB 0, iB 0, iB 0, iB 0, iB 0, iB 0]),
 (mn (hbN h i + 6), .c 206 0 0 [iI 16, xsn, iI 0, iI 0])]
noncomputable def esHs (h : Nat) : Nat → Nat → List (Nm × O)
  | _, 0 => []
  | i, n + 1 => esH h i ++ esHs h (i + 1) n
noncomputable def esS (h : Nat) : List (Nm × O) := esF h ++ esHs h 1 h
noncomputable def actO (kind : Nat) (at_ ref other : S) : V := .a [iI kind, at_, ref, other, iB 0, iB 0, iB 0, iB 0, iB 0, iB 0, iB 0, iB 0, iB 0, iB 0, iB 0, iB 0, iB 0, iB 0, iB 0, iB 0, iI 0, iB 0, iB 0, iB 0, iB 0, iB 0, iB 0, iB 0, iB 0, iB 0, iB 0, iB 0, iB 0, iB 0, iB 0, iB 0, iB 0, .x (.str ⟨⟨[]⟩⟩), iU 0, xsn, iI 0, iI 0, bF]
noncomputable def gV (h : Nat) : V := .s (pP (709 + 14 * h) 0)
noncomputable def okc (r : Rs) (v : V) (k : Hp → Nm → Bool) : Bool := match r with | .F v' hp nx => cond (beqV v' v) (k hp nx) false | _ => false
noncomputable def gets (K : Ih) (h : Nat) : Nat → Nat → Hp → Nm → Bool
  | 0, _, hp, _ => covB hp (esS h)
  | n + 1, i, hp, nx => covB hp [(mn (709 + 14 * h), .c 42 0 0 [pP (708 + 14 * h) 0, iI (h + 1), rL (cond (Nat.beq i 0) 859 (enx (i - 1) - 1) + 14 * h) (i + 2)])] && okc (K (.F 7 [gV h, actO 10 (iI i) (iU 0) (iU 4294967297)] hp nx)) (.s (iU (cond (Nat.beq i 0) 4294967298 4294967297))) (gets K h n (i + 1))
noncomputable def chn (K : Ih) (h : Nat) (row : O) (len : Nat) : Bool := okc (K (.F 4 [.s (.l (mn 1) 0 len 0 true)] (setAll [(mn 1, row)] (emp8 none)) (mn 2))) (gV h) fun h0 n0 => okc (K (.F 6 [gV h, .s (iI 0)] (set8 (mn 1) none h0) n0)) (.s (iU 4294967297)) fun h1 n1 => okc (K (.F 7 [gV h, actO 9 (iI 0) (iU 4294967297) (iU 0)] h1 n1)) (.s (iU 4294967297)) (gets K h (h + 1) 0)
theorem ch1 : chn KA 1 (.c 4 1 2 [bF, tK 1]) 2 = true := by decide +kernel
end Go.Proofs.YtpcdcemcjbeajaaGreatDoor
end
section
set_option linter.unusedVariables false
set_option linter.unusedSimpArgs false
set_option maxRecDepth 100000
namespace Go.Proofs.YtpcdcemcjbeajaaGreatDoor
open Go Go.RowKit
theorem call_hr {K : Ih} (hS : Snd Tryz.prog K) {g : FuncId} {vs : List V} {h h' : Hp} {nx nx' : Nm} {v : V} (hr : K (.F g vs h nx) = .F v h' nx') (hen : ∀ args w, (callFunc g args).run Tryz.prog w = .ok (.enter g args) w) {σ : Sg} {w : World} {L : List Ent} {args : List Value} (ha : All2 (okV σ) vs args) (hH : HR σ nx h L) (hown : ∀ p ∈ L, w.heap[p.1]? = some p.2) (hnd : (keys L).Nodup) : Ctr Tryz.prog g args w L fun x L' => ∃ σ', Sg.le σ σ' ∧ okV σ' v x ∧ HR σ' nx' h' L' := by
  rcases hS.fn g vs h nx v h' nx' hr σ w L args ha hH hown hnd with ⟨_, hc⟩ | ⟨x1, w', L', hc, _⟩
  · exact hc
  · rw [hen] at hc; injection hc with hc; cases hc
theorem okc_ok {r : Rs} {v : V} {k : Hp → Nm → Bool} (h : okc r v k = true) : ∃ hp nx, r = .F v hp nx ∧ k hp nx = true := by
  unfold okc at h
  split at h
  · rename_i v' hp nx
    cases hb : beqV v' v with
    | true => rw [hb] at h; rw [beqV_eq hb]; exact ⟨hp, nx, rfl, h⟩
    | false => rw [hb] at h; cases h
  · cases h
theorem ent4 : ∀ args w, (callFunc 4 args).run Tryz.prog w = .ok (.enter 4 args) w := enters_of Tryz.func4 (by kernel_rfl) rfl
theorem ent6 : ∀ args w, (callFunc 6 args).run Tryz.prog w = .ok (.enter 6 args) w := enters_of Tryz.func6 (by kernel_rfl) rfl
theorem ent7 : ∀ args w, (callFunc 7 args).run Tryz.prog w = .ok (.enter 7 args) w := enters_of Tryz.func7 (by kernel_rfl) rfl
def actL (kind at_ ref other : Int) : List Value := [.int .i64 kind, .int .i64 at_, .int .u64 ref, .int .u64 other, .int .u8 0, .int .u8 0, .int .u8 0, .int .u8 0, .int .u8 0, .int .u8 0, .int .u8 0, .int .u8 0, .int .u8 0, .int .u8 0, .int .u8 0, .int .u8 0, .int .u8 0, .int .u8 0, .int .u8 0, .int .u8 0, .int .i64 0, .int .u8 0, .int .u8 0, .int .u8 0, .int .u8 0, .int .u8 0, .int .u8 0, .int .u8 0, .int .u8 0, .int .u8 0, .int .u8 0, .int .u8 0, .int .u8 0, .int .u8 0, .int .u8 0, .int .u8 0, .int .u8 0, .string ⟨⟨[]⟩⟩, .int .u64 0, .slice none 0 0, .int .i64 0, .int .i64 0, .bool false]
def actOV (kind at_ ref other : Int) : Value := .agg (actL kind at_ ref other).toArray
noncomputable def tkF (fl : Nat → Bool) : Tk := ⟨fun i => .bool (fl i), fun _ => ⟨rfl, rfl⟩, fun _ => .m [] 0⟩
def Stu (h gb : Nat) (fl : Nat → Bool) (rest : Hp → Nm → Bool) (L : List Ent) : Prop := ∃ σ hp nx, HR σ nx hp L ∧ rest hp nx = true ∧ (∃ c, σ (mn (709 + 14 * h)) = some (gb, c)) ∧ σ.tk = tkF fl
section
variable {K : Ih} (hS : Snd Tryz.prog K) {h gb : Nat} {fl : Nat → Bool} {w : World} {L : List Ent} (hown : ∀ p ∈ L, w.heap[p.1]? = some p.2) (hnd : (keys L).Nodup)
include hS hown hnd
theorem stg_call {g : FuncId} {vs : List V} {args : List Value} {n : Nat} {rest : Hp → Nm → Bool} (hen : ∀ args w, (callFunc g args).run Tryz.prog w = .ok (.enter g args) w) (ha : ∀ σ : Sg, (∃ c, σ (mn (709 + 14 * h)) = some (gb, c)) → All2 (okV σ) vs args) (hst : Stu h gb fl (fun hp nx => okc (K (.F g vs hp nx)) (.s (iU n)) rest) L) : Ctr Tryz.prog g args w L fun x L' => x = .int .u64 (n : Int) ∧ Stu h gb fl rest L' := by
  obtain ⟨σ, hp, nx, hH, hr, hg, ht⟩ := hst
  obtain ⟨hp', nx', hr1, hr2⟩ := okc_ok hr
  refine (call_hr hS hr1 hen (ha σ hg) hH hown hnd).mono ?_
  rintro x L' ⟨σ', hle, hv, hH'⟩
  obtain ⟨c, hg⟩ := hg
  exact ⟨hv, σ', hp', nx', hH', hr2, ⟨c, hle.keep.mp _ _ hg⟩, by rw [hle.keep.tk]; exact ht⟩
theorem stg_made (hst : Stu h gb fl (fun hp nx => okc (K (.F 6 [gV h, .s (iI 0)] hp nx)) (.s (iU 4294967297)) fun h1 n1 => okc (K (.F 7 [gV h, actO 9 (iI 0) (iU 4294967297) (iU 0)] h1 n1)) (.s (iU 4294967297)) (gets K h (h + 1) 0)) L) : Ctr Tryz.prog 6 [.pointer (some ⟨gb, 0, none⟩), .int .i64 0] w L fun x L' => x = .int .u64 4294967297 ∧ Stu h gb fl (fun h1 n1 => okc (K (.F 7 [gV h, actO 9 (iI 0) (iU 4294967297) (iU 0)] h1 n1)) (.s (iU 4294967297)) (gets K h (h + 1) 0)) L' :=
  stg_call hS hown hnd (vs := [gV h, .s (iI 0)]) (n := 4294967297) ent6 (fun σ ⟨c, hg⟩ => ⟨⟨gb, c, hg, rfl⟩, rfl, trivial⟩) hst
theorem stg_put (hst : Stu h gb fl (fun h1 n1 => okc (K (.F 7 [gV h, actO 9 (iI 0) (iU 4294967297) (iU 0)] h1 n1)) (.s (iU 4294967297)) (gets K h (h + 1) 0)) L) : Ctr Tryz.prog 7 [.pointer (some ⟨gb, 0, none⟩), actOV 9 0 4294967297 0] w L fun x L' => x = .int .u64 4294967297 ∧ Stu h gb fl (gets K h (h + 1) 0) L' :=
  stg_call hS hown hnd (vs := [gV h, actO 9 (iI 0) (iU 4294967297) (iU 0)]) (n := 4294967297) ent7 (fun σ ⟨c, hg⟩ => ⟨⟨gb, c, hg, rfl⟩, ⟨actL 9 0 4294967297 0, ⟨rfl, rfl, rfl, rfl, rfl, rfl, rfl, rfl, rfl, rfl, rfl, rfl, rfl, rfl, rfl, rfl, rfl, rfl, rfl, rfl, rfl, rfl, rfl, rfl, rfl, rfl, rfl, rfl, rfl, rfl, rfl, rfl, rfl, rfl, rfl, rfl, rfl, rfl, rfl, rfl, rfl, rfl, rfl, trivial⟩, rfl⟩, trivial⟩) hst
def refOf (i : Nat) : Nat := cond (Nat.beq i 0) 4294967298 4294967297
theorem stg_get {n i : Nat} (hst : Stu h gb fl (gets K h (n + 1) i) L) : Ctr Tryz.prog 7 [.pointer (some ⟨gb, 0, none⟩), actOV 10 (i : Int) 0 4294967297] w L fun x L' => x = .int .u64 (refOf i : Int) ∧ Stu h gb fl (gets K h n (i + 1)) L' := by
  obtain ⟨σ, hp, nx, hH, hr, hg, ht⟩ := hst
  have hr : (covB hp _ && okc _ _ (gets K h n (i + 1))) = true := hr
  rw [Bool.and_eq_true] at hr
  exact stg_call hS hown hnd (vs := [gV h, actO 10 (iI i) (iU 0) (iU 4294967297)]) (n := refOf i) (rest := gets K h n (i + 1)) ent7 (fun σ ⟨c, hg⟩ => ⟨⟨gb, c, hg, rfl⟩, ⟨actL 10 i 0 4294967297, ⟨rfl, rfl, rfl, rfl, rfl, rfl, rfl, rfl, rfl, rfl, rfl, rfl, rfl, rfl, rfl, rfl, rfl, rfl, rfl, rfl, rfl, rfl, rfl, rfl, rfl, rfl, rfl, rfl, rfl, rfl, rfl, rfl, rfl, rfl, rfl, rfl, rfl, rfl, rfl, rfl, rfl, rfl, rfl, trivial⟩, rfl⟩, trivial⟩) ⟨σ, hp, nx, hH, hr.2, hg, ht⟩
end
theorem game_of {σ : Sg} {hp : Hp} {nx : Nm} {L : List Ent} {h gb c : Nat} {x y : S} (hH : HR σ nx hp L) (hg : σ (mn (709 + 14 * h)) = some (gb, c)) (hc : get8 (mn (709 + 14 * h)) hp = some (.c 42 0 0 [x, iI (h + 1), y])) : ∃ u v, (gb, cel 42 [u, .int .i64 ((h + 1 : Nat) : Int), v]) ∈ L := by
  obtain ⟨b, c', ob, h1, h2, h3⟩ := hH.own _ _ hc
  rw [hg] at h1
  injection h1 with h1
  injection h1 with h1 _
  subst h1
  obtain ⟨vs, junk, h4, rfl, _, h5⟩ := h3
  match vs, h4 with
  | [u, m, v], ⟨_, hm, _, _⟩ =>
    have hm : m = .int .i64 ((h + 1 : Nat) : Int) := hm
    subst hm
    rw [h5 rfl, List.append_nil] at h2
    exact ⟨u, v, h2⟩
theorem stg_homes {K : Ih} {h gb n i : Nat} {fl : Nat → Bool} {L : List Ent} (hst : Stu h gb fl (gets K h n i) L) : ∃ u v, (gb, cel 42 [u, .int .i64 ((h + 1 : Nat) : Int), v]) ∈ L := by
  obtain ⟨σ, hp, nx, hH, hr, ⟨c, hg⟩, ht⟩ := hst
  cases n with
  | zero =>
    have hr : covB hp (esS h) = true := hr
    exact game_of hH hg (covB_ok hr _ (List.mem_append_left _ (List.mem_cons_of_mem _ List.mem_cons_self)))
  | succ n =>
    have hr : (covB hp [_] && okc _ _ (gets K h n (i + 1))) = true := hr
    rw [Bool.and_eq_true] at hr
    exact game_of hH hg (covB_ok hr.1 _ List.mem_cons_self)
theorem stg_begun {K : Ih} (hS : Snd Tryz.prog K) {h len cap bb : Nat} {ks : List S} {vs jk : List Value} {fl : Nat → Bool} {w : World} (hc : chn K h (.c 4 1 len ks) len = true) (hk : ∀ σ : Sg, σ.tk = tkF fl → All2 (okS σ) ks vs) (hl : ks.length = len) (hcap : len + jk.length = cap) (hown : w.heap[bb]? = some (cel 4 (vs ++ jk))) : Ctr Tryz.prog 4 [.slice (some ⟨bb, 0, none⟩) len cap] w [(bb, cel 4 (vs ++ jk))] fun x L' => ∃ gb, x = .pointer (some ⟨gb, 0, none⟩) ∧ Stu h gb fl (fun hp nx => okc (K (.F 6 [gV h, .s (iI 0)] hp nx)) (.s (iU 4294967297)) fun h1 n1 => okc (K (.F 7 [gV h, actO 9 (iI 0) (iU 4294967297) (iU 0)] h1 n1)) (.s (iU 4294967297)) (gets K h (h + 1) 0)) L' := by
  obtain ⟨h0, n0, hr1, hr2⟩ := okc_ok hc
  have h1 : (mn 1).val = 1 := by decide +kernel
  have h2 : (mn 2).val = 2 := by decide +kernel
  have hs1 : sg0 [(0, 0), (bb, cap)] (tkF fl) (mn 1) = some (bb, cap) := by
    show [(0, 0), (bb, cap)][(mn 1).val]? = _
    rw [h1]; rfl
  have hk := hk (sg0 [(0, 0), (bb, cap)] (tkF fl)) rfl
  have hvl := hk.length
  have hH : HR (sg0 [(0, 0), (bb, cap)] (tkF fl)) (mn 2) (setAll [(mn 1, O.c 4 1 len ks)] (emp8 none)) [(bb, cel 4 (vs ++ jk))] := by
    refine hr_of (fun m hm => ?_) ⟨⟨cap, hs1, vs, jk, hk, rfl, fun _ => ⟨by omega, by omega⟩, fun h => by cases h⟩, trivial⟩ (by simp [keys])
    show [(0, 0), (bb, cap)][m.val]? = none
    rw [h2] at hm
    exact List.getElem?_eq_none (by simpa using hm)
  refine (call_hr hS hr1 ent4 (args := [.slice (some ⟨bb, 0, none⟩) len cap]) ⟨⟨bb, cap, hs1, by omega, rfl⟩, trivial⟩ hH (fun p hp => by rw [List.mem_singleton.1 hp]; exact hown) (by simp [keys])).mono ?_
  rintro x L' ⟨σ', hle, ⟨gb, c, hg, rfl⟩, hH'⟩
  exact ⟨gb, rfl, σ', _, n0, hH'.less, hr2, ⟨c, hg⟩, hle.keep.tk⟩
end Go.Proofs.YtpcdcemcjbeajaaGreatDoor
end
