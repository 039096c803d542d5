/- WholeFar: EvQ. -/
import Derived.Test.YtpcdcemcjbeajaaGreatDoorWf01
import Derived.Test.YtpcdcemcjbeajaaGreatDoorWf03
set_option linter.unusedVariables false
set_option linter.unusedSimpArgs false
namespace Go.Proofs.YtpcdcemcjbeajaaGreatDoor
open Go.RowKit
def good (r : Rs) : Prop := ∀ n, r ≠ .bad n
theorem good_bad {n : Nat} {p : Prop} (h : good (.bad n)) : p := absurd rfl (h n)
section
variable {r : Rs}
theorem onV_ok {α : Type} {x : Option α} {f : α → Rs} (hr : onV x f = r) (hg : good r) : ∃ v, x = some v ∧ f v = r := by
  cases x with
  | none => subst hr; exact good_bad hg
  | some v => exact ⟨v, rfl, hr⟩
theorem onS_ok {x : Option V} {f : S → Rs} (hr : onS x f = r) (hg : good r) : ∃ v, x = some (.s v) ∧ f v = r := by
  obtain ⟨v, rfl, hr⟩ := onV_ok hr hg
  cases v with
  | s v => exact ⟨v, rfl, hr⟩
  | a l => subst hr; exact good_bad hg
  | t l => subst hr; exact good_bad hg
theorem onP_ok {x : Option V} {f : Nm → Nat → Rs} (hr : onP x f = r) (hg : good r) : ∃ n o, x = some (.s (.p n o)) ∧ f n o = r := by
  obtain ⟨v, rfl, hr⟩ := onS_ok hr hg
  cases v with
  | p n o => exact ⟨n, o, rfl, hr⟩
  | _ => subst hr; exact good_bad hg
theorem onI_ok {x : Option V} {f : IntKind → Int → Rs} (hr : onI x f = r) (hg : good r) : ∃ k n, x = some (.s (.i k n)) ∧ f k n = r := by
  obtain ⟨v, rfl, hr⟩ := onS_ok hr hg
  cases v with
  | i k n => exact ⟨k, n, rfl, hr⟩
  | _ => subst hr; exact good_bad hg
theorem onB_ok {x : Option V} {f : Bool → Rs} (hr : onB x f = r) (hg : good r) : ∃ b, x = some (.s (.b b)) ∧ f b = r := by
  obtain ⟨v, rfl, hr⟩ := onS_ok hr hg
  cases v with
  | b b => exact ⟨b, rfl, hr⟩
  | _ => subst hr; exact good_bad hg
theorem onL_ok {x : Option V} {f : Nm → Nat → Nat → Nat → Bool → Rs} (hr : onL x f = r) (hg : good r) : ∃ n o len c b, x = some (.s (.l n o len c b)) ∧ f n o len c b = r := by
  obtain ⟨v, rfl, hr⟩ := onS_ok hr hg
  cases v with
  | l n o len c b => exact ⟨n, o, len, c, b, rfl, hr⟩
  | _ => subst hr; exact good_bad hg
theorem onA_ok {x : Option V} {f : List S → Rs} (hr : onA x f = r) (hg : good r) : ∃ l, x = some (.a l) ∧ f l = r := by
  obtain ⟨v, rfl, hr⟩ := onV_ok hr hg
  cases v with
  | a l => exact ⟨l, rfl, hr⟩
  | s l => subst hr; exact good_bad hg
  | t l => subst hr; exact good_bad hg
theorem onT_ok {x : Option V} {f : List A1 → Rs} (hr : onT x f = r) (hg : good r) : ∃ l, x = some (.t l) ∧ f l = r := by
  obtain ⟨v, rfl, hr⟩ := onV_ok hr hg
  cases v with
  | t l => exact ⟨l, rfl, hr⟩
  | s l => subst hr; exact good_bad hg
  | a l => subst hr; exact good_bad hg
theorem onC_ok {x : Option O} {f : TypeId → Nat → Nat → List S → Rs} (hr : onC x f = r) (hg : good r) : ∃ t m n ks, x = some (.c t m n ks) ∧ f t m n ks = r := by
  obtain ⟨v, rfl, hr⟩ := onV_ok hr hg
  cases v with
  | c t m n ks => exact ⟨t, m, n, ks, rfl, hr⟩
  | _ => subst hr; exact good_bad hg
theorem onLp_ok {x : Option O} {f : Ex → Nat → En → List Nat → Code → Code → Rs} (hr : onLp x f = r) (hg : good r) : ∃ e n env ps asg body, x = some (.lp e n env ps asg body) ∧ f e n env ps asg body = r := by
  obtain ⟨v, rfl, hr⟩ := onV_ok hr hg
  cases v with
  | lp e n env ps asg body => exact ⟨e, n, env, ps, asg, body, rfl, hr⟩
  | _ => subst hr; exact good_bad hg
theorem onM_ok {x : Option O} {f : List (A1 × A1 × Nat) → Nat → Rs} (hr : onM x f = r) (hg : good r) : ∃ es clk, x = some (.m es clk) ∧ f es clk = r := by
  cases x with
  | none => subst hr; exact good_bad hg
  | some v =>
    cases v with
    | m es clk => exact ⟨es, clk, rfl, hr⟩
    | _ => subst hr; exact good_bad hg
theorem onN_ok {i : Int} {f : Nat → Rs} (hr : onN i f = r) (hg : good r) : ∃ n : Nat, i = (n : Int) ∧ f n = r := by
  cases i with
  | ofNat n => exact ⟨n, rfl, hr⟩
  | negSucc n => subst hr; exact good_bad hg
theorem onF_ok {x : Rs} {f : V → Hp → Nm → Rs} (hr : onF x f = r) (hg : good r) : ∃ v h nx, x = .F v h nx ∧ f v h nx = r := by
  cases x with
  | F v h nx => exact ⟨v, h, nx, rfl, hr⟩
  | bad n => subst hr; exact good_bad hg
  | C e env h nx ds => subst hr; exact good_bad hg
theorem onE_ok {x : Rs} {f : Ex → En → Hp → Nm → List D → Rs} (hr : onE x f = r) (hg : good r) : ∃ e env h nx ds, x = .C e env h nx ds ∧ f e env h nx ds = r := by
  cases x with
  | C e env h nx ds => exact ⟨e, env, h, nx, ds, rfl, hr⟩
  | bad n => subst hr; exact good_bad hg
  | F v h nx => subst hr; exact good_bad hg
theorem exN_ok {e : Ex} {f : Rs} (hr : exN e f = r) (hg : good r) : e = .n ∧ f = r := by
  cases e with
  | n => exact ⟨rfl, hr⟩
  | _ => subst hr; exact good_bad hg
theorem noD_ok {ds : List D} {f : Rs} (hr : noD ds f = r) (hg : good r) : ds = [] ∧ f = r := by
  cases ds with
  | nil => exact ⟨rfl, hr⟩
  | cons => subst hr; exact good_bad hg
theorem cond_ok {b : Bool} {f : Rs} {n : Nat} (hr : cond b f (.bad n) = r) (hg : good r) : b = true ∧ f = r := by
  cases b with
  | true => exact ⟨rfl, hr⟩
  | false => subst hr; exact good_bad hg
theorem newK_ok {nx : Nm} {f : Nm → Rs} (hr : newK nx f = r) (hg : good r) : ∃ nx' : Nm, nx'.val = nx.val + 1 ∧ f nx' = r := by
  rcases suc8_eq nx f (.bad 70) with ⟨n', h1, h2⟩ | h2
  · exact ⟨n', h1, h2.symm.trans hr⟩
  · have h3 : newK nx f = .bad 70 := h2
    rw [h3] at hr; subst hr; exact good_bad hg
end
def ER (σ : Sg) (n : Nat) (env : En) (ρ : Env) : Prop := ∀ t v, t < n → t < 256 → get4 (slotK t) env = some v → okV σ v (ρ t)
def exE : Ex → Exit
  | .n => .normal
  | .x id => .exit id
  | .r => .ret
def MR (σ : Sg) (e : A1 × A1 × Nat) (x : MapEntry) : Prop := okA σ e.1 x.key ∧ okA σ e.2.1 x.val ∧ x.born = e.2.2
def tv (k : Tk) : S → Option Value
  | .i j n => some (.int j n)
  | .b x => some (.bool x)
  | .x (.tk i) => some (k.val i)
  | _ => none
def tvx (k : Tk) : S → Option Value
  | .x .sn => some (.slice none 0 0)
  | s => tv k s
def tvL (k : Tk) : List S → Option (List Value)
  | [] => some []
  | s :: l => (match tvx k s, tvL k l with | some v, some r => some (v :: r) | _, _ => none)
def SameKey (k : Tk) (a a' : A1) : Prop := ∀ nm v, okA ⟨nm, k⟩ a v → okA ⟨nm, k⟩ a' v
def le8 (x : Nat) : List Nat := [x / 1 % 256, x / 256 % 256, x / 65536 % 256, x / 16777216 % 256, x / 4294967296 % 256, x / 1099511627776 % 256, x / 281474976710656 % 256, x / 72057594037927936 % 256]
def pkCells (kd fr to seq call : Nat) (ip : List Nat) (me : Nat) (n : Int) (cd : Nat) : List Value := [.int .i64 (kd : Int), .int .i64 (fr : Int), .int .i64 (to : Int), .int .u64 (seq : Int), .int .u64 (call : Int)] ++ ip.map (fun (x : Nat) => Value.int .u8 (x : Int)) ++ [.int .i64 (me : Int), .int .i64 n, .int .i64 (cd : Int), .slice none 0 0]
def pkBytes (kd fr to seq call : Nat) (ip : List Nat) (me : Nat) (n : Int) (cd : Nat) : List Nat := [kd, fr, to, 0, 0, 0, 0, 0] ++ le8 seq ++ le8 call ++ (match kd with | 1 => ip ++ [me, 0, 0, 0, 0, 0, 0, 0] ++ le8 (n % 18446744073709551616).toNat ++ [0, 0, 0, 0, 0, 0, 0, 0] | _ => [cd, 0, 0, 0, 0, 0, 0, 0] ++ le8 (n % 18446744073709551616).toNat)
def PkRel (us vs : List Value) : Prop := ∃ (kd fr to seq call : Nat) (ip : List Nat) (me : Nat) (n : Int) (cd : Nat), us = pkCells kd fr to seq call ip me n cd ∧ vs = (pkBytes kd fr to seq call ip me n cd).map (fun (x : Nat) => Value.int .u8 (x : Int)) ∧ fr < 4 ∧ to < 4 ∧ fr ≠ to ∧ seq < 18446744073709551616 ∧ call < 18446744073709551616 ∧ -9223372036854775808 ≤ n ∧ n < 9223372036854775808 ∧
  ((kd = 1 ∧ ip = [0, 0, 0, 0, 0, 0, 0, 0, 0, 0, 0, 1, 0, 0, 0, 1] ∧ me = 0 ∧ cd = 0) ∨ (kd = 2 ∧ ip = [0, 0, 0, 0, 0, 0, 0, 0, 0, 0, 0, 0, 0, 0, 0, 0] ∧ me = 0 ∧ cd = 0))
def TbOk (k : Tk) : TbE → Prop
  | .bin op x y r => ∃ i a j b vr, tv k x = some (.int i a) ∧ tv k y = some (.int j b) ∧ tv k r = some vr ∧ ∀ P t w, (binOp op t (.int i a) (.int j b)).run P w = .ok vr w
  | .cv j x r => ∃ i n, tv k x = some (.int i n) ∧ tv k r = some (.int j (j.wrap n))
  | .ix j l => ∃ a b : Nat, k.val j = .int .i64 (a : Int) ∧ k.val l = .int .i64 (b : Int) ∧ a < b
  | .ld i j sz o cs => ∃ (a : Nat) (t r n : Nat) (ks : List S), k.val j = .int .i64 (a : Int) ∧ k.ob i = .c t r n ks ∧ cut ks (a * sz + o) cs.length = some cs
  | .st i j sz o cs i' => ∃ (a : Nat) (t r n : Nat) (ks ks' : List S), k.val j = .int .i64 (a : Int) ∧ k.ob i = .c t r n ks ∧ over ks (a * sz + o) cs = some ks' ∧ k.ob i' = .c t r n ks'
  | .ap i l cs m e sz i' l' => ∃ (a : Nat) (ks : List S), k.val l = .int .i64 (a : Int) ∧ k.val l' = .int .i64 ((a + m : Nat) : Int) ∧ k.ob i = .c e sz a ks ∧ ks.length = a * sz ∧ cs.length = m * sz ∧ 0 < sz ∧ 0 < m ∧ a + m ≤ 1000000 ∧ k.ob i' = .c e sz (a + m) (ks ++ cs)
  | .lk i key r => ∃ key' es clk, SameKey k key key' ∧ k.ob i = .m es clk ∧ ∀ κs, zB κs = true → keyB κs key = true → keyB κs key' = true ∧ findK κs key' es = some r
  | .up i key v i' => ∃ key' es clk, SameKey k key key' ∧ k.ob i = .m es clk ∧ ((∃ v', (∀ κs, zB κs = true → keyB κs key = true → keyB κs key' = true ∧ findK κs key' es = some (some v')) ∧ ∃ es', (∀ κs, zB κs = true → keyB κs key = true → updK κs key' v es = some es') ∧ k.ob i' = .m es' clk) ∨ ((∀ κs, zB κs = true → keyB κs key = true → keyB κs key' = true ∧ findK κs key' es = some none) ∧ k.ob i' = .m (es ++ [(key', v, clk)]) (clk + 1)))
  | .enc cs bs => ∃ us vs, tvL k cs = some us ∧ tvL k bs = some vs ∧ PkRel us vs
  | .del i l j j1 e sz i' l' => ∃ (a b : Nat) (ks : List S), k.val l = .int .i64 (a : Int) ∧ k.val j = .int .i64 (b : Int) ∧ k.val j1 = .int .i64 ((b + 1 : Nat) : Int) ∧ b < a ∧ a ≤ 12 ∧ k.val l' = .int .i64 ((a - 1 : Nat) : Int) ∧ k.ob i = .c e sz a ks ∧ 0 < sz ∧ k.ob i' = .c e sz (a - 1) (ks.take (b * sz) ++ ks.drop ((b + 1) * sz))
def ORb (σ : Sg) (c : Nat) : O → Obj → Prop
  | .c t r n ks, ob => ∃ vs junk, All2 (okS σ) ks vs ∧ ob = cel t (vs ++ junk) ∧ ((r ≠ 0 → ks.length = n * r ∧ vs.length + junk.length = c * r) ∧ (r = 0 → junk = []))
  | .m es clk, ob => ∃ l, All2 (MR σ) es l ∧ ob = .map l.toArray clk
  | _, _ => False
def OR (σ : Sg) (c : Nat) : O → Obj → Prop
  | .c t r n ks, ob => ∃ vs junk, All2 (okS σ) ks vs ∧ ob = cel t (vs ++ junk) ∧ ((r ≠ 0 → ks.length = n * r ∧ vs.length + junk.length = c * r) ∧ (r = 0 → junk = []))
  | .m es clk, ob => ∃ l, All2 (MR σ) es l ∧ ob = .map l.toArray clk
  | .it none since seen last, ob => ob = .mapIter none since seen.toArray last
  | .it (some m) since seen last, ob => ∃ b c, σ m = some (b, c) ∧ ob = .mapIter (some b) since seen.toArray last
  | .lp e n env ps asg body, ob => ∃ fn ρ ds dfs, ER σ n env ρ ∧ ob = .loop { state := if (exJump (exE e)).isNone then .ready else .done, pending := exJump (exE e), fn, tmps := (act n ρ ds).tmps, params := ps.toArray, assign := asg, body, defers := dfs }
  | .dm, ob => ob = .deferred (some [])
  | .op i, ob => ORb σ c (σ.tk.ob i) ob
  | .tb l, ob => ∀ e ∈ l, TbOk σ.tk e
structure HR (σ : Sg) (nx : Nm) (h : Hp) (L : List Ent) : Prop where
  fresh : ∀ m : Nm, nx.val ≤ m.val → σ m = none
  inj : ∀ n m x y b c d, get8 n h = some x → get8 m h = some y → σ n = some (b, c) → σ m = some (b, d) → n = m
  own : ∀ n o, get8 n h = some o → ∃ b c ob, σ n = some (b, c) ∧ (b, ob) ∈ L ∧ OR σ c o ob
def DR (σ : Sg) : D → Deferred → Prop
  | .mk n, d => ∃ b c, σ n = some (b, c) ∧ d = { target := .collected b, args := #[] }
  | .cl g caps, d => ∃ vs, All2 (Pl σ) caps vs ∧ d = { target := .fn (.func g) vs.toArray, args := #[] }
section
variable {σ σ' : Sg}
theorem ER.raw (hs : Sg.sub σ σ') {n : Nat} {env : En} {ρ : Env} (h : ER σ n env ρ) : ER σ' n env ρ := fun t v h1 h2 h3 => okV_raw hs (h t v h1 h2 h3)
theorem MR.raw (hs : Sg.sub σ σ') {e : A1 × A1 × Nat} {x : MapEntry} (h : MR σ e x) : MR σ' e x := ⟨okA_raw hs h.1, okA_raw hs h.2.1, h.2.2⟩
theorem ORb.raw (hs : Sg.sub σ σ') {c : Nat} {o : O} {ob : Obj} (h : ORb σ c o ob) : ORb σ' c o ob := by
  cases o with
  | c t r n ks => exact let ⟨vs, junk, h1, h2⟩ := h; ⟨vs, junk, h1.mono (fun _ _ => okS_raw hs), h2⟩
  | m es clk => exact let ⟨l, h1, h2⟩ := h; ⟨l, h1.mono (fun _ _ => MR.raw hs), h2⟩
  | _ => exact h
theorem ORb.or {c : Nat} {o : O} {ob : Obj} (h : ORb σ c o ob) : OR σ c o ob := by
  cases o with
  | c t r n ks => exact h
  | m es clk => exact h
  | _ => exact h.elim
theorem OR.raw (hs : Sg.sub σ σ') {c : Nat} {o : O} {ob : Obj} (h : OR σ c o ob) : OR σ' c o ob := by
  cases o with
  | c t r n ks => exact let ⟨vs, junk, h1, h2⟩ := h; ⟨vs, junk, h1.mono (fun _ _ => okS_raw hs), h2⟩
  | m es clk => exact let ⟨l, h1, h2⟩ := h; ⟨l, h1.mono (fun _ _ => MR.raw hs), h2⟩
  | it m since seen last =>
    cases m with
    | none => exact h
    | some m => exact let ⟨b, c, h1, h2⟩ := h; ⟨b, c, hs _ _ h1, h2⟩
  | lp e n env ps asg body => exact let ⟨fn, ρ, ds, dfs, h1, h2⟩ := h; ⟨fn, ρ, ds, dfs, h1.raw hs, h2⟩
  | dm => exact h
  | op i => show ORb σ' c (σ'.tk.ob i) ob; rw [hs.tk]; exact ORb.raw hs h
  | tb l => intro e he; rw [hs.tk]; exact h e he
theorem DR.raw (hs : Sg.sub σ σ') {d : D} {x : Deferred} (h : DR σ d x) : DR σ' d x := by
  cases d with
  | mk n => exact let ⟨b, c, h1, h2⟩ := h; ⟨b, c, hs _ _ h1, h2⟩
  | cl g caps => exact let ⟨vs, h1, h2⟩ := h; ⟨vs, h1.mono (fun _ _ => Pl.raw hs), h2⟩
theorem ER.mono (hs : Sg.le σ σ') {n : Nat} {env : En} {ρ : Env} (h : ER σ n env ρ) : ER σ' n env ρ := ER.raw hs.keep h
theorem MR.mono (hs : Sg.le σ σ') {e : A1 × A1 × Nat} {x : MapEntry} (h : MR σ e x) : MR σ' e x := MR.raw hs.keep h
theorem OR.mono (hs : Sg.le σ σ') {c : Nat} {o : O} {ob : Obj} (h : OR σ c o ob) : OR σ' c o ob := OR.raw hs.keep h
theorem DR.mono (hs : Sg.le σ σ') {d : D} {x : Deferred} (h : DR σ d x) : DR σ' d x := DR.raw hs.keep h
noncomputable def Sg.ext (σ : Sg) (n : Nm) (x : Nat × Nat) : Sg := ⟨fun m => cond (nmEq m n) (some x) (σ m), σ.tk⟩
theorem Sg.ext_same (n : Nm) (x : Nat × Nat) : σ.ext n x n = some x := by
  have : nmEq n n = true := by simp [nmEq]
  simp [Sg.ext, this]
theorem Sg.ext_ne {n m : Nm} (h : m ≠ n) (x : Nat × Nat) : σ.ext n x m = σ m := by
  cases e : nmEq m n with
  | true => exact absurd (nmEq_t e) h
  | false => simp [Sg.ext, e]
theorem Sg.le_ext {n : Nm} (h : ∀ m y, σ m = some y → m.val < n.val) (x : Nat × Nat) : Sg.le σ (σ.ext n x) := ⟨⟨fun m y hy => by
  by_cases e : m = n
  · subst e; exact absurd (h m y hy) (Nat.lt_irrefl _)
  · rw [Sg.ext_ne e]; exact hy, rfl⟩, fun m y hm hn q z hq => by
  by_cases e : m = n
  · subst e; exact h q z hq
  · rw [Sg.ext_ne e, hn] at hm; cases hm⟩
theorem HR.top {nx : Nm} {h : Hp} {L : List Ent} (hH : HR σ nx h L) (m : Nm) (y : Nat × Nat) (hm : σ m = some y) : m.val < nx.val := by
  cases Nat.lt_or_ge m.val nx.val with
  | inl h => exact h
  | inr h => rw [hH.fresh m h] at hm; cases hm
theorem HR.at {nx : Nm} {h : Hp} {L : List Ent} (hH : HR σ nx h L) : σ nx = none := hH.fresh nx (Nat.le_refl _)
theorem HR.lt {nx : Nm} {h : Hp} {L : List Ent} (hH : HR σ nx h L) {n : Nm} {o : O} (hn : get8 n h = some o) : n ≠ nx := fun e => by
  obtain ⟨b, c, ob, h1, _⟩ := hH.own n o hn
  rw [e, hH.at] at h1; cases h1
theorem HR.new {nx nx' : Nm} {h : Hp} {L : List Ent} (hH : HR σ nx h L) (hx : nx'.val = nx.val + 1) {b cap : Nat} {o : O} {ob : Obj} (hb : ∀ p ∈ L, p.1 ≠ b) (ho : OR σ cap o ob) : Sg.le σ (σ.ext nx (b, cap)) ∧ HR (σ.ext nx (b, cap)) nx' (set8 nx (some o) h) ((b, ob) :: L) := by
  have hle := Sg.le_ext hH.top (b, cap)
  have hne : ∀ m : Nm, nx'.val ≤ m.val → m ≠ nx := fun m hm e => by subst e; omega
  refine ⟨hle, fun m hm => ?_, fun n m x y b' c d hn hm hsn hsm => ?_, fun n o' hn => ?_⟩
  · rw [Sg.ext_ne (hne m hm)]; exact hH.fresh m (by omega)
  · by_cases en : n = nx
    · by_cases em : m = nx
      · rw [en, em]
      · subst en
        rw [Sg.ext_same] at hsn; rw [get8_ne em] at hm; rw [Sg.ext_ne em] at hsm
        obtain ⟨b1, c1, ob1, h1, h2, _⟩ := hH.own m y hm
        rw [h1] at hsm; injection hsm with e1; injection e1 with e2 e3; injection hsn with e4; injection e4 with e5 e6
        exact absurd (by rw [e2, e5]) (hb _ h2)
    · rw [get8_ne en] at hn; rw [Sg.ext_ne en] at hsn
      by_cases em : m = nx
      · subst em
        rw [Sg.ext_same] at hsm
        obtain ⟨b1, c1, ob1, h1, h2, _⟩ := hH.own n x hn
        rw [h1] at hsn; injection hsn with e1; injection e1 with e2 e3; injection hsm with e4; injection e4 with e5 e6
        exact absurd (by rw [e2, e5]) (hb _ h2)
      · rw [get8_ne em] at hm; rw [Sg.ext_ne em] at hsm
        exact hH.inj n m x y b' c d hn hm hsn hsm
  · by_cases en : n = nx
    · subst en
      rw [get8_same] at hn; injection hn with hn; subst hn
      exact ⟨b, cap, ob, Sg.ext_same _ _, List.mem_cons_self, ho.mono hle⟩
    · rw [get8_ne en] at hn
      obtain ⟨b1, c1, ob1, h1, h2, h3⟩ := hH.own n o' hn
      exact ⟨b1, c1, ob1, hle _ _ h1, List.mem_cons_of_mem _ h2, h3.mono hle⟩
theorem HR.wr {nx n : Nm} {h : Hp} {L1 L2 : List Ent} {b c : Nat} {ob ob' : Obj} {x o : O} (hH : HR σ nx h (L1 ++ (b, ob) :: L2)) (hn : get8 n h = some x) (hb : σ n = some (b, c)) (ho : OR σ c o ob') : HR σ nx (set8 n (some o) h) (L1 ++ (b, ob') :: L2) := by
  have back : ∀ m y, m ≠ n → get8 m (set8 n (some o) h) = some y → get8 m h = some y := fun m y e hm => by rwa [get8_ne e] at hm
  refine ⟨hH.fresh, fun p q u v b' c d hp hq hsp hsq => ?_, fun m y hm => ?_⟩
  · have e1 : ∃ u', get8 p h = some u' := by
      by_cases e : p = n
      · exact ⟨x, by rw [e]; exact hn⟩
      · exact ⟨u, back _ _ e hp⟩
    have e2 : ∃ u', get8 q h = some u' := by
      by_cases e : q = n
      · exact ⟨x, by rw [e]; exact hn⟩
      · exact ⟨v, back _ _ e hq⟩
    obtain ⟨_, e1⟩ := e1
    obtain ⟨_, e2⟩ := e2
    exact hH.inj p q _ _ b' c d e1 e2 hsp hsq
  · by_cases e : m = n
    · subst e
      rw [get8_same] at hm; injection hm with hm; subst hm
      exact ⟨b, c, ob', hb, by simp, ho⟩
    · have hm' := back _ _ e hm
      obtain ⟨b1, c1, ob1, h1, h2, h3⟩ := hH.own m y hm'
      have : b1 ≠ b := fun eb => e (hH.inj m n y x b c1 c hm' hn (by rw [← eb]; exact h1) hb)
      refine ⟨b1, c1, ob1, h1, ?_, h3⟩
      rcases List.mem_append.1 h2 with h2 | h2
      · exact List.mem_append_left _ h2
      · rcases List.mem_cons.1 h2 with h2 | h2
        · injection h2 with h2 _; exact absurd h2 this
        · exact List.mem_append_right _ (List.mem_cons_of_mem _ h2)
theorem HR.less {nx n : Nm} {h : Hp} {L : List Ent} (hH : HR σ nx h L) : HR σ nx (set8 n none h) L := by
  have back : ∀ m y, get8 m (set8 n none h) = some y → m ≠ n ∧ get8 m h = some y := fun m y hm => by
    by_cases e : m = n
    · subst e; rw [get8_same] at hm; cases hm
    · exact ⟨e, by rwa [get8_ne e] at hm⟩
  exact ⟨hH.fresh, fun p q u v b' c d hp hq hsp hsq => hH.inj p q u v b' c d (back _ _ hp).2 (back _ _ hq).2 hsp hsq, fun m y hm => hH.own m y (back _ _ hm).2⟩
theorem HR.perm {nx : Nm} {h : Hp} {L L' : List Ent} (hH : HR σ nx h L) (hs : ∀ p ∈ L, p ∈ L') : HR σ nx h L' :=
  ⟨hH.fresh, hH.inj, fun m y hm => let ⟨b, c, ob, h1, h2, h3⟩ := hH.own m y hm; ⟨b, c, ob, h1, hs _ h2, h3⟩⟩
end
theorem slotB_ok {t n : Nat} (h : slotB t n = true) : t < n ∧ t < 256 := by
  unfold slotB at h
  rw [Bool.and_eq_true, Nat.blt_eq, Nat.blt_eq] at h
  exact h
theorem er_put {σ : Sg} {n : Nat} {env : En} {ρ : Env} (h : ER σ n env ρ) {d : Option Nat} {v : V} {x : Value} (hv : okV σ v x) : ER σ n (put (dstP n d) v env) (updO ρ d x) := by
  cases d with
  | none => exact h
  | some d =>
    intro t w h1 h2 h3
    show okV σ w (upd ρ d x t)
    have h4 : get4 (slotK t) (put (cond (slotB d n) (some (slotK d)) none) v env) = some w := h3
    cases hb : slotB d n with
    | false =>
      rw [hb] at h4
      have : t ≠ d := fun e => by subst e; unfold slotB at hb; rw [blt_true h1, blt_true h2] at hb; cases hb
      rw [upd_ne _ _ this]; exact h t w h1 h2 h4
    | true =>
      rw [hb] at h4
      have h5 : get4 (slotK t) (mod4 (slotK d) (fun _ => some v) env) = some w := h4
      have hd := slotB_ok hb
      by_cases e : t = d
      · subst e
        rw [get4_same] at h5; injection h5 with h5; subst h5
        rw [upd_same]; exact hv
      · rw [get4_ne (fun e2 => e (slotK_inj h2 hd.2 e2))] at h5
        rw [upd_ne _ _ e]; exact h t w h1 h2 h5
end Go.Proofs.YtpcdcemcjbeajaaGreatDoor
set_option linter.unusedVariables false
set_option linter.unusedSimpArgs false
namespace Go.Proofs.YtpcdcemcjbeajaaGreatDoor
open Go.RowKit
def Does (P : Program) (w0 : World) (B : List Nat) (f : Operand → Value) (o : Oper) (σ : Sg) (L : List Ent) (Φ : V → Hp → Nm → Prop) : Prop :=
  ∀ w, St w0 B w L → ∃ σ' v x h' nx' w' L', Sg.le σ σ' ∧ okV σ' v x ∧ HR σ' nx' h' L' ∧ Φ v h' nx' ∧ ((execOp f o).run P w = .ok (.value x) w' ∨ ((execOp f o).run P w = .ok .skip w' ∧ x = undef)) ∧ St w0 B w' L' ∧ (quietO o.op = true → σ' = σ ∧ w' = w ∧ L' = L)
def OpsOk (σ : Sg) (n : Nat) (env : En) (f : Operand → Value) (l : Array Operand) : Prop := ∀ x ∈ l, ∀ v, getA env (trA n x) = some v → okV σ v (f x)
theorem constS_ok (σ : Sg) {v : Value} {x : S} (h : constS v = some x) : okS σ x v := by
  unfold constS at h
  split at h <;> first | (injection h with h; subst h; first | rfl | exact rfl) | cases h
theorem constL_ok (σ : Sg) : ∀ {l : List Value} {xs : List S}, constL l = some xs → All2 (okS σ) xs l
  | [], xs, h => by injection h with h; subst h; trivial
  | v :: l, xs, h => by
    have h' : (match constS v, constL l with | some x, some l => some (x :: l) | _, _ => none) = some xs := h
    split at h'
    · rename_i x r h1 h2
      injection h' with h'; subst h'
      exact ⟨constS_ok σ h1, constL_ok σ h2⟩
    · cases h'
theorem constV_ok (σ : Sg) {v : Value} {x : V} (h : constV v = some x) : okV σ x v := by
  unfold constV at h
  split at h
  · rename_i cs
    cases hc : constL cs.toList with
    | none => rw [hc] at h; cases h
    | some l => rw [hc] at h; injection h with h; subst h; exact ⟨cs.toList, constL_ok σ hc, by simp⟩
  · cases hc : constS v with
    | none => rw [hc] at h; cases h
    | some s => rw [hc] at h; injection h with h; subst h; exact constS_ok σ hc
theorem okV_func (σ : Sg) (g : FuncId) : okV σ (.s (.x (.f g []))) (.func (.func g) #[] #[]) := ⟨[], trivial, rfl⟩
theorem trA_ok {σ : Sg} {n : Nat} {env : En} {ρ : Env} (h : ER σ n env ρ) {x : Operand} {v : V} (hv : getA env (trA n x) = some v) : okV σ v (evE n ρ x) := by
  cases x with
  | tmp t =>
    have hv' : getA env (cond (slotB t n) (.s (slotK t)) .bad) = some v := hv
    cases hb : slotB t n with
    | false => rw [hb] at hv'; cases hv'
    | true =>
      rw [hb] at hv'
      have ht := slotB_ok hb
      show okV σ v (cond (Nat.blt t n) (ρ t) undef)
      rw [blt_true ht.1]
      exact h t v ht.1 ht.2 hv'
  | const c =>
    have hv' : getA env (match constV c with | some x => .k x | none => .bad) = some v := hv
    cases hc : constV c with
    | none => rw [hc] at hv'; cases hv'
    | some x => rw [hc] at hv'; injection hv' with hv'; subst hv'; exact constV_ok σ hc
  | func f => injection hv with hv; subst hv; exact okV_func σ f
  | global g => cases hv
theorem opsOk_of {σ : Sg} {n : Nat} {env : En} {ρ : Env} (h : ER σ n env ρ) (l : Array Operand) : OpsOk σ n env (evE n ρ) l := fun x _ v hv => trA_ok h hv
section
variable {P : Program} {w0 : World} {B : List Nat} {f : Operand → Value} {σ : Sg} {nx : Nm} {h : Hp} {L : List Ent} {n : Nat} {env : En} {k : Kt} {dd : List D} {r : Rs}
variable {d : Option Nat} {ty : TypeId} {pos : String} {af : Array Edge} {g : Option (Nat × Bool)} {ih : Ih}
def Nxt (n : Nat) (d : Option Nat) (k : Kt) (env : En) (dd : List D) (r : Rs) (v : V) (h : Hp) (nx : Nm) : Prop := k (put (dstP n d) v env) h nx dd = r
theorem Does.val {o : Oper} {v : V} {x : Value} {Φ : V → Hp → Nm → Prop} (hH : HR σ nx h L) (hv : okV σ v x) (hn : Φ v h nx) (hx : ∀ w, St w0 B w L → (execOp f o).run P w = .ok (.value x) w) : Does P w0 B f o σ L Φ :=
  fun w hw => ⟨σ, v, x, h, nx, w, L, Sg.le.refl σ, hv, hH, hn, .inl (hx w hw), hw, fun _ => ⟨rfl, rfl, rfl⟩⟩
abbrev Dn (P : Program) (w0 : World) (B : List Nat) (f : Operand → Value) (σ : Sg) (L : List Ent) (n : Nat) (k : Kt) (env : En) (dd : List D) (r : Rs) (o : Oper) : Prop := Does P w0 B f o σ L (Nxt n o.dst k env dd r)
variable {x y z : Operand} {t t' : TypeId}
theorem okV_b {b : Bool} {v : Value} (h : okV σ (.s (.b b)) v) : v = .bool b := h
theorem okV_i {i : IntKind} {a : Int} {v : Value} (h : okV σ (.s (.i i a)) v) : v = .int i a := h
theorem okV_p {m : Nm} {o : Nat} {v : Value} (h : okV σ (.s (.p m o)) v) : ∃ b c, σ m = some (b, c) ∧ v = .pointer (some ⟨b, o, none⟩) := h
theorem okV_a {l : List S} {v : Value} (h : okV σ (.a l) v) : ∃ vs, All2 (okS σ) l vs ∧ v = .agg vs.toArray := h
theorem okV_t {l : List A1} {v : Value} (h : okV σ (.t l) v) : ∃ vs, All2 (okA σ) l vs ∧ v = .tuple vs.toArray := h
theorem does_mv (hH : HR σ nx h L) (hE : OpsOk σ n env f #[x]) (hr : r_mv (dstP n d) (trA n x) ih k env h nx dd = r) (hg : good r) : Dn P w0 B f σ L n k env dd r ⟨d, .move x, ty, pos, af, g⟩ := by
  obtain ⟨v, h1, h2⟩ := onV_ok hr hg
  exact .val hH (hE x (by simp) v h1) h2 (fun w _ => rfl)
theorem does_as (hH : HR σ nx h L) (hE : OpsOk σ n env f #[x]) (hr : r_mv (dstP n d) (trA n x) ih k env h nx dd = r) (hg : good r) : Dn P w0 B f σ L n k env dd r ⟨d, .assign x, ty, pos, af, g⟩ := by
  obtain ⟨v, h1, h2⟩ := onV_ok hr hg
  exact .val hH (hE x (by simp) v h1) h2 (fun w _ => rfl)
theorem does_nc (hH : HR σ nx h L) (hE : OpsOk σ n env f #[x]) (hr : r_nc (dstP n d) (trA n x) ih k env h nx dd = r) (hg : good r) : Dn P w0 B f σ L n k env dd r ⟨d, .nilCheck x, ty, pos, af, g⟩ := by
  obtain ⟨v, h1, h2⟩ := onS_ok hr hg
  have h3 := hE x (by simp) _ h1
  cases v with
  | p m o =>
    obtain ⟨b, c, h4, h5⟩ := okV_p h3
    exact .val hH h3 h2 (fun w _ => by simp [execOp, h5])
  | x e =>
    cases e with
    | f g' cs =>
      obtain ⟨vs, h4, h5⟩ := h3
      exact .val (v := .s (.x (.f g' cs))) hH ⟨vs, h4, h5⟩ h2 (fun w _ => by simp [execOp, h5])
    | _ => subst h2; exact good_bad hg
  | _ => subst h2; exact good_bad hg
theorem does_pick (hH : HR σ nx h L) (hE : OpsOk σ n env f #[x, y, z]) (hr : r_pick (dstP n d) (trA n x) (trA n y) (trA n z) ih k env h nx dd = r) (hg : good r) : Dn P w0 B f σ L n k env dd r ⟨d, .pick x y z, ty, pos, af, g⟩ := by
  obtain ⟨b, h1, h2⟩ := onB_ok hr hg
  obtain ⟨v, h3, h4⟩ := onV_ok h2 hg
  have hx := okV_b (hE x (by simp) _ h1)
  cases b with
  | true => exact .val hH (hE y (by simp) v h3) h4 (fun w _ => by simp [execOp, hx, asBool])
  | false => exact .val hH (hE z (by simp) v h3) h4 (fun w _ => by simp [execOp, hx, asBool])
theorem does_not (hH : HR σ nx h L) (hE : OpsOk σ n env f #[x]) (hr : r_not (dstP n d) (trA n x) ih k env h nx dd = r) (hg : good r) : Dn P w0 B f σ L n k env dd r ⟨d, .unOp .not t x, ty, pos, af, g⟩ := by
  obtain ⟨b, h1, h2⟩ := onB_ok hr hg
  have hx := okV_b (hE x (by simp) _ h1)
  exact .val (x := .bool (!b)) hH (by cases b <;> rfl) h2 (fun w _ => by simp [execOp, hx, Op.unary])
theorem wrN_eq (i : IntKind) (m : Nat) : wrN i m = i.wrap (m : Int) := by
  unfold wrN
  cases h : Nat.blt m (klim i) with
  | false => rfl
  | true =>
    rw [Nat.blt_eq] at h
    show (m : Int) = i.wrap m
    cases i <;> simp only [klim] at h <;> simp [IntKind.wrap, IntKind.bits, IntKind.signed] <;> omega
theorem wr_eq (i : IntKind) (a : Int) : wr i a = i.wrap a := by
  cases a with
  | ofNat m => exact wrN_eq i m
  | negSucc m => rfl
theorem addI_eq (i : IntKind) (a b : Int) : addI i a b = i.wrap (a + b) := by
  cases a with
  | ofNat m =>
    cases b with
    | ofNat m' => show wrN i (m + m') = _; rw [wrN_eq]; rfl
    | negSucc m' => rfl
  | negSucc m => rfl
theorem subI_eq (i : IntKind) (a b : Int) : subI i a b = i.wrap (a - b) := by
  cases a with
  | ofNat m =>
    cases b with
    | ofNat m' =>
      show cond (Nat.ble m' m) (wrN i (m - m')) (i.wrap ((m : Int) - (m' : Int))) = i.wrap ((m : Int) - (m' : Int))
      cases h : Nat.ble m' m with
      | false => rfl
      | true =>
        have := Nat.le_of_ble_eq_true h
        simp only [cond_true]
        rw [wrN_eq, Int.ofNat_sub this]
    | negSucc m' => rfl
  | negSucc m => rfl
theorem mulI_eq (i : IntKind) (a b : Int) : mulI i a b = i.wrap (a * b) := by
  cases a with
  | ofNat m =>
    cases b with
    | ofNat m' => show wrN i (m * m') = _; rw [wrN_eq]; rfl
    | negSucc m' => rfl
  | negSucc m => rfl
theorem eqI_eq (a b : Int) : eqI a b = (a == b) := by
  cases a with
  | ofNat m =>
    cases b with
    | ofNat m' =>
      show Nat.beq m m' = _
      by_cases h : m = m'
      · subst h; simp
      · rw [beq_ne h]; symm; simp; omega
    | negSucc m' => symm; show ((Int.ofNat m) == (Int.negSucc m')) = false; simp
  | negSucc m =>
    cases b with
    | ofNat m' => symm; show ((Int.negSucc m) == (Int.ofNat m')) = false; simp
    | negSucc m' =>
      show Nat.beq m m' = _
      by_cases h : m = m'
      · subst h; simp
      · rw [beq_ne h]; symm; simp; omega
theorem ltI_eq (a b : Int) : ltI a b = decide (a < b) := by
  cases a with
  | ofNat m =>
    cases b with
    | ofNat m' =>
      show Nat.blt m m' = _
      by_cases h : m < m'
      · rw [blt_true h]; symm; simp; omega
      · rw [blt_false h]; symm; simp; omega
    | negSucc m' => symm; show decide ((Int.ofNat m) < (Int.negSucc m')) = false; simp; omega
  | negSucc m =>
    cases b with
    | ofNat m' => symm; show decide ((Int.negSucc m) < (Int.ofNat m')) = true; simp; omega
    | negSucc m' =>
      show Nat.blt m' m = _
      by_cases h : m' < m
      · rw [blt_true h]; symm; simp; omega
      · rw [blt_false h]; symm; simp; omega
theorem bnot_eq (b : Bool) : bnot b = !b := by cases b <;> rfl
theorem kcode_inj {i j : IntKind} (h : Nat.beq (kcode i) (kcode j) = true) : i = j := by cases i <;> cases j <;> first | rfl | cases h
theorem does_neg (hH : HR σ nx h L) (hE : OpsOk σ n env f #[x]) (hr : r_neg (dstP n d) (trA n x) ih k env h nx dd = r) (hg : good r) : Dn P w0 B f σ L n k env dd r ⟨d, .unOp .neg t x, ty, pos, af, g⟩ := by
  obtain ⟨i, a, h1, h2⟩ := onI_ok hr hg
  have hx := okV_i (hE x (by simp) _ h1)
  rw [subI_eq] at h2
  exact .val (x := .int i (i.wrap (0 - a))) hH (by rfl) h2 (fun w _ => by simp [execOp, hx, Op.unary, Op.intArith])
theorem beqPs_eq : ∀ {l m : List (Nm × Nat)}, beqPs l m = true → l = m
  | [], [], _ => rfl
  | (p, a) :: l, (q, b) :: m, h => by
    have h' : (nmEq p q && Nat.beq a b && beqPs l m) = true := h
    rw [Bool.and_eq_true, Bool.and_eq_true] at h'
    rw [nmEq_t h'.1.1, Nat.eq_of_beq_eq_true h'.1.2, beqPs_eq h'.2]
  | [], _ :: _, h => by cases h
  | _ :: _, [], h => by cases h
theorem bytes_same {s t : ByteArray} (h : (s.data.toList == t.data.toList) = true) : s = t := by
  obtain ⟨s⟩ := s
  obtain ⟨t⟩ := t
  have e : s.toList = t.toList := by simpa using h
  rw [Array.ext' e]
theorem beq0_eq {a b : S0} (h : beq0 a b = true) : a = b := by
  cases a <;> cases b <;> first | rfl | (cases h; done) | skip
  · rename_i g l g' l'
    have h' : (Nat.beq g g' && beqPs l l') = true := h
    rw [Bool.and_eq_true] at h'
    rw [Nat.eq_of_beq_eq_true h'.1, beqPs_eq h'.2]
  · rename_i n m; rw [nmEq_t (show nmEq n m = true from h)]
  · rename_i n m; rw [nmEq_t (show nmEq n m = true from h)]
  · rename_i t n t' m
    have h' : (Nat.beq t t' && nmEq n m) = true := h
    rw [Bool.and_eq_true] at h'
    rw [Nat.eq_of_beq_eq_true h'.1, nmEq_t h'.2]
  · rename_i s t; rw [bytes_same h]
  · rename_i i j; rw [Nat.eq_of_beq_eq_true (show Nat.beq i j = true from h)]
  · rename_i n l m k
    have h' : (nmEq n m && Nat.beq l k) = true := h
    rw [Bool.and_eq_true] at h'
    rw [nmEq_t h'.1, Nat.eq_of_beq_eq_true h'.2]
  · rename_i n j s o m k t q
    have h' : (nmEq n m && (Nat.beq j k && (Nat.beq s t && Nat.beq o q))) = true := h
    simp only [Bool.and_eq_true] at h'
    rw [nmEq_t h'.1, Nat.eq_of_beq_eq_true h'.2.1, Nat.eq_of_beq_eq_true h'.2.2.1, Nat.eq_of_beq_eq_true h'.2.2.2]
theorem beqS_eq {a b : S} (h : beqS a b = true) : a = b := by
  unfold beqS at h
  split at h
  · rfl
  · rfl
  · rw [Bool.and_eq_true] at h
    have := kcode_inj h.1; subst this
    rw [eqI_eq] at h
    have e := h.2
    simp only [beq_iff_eq] at e
    subst e; rfl
  · rw [Bool.and_eq_true] at h
    rw [nmEq_t h.1, Nat.eq_of_beq_eq_true h.2]
  · simp only [Bool.and_eq_true] at h
    rw [nmEq_t h.1.1.1, Nat.eq_of_beq_eq_true h.1.1.2, Nat.eq_of_beq_eq_true h.1.2, Nat.eq_of_beq_eq_true h.2]
  · simp only [Bool.and_eq_true] at h
    rw [nmEq_t h.1.1.1, Nat.eq_of_beq_eq_true h.1.1.2, Nat.eq_of_beq_eq_true h.1.2, Nat.eq_of_beq_eq_true h.2]
  · rw [beq0_eq h]
  · cases h
theorem beqL_eq : ∀ {l m : List S}, beqL l m = true → l = m
  | [], [], _ => rfl
  | a :: l, b :: m, h => by
    have h' : (beqS a b && beqL l m) = true := h
    rw [Bool.and_eq_true] at h'
    rw [beqS_eq h'.1, beqL_eq h'.2]
  | [], _ :: _, h => by cases h
  | _ :: _, [], h => by cases h
theorem beqA_eq {a b : A1} (h : beqA a b = true) : a = b := by
  cases a <;> cases b <;> first | (cases h; done) | rw [beqS_eq h] | rw [beqL_eq h]
theorem tv_ok {v w : Value} {s : S} (h : okS σ s v) (hv : tv σ.tk s = some w) : v = w := by
  cases s with
  | i k n => injection hv with hv; subst hv; exact h
  | b x => injection hv with hv; subst hv; exact h
  | x e =>
    cases e with
    | tk i => injection hv with hv; subst hv; exact h
    | _ => cases hv
  | _ => cases hv
theorem ok_tv {w : Value} {s : S} (hv : tv σ.tk s = some w) : okS σ s w := by
  cases s with
  | i k n => injection hv with hv; subst hv; rfl
  | b x => injection hv with hv; subst hv; rfl
  | x e =>
    cases e with
    | tk i => injection hv with hv; subst hv; exact rfl
    | _ => cases hv
  | _ => cases hv
theorem bcode_inj {a b : BinOp} (h : Nat.beq (bcode a) (bcode b) = true) : a = b := by cases a <;> cases b <;> first | rfl | cases h
theorem findB_ok {op : BinOp} {x y z : S} : ∀ {l : List TbE}, findB op x y l = some z → TbE.bin op x y z ∈ l
  | [], h => by cases h
  | .cv _ _ _ :: l, h | .ix _ _ :: l, h | .ld _ _ _ _ _ :: l, h | .st _ _ _ _ _ _ :: l, h | .ap _ _ _ _ _ _ _ _ :: l, h | .lk _ _ _ :: l, h | .up _ _ _ _ :: l, h | .enc _ _ :: l, h | .del _ _ _ _ _ _ _ _ :: l, h => List.mem_cons_of_mem _ (findB_ok (l := l) h)
  | .bin op' a b r :: l, h => by
    have h' : cond (Nat.beq (bcode op') (bcode op)) (cond (beqS a x) (cond (beqS b y) (some r) (findB op x y l)) (findB op x y l)) (findB op x y l) = some z := h
    cases h1 : Nat.beq (bcode op') (bcode op) with
    | false => rw [h1] at h'; exact List.mem_cons_of_mem _ (findB_ok h')
    | true =>
      cases h2 : beqS a x with
      | false => rw [h1, h2] at h'; exact List.mem_cons_of_mem _ (findB_ok h')
      | true =>
        cases h3 : beqS b y with
        | false => rw [h1, h2, h3] at h'; exact List.mem_cons_of_mem _ (findB_ok h')
        | true => rw [h1, h2, h3] at h'; injection h' with h'; rw [bcode_inj h1, beqS_eq h2, beqS_eq h3, h']; exact List.mem_cons_self
theorem findC_ok {k : IntKind} {x z : S} : ∀ {l : List TbE}, findC k x l = some z → TbE.cv k x z ∈ l
  | [], h => by cases h
  | .bin _ _ _ _ :: l, h | .ix _ _ :: l, h | .ld _ _ _ _ _ :: l, h | .st _ _ _ _ _ _ :: l, h | .ap _ _ _ _ _ _ _ _ :: l, h | .lk _ _ _ :: l, h | .up _ _ _ _ :: l, h | .enc _ _ :: l, h | .del _ _ _ _ _ _ _ _ :: l, h => List.mem_cons_of_mem _ (findC_ok (l := l) h)
  | .cv k' a r :: l, h => by
    have h' : cond (Nat.beq (kcode k') (kcode k)) (cond (beqS a x) (some r) (findC k x l)) (findC k x l) = some z := h
    cases h1 : Nat.beq (kcode k') (kcode k) with
    | false => rw [h1] at h'; exact List.mem_cons_of_mem _ (findC_ok h')
    | true =>
      cases h2 : beqS a x with
      | false => rw [h1, h2] at h'; exact List.mem_cons_of_mem _ (findC_ok h')
      | true => rw [h1, h2] at h'; injection h' with h'; rw [kcode_inj h1, beqS_eq h2, h']; exact List.mem_cons_self
theorem tbOf_ok (hH : HR σ nx h L) {e : TbE} (he : e ∈ tbOf h) : TbOk σ.tk e := by
  unfold tbOf at he
  split at he
  · rename_i l hl
    obtain ⟨b, c, ob, _, _, k3⟩ := hH.own _ _ hl
    exact k3 e he
  · cases he
theorem does_conv {i j : IntKind} (hs : P.underlying t = some (.int i)) (hd : P.underlying t' = some (.int j)) (hH : HR σ nx h L) (hE : OpsOk σ n env f #[x]) (hr : r_conv (dstP n d) j (trA n x) ih k env h nx dd = r) (hg : good r) : Dn P w0 B f σ L n k env dd r ⟨d, .convert t t' x, ty, pos, af, g⟩ := by
  unfold r_conv at hr
  split at hr
  · rename_i i' a h1
    have hx := okV_i (hE x (by simp) _ h1)
    rw [wr_eq] at hr
    exact .val (x := .int j (j.wrap a)) hH (by rfl) hr (fun w _ => by simp [execOp, hx, convert, Sem.run_bind, run_underlying hs, run_underlying hd, Conv.intToInt])
  · rename_i e h1
    obtain ⟨s, h5, h6⟩ := onV_ok hr hg
    obtain ⟨i', a, k1, k2⟩ := tbOf_ok hH (findC_ok h5)
    have hx := tv_ok (s := .x e) (hE x (by simp) _ h1) k1
    exact .val (v := .s s) (x := .int j (j.wrap a)) hH (ok_tv k2) h6 (fun w _ => by simp [execOp, hx, convert, Sem.run_bind, run_underlying hs, run_underlying hd, Conv.intToInt])
  · subst hr; exact good_bad hg
end
end Go.Proofs.YtpcdcemcjbeajaaGreatDoor
set_option linter.unusedVariables false
set_option linter.unusedSimpArgs false
namespace Go.Proofs.YtpcdcemcjbeajaaGreatDoor
open Go.RowKit
theorem kabove_eq (i : IntKind) : kabove i = 2 ^ i.bits := by cases i <;> rfl
theorem word_eq (i : IntKind) (a : Int) : word i a = (BitVec.ofInt i.bits a).toNat := by
  rw [BitVec.toNat_ofInt]
  cases a with
  | ofNat m =>
    show m % kabove i = _
    rw [kabove_eq]
    show m % 2 ^ i.bits = (((m : Int) % ((2 ^ i.bits : Nat) : Int))).toNat
    rw [← Int.natCast_emod]; rfl
  | negSucc m =>
    show kabove i - (m % kabove i + 1) = _
    rw [kabove_eq]
    have hp : 0 < 2 ^ i.bits := Nat.pos_of_ne_zero (by simp)
    generalize 2 ^ i.bits = q at *
    have hlt : m % q < q := Nat.mod_lt _ hp
    rw [Int.negSucc_emod m (by omega : (0 : Int) < (q : Int)), ← Int.natCast_emod]
    omega
theorem pow2_eq (m : Nat) : pow2 m = 2 ^ m := by
  show Nat.shiftLeft 1 m = 2 ^ m
  have := Nat.shiftLeft_eq 1 m
  simpa using this
section
variable {P : Program} {w0 : World} {B : List Nat} {f : Operand → Value} {σ : Sg} {nx : Nm} {h : Hp} {L : List Ent} {n : Nat} {env : En} {k : Kt} {dd : List D} {r : Rs}
variable {d : Option Nat} {ty : TypeId} {pos : String} {af : Array Edge} {g : Option (Nat × Bool)} {ih : Ih} {x y z : Operand} {t t' : TypeId}
theorem binI_ok {op : BinOp} {i : IntKind} {a b : Int} {s : S} (hs : binI op i a b = some s) : ∃ v, okS σ s v ∧ ∀ w, (binOp op t (.int i a) (.int i b)).run P w = .ok v w := by
  have hbit : ∀ (q : BitVec i.bits), wrN i q.toNat = i.wrap (q.toNat : Int) := fun q => wrN_eq i _
  cases op with
  | add => injection hs with hs; subst hs; exact ⟨_, rfl, fun w => by rw [bin_add, addI_eq]⟩
  | sub => injection hs with hs; subst hs; exact ⟨_, rfl, fun w => by rw [bin_sub, subI_eq]⟩
  | mul => injection hs with hs; subst hs; exact ⟨_, rfl, fun w => by rw [bin_mul, mulI_eq]⟩
  | eql => injection hs with hs; subst hs; exact ⟨_, rfl, fun w => by rw [eqI_eq]; simp [binOp, Op.intCmp]⟩
  | neq => injection hs with hs; subst hs; exact ⟨_, rfl, fun w => by rw [bnot_eq, eqI_eq]; simp [binOp, Op.intCmp, bne]⟩
  | lss => injection hs with hs; subst hs; exact ⟨_, rfl, fun w => by rw [ltI_eq]; simp [binOp, Op.intCmp]⟩
  | gtr => injection hs with hs; subst hs; exact ⟨_, rfl, fun w => by rw [ltI_eq]; simp [binOp, Op.intCmp]⟩
  | geq => injection hs with hs; subst hs; exact ⟨_, rfl, fun w => by rw [bnot_eq, ltI_eq, ← decide_not]; simp [binOp, Op.intCmp, Int.not_lt]⟩
  | leq => injection hs with hs; subst hs; exact ⟨_, rfl, fun w => by rw [bnot_eq, ltI_eq, ← decide_not]; simp [binOp, Op.intCmp, Int.not_lt]⟩
  | and => injection hs with hs; subst hs; exact ⟨_, rfl, fun w => by
      rw [word_eq, word_eq, wrN_eq]; simp only [binOp, Op.intBits, ne_eq, not_true_eq_false, if_false]; simp [BitVec.toNat_and]⟩
  | or => injection hs with hs; subst hs; exact ⟨_, rfl, fun w => by
      rw [word_eq, word_eq, wrN_eq]; simp only [binOp, Op.intBits, ne_eq, not_true_eq_false, if_false]; simp [BitVec.toNat_or]⟩
  | xor => injection hs with hs; subst hs; exact ⟨_, rfl, fun w => by
      rw [word_eq, word_eq, wrN_eq]; simp only [binOp, Op.intBits, ne_eq, not_true_eq_false, if_false]; simp [BitVec.toNat_xor]⟩
  | quo =>
    cases a with
    | negSucc m => cases hs
    | ofNat m =>
      cases b with
      | negSucc q => cases hs
      | ofNat q =>
        cases q with
        | zero => cases hs
        | succ q =>
          have hs' : some (S.i i (wrN i (Nat.div m (q + 1)))) = some s := hs
          injection hs' with hs'; subst hs'
          refine ⟨_, rfl, fun w => ?_⟩
          have h0 : ¬ (Int.ofNat (q + 1) = 0) := by simp; omega
          simp only [binOp, Op.intDiv, ne_eq, not_true_eq_false, if_false, if_neg h0, Sem.run_pure]
          rw [wrN_eq]; rfl
  | rem =>
    cases b with
    | negSucc q => cases a <;> cases hs
    | ofNat q =>
      cases q with
      | zero => cases a <;> cases hs
      | succ q =>
        have h0 : ¬ (Int.ofNat (q + 1) = 0) := by simp; omega
        cases a with
        | ofNat m =>
          have hs' : some (S.i i (.ofNat (Nat.mod m (q + 1)))) = some s := hs
          injection hs' with hs'; subst hs'
          refine ⟨_, rfl, fun w => ?_⟩
          simp only [binOp, Op.intDiv, ne_eq, not_true_eq_false, if_false, if_neg h0, Sem.run_pure]
          rfl
        | negSucc m =>
          have hs' : some (S.i i (Int.negOfNat (Nat.mod (m + 1) (q + 1)))) = some s := hs
          injection hs' with hs'; subst hs'
          refine ⟨_, rfl, fun w => ?_⟩
          simp only [binOp, Op.intDiv, ne_eq, not_true_eq_false, if_false, if_neg h0, Sem.run_pure]
          have e : (Int.negSucc m).tmod (Int.ofNat (q + 1)) = Int.negOfNat (Nat.mod (m + 1) (q + 1)) := by
            rw [Int.negOfNat_eq]; rfl
          rw [e]
  | _ => cases hs
theorem shI_ok {op : BinOp} {i j : IntKind} {a b : Int} {s : S} (hs : shI op i a b = some s) : ∃ v, okS σ s v ∧ ∀ w, (binOp op t (.int i a) (.int j b)).run P w = .ok v w := by
  unfold shI at hs
  split at hs
  · rename_i m q
    injection hs with hs; subst hs
    refine ⟨_, rfl, fun w => ?_⟩
    have h0 : ¬ (Int.ofNat q < 0) := by simp
    simp only [binOp, Op.shift, if_neg h0, Sem.run_pure]
    rw [wrN_eq, pow2_eq]
    have e : (cond (Nat.ble q i.bits) q i.bits) = min (Int.ofNat q).toNat i.bits := by
      show _ = min q i.bits
      cases hb : Nat.ble q i.bits with
      | true => have := Nat.le_of_ble_eq_true hb; simp only [cond_true]; omega
      | false =>
        have : ¬ q ≤ i.bits := fun hle => by rw [Nat.ble_eq_true_of_le hle] at hb; cases hb
        simp only [cond_false]; omega
    rw [e]
    show Result.ok (Value.int i (i.wrap ((m * 2 ^ _ : Nat) : Int))) w = _
    congr 3
  · rename_i m q
    injection hs with hs; subst hs
    refine ⟨_, rfl, fun w => ?_⟩
    have h0 : ¬ (Int.ofNat q < 0) := by simp
    simp only [binOp, Op.shift, if_neg h0, Sem.run_pure]
    rw [pow2_eq]
    have e : (cond (Nat.ble q i.bits) q i.bits) = min (Int.ofNat q).toNat i.bits := by
      show _ = min q i.bits
      cases hb : Nat.ble q i.bits with
      | true => have := Nat.le_of_ble_eq_true hb; simp only [cond_true]; omega
      | false =>
        have : ¬ q ≤ i.bits := fun hle => by rw [Nat.ble_eq_true_of_le hle] at hb; cases hb
        simp only [cond_false]; omega
    rw [e]
    congr 2
    have e2 : (2 ^ min (Int.ofNat q).toNat i.bits : Int) = ((2 ^ min (Int.ofNat q).toNat i.bits : Nat) : Int) := by rw [Int.natCast_pow]; rfl
    rw [e2]
    cases m with
    | zero => show _ = Int.ofNat (0 / _); simp
    | succ m => rfl
  · cases hs
theorem run_bin {op : BinOp} {i j : IntKind} {a b : Int} {v : Value} (hx : f x = .int i a) (hy : f y = .int j b) (hv : ∀ w, (binOp op t (.int i a) (.int j b)).run P w = .ok v w) (w : World) : (execOp f ⟨d, .binOp op t x y t', ty, pos, af, g⟩).run P w = .ok (.value v) w := by
  have hg : (eqGuard op t x y (.int i a) (.int j b)).run P w = .ok () w := by cases op <;> rfl
  simp [execOp, hx, hy, Sem.run_bind, hg, hv]
theorem does_tk {op : BinOp} (hH : HR σ nx h L) (hE : OpsOk σ n env f #[x, y]) (hr : r_tk (dstP n d) op (trA n x) (trA n y) ih k env h nx dd = r) (hg : good r) : Dn P w0 B f σ L n k env dd r ⟨d, .binOp op t x y t', ty, pos, af, g⟩ := by
  obtain ⟨a, h1, h2⟩ := onS_ok hr hg
  obtain ⟨b, h3, h4⟩ := onS_ok h2 hg
  obtain ⟨s, h5, h6⟩ := onV_ok h4 hg
  obtain ⟨i, u, j, z, vr, k1, k2, k3, k4⟩ := tbOf_ok hH (findB_ok h5)
  have e1 := tv_ok (s := a) (hE x (by simp) _ h1) k1
  have e2 := tv_ok (s := b) (hE y (by simp) _ h3) k2
  exact .val (v := .s s) hH (ok_tv k3) h6 (fun w _ => run_bin e1 e2 (fun w => k4 P t w) w)
theorem does_bin {op : BinOp} (hH : HR σ nx h L) (hE : OpsOk σ n env f #[x, y]) (hr : r_bin (dstP n d) op (trA n x) (trA n y) ih k env h nx dd = r) (hg : good r) : Dn P w0 B f σ L n k env dd r ⟨d, .binOp op t x y t', ty, pos, af, g⟩ := by
  unfold r_bin at hr
  split at hr
  · rename_i i a j b h1 h3
    obtain ⟨h5, h6⟩ := cond_ok hr hg
    obtain ⟨s, h7, h8⟩ := onV_ok h6 hg
    have := kcode_inj h5; subst this
    obtain ⟨v, h9, h10⟩ := binI_ok (σ := σ) (P := P) (t := t) h7
    exact .val (v := .s s) hH h9 h8 (fun w _ => run_bin (okV_i (hE x (by simp) _ h1)) (okV_i (hE y (by simp) _ h3)) h10 w)
  · exact does_tk (ih := ih) hH hE hr hg
theorem does_rem (hH : HR σ nx h L) (hE : OpsOk σ n env f #[x, y]) (hr : r_rem (dstP n d) (trA n x) (trA n y) ih k env h nx dd = r) (hg : good r) : Dn P w0 B f σ L n k env dd r ⟨d, .binOp .rem t x y t', ty, pos, af, g⟩ := by
  unfold r_rem at hr
  split at hr
  · rename_i i p h0
    obtain ⟨j, b, h3, h4⟩ := onI_ok hr hg
    obtain ⟨h5, h6⟩ := cond_ok h4 hg
    rw [Bool.and_eq_true, eqI_eq] at h5
    have := kcode_inj h5.1; subst this
    have e : b = .ofNat 2 := by simpa using h5.2
    subst e
    obtain ⟨m, h7, h8⟩ := (hE x (by simp) _ h0 : ∃ m : Nat, Nat.mod m 2 = p ∧ f x = .int i (.ofNat m))
    subst h7
    obtain ⟨v, h9, h10⟩ := binI_ok (σ := σ) (P := P) (t := t) (show binI .rem i (.ofNat m) (.ofNat 2) = some (.i i (.ofNat (Nat.mod m 2))) from rfl)
    exact .val (v := .s (.i i (.ofNat (Nat.mod m 2)))) hH h9 h6 (fun w _ => run_bin h8 (okV_i (hE y (by simp) _ h3)) h10 w)
  · exact does_bin (ih := ih) hH hE hr hg
theorem does_sh {op : BinOp} (hH : HR σ nx h L) (hE : OpsOk σ n env f #[x, y]) (hr : r_sh (dstP n d) op (trA n x) (trA n y) ih k env h nx dd = r) (hg : good r) : Dn P w0 B f σ L n k env dd r ⟨d, .binOp op t x y t', ty, pos, af, g⟩ := by
  unfold r_sh at hr
  split at hr
  · rename_i i a j b h1 h3
    obtain ⟨s, h7, h8⟩ := onV_ok hr hg
    obtain ⟨v, h9, h10⟩ := shI_ok (σ := σ) (P := P) (t := t) (j := j) h7
    exact .val (v := .s s) hH h9 h8 (fun w _ => run_bin (okV_i (hE x (by simp) _ h1)) (okV_i (hE y (by simp) _ h3)) h10 w)
  · exact does_tk (ih := ih) hH hE hr hg
theorem nth_eq : ∀ (l : List S) (i : Nat), nth l i = l[i]?
  | [], i => by simp [nth]
  | x :: l, 0 => rfl
  | x :: l, i + 1 => by rw [List.getElem?_cons_succ]; exact nth_eq l i
theorem nthA_eq : ∀ (l : List A1) (i : Nat), nthA l i = l[i]?
  | [], i => by simp [nthA]
  | x :: l, 0 => rfl
  | x :: l, i + 1 => by rw [List.getElem?_cons_succ]; exact nthA_eq l i
theorem drp_eq : ∀ (o : Nat) (l : List S), drp l o = l.drop o
  | 0, l => rfl
  | o + 1, [] => by show ([] : List S) = _; simp
  | o + 1, x :: l => by show drp l o = _; rw [drp_eq o l]; rfl
theorem tak_ok : ∀ {m : Nat} {l r : List S}, tak l m = some r → r = l.take m ∧ r.length = m
  | 0, l, r, h => by injection h with h; subst h; simp
  | m + 1, [], r, h => by cases h
  | m + 1, x :: l, r, h => by
    have h' : ocons x (tak l m) = some r := h
    cases ht : tak l m with
    | none => rw [ht] at h'; cases h'
    | some q =>
      rw [ht] at h'
      injection h' with h'; subst h'
      obtain ⟨h1, h2⟩ := tak_ok ht
      exact ⟨by rw [h1]; rfl, by simp [h2]⟩
theorem cut_ok {l r : List S} {o m : Nat} (h : cut l o m = some r) : r = (l.drop o).take m ∧ r.length = m := by
  unfold cut at h; rw [drp_eq] at h; exact tak_ok h
theorem lenIs_ok : ∀ {l : List S} {m : Nat}, lenIs l m = true → l.length = m
  | [], m, h => by have : Nat.beq m 0 = true := h; have := Nat.eq_of_beq_eq_true this; subst this; rfl
  | x :: l, 0, h => by cases h
  | x :: l, m + 1, h => by have := lenIs_ok (l := l) (m := m) h; simp [this]
theorem ovr_ok : ∀ {cs l r : List S}, ovr cs l = some r → r = cs ++ l.drop cs.length ∧ cs.length ≤ l.length
  | [], l, r, h => by injection h with h; subst h; simp
  | c :: cs, [], r, h => by cases h
  | c :: cs, x :: l, r, h => by
    have h' : ocons c (ovr cs l) = some r := h
    cases ht : ovr cs l with
    | none => rw [ht] at h'; cases h'
    | some q =>
      rw [ht] at h'
      injection h' with h'; subst h'
      obtain ⟨h1, h2⟩ := ovr_ok ht
      exact ⟨by rw [h1]; rfl, by simp; exact h2⟩
theorem over_ok : ∀ {o : Nat} {l cs r : List S}, over l o cs = some r → r = l.take o ++ cs ++ l.drop (o + cs.length) ∧ o + cs.length ≤ l.length
  | 0, l, cs, r, h => by
    obtain ⟨h1, h2⟩ := ovr_ok (show ovr cs l = some r from h)
    exact ⟨by rw [h1]; simp, by omega⟩
  | o + 1, [], cs, r, h => by cases h
  | o + 1, x :: l, cs, r, h => by
    have h' : ocons x (over l o cs) = some r := h
    cases ht : over l o cs with
    | none => rw [ht] at h'; cases h'
    | some q =>
      rw [ht] at h'
      injection h' with h'; subst h'
      obtain ⟨h1, h2⟩ := over_ok ht
      refine ⟨?_, by simp; omega⟩
      rw [h1, show o + 1 + cs.length = (o + cs.length) + 1 by omega]; simp
theorem app_eq : ∀ (l m : List S), app l m = l ++ m
  | [], m => rfl
  | x :: l, m => by show x :: app l m = _; rw [app_eq l m]; rfl
theorem cells_of (hH : HR σ nx h L) {m : Nm} {q : TypeId} {rr nn : Nat} {ks : List S} (hm : get8 m h = some (.c q rr nn ks)) : ∃ b c vs junk, σ m = some (b, c) ∧ (b, cel q (vs ++ junk)) ∈ L ∧ All2 (okS σ) ks vs ∧ ((rr ≠ 0 → ks.length = nn * rr ∧ vs.length + junk.length = c * rr) ∧ (rr = 0 → junk = [])) := by
  obtain ⟨b, c, ob, h1, h2, vs, junk, h3, rfl, h4⟩ := hH.own m _ hm
  exact ⟨b, c, vs, junk, h1, h2, h3, h4⟩
theorem cells_cut {w : World} {b q o m : Nat} {vs junk : List Value} (hw : St w0 B w L) (hm : (b, cel q (vs ++ junk)) ∈ L) : CellsAt w b o ((vs.drop o).take m) := by
  intro j v hv
  rw [hw.cellO hm]
  rw [List.getElem?_take] at hv
  split at hv
  · rw [List.getElem?_drop] at hv
    rw [List.getElem?_append_left (List.getElem?_eq_some_iff.1 hv).1]; exact hv
  · cases hv
theorem does_ldS (hT : Scalar P t) (hH : HR σ nx h L) (hE : OpsOk σ n env f #[x]) (hr : r_ldS (dstP n d) (trA n x) ih k env h nx dd = r) (hg : good r) : Dn P w0 B f σ L n k env dd r ⟨d, .load t x, ty, pos, af, g⟩ := by
  obtain ⟨m, o, h1, h2⟩ := onP_ok hr hg
  obtain ⟨q, rr, nn, ks, h3, h4⟩ := onC_ok h2 hg
  obtain ⟨s, h5, h6⟩ := onV_ok h4 hg
  obtain ⟨b, c, h7, h8⟩ := okV_p (hE x (by simp) _ h1)
  obtain ⟨b', c', vs, junk, h9, h10, h11, _⟩ := cells_of hH h3
  rw [h7] at h9; injection h9 with h9; injection h9 with e1 e2; subst e1
  rw [nth_eq] at h5
  obtain ⟨v, h12, h13⟩ := h11.get h5
  exact .val (v := .s s) hH h13 h6 (fun w hw => by
    have hl := run_loadS (P := P) hT (show w.cell? ⟨b, o, none⟩ = some v by
      rw [hw.cellO h10]; rw [List.getElem?_append_left (List.getElem?_eq_some_iff.1 h12).1]; exact h12)
    simp [execOp, h8, Instr.loadAt, Instr.sureAddr, Sem.run_bind, hl])
theorem does_ldA {sz : Nat} (hT : AggT P t sz) (hH : HR σ nx h L) (hE : OpsOk σ n env f #[x]) (hr : r_ldA (dstP n d) sz (trA n x) ih k env h nx dd = r) (hg : good r) : Dn P w0 B f σ L n k env dd r ⟨d, .load t x, ty, pos, af, g⟩ := by
  obtain ⟨m, o, h1, h2⟩ := onP_ok hr hg
  obtain ⟨q, rr, nn, ks, h3, h4⟩ := onC_ok h2 hg
  obtain ⟨s, h5, h6⟩ := onV_ok h4 hg
  obtain ⟨b, c, h7, h8⟩ := okV_p (hE x (by simp) _ h1)
  obtain ⟨b', c', vs, junk, h9, h10, h11, _⟩ := cells_of hH h3
  rw [h7] at h9; injection h9 with h9; injection h9 with e1 e2; subst e1
  obtain ⟨h12, h13⟩ := cut_ok h5
  have h14 : All2 (okS σ) s ((vs.drop o).take sz) := by rw [h12]; exact (h11.drop o).take sz
  have h15 : ((vs.drop o).take sz).length = sz := by rw [← h14.length]; exact h13
  exact .val (v := .a s) hH ⟨_, h14, rfl⟩ h6 (fun w hw => by
    have hc : CellsAt w b o ((vs.drop o).take sz) := cells_cut hw h10
    have hl := run_loadA (P := P) hT h15 hc
    simp [execOp, h8, Instr.loadAt, Instr.sureAddr, Sem.run_bind, hl])
end
end Go.Proofs.YtpcdcemcjbeajaaGreatDoor
set_option linter.unusedVariables false
set_option linter.unusedSimpArgs false
namespace Go.Proofs.YtpcdcemcjbeajaaGreatDoor
open Go.RowKit
section
variable {P : Program} {w0 : World} {B : List Nat} {f : Operand → Value} {σ : Sg} {nx : Nm} {h : Hp} {L : List Ent} {n : Nat} {env : En} {k : Kt} {dd : List D} {r : Rs}
variable {d : Option Nat} {ty : TypeId} {pos : String} {af : Array Edge} {g : Option (Nat × Bool)} {ih : Ih} {x y z : Operand} {t t' : TypeId}
theorem does_fad {fs : Array Field} {i : Nat} {fl : Field} {s : Nat} (hu : P.underlying t = some (.struct fs)) (hf : fs[i]? = some fl) (hs : szT P fl.type = some (s + 1)) (hH : HR σ nx h L) (hE : OpsOk σ n env f #[x]) (hr : r_fad (dstP n d) fl.offset (trA n x) ih k env h nx dd = r) (hg : good r) : Dn P w0 B f σ L n k env dd r ⟨d, .fieldAddr t x i, ty, pos, af, g⟩ := by
  obtain ⟨m, o, h1, h2⟩ := onP_ok hr hg
  obtain ⟨b, c, h3, h4⟩ := okV_p (hE x (by simp) _ h1)
  have hn : (P.info? fl.type).map (·.size) = some (s + 1) := by
    unfold szT at hs
    split at hs
    · rename_i j e; rw [e]; simpa using hs
    · cases hs
  have hF := FldT.mk' (P := P) hu hf rfl hn (by simp)
  exact .val (v := .s (.p m (o + fl.offset))) (x := .pointer (some ⟨b, o + fl.offset, none⟩)) hH ⟨b, c, h3, rfl⟩ h2 (fun w _ => by simp only [execOp, h4]; rw [Sem.run_bind, hF]; simp [addr_add])
theorem size_of_szT {t : TypeId} {m : Nat} (h : szT P t = some m) (w : World) : (sizeOf t).run P w = .ok m w := by
  refine size_of_info ?_ w
  unfold szT at h
  split at h
  · rename_i j e; rw [e]; simpa using h
  · cases h
theorem agg_of {t : TypeId} {b : Bool} (h : aggT P t = some b) (w : World) : (isAgg t).run P w = .ok b w := by
  unfold aggT at h
  split at h
  · rename_i dsc e
    injection h with h; subst h
    unfold isAgg; rw [Sem.run_bind, run_underlying e w]; cases dsc <;> rfl
  · cases h
theorem scalar_of {t : TypeId} (h1 : aggT P t = some false) (h2 : szT P t = some 1) : Scalar P t := ⟨agg_of h1, size_of_szT h2⟩
theorem aggT_of {t : TypeId} {m : Nat} (h1 : aggT P t = some true) (h2 : szT P t = some m) : AggT P t m := ⟨agg_of h1, size_of_szT h2⟩
theorem does_fldS {fs : Array Field} {i : Nat} {fl : Field} (hu : P.underlying t = some (.struct fs)) (hf : fs[i]? = some fl) (h1' : aggT P fl.type = some false) (h2' : szT P fl.type = some 1) (hH : HR σ nx h L) (hE : OpsOk σ n env f #[x]) (hr : r_fldS (dstP n d) fl.offset (trA n x) ih k env h nx dd = r) (hg : good r) : Dn P w0 B f σ L n k env dd r ⟨d, .field t x i, ty, pos, af, g⟩ := by
  obtain ⟨l, h1, h2⟩ := onA_ok hr hg
  obtain ⟨s, h3, h4⟩ := onV_ok h2 hg
  obtain ⟨vs, h5, h6⟩ := okV_a (hE x (by simp) _ h1)
  rw [nth_eq] at h3
  obtain ⟨v, h7, h8⟩ := h5.get h3
  have hp := part_s (scalar_of h1' h2') (xs := vs.toArray) (off := fl.offset) (v := v) (by simpa using h7)
  exact .val (v := .s s) hH h8 h4 (fun w _ => by simp [execOp, h6, Instr.field, Sem.run_bind, run_underlying hu, hf, asAgg, hp])
theorem does_fldA {fs : Array Field} {i : Nat} {fl : Field} {sz : Nat} (hu : P.underlying t = some (.struct fs)) (hf : fs[i]? = some fl) (h1' : aggT P fl.type = some true) (h2' : szT P fl.type = some sz) (hH : HR σ nx h L) (hE : OpsOk σ n env f #[x]) (hr : r_fldA (dstP n d) fl.offset sz (trA n x) ih k env h nx dd = r) (hg : good r) : Dn P w0 B f σ L n k env dd r ⟨d, .field t x i, ty, pos, af, g⟩ := by
  obtain ⟨l, h1, h2⟩ := onA_ok hr hg
  obtain ⟨s, h3, h4⟩ := onV_ok h2 hg
  obtain ⟨vs, h5, h6⟩ := okV_a (hE x (by simp) _ h1)
  obtain ⟨h7, h8⟩ := cut_ok h3
  have h9 : All2 (okS σ) s ((vs.drop fl.offset).take sz) := by rw [h7]; exact (h5.drop _).take _
  have hp := part_a (aggT_of h1' h2') (xs := vs.toArray) (off := fl.offset) (l := (vs.drop fl.offset).take sz) (by simp)
  exact .val (v := .a s) hH ⟨_, h9, rfl⟩ h4 (fun w _ => by simp [execOp, h6, Instr.field, Sem.run_bind, run_underlying hu, hf, asAgg, hp])
theorem blt_lt {a b : Nat} (h : Nat.blt a b = true) : a < b := by rwa [Nat.blt_eq] at h
theorem okV_l {m : Nm} {o len c : Nat} {b : Bool} {v : Value} (h : okV σ (.s (.l m o len c b)) v) : ∃ bb cp cc, σ m = some (bb, cc) ∧ v = .slice (some ⟨bb, o, none⟩) len cp ∧ (b = false → cp = c) ∧ (b = true → c + len ≤ cc ∧ cp = cc - c) := by
  cases b with
  | false => obtain ⟨bb, cc, h1, h2⟩ := h; exact ⟨bb, c, cc, h1, h2, fun _ => rfl, (fun h => by cases h)⟩
  | true => obtain ⟨bb, cc, h1, h2, h3⟩ := h; exact ⟨bb, cc - c, cc, h1, h3, (fun h => by cases h), fun _ => ⟨h2, rfl⟩⟩
theorem does_iadS {e sz : Nat} (hu : P.underlying t = some (.slice e)) (hs : szT P e = some sz) (hH : HR σ nx h L) (hE : OpsOk σ n env f #[x, y]) (hr : r_iadS (dstP n d) sz (trA n x) (trA n y) ih k env h nx dd = r) (hg : good r) : Dn P w0 B f σ L n k env dd r ⟨d, .indexAddr t x y, ty, pos, af, g⟩ := by
  obtain ⟨m, o, len, c, rl, h1, h2⟩ := onL_ok hr hg
  obtain ⟨i, a, h3, h4⟩ := onI_ok h2 hg
  obtain ⟨j, rfl, h5⟩ := onN_ok h4 hg
  obtain ⟨h6, h7⟩ := cond_ok h5 hg
  have hj := blt_lt h6
  obtain ⟨bb, cp, cc, h8, h9, _, _⟩ := okV_l (hE x (by simp) _ h1)
  have hy := okV_i (hE y (by simp) _ h3)
  have hsz := size_of_szT (P := P) hs
  exact .val (v := .s (.p m (o + j * sz))) (x := .pointer (some ⟨bb, o + j * sz, none⟩)) hH ⟨bb, cc, h8, rfl⟩ h7 (fun w _ => by
    simp [execOp, h9, hy, Instr.indexAt, asIntOf, Sem.run_bind, run_underlying hu, hsz, hj, addr_add])
theorem does_iadA {e sz len : Nat} (hu : P.underlying t = some (.array len e)) (hs : szT P e = some sz) (hH : HR σ nx h L) (hE : OpsOk σ n env f #[x, y]) (hr : r_iadA (dstP n d) len sz (trA n x) (trA n y) ih k env h nx dd = r) (hg : good r) : Dn P w0 B f σ L n k env dd r ⟨d, .indexAddr t x y, ty, pos, af, g⟩ := by
  obtain ⟨m, o, h1, h2⟩ := onP_ok hr hg
  obtain ⟨i, a, h3, h4⟩ := onI_ok h2 hg
  obtain ⟨j, rfl, h5⟩ := onN_ok h4 hg
  obtain ⟨h6, h7⟩ := cond_ok h5 hg
  have hj := blt_lt h6
  obtain ⟨b, c, h8, h9⟩ := okV_p (hE x (by simp) _ h1)
  have hy := okV_i (hE y (by simp) _ h3)
  have hsz := size_of_szT (P := P) hs
  exact .val (v := .s (.p m (o + j * sz))) (x := .pointer (some ⟨b, o + j * sz, none⟩)) hH ⟨b, c, h8, rfl⟩ h7 (fun w _ => by
    simp [execOp, h9, hy, Instr.indexAt, asIntOf, Sem.run_bind, run_underlying hu, hsz, hj, addr_add, Instr.sureAddr])
theorem does_ixA {e sz len : Nat} {ag : Bool} (hu : P.underlying t = some (.array len e)) (hs : szT P e = some sz) (ha : aggT P e = some ag) (h1s : ag = false → sz = 1) (hH : HR σ nx h L) (hE : OpsOk σ n env f #[x, y]) (hr : r_ixA (dstP n d) len sz ag (trA n x) (trA n y) ih k env h nx dd = r) (hg : good r) : Dn P w0 B f σ L n k env dd r ⟨d, .index t x y, ty, pos, af, g⟩ := by
  obtain ⟨l, h1, h2⟩ := onA_ok hr hg
  obtain ⟨i, a, h3, h4⟩ := onI_ok h2 hg
  obtain ⟨j, rfl, h5⟩ := onN_ok h4 hg
  obtain ⟨h6, h7⟩ := cond_ok h5 hg
  have hj := blt_lt h6
  obtain ⟨vs, h8, h9⟩ := okV_a (hE x (by simp) _ h1)
  have hy := okV_i (hE y (by simp) _ h3)
  have hsz := size_of_szT (P := P) hs
  cases ag with
  | true =>
    obtain ⟨s, h10, h11⟩ := onV_ok (show onV (cut l (j * sz) sz) _ = r from h7) hg
    obtain ⟨h12, h13⟩ := cut_ok h10
    have h14 : All2 (okS σ) s ((vs.drop (j * sz)).take sz) := by rw [h12]; exact (h8.drop _).take _
    have hp := part_a (aggT_of ha hs) (xs := vs.toArray) (off := j * sz) (l := (vs.drop (j * sz)).take sz) (by simp)
    exact .val (v := .a s) hH ⟨_, h14, rfl⟩ h11 (fun w _ => by simp [execOp, h9, hy, Instr.index, asIntOf, Sem.run_bind, run_underlying hu, hsz, hj, hp])
  | false =>
    obtain ⟨s, h10, h11⟩ := onV_ok (show onV (nth l (j * sz)) _ = r from h7) hg
    rw [nth_eq] at h10
    obtain ⟨v, h12, h13⟩ := h8.get h10
    have h1' := h1s rfl; subst h1'
    have hp := part_s (scalar_of ha hs) (xs := vs.toArray) (off := j) (v := v) (by simpa using h12)
    exact .val (v := .s s) hH h13 h11 (fun w _ => by simp [execOp, h9, hy, Instr.index, asIntOf, Sem.run_bind, run_underlying hu, hsz, hj, hp])
theorem does_ixS (hu : P.underlying t = some .string) (hH : HR σ nx h L) (hE : OpsOk σ n env f #[x, y]) (hr : r_ixS (dstP n d) (trA n x) (trA n y) ih k env h nx dd = r) (hg : good r) : Dn P w0 B f σ L n k env dd r ⟨d, .index t x y, ty, pos, af, g⟩ := by
  unfold r_ixS at hr
  split at hr
  · rename_i s h1
    obtain ⟨i, a, h3, h4⟩ := onI_ok hr hg
    obtain ⟨j, rfl, h5⟩ := onN_ok h4 hg
    split at h5
    · rename_i b h6
      have hx : f x = .string s := hE x (by simp) _ h1
      have hy := okV_i (hE y (by simp) _ h3)
      have hb : s[j]? = some b := by
        have : s.data.toList[j]? = some b := h6
        rw [Array.getElem?_toList] at this
        obtain ⟨h7, h8⟩ := Array.getElem?_eq_some_iff.1 this
        exact (getElem?_pos s j h7).trans (by rw [← h8]; rfl)
      exact .val (v := .s (.i .u8 (.ofNat b.toNat))) (x := .int .u8 b.toNat) hH rfl h5 (fun w _ => by simp [execOp, hx, hy, Instr.index, asIntOf, Sem.run_bind, run_underlying hu, hb])
    · subst h5; exact good_bad hg
  · subst hr; exact good_bad hg
theorem okA_v {y : A1} {v : Value} (h : okA σ y v) : okV σ y.v v := by cases y <;> exact h
theorem does_ext {i : Nat} (hH : HR σ nx h L) (hE : OpsOk σ n env f #[x]) (hr : r_ext (dstP n d) (trA n x) i ih k env h nx dd = r) (hg : good r) : Dn P w0 B f σ L n k env dd r ⟨d, .extract x i, ty, pos, af, g⟩ := by
  obtain ⟨l, h1, h2⟩ := onT_ok hr hg
  obtain ⟨y, h3, h4⟩ := onV_ok h2 hg
  obtain ⟨vs, h5, h6⟩ := okV_t (hE x (by simp) _ h1)
  rw [nthA_eq] at h3
  obtain ⟨v, h7, h8⟩ := h5.get h3
  exact .val hH (okA_v h8) h4 (fun w _ => by simp [execOp, h6, Instr.extract, h7])
theorem getAs_ok : ∀ {xs : List Operand} {vs : List V}, (∀ x ∈ xs, ∀ v, getA env (trA n x) = some v → okV σ v (f x)) → getAs env (trAs n xs) = some vs → All2 (okV σ) vs (xs.map f)
  | [], vs, _, hv => by injection hv with hv; subst hv; trivial
  | x :: xs, vs, hE, hv => by
    have hv' : (match getA env (trA n x), getAs env (trAs n xs) with | some v, some l => some (v :: l) | _, _ => none) = some vs := hv
    split at hv'
    · rename_i v l h1 h2
      injection hv' with hv'; subst hv'
      exact ⟨hE x (by simp) v h1, getAs_ok (fun y hy => hE y (List.mem_cons_of_mem _ hy)) h2⟩
    · cases hv'
theorem ptrs_cons (v : V) (vs : List V) : ptrs (v :: vs) = (match v, ptrs vs with | .s (.p n o), some l => some ((n, o) :: l) | _, _ => none) := rfl
theorem ptrs_ok : ∀ {vs : List V} {ps : List (Nm × Nat)} {xs : List Value}, All2 (okV σ) vs xs → ptrs vs = some ps → All2 (Pl σ) ps xs
  | [], ps, [], _, hp => by injection hp with hp; subst hp; trivial
  | v :: vs, ps, x :: xs, h2, hp => by
    rw [ptrs_cons] at hp
    obtain ⟨h2, h3⟩ := h2
    cases v with
    | s s =>
      cases s with
      | p m o =>
        cases hq : ptrs vs with
        | none => rw [hq] at hp; cases hp
        | some l => rw [hq] at hp; injection hp with hp; subst hp; exact ⟨h2, ptrs_ok h3 hq⟩
      | _ => cases hp
    | _ => cases hp
  | [], _, _ :: _, h, _ => h.elim
  | _ :: _, _, [], h, _ => h.elim
theorem does_mkf {g' : FuncId} {cs : Array Operand} (hH : HR σ nx h L) (hE : OpsOk σ n env f cs) (hr : r_mkf (dstP n d) g' (trAs n cs.toList) ih k env h nx dd = r) (hg : good r) : Dn P w0 B f σ L n k env dd r ⟨d, .makeFunc (.func g') #[] cs, ty, pos, af, g⟩ := by
  obtain ⟨ps, h1, h2⟩ := onV_ok hr hg
  cases h3 : getAs env (trAs n cs.toList) with
  | none => rw [h3] at h1; cases h1
  | some vs =>
    rw [h3] at h1
    have h4 := getAs_ok (fun x hx => hE x (by simpa using hx)) h3
    have h5 := ptrs_ok h4 h1
    exact .val (v := .s (.x (.f g' ps))) (x := .func (.func g') #[] (cs.toList.map f).toArray) hH ⟨_, h5, rfl⟩ h2 (fun w _ => by simp [execOp, Instr.makeFunc, ← Array.toList_map])
theorem does_tap {len e : Nat} (hu : P.underlying t = some (.array len e)) (hH : HR σ nx h L) (hE : OpsOk σ n env f #[x]) (hr : r_tap (dstP n d) len (trA n x) ih k env h nx dd = r) (hg : good r) : Dn P w0 B f σ L n k env dd r ⟨d, .sliceToArrayPointer t x, ty, pos, af, g⟩ := by
  obtain ⟨m, o, len', c, rl, h1, h2⟩ := onL_ok hr hg
  obtain ⟨h3, h4⟩ := cond_ok h2 hg
  have hle := Nat.le_of_ble_eq_true h3
  obtain ⟨bb, cp, cc, h8, h9, _, _⟩ := okV_l (hE x (by simp) _ h1)
  have h0 : ¬ len' < len := by omega
  exact .val (v := .s (.p m o)) (x := .pointer (some ⟨bb, o, none⟩)) hH ⟨bb, cc, h8, rfl⟩ h4 (fun w _ => by simp [execOp, h9, Instr.arrayAt, Sem.run_bind, run_underlying hu, h0])
theorem does_mm {mx : Bool} {ts : Array TypeId} {b : Builtin} (hb : b = if mx then .max else .min) (hH : HR σ nx h L) (hE : OpsOk σ n env f #[x, y]) (hr : r_mm (dstP n d) mx (trA n x) (trA n y) ih k env h nx dd = r) (hg : good r) : Dn P w0 B f σ L n k env dd r ⟨d, .call ⟨.builtin b, #[x, y], ts⟩, ty, pos, af, g⟩ := by
  obtain ⟨i, a, h1, h2⟩ := onI_ok hr hg
  obtain ⟨j, c, h3, h4⟩ := onI_ok h2 hg
  obtain ⟨h5, h6⟩ := cond_ok h4 hg
  have hx := okV_i (hE x (by simp) _ h1)
  have hy := okV_i (hE y (by simp) _ h3)
  rw [ltI_eq, ltI_eq] at h6
  refine .val (v := .s (.i i (cond (cond mx (decide (a < c)) (decide (c < a))) c a))) (x := .int i (cond (cond mx (decide (a < c)) (decide (c < a))) c a)) hH rfl h6 (fun w _ => ?_)
  subst hb
  cases mx with
  | true =>
    simp only [if_true, cond_true]
    by_cases hac : a < c <;> simp [execOp, resolve, invoke, builtin, Builtin.max_, Builtin.max2, hx, hy, Sem.run_bind, hac]
    all_goals (try omega)
  | false =>
    by_cases hac : c < a <;> simp [execOp, resolve, invoke, builtin, Builtin.min_, Builtin.min2, hx, hy, Sem.run_bind, hac]
end
end Go.Proofs.YtpcdcemcjbeajaaGreatDoor
