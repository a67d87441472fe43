import PyProof.Rows.All
import Wide.All
import OpenK.AllK
import Wide.FinOn
import HandS.ForMost
import HandS.Wide
import HandS.IsInst
import HandS.Evl
import HandS.SortInts
import PySem.Challenge.RW_leastasked_k01_a_count_aged
set_option Elab.async false
set_option maxRecDepth 100000
set_option maxHeartbeats 4000000
set_option linter.all false
namespace Own
open PySem L2 PyProof.Rows Evl
def topS (i : Nat) : Stmt := PySem.Challenge.pw_leastasked_k01_a_count_aged.main.body.getD i (.Pass ⟨0, 0, 0, 0⟩)
abbrev s_aged : Stmt := topS 1
abbrev N_aged : List Str := ["count", "part", "times"]
abbrev P_aged : List Str := ["count", "part", "times"]
theorem sc_aged : FnScope N_aged P_aged (defScope s_aged) := ⟨rfl, rfl, rfl, by decide +kernel, rfl, by decide +kernel, by decide +kernel⟩

abbrev s_l_cell_at : Stmt := topS 3
abbrev N_l_cell_at : List Str := ["_law_script", "_law_k"]
abbrev P_l_cell_at : List Str := ["_law_script", "_law_k"]
theorem sc_l_cell_at : FnScope N_l_cell_at P_l_cell_at (defScope s_l_cell_at) := ⟨rfl, rfl, rfl, by decide +kernel, rfl, by decide +kernel, by decide +kernel⟩

abbrev s_l_whole : Stmt := topS 4
abbrev N_l_whole : List Str := ["_law_found"]
abbrev P_l_whole : List Str := ["_law_found"]
theorem sc_l_whole : FnScope N_l_whole P_l_whole (defScope s_l_whole) := ⟨rfl, rfl, rfl, by decide +kernel, rfl, by decide +kernel, by decide +kernel⟩

abbrev s_l_power : Stmt := topS 5
abbrev N_l_power : List Str := ["_law_count", "_law_part", "_law_times_here", "_law_power_here"]
abbrev P_l_power : List Str := ["_law_count", "_law_part", "_law_times_here"]
theorem sc_l_power : FnScope N_l_power P_l_power (defScope s_l_power) := ⟨rfl, rfl, rfl, by decide +kernel, rfl, by decide +kernel, by decide +kernel⟩

abbrev s_l_fits : Stmt := topS 6
abbrev N_l_fits : List Str := ["_law_found", "_law_count", "_law_part", "_law_times_here", "_law_power_here"]
abbrev P_l_fits : List Str := ["_law_found", "_law_count", "_law_part", "_law_times_here"]
theorem sc_l_fits : FnScope N_l_fits P_l_fits (defScope s_l_fits) := ⟨rfl, rfl, rfl, by decide +kernel, rfl, by decide +kernel, by decide +kernel⟩

abbrev s_l_times : Stmt := topS 7
abbrev N_l_times : List Str := ["_law_cell"]
abbrev P_l_times : List Str := ["_law_cell"]
theorem sc_l_times : FnScope N_l_times P_l_times (defScope s_l_times) := ⟨rfl, rfl, rfl, by decide +kernel, rfl, by decide +kernel, by decide +kernel⟩

abbrev s_law : Stmt := topS 8
abbrev N_law : List Str := ["_law_script", "_law_cell", "_law_count", "_law_part", "_law_one", "_law_other", "_law_first", "_law_both", "_law_then"]
abbrev P_law : List Str := ["_law_script"]
theorem sc_law : FnScope N_law P_law (defScope s_law) := ⟨rfl, rfl, rfl, by decide +kernel, rfl, by decide +kernel, by decide +kernel⟩

def spLaw (K : PySem.W.Frag) : Sp := fun vs H Q _ => ∃ (a : Addr) (ns : List Int), vs = [.ref a] ∧ SqL K H a (ns.map V.int) ∧ ns.length ≤ 63 ∧ ∀ H', Q (.bl true) H'
structure Tx (K : PySem.W.Frag) (mg : Str → Option Value) where
  f_aged : Addr
  fd_aged : FuncData
  F_aged : Fun K "aged" "aged" s_aged f_aged fd_aged
  b_aged : Binds K fd_aged P_aged []
  mg_aged : mg "aged" = some (.ref f_aged)
  f_l_cell_at : Addr
  fd_l_cell_at : FuncData
  F_l_cell_at : Fun K "_law_cell_at" "_law_cell_at" s_l_cell_at f_l_cell_at fd_l_cell_at
  b_l_cell_at : Binds K fd_l_cell_at P_l_cell_at []
  mg_l_cell_at : mg "_law_cell_at" = some (.ref f_l_cell_at)
  f_l_whole : Addr
  fd_l_whole : FuncData
  F_l_whole : Fun K "_law_whole" "_law_whole" s_l_whole f_l_whole fd_l_whole
  b_l_whole : Binds K fd_l_whole P_l_whole []
  mg_l_whole : mg "_law_whole" = some (.ref f_l_whole)
  f_l_power : Addr
  fd_l_power : FuncData
  F_l_power : Fun K "_law_power" "_law_power" s_l_power f_l_power fd_l_power
  b_l_power : Binds K fd_l_power P_l_power []
  mg_l_power : mg "_law_power" = some (.ref f_l_power)
  f_l_fits : Addr
  fd_l_fits : FuncData
  F_l_fits : Fun K "_law_fits" "_law_fits" s_l_fits f_l_fits fd_l_fits
  b_l_fits : Binds K fd_l_fits P_l_fits []
  mg_l_fits : mg "_law_fits" = some (.ref f_l_fits)
  f_l_times : Addr
  fd_l_times : FuncData
  F_l_times : Fun K "_law_times" "_law_times" s_l_times f_l_times fd_l_times
  b_l_times : Binds K fd_l_times P_l_times []
  mg_l_times : mg "_law_times" = some (.ref f_l_times)
  f_law : Addr
  fd_law : FuncData
  F_law : Fun K "law" "law" s_law f_law fd_law
  b_law : Binds K fd_law P_law []
  mg_law : mg "law" = some (.ref f_law)
  n_len : mg "len" = none
  n_isinstance : mg "isinstance" = none
  n_int : mg "int" = none
  n_bool : mg "bool" = none
/-! ### Evl, more: own lemmas and the tactic walk_at "ev" -/
section
variable {K : PySem.W.Frag} {σ : L2.St} {H H' : Hp} {t u : TT} {ta tb te : TE} {x y z v : V} {D : Ends} {tu tw tz : TS}
theorem ev_isi {t u : Value} {c : V} {b : Bool} (ha : Ev ta σ H x) (hb : Ev tb σ H c) (hc : ClsV c u) (ht : ∀ H1, Ex H H1 → TyX K H1 x t) (hk : PySem.W.kitOne K t u = some b) :
    Ev (tCB (rIsi K) (tCons ta (tCons tb tNil))) σ H (.bl b) := fun H1 e Q q =>
  ha H1 e _ fun H2 e2 => hb H2 (e.trans e2) _ fun H3 e3 => ⟨x, c, t, u, b, rfl, hc, ht H3 ((e.trans e2).trans e3), hk, q H3 (e2.trans e3)⟩
theorem isi_int_int {i : Int} : PySem.W.kitOne K (.type "int") (.type "int") = some true := kit_ty (by decide +kernel)
theorem isi_int_bool {i : Int} : PySem.W.kitOne K (.type "int") (.type "bool") = some false := kit_ty (by decide +kernel)
/-- isinstance(n, int), isinstance(n, bool) of an int -/
theorem ev_isInt {i : Int} (ha : Ev ta σ H (.int i)) : Ev (tCB (rIsi K) (tCons ta (tCons (tC (.ty "int")) tNil))) σ H (.bl true) := ev_isi ha ev_c (.ty _) (fun _ _ => .base (.int _)) (kit_ty (by decide +kernel))
theorem ev_isBoolI {i : Int} (ha : Ev ta σ H (.int i)) : Ev (tCB (rIsi K) (tCons ta (tCons (tC (.ty "bool")) tNil))) σ H (.bl false) := ev_isi ha ev_c (.ty _) (fun _ _ => .base (.int _)) (kit_ty (by decide +kernel))
theorem ev_isIntB {b : Bool} (ha : Ev ta σ H (.bl b)) : Ev (tCB (rIsi K) (tCons ta (tCons (tC (.ty "int")) tNil))) σ H (.bl true) := ev_isi ha ev_c (.ty _) (fun _ _ => .base (.bl _)) (kit_ty (by decide +kernel))
theorem ev_isBoolB {b : Bool} (ha : Ev ta σ H (.bl b)) : Ev (tCB (rIsi K) (tCons ta (tCons (tC (.ty "bool")) tNil))) σ H (.bl true) := ev_isi ha ev_c (.ty _) (fun _ _ => .base (.bl _)) (kit_ty (by decide +kernel))
/-- name = an int: a letter for it -/
theorem q_asgZ {i : Nat} {n : Int} (h : Ev te σ H (.int n)) (k : ∀ H1, Ex H H1 → ∀ z, z = n → tz D (σ.set i (some (.int z))) H1) : tSeq (tAsg te (gName i)) tz D σ H := q_asg h fun H1 e => k H1 e n rfl
/-- if c: name = an int -/
theorem q_ifZ {b : Bool} {i : Nat} {n m : Int} (hold : σ.set i (some (.int n)) = σ) (h : EvT t σ H b) (h1 : Ev te σ H (.int m)) (k : ∀ H1, Ex H H1 → ∀ z, (b = true → z = m) → (b = false → z = n) → tz D (σ.set i (some (.int z))) H1) : tSeq (tIfS t (tAsg te (gName i)) tNext) tz D σ H :=
  q_when h (fun hb H1 e1 => s_asg (D := { D with nx := tz D }) (h1.mono e1) fun H2 e2 => k H2 (e1.trans e2) m (fun _ => rfl) (fun q => by rw [hb] at q; cases q)) (fun hb H1 e1 => by
    have g := k H1 e1 n (fun q => by rw [hb] at q; cases q) (fun _ => rfl)
    rw [hold] at g
    exact g)
theorem ev_callI {sp : Sp} {dvs vs : List V} {E : XK} {ta : TA} {w : V} (h : EvA ta σ H vs) (hs : SpV sp (vs ++ dvs) H w) : Ev (tCall sp dvs E ta) σ H w := ev_call h hs
theorem spv_of {sp : Sp} {vs : List V} {w : V} (h : ∀ (H1 : Hp) (Q : VK) (E : XK), Ex H H1 → RetV w H1 Q → sp vs H1 Q E) : SpV sp vs H w := fun H1 e Q q E => h H1 Q E e q
/-- a call without defaults -/
theorem ev_call0 {sp : Sp} {vs : List V} {E : XK} {ta : TA} {w : V} (h : EvA ta σ H vs) (hs : SpV sp vs H w) : Ev (tCall sp [] E ta) σ H w := ev_call h (by rw [List.append_nil]; exact hs)
/-- what evaluates to some value of which P holds (P may speak of the heap behind it) -/
def EvP (te : TE) (σ : L2.St) (H : Hp) (P : V → Hp → Prop) : Prop := ∀ H1, Ex H H1 → ∀ Q : VK, (∀ v H2, Ex H1 H2 → P v H2 → Q v H2) → te σ H1 Q
def SpP (sp : Sp) (vs : List V) (H : Hp) (P : V → Hp → Prop) : Prop := ∀ H1, Ex H H1 → ∀ Q : VK, (∀ v H2, Ex H1 H2 → P v H2 → Q v H2) → ∀ E : XK, sp vs H1 Q E
def RetP (P : V → Hp → Prop) (H : Hp) (Q : VK) : Prop := ∀ v H2, Ex H H2 → P v H2 → Q v H2
theorem ev_callP {sp : Sp} {vs : List V} {E : XK} {ta : TA} {P : V → Hp → Prop} (h : EvA ta σ H vs) (hs : SpP sp vs H P) : EvP (tCall sp [] E ta) σ H P := fun H1 e Q q =>
  h H1 e _ fun H2 e2 => by
    rw [List.append_nil]
    exact hs H2 (e.trans e2) Q (fun v H3 e3 p => q v H3 (e2.trans e3) p) E
theorem q_asgP {i : Nat} {P : V → Hp → Prop} (h : EvP te σ H P) (k : ∀ v H1, Ex H H1 → P v H1 → tz D (σ.set i (some v)) H1) : tSeq (tAsg te (gName i)) tz D σ H := h H (Ex.refl H) _ fun v H1 e p => k v H1 e p
theorem s_retP {P : V → Hp → Prop} (h : EvP te σ H P) (k : ∀ v H1, Ex H H1 → P v H1 → D.rt v H1) : tRet te D σ H := h H (Ex.refl H) _ fun v H1 e p => k v H1 e p
theorem dec_i {i j : Int} : decide (V.int i = V.int j) = decide (i = j) := by
  by_cases h : i = j
  · rw [h, decide_eq_true rfl, decide_eq_true rfl]
  · rw [decide_eq_false h, decide_eq_false (fun q => h (V.int.inj q))]
/-- and, or where the first value decides -/
theorem ev_and0 (h1 : Ev ta σ H (.bl false)) : Ev (tAndV ta tb) σ H (.bl false) := ev_andV (b := false) h1 (fun q => nomatch q)
theorem ev_and1 {b : Bool} (h1 : Ev ta σ H (.bl true)) (h2 : Ev tb σ H (.bl b)) : Ev (tAndV ta tb) σ H (.bl b) := ev_is (ev_andV h1 fun _ => h2) rfl
end
def Pos9 (j : Int) : Prop := 0 < j ∧ j < 10 ^ 80
theorem Pos9.d {i j : Int} (h : Pos9 j) : CDivW i j := wide_div (b := 300) h.1 (by have h1 := h.1; have h2 := h.2; omega) (by decide) (by decide)
theorem pos9 {i j : Int} (h : 0 < j) (h2 : j < 10 ^ 80) : CDivW i j := Pos9.d ⟨h, h2⟩
/-- a condition of arithmetic -/
local macro_rules | `(tactic| walk_at "side") => `(tactic| first
  | assumption
  | (show _ ∧ _; omega)
  | (apply pos9 <;> omega)
  | (show (0 : Int) < _; omega)
  | (show _ ∨ _; omega)
  | decide
  | omega)
local macro_rules | `(tactic| walk_at "fn") => `(tactic| fail "no fn")
local macro_rules | `(tactic| walk_at "ev") => `(tactic| first
  | ((with_reducible apply ev_var) ; exact rfl)
  | with_reducible exact ev_c
  | ((with_reducible apply ev_op) <;> walk_at "ev")
  | with_reducible exact rv_I0
  | ((with_reducible apply rv_I) ; walk_at "side")
  | ((with_reducible apply rv_eq) ; rfl)
  | ((with_reducible apply rv_ne) ; rfl)
  | ((with_reducible apply ev_isInt) ; walk_at "ev")
  | ((with_reducible apply ev_isBoolI) ; walk_at "ev")
  | ((with_reducible apply ev_isIntB) ; walk_at "ev")
  | ((with_reducible apply ev_isBoolB) ; walk_at "ev")
  | ((with_reducible apply ev_notV) ; walk_at "ev")
  | ((with_reducible apply et_test) ; walk_at "ev")
  | ((with_reducible apply et_B) ; walk_at "ev")
  | ((with_reducible apply et_not) ; walk_at "ev")
  | with_reducible exact ea_nil
  | ((with_reducible apply ea_cons) <;> walk_at "ev")
  | ((with_reducible apply ev_call0) <;> walk_at "ev")
  | ((with_reducible show SpV _ _ _ _); walk_at "fn"))

theorem pow_pos' {p : Int} (hp : 2 ≤ p) (n : Nat) : 0 < p ^ n := Int.pow_pos (by omega)
theorem ediv_pow_succ {c p : Int} (hp : 2 ≤ p) (n : Nat) : c / p / p ^ n = c / p ^ (n + 1) := by
  rw [Int.ediv_ediv_of_nonneg (by omega), Int.pow_succ, Int.mul_comm]
theorem ediv_lt_self' {c p : Int} (hc : 0 < c) (hp : 2 ≤ p) : c / p < c := by
  apply Int.ediv_lt_of_lt_mul (by omega)
  have : c * 2 ≤ c * p := Int.mul_le_mul_of_nonneg_left hp (by omega)
  omega
/-- what a count becomes -/
def agedI (c p t : Int) : Int := c / p ^ t.toNat
theorem agedI_nn {c p t : Int} (hc : 0 ≤ c) (hp : 2 ≤ p) : 0 ≤ agedI c p t := Int.ediv_nonneg hc (Int.le_of_lt (pow_pos' hp _))
theorem agedI_step {c p t : Int} (hp : 2 ≤ p) (ht : 0 < t) : agedI (c / p) p (t - 1) = agedI c p t := by
  unfold agedI
  obtain ⟨n, rfl⟩ : ∃ n : Nat, t = (n : Int) + 1 := ⟨(t - 1).toNat, by omega⟩
  have e1 : ((n : Int) + 1 - 1).toNat = n := by omega
  have e2 : ((n : Int) + 1).toNat = n + 1 := by omega
  rw [e1, e2]
  exact ediv_pow_succ hp n
theorem agedI_zero {c p : Int} : agedI c p 0 = c := by
  unfold agedI
  show c / p ^ 0 = c
  rw [Int.pow_zero, Int.ediv_one]
theorem agedI_nil {p t : Int} : agedI 0 p t = 0 := by
  unfold agedI
  exact Int.zero_ediv _
section
variable {P : Program} {w : World} {K : PySem.W.Frag} {mg : Str → Option Value} {base : Heap}
def spAged : Sp := fun vs H Q _ => ∃ c p t : Int, vs = [.int c, .int p, .int t] ∧ 0 ≤ c ∧ 2 ≤ p ∧ p < 10 ^ 80 ∧ 0 ≤ t ∧ RetV (.int (agedI c p t)) H Q
theorem sv_aged {H : Hp} {c p t : Int} (h1 : 0 ≤ c) (h2 : 2 ≤ p) (h3 : p < 10 ^ 80) (h4 : 0 ≤ t) : SpV spAged [.int c, .int p, .int t] H (.int (agedI c p t)) := spv_of fun H1 Q E e q => ⟨_, _, _, rfl, h1, h2, h3, h4, q⟩
theorem ok_aged (T : Tx K mg) : FnOk P w K mg base CX0 1 T.f_aged T.fd_aged P_aged spAged := by
  refine T.F_aged.ok sc_aged (fun vs H Q E h => ?_) (fun cdv A outer s H vs Q E hr h => ?_)
  · obtain ⟨a, b, c, rfl, _⟩ := h
    rfl
  · obtain ⟨c, p, t, rfl, hc, hp, hp9, ht, k⟩ := h
    refine ⟨_, (pss_cons (ps_while PassesOwn.never (PW.pt (pw_and (pt_cmpR op_gt (pv 2) pe_int (nomark _)) (pw_and1 (pt_cmpR op_gt (pv 0) pe_int (nomark _))))) (pss_cons (ps_set (i := 0) sc_aged.nd rfl (Or.inl rfl) (pe_op op_fdivW (pv 0) (pv 1)))
      (pss_one (ps_aug (i := 2) sc_aged.nd rfl (Or.inl rfl) pe_int ip_sub))))
      (pss_one (ps_ret (pv 0)))), ?_⟩
    rw [show L2.start N_aged [V.int c, V.int p, V.int t] = [some (V.int c), some (V.int p), some (V.int t)] from rfl]
    refine q_while (fun m σ' H' => Ex H H' ∧ ∃ c' t' : Int, σ' = [some (.int c'), some (.int p), some (.int t')] ∧ 0 ≤ c' ∧ 0 ≤ t' ∧ agedI c' p t' = agedI c p t ∧ m = c'.toNat) c.toNat ⟨Ex.refl _, c, t, rfl, hc, ht, rfl, rfl⟩ ?_
    rintro m σ' H' ⟨e, c', t', rfl, hc', ht', he, rfl⟩
    refine ⟨decide (0 < t') && decide (0 < c'), et_and (by walk_at "ev") (fun _ => by walk_at "ev"), fun hb H1 e1 => ?_, fun hb H1 e1 => ?_⟩
    · rw [Bool.and_eq_true, decide_eq_true_eq, decide_eq_true_eq] at hb
      refine ⟨_, fun σ2 H2 h => h, ?_⟩
      have hd : CDivW c' p := pos9 (by omega) hp9
      refine q_asg (v := .int (c' / p)) (by walk_at "ev") fun H2 e2 => ?_
      dsimp only [List.set]
      refine s_aug (f := fun i j => i - j) (a := t') (b := 1) rfl (by walk_at "ev") fun H3 e3 => ?_
      dsimp only [List.set]
      refine ⟨(c' / p).toNat, ?_, ((e.trans e1).trans e2).trans e3, c' / p, t' - 1, rfl, Int.ediv_nonneg hc' (by omega), by omega, ?_, rfl⟩
      · have := ediv_lt_self' hb.2 hp
        have : 0 ≤ c' / p := Int.ediv_nonneg hc' (by omega)
        omega
      · rw [agedI_step hp hb.1]
        exact he
    · refine s_ret (ev_var rfl) fun H2 e2 => ?_
      have : c' = agedI c p t := by
        rw [Bool.and_eq_false_iff, decide_eq_false_iff_not, decide_eq_false_iff_not] at hb
        rw [← he]
        rcases hb with hb | hb
        · have : t' = 0 := by omega
          rw [this, agedI_zero]
        · have : c' = 0 := by omega
          rw [this, agedI_nil]
      rw [this]
      exact k _ ((e.trans e1).trans e2)
end

def cellAt (ns : List Int) (k : Nat) : Int := ns.getD k 0
section
variable {P : Program} {w : World} {K : PySem.W.Frag} {mg : Str → Option Value} {base : Heap}
def spCell (K : PySem.W.Frag) : Sp := fun vs H Q _ => ∃ (a : Addr) (ns : List Int) (k : Nat), vs = [.ref a, .int k] ∧ SqL K H a (ns.map V.int) ∧ ns.length ≤ 63 ∧ RetV (.int (cellAt ns k)) H Q
theorem sv_cell {H : Hp} {a : Addr} {ns : List Int} {k : Nat} (h : SqL K H a (ns.map V.int)) (hl : ns.length ≤ 63) : SpV (spCell K) [.ref a, .int k] H (.int (cellAt ns k)) := spv_of fun H1 Q E e q => ⟨_, _, _, rfl, ex_l e h, hl, q⟩
theorem ok_l_cell_at (T : Tx K mg) : FnOk P w K mg base CX0 1 T.f_l_cell_at T.fd_l_cell_at P_l_cell_at (spCell K) := by
  refine T.F_l_cell_at.ok sc_l_cell_at (fun vs H Q E h => ?_) (fun cdv A outer s H vs Q E hr h => ?_)
  · obtain ⟨a, b, c, rfl, _⟩ := h
    rfl
  · obtain ⟨a, ns, c, rfl, hS, hl, k⟩ := h
    refine ⟨_, (pss_cons (ps_if (pt_cmpR op_lt (pv 1) (pe_callB call_len_seq (by rfl) T.n_len PySem.boot_len (pa_cons (pv 0) pa_nil)) (nomark _)) (pss_one (ps_ret (pe_ix ix_list (pv 0) (pv 1) (fun _ _ => rfl)))) pss_nil)
      (pss_one (ps_ret pe_int))), ?_⟩
    refine q_when (et_test (ev_op (ev_var rfl) (ev_len (ev_var rfl) hS) rv_I0)) (fun hb H1 e => ?_) (fun hb H1 e => ?_)
    · have hb := of_decide_eq_true hb
      rw [List.length_map] at hb
      refine s_ret (ev_op (ev_var rfl) (ev_var rfl) (rv_ixL (ex_l e hS) (at_of rfl (v := .int (cellAt ns c)) ?_))) fun H2 e2 => k H2 (e.trans e2)
      unfold cellAt
      rw [List.getElem?_map, List.getElem?_eq_getElem (by omega), List.getD_eq_getElem?_getD, List.getElem?_eq_getElem (by omega)]
      rfl
    · have hb := of_decide_eq_false hb
      rw [List.length_map] at hb
      have e0 : cellAt ns c = 0 := by
        unfold cellAt
        rw [List.getD_eq_getElem?_getD, List.getElem?_eq_none (by omega)]
        rfl
      rw [e0] at k
      exact s_ret ev_c fun H2 e2 => k H2 (e.trans e2)
end

section
variable {P : Program} {w : World} {K : PySem.W.Frag} {mg : Str → Option Value} {base : Heap}
def spWhole : Sp := fun vs H Q _ => ∃ i : Int, vs = [.int i] ∧ RetV (.bl true) H Q
theorem sv_whole {H : Hp} {i : Int} : SpV spWhole [.int i] H (.bl true) := spv_of fun H1 Q E e q => ⟨_, rfl, q⟩
theorem ok_l_whole (T : Tx K mg) : FnOk P w K mg base CX0 1 T.f_l_whole T.fd_l_whole P_l_whole spWhole := by
  refine T.F_l_whole.ok sc_l_whole (fun vs H Q E h => ?_) (fun cdv A outer s H vs Q E hr h => ?_)
  · obtain ⟨a, rfl, _⟩ := h
    rfl
  · obtain ⟨i, rfl, k⟩ := h
    refine ⟨_, (pss_one (ps_ret (pe_and (pe_callB call_isi (by rfl) T.n_isinstance (by decide +kernel) (pa_cons (pv 0) (pa_cons (pe_bltn (v := .ty "int") (u := .type "int") rfl T.n_int (by decide +kernel) rfl) pa_nil))) (pe_one (pe_not (pe_callB call_isi (by rfl) T.n_isinstance (by decide +kernel) (pa_cons (pv 0) (pa_cons (pe_bltn (v := .ty "bool") (u := .type "bool") rfl T.n_bool (by decide +kernel) rfl) pa_nil)))))))), ?_⟩
    refine s_ret (ev_and1 ?_ (ev_is (v := .bl (!false)) ?_ rfl)) k <;> walk_at "ev"
end

local macro_rules | `(tactic| walk_at "fn") => `(tactic| with_reducible exact sv_whole)
local macro_rules | `(tactic| walk_at "fn") => `(tactic| ((with_reducible apply sv_aged) <;> omega))
theorem nat_lt {i : Int} (h : 0 ≤ i) (h2 : i < 10 ^ 100) : i.natAbs < 2 ^ 400 := by omega
theorem mulw {i j : Int} (h : 0 ≤ i) (h2 : i < 10 ^ 100) (h3 : 0 ≤ j) (h4 : j < 10 ^ 100) : CMulW i j := wide_mul (nat_lt h h2) (nat_lt h3 h4) (by decide) (by decide) (by decide)
section
variable {P : Program} {w : World} {K : PySem.W.Frag} {mg : Str → Option Value} {base : Heap}
/-- the power that stands when the loop ends -/
def PowIs (c p t r : Int) : Prop := 0 < r ∧ r < 10 ^ 95 ∧ (r = p ^ t.toNat ∨ (c < r ∧ r ≤ p ^ t.toNat))
def spPower : Sp := fun vs H Q _ => ∃ c p t : Int, vs = [.int c, .int p, .int t] ∧ 0 ≤ c ∧ c ≤ 10 ^ 60 ∧ 2 ≤ p ∧ p < 10 ^ 32 ∧ 0 ≤ t ∧ ∀ r, PowIs c p t r → RetV (.int r) H Q
theorem pow_le {p : Int} (hp : 2 ≤ p) {m n : Nat} (h : m ≤ n) : p ^ m ≤ p ^ n := by
  obtain ⟨d, rfl⟩ : ∃ d, n = m + d := ⟨n - m, by omega⟩
  rw [Int.pow_add]
  have h1 := pow_pos' hp m
  have h2 := pow_pos' hp d
  have : p ^ m * 1 ≤ p ^ m * p ^ d := Int.mul_le_mul_of_nonneg_left (by omega) (by omega)
  omega
theorem ok_l_power (T : Tx K mg) : FnOk P w K mg base CX0 1 T.f_l_power T.fd_l_power P_l_power spPower := by
  refine T.F_l_power.ok sc_l_power (fun vs H Q E h => ?_) (fun cdv A outer s H vs Q E hr h => ?_)
  · obtain ⟨a, b, c, rfl, _⟩ := h
    rfl
  · obtain ⟨c, p, t, rfl, hc, hc6, hp, hp3, ht, k⟩ := h
    refine ⟨_, (pss_cons (ps_set (i := 3) sc_l_power.nd rfl (Or.inl rfl) pe_int)
      (pss_cons (ps_while PassesOwn.never (PW.pt (pw_and (pt_cmpR op_gt (pv 2) pe_int (nomark _)) (pw_and1 (pt_cmpR op_le (pv 3) (pv 0) (nomark _))))) (pss_cons (ps_set (i := 3) sc_l_power.nd rfl (Or.inl rfl) (pe_op op_mulW (pv 3) (pv 1)))
      (pss_one (ps_set (i := 2) sc_l_power.nd rfl (Or.inl rfl) (pe_op op_sub (pv 2) pe_int)))))
      (pss_one (ps_ret (pv 3))))), ?_⟩
    rw [show L2.start N_l_power [V.int c, V.int p, V.int t] = [some (V.int c), some (V.int p), some (V.int t), none] from rfl]
    refine q_asg (v := .int 1) (by walk_at "ev") fun H0 e0 => ?_
    dsimp only [List.set]
    refine q_while (fun m σ' H' => Ex H H' ∧ ∃ (j : Nat) (r : Int), σ' = [some (.int c), some (.int p), some (.int (t - j)), some (.int r)] ∧ j ≤ t.toNat ∧ r = p ^ j ∧ r < 10 ^ 95 ∧ m = t.toNat - j) t.toNat ⟨e0, 0, 1, by simp, by omega, by rw [Int.pow_zero], by decide, by omega⟩ ?_
    rintro m σ' H' ⟨e, j, r, rfl, hj, hr', hr9, rfl⟩
    have r0 : 0 < r := by rw [hr']; exact pow_pos' hp j
    refine ⟨decide (0 < t - j) && decide (r ≤ c), et_and (by walk_at "ev") (fun _ => by walk_at "ev"), fun hb H1 e1 => ?_, fun hb H1 e1 => ?_⟩
    · rw [Bool.and_eq_true, decide_eq_true_eq, decide_eq_true_eq] at hb
      refine ⟨_, fun σ2 H2 h => h, ?_⟩
      have hm : CMulW r p := mulw (by omega) (by omega) (by omega) (by omega)
      refine q_asg (v := .int (r * p)) (by walk_at "ev") fun H2 e2 => ?_
      dsimp only [List.set]
      refine s_asg (v := .int (t - j - 1)) (by walk_at "ev") fun H3 e3 => ?_
      dsimp only [List.set]
      have hl : r * p ≤ 10 ^ 60 * 10 ^ 32 := Int.le_trans (Int.mul_le_mul_of_nonneg_right (by omega : r ≤ 10 ^ 60) (by omega)) (Int.mul_le_mul_of_nonneg_left (by omega) (by decide))
      have hn : (10 : Int) ^ 60 * 10 ^ 32 < 10 ^ 95 := by decide
      exact ⟨t.toNat - (j + 1), by omega, ((e.trans e1).trans e2).trans e3, j + 1, r * p, by rw [show t - (j : Int) - 1 = t - ((j + 1 : Nat) : Int) by omega], by omega, by rw [hr', Int.pow_succ], by omega, rfl⟩
    · refine s_ret (ev_var rfl) fun H2 e2 => ?_
      refine k r ⟨r0, hr9, ?_⟩ _ ((e.trans e1).trans e2)
      rw [Bool.and_eq_false_iff, decide_eq_false_iff_not, decide_eq_false_iff_not] at hb
      rcases hb with hb | hb
      · left
        rw [hr', show j = t.toNat by omega]
      · right
        exact ⟨by omega, by rw [hr']; exact pow_le hp hj⟩
theorem fits_math {c p t r : Int} (hc : 0 ≤ c) (hp : 2 ≤ p) (h : PowIs c p t r) : agedI c p t * r ≤ c ∧ c < (agedI c p t + 1) * r := by
  obtain ⟨r0, _, h⟩ := h
  unfold agedI
  rcases h with h | ⟨h1, h2⟩
  · rw [← h]
    have e := Int.mul_ediv_add_emod c r
    have l1 := Int.emod_nonneg c (by omega : r ≠ 0)
    have l2 := Int.emod_lt_of_pos c r0
    rw [Int.add_mul, Int.one_mul, Int.mul_comm]
    constructor <;> omega
  · have : c / p ^ t.toNat = 0 := Int.ediv_eq_zero_of_lt hc (by omega)
    rw [this]
    omega
theorem agedI_le {c p t : Int} (hc : 0 ≤ c) (hp : 2 ≤ p) : agedI c p t ≤ c := Int.ediv_le_self _ hc
def spFits : Sp := fun vs H Q _ => ∃ f c p t : Int, vs = [.int f, .int c, .int p, .int t] ∧ f = agedI c p t ∧ 0 ≤ c ∧ c ≤ 10 ^ 60 ∧ 2 ≤ p ∧ p < 10 ^ 32 ∧ 0 ≤ t ∧ RetV (.bl true) H Q
theorem sv_fits {H : Hp} {f c p t : Int} (h0 : f = agedI c p t) (h1 : 0 ≤ c) (h2 : c ≤ 10 ^ 60) (h3 : 2 ≤ p) (h4 : p < 10 ^ 32) (h5 : 0 ≤ t) : SpV spFits [.int f, .int c, .int p, .int t] H (.bl true) := spv_of fun H1 Q E e q => ⟨_, _, _, _, rfl, h0, h1, h2, h3, h4, h5, q⟩
theorem ok_l_fits (T : Tx K mg) : FnOk P w K mg base CX0 2 T.f_l_fits T.fd_l_fits P_l_fits spFits := by
  refine T.F_l_fits.ok sc_l_fits (fun vs H Q E h => ?_) (fun cdv A outer s H vs Q E hr h => ?_)
  · obtain ⟨a, b, c, d, rfl, _⟩ := h
    rfl
  · obtain ⟨f, c, p, t, rfl, hf, hc, hc6, hp, hp3, ht, k⟩ := h
    refine ⟨_, (pss_cons (ps_if (PW.pt (pw_or (pt_not (pt_val (pe_call (ok_l_whole T) (hr.mono (by decide)) rfl T.mg_l_whole T.F_l_whole.kp T.b_l_whole .nil pass0 (pa_cons (pv 0) pa_nil)))) (pw_or1 (pt_cmpR op_lt (pv 0) pe_int (nomark _))))) (pss_one (ps_ret pe_bl)) pss_nil)
      (pss_cons (ps_set (i := 4) sc_l_fits.nd rfl (Or.inl rfl) (pe_call (ok_l_power T) (hr.mono (by decide)) rfl T.mg_l_power T.F_l_power.kp T.b_l_power .nil pass0 (pa_cons (pv 1) (pa_cons (pv 2) (pa_cons (pv 3) pa_nil)))))
      (pss_one (ps_ret (pe_and (pe_cmpR op_le (pe_op op_mulW (pv 0) (pv 4)) (pv 1) (nomark _)) (pe_one (pe_cmpR op_lt (pv 1) (pe_op op_mulW (pe_op op_add (pv 0) pe_int) (pv 4)) (nomark _)))))))), ?_⟩
    rw [show L2.start N_l_fits [V.int f, V.int c, V.int p, V.int t] = [some (V.int f), some (V.int c), some (V.int p), some (V.int t), none] from rfl]
    have f0 : 0 ≤ f := by rw [hf]; exact agedI_nn hc hp
    have f1 : f ≤ c := by rw [hf]; exact agedI_le hc hp
    refine q_when (b := false) (et_is (et_or (et_not (by walk_at "ev")) fun _ => by walk_at "ev") (by rw [decide_eq_false (by omega)]; rfl)) (fun hb => nomatch hb) (fun _ H1 e1 => ?_)
    refine q_asgP (P := fun v _ => ∃ r, v = .int r ∧ PowIs c p t r) (ev_callP (vs := [.int c, .int p, .int t]) (by walk_at "ev") fun H2 e2 Q2 q2 E2 => ⟨c, p, t, rfl, hc, hc6, hp, hp3, ht, fun r hr' H3 e3 => q2 _ _ e3 ⟨r, rfl, hr'⟩⟩) ?_
    rintro _ H2 e2 ⟨r, rfl, hr'⟩
    dsimp only [List.set]
    have m := fits_math hc hp hr'
    rw [← hf] at m
    obtain ⟨r0, r9, _⟩ := hr'
    have w1 : CMulW f r := mulw f0 (by omega) (by omega) (by omega)
    have w2 : CMulW (f + 1) r := mulw (by omega) (by omega) (by omega) (by omega)
    refine s_ret (ev_and1 (ev_is (v := .bl (decide (f * r ≤ c))) (by walk_at "ev") (by rw [decide_eq_true m.1])) (ev_is (v := .bl (decide (c < (f + 1) * r))) (by walk_at "ev") (by rw [decide_eq_true m.2]))) fun H3 e3 => k _ ((e1.trans e2).trans e3)
theorem p59 : (10 : Int) ^ (59 : Int).toNat = 10 ^ 59 := rfl
theorem p60 : (10 : Int) ^ (60 : Int).toNat = 10 ^ 60 := rfl
theorem p30 : (10 : Int) ^ (30 : Int).toNat = 10 ^ 30 := rfl
theorem ev_p59 {H : Hp} {σ : L2.St} : Ev (tOp (rI CPow fun i j => .int (i ^ j.toNat)) (tC (.int 10)) (tC (.int 59))) σ H (.int (10 ^ 59)) := ev_is (ev_op ev_c ev_c (rv_I (by unfold CPow; decide))) (by rw [p59])
theorem ev_p60 {H : Hp} {σ : L2.St} : Ev (tOp (rI CPow fun i j => .int (i ^ j.toNat)) (tC (.int 10)) (tC (.int 60))) σ H (.int (10 ^ 60)) := ev_is (ev_op ev_c ev_c (rv_I (by unfold CPow; decide))) (by rw [p60])
theorem ev_p30 {H : Hp} {σ : L2.St} : Ev (tOp (rI CPow fun i j => .int (i ^ j.toNat)) (tC (.int 10)) (tC (.int 30))) σ H (.int (10 ^ 30)) := ev_is (ev_op ev_c ev_c (rv_I (by unfold CPow; decide))) (by rw [p30])
local macro_rules | `(tactic| walk_at "ev") => `(tactic| first | with_reducible exact ev_p59 | with_reducible exact ev_p60 | with_reducible exact ev_p30)
def timesOf (c : Int) : Int := if c % 5 = 4 then c / 5 % 10 ^ 59 else c / 5 % 9
theorem timesOf_nn (c : Int) : 0 ≤ timesOf c := by
  unfold timesOf
  split <;> omega
def spTimes : Sp := fun vs H Q _ => ∃ c : Int, vs = [.int c] ∧ RetV (.int (timesOf c)) H Q
theorem sv_times {H : Hp} {c : Int} : SpV spTimes [.int c] H (.int (timesOf c)) := spv_of fun H1 Q E e q => ⟨_, rfl, q⟩
theorem ok_l_times (T : Tx K mg) : FnOk P w K mg base CX0 1 T.f_l_times T.fd_l_times P_l_times spTimes := by
  refine T.F_l_times.ok sc_l_times (fun vs H Q E h => ?_) (fun cdv A outer s H vs Q E hr h => ?_)
  · obtain ⟨a, rfl, _⟩ := h
    rfl
  · obtain ⟨c, rfl, k⟩ := h
    refine ⟨_, (pss_cons (ps_if (pt_cmpR op_eq (pe_op op_mod (pv 0) pe_int) pe_int (nomark _)) (pss_one (ps_ret (pe_op op_mod (pe_op op_fdivW (pv 0) pe_int) (pe_op op_pow pe_int pe_int)))) pss_nil)
      (pss_one (ps_ret (pe_op op_mod (pe_op op_fdivW (pv 0) pe_int) pe_int)))), ?_⟩
    unfold timesOf at k
    refine q_when (b := decide (c % 5 = 4)) (et_is (by walk_at "ev") dec_i) (fun hb H1 e1 => ?_) (fun hb H1 e1 => ?_)
    · rw [if_pos (of_decide_eq_true hb)] at k
      exact s_ret (by walk_at "ev") fun H2 e2 => k _ (e1.trans e2)
    · rw [if_neg (of_decide_eq_false hb)] at k
      exact s_ret (by walk_at "ev") fun H2 e2 => k _ (e1.trans e2)
local macro_rules | `(tactic| walk_at "fn") => `(tactic| with_reducible exact sv_times)
theorem agedI_add {c p s t : Int} (hp : 2 ≤ p) (hs : 0 ≤ s) (ht : 0 ≤ t) : agedI (agedI c p s) p t = agedI c p (s + t) := by
  unfold agedI
  rw [Int.ediv_ediv_of_nonneg (Int.le_of_lt (pow_pos' hp _)), ← Int.pow_add, Int.toNat_add hs ht]
theorem ok_law (T : Tx K mg) : FnOk P w K mg base CX0 9 T.f_law T.fd_law P_law (spLaw K) := by
  refine T.F_law.ok sc_law (fun vs H Q E h => ?_) (fun cdv A outer s H vs Q E hr h => ?_)
  · obtain ⟨a, ns, rfl, _⟩ := h
    rfl
  · obtain ⟨a, ns, rfl, hS, hl, k⟩ := h
    refine ⟨_, (pss_cons (ps_set (i := 1) sc_law.nd rfl (Or.inl rfl) (pe_call (ok_l_cell_at T) (hr.mono (by decide)) rfl T.mg_l_cell_at T.F_l_cell_at.kp T.b_l_cell_at .nil pass0 (pa_cons (pv 0) (pa_cons pe_int pa_nil))))
      (pss_cons (ps_set (i := 2) sc_law.nd rfl (Or.inl rfl) (pe_op op_mod (pe_op op_fdivW (pv 1) pe_int) pe_int))
      (pss_cons (ps_if (pt_cmpR op_eq (pe_op op_mod (pv 1) pe_int) pe_int (nomark _)) (pss_one (ps_set (i := 2) sc_law.nd rfl (Or.inl rfl) (pe_op op_mod (pe_op op_fdivW (pv 1) pe_int) (pe_op op_add (pe_op op_pow pe_int pe_int) pe_int)))) pss_nil)
      (pss_cons (ps_set (i := 1) sc_law.nd rfl (Or.inl rfl) (pe_call (ok_l_cell_at T) (hr.mono (by decide)) rfl T.mg_l_cell_at T.F_l_cell_at.kp T.b_l_cell_at .nil pass0 (pa_cons (pv 0) (pa_cons pe_int pa_nil))))
      (pss_cons (ps_set (i := 3) sc_law.nd rfl (Or.inl rfl) (pe_op op_add pe_int (pe_op op_mod (pe_op op_fdivW (pv 1) pe_int) pe_int)))
      (pss_cons (ps_if (pt_cmpR op_eq (pe_op op_mod (pv 1) pe_int) pe_int (nomark _)) (pss_one (ps_set (i := 3) sc_law.nd rfl (Or.inl rfl) (pe_op op_add pe_int (pe_op op_mod (pe_op op_fdivW (pv 1) pe_int) (pe_op op_sub (pe_op op_pow pe_int pe_int) pe_int))))) pss_nil)
      (pss_cons (ps_set (i := 4) sc_law.nd rfl (Or.inl rfl) (pe_call (ok_l_times T) (hr.mono (by decide)) rfl T.mg_l_times T.F_l_times.kp T.b_l_times .nil pass0 (pa_cons (pe_call (ok_l_cell_at T) (hr.mono (by decide)) rfl T.mg_l_cell_at T.F_l_cell_at.kp T.b_l_cell_at .nil pass0 (pa_cons (pv 0) (pa_cons pe_int pa_nil))) pa_nil)))
      (pss_cons (ps_set (i := 5) sc_law.nd rfl (Or.inl rfl) (pe_call (ok_l_times T) (hr.mono (by decide)) rfl T.mg_l_times T.F_l_times.kp T.b_l_times .nil pass0 (pa_cons (pe_call (ok_l_cell_at T) (hr.mono (by decide)) rfl T.mg_l_cell_at T.F_l_cell_at.kp T.b_l_cell_at .nil pass0 (pa_cons (pv 0) (pa_cons pe_int pa_nil))) pa_nil)))
      (pss_cons (ps_set (i := 6) sc_law.nd rfl (Or.inl rfl) (pe_call (ok_aged T) (hr.mono (by decide)) rfl T.mg_aged T.F_aged.kp T.b_aged .nil pass0 (pa_cons (pv 2) (pa_cons (pv 3) (pa_cons (pv 4) pa_nil)))))
      (pss_cons (ps_if (pt_not (pt_val (pe_call (ok_l_fits T) (hr.mono (by decide)) rfl T.mg_l_fits T.F_l_fits.kp T.b_l_fits .nil pass0 (pa_cons (pv 6) (pa_cons (pv 2) (pa_cons (pv 3) (pa_cons (pv 4) pa_nil))))))) (pss_one (ps_ret pe_bl)) pss_nil)
      (pss_cons (ps_set (i := 7) sc_law.nd rfl (Or.inl rfl) (pe_call (ok_aged T) (hr.mono (by decide)) rfl T.mg_aged T.F_aged.kp T.b_aged .nil pass0 (pa_cons (pv 2) (pa_cons (pv 3) (pa_cons (pe_op op_add (pv 4) (pv 5)) pa_nil)))))
      (pss_cons (ps_if (pt_not (pt_val (pe_call (ok_l_fits T) (hr.mono (by decide)) rfl T.mg_l_fits T.F_l_fits.kp T.b_l_fits .nil pass0 (pa_cons (pv 7) (pa_cons (pv 2) (pa_cons (pv 3) (pa_cons (pe_op op_add (pv 4) (pv 5)) pa_nil))))))) (pss_one (ps_ret pe_bl)) pss_nil)
      (pss_cons (ps_set (i := 8) sc_law.nd rfl (Or.inl rfl) (pe_call (ok_aged T) (hr.mono (by decide)) rfl T.mg_aged T.F_aged.kp T.b_aged .nil pass0 (pa_cons (pv 6) (pa_cons (pv 3) (pa_cons (pv 5) pa_nil)))))
      (pss_one (ps_ret (pe_and (pe_call (ok_l_whole T) (hr.mono (by decide)) rfl T.mg_l_whole T.F_l_whole.kp T.b_l_whole .nil pass0 (pa_cons (pv 8) pa_nil)) (pe_one (pe_cmpR op_eq (pv 8) (pv 7) (nomark _))))))))))))))))))), ?_⟩
    rw [show L2.start N_law [V.ref a] = [some (V.ref a), none, none, none, none, none, none, none, none] from rfl]
    have cell : ∀ (i : Nat) {σ' H'} , Ex H H' → σ'[0]? = some (some (.ref a)) → Ev (tCall (spCell K) [] E0 (tCons (tVar 0) (tCons (tC (.int i)) tNil))) σ' H' (.int (cellAt ns i)) := fun i σ' H' e h0 =>
      ev_call0 (vs := [.ref a, .int i]) (ea_cons (ev_var h0) (ea_cons ev_c ea_nil)) (sv_cell (ex_l e hS) hl)
    refine q_asgZ (cell 0 (Ex.refl _) rfl) fun H1 e1 c0 _ => ?_
    dsimp only [List.set]
    refine q_asgZ (by walk_at "ev") fun H2 e2 n0 h0 => ?_
    dsimp only [List.set]
    refine q_ifZ (n := n0) rfl (by walk_at "ev") (by walk_at "ev") fun H3 e3 n h1 h1' => ?_
    dsimp only [List.set]
    have hn : 0 ≤ n ∧ n ≤ 10 ^ 60 := by
      cases hb : decide (V.int (c0 % 2) = V.int 1) with
      | true => have := h1 hb; omega
      | false => have := h1' hb; omega
    clear h1 h1' h0
    have E3 := (e1.trans e2).trans e3
    refine q_asgZ (cell 1 E3 rfl) fun H4 e4 c1 _ => ?_
    dsimp only [List.set]
    refine q_asgZ (by walk_at "ev") fun H5 e5 p0 h0 => ?_
    dsimp only [List.set]
    refine q_ifZ (n := p0) rfl (by walk_at "ev") (by walk_at "ev") fun H6 e6 p h1 h1' => ?_
    dsimp only [List.set]
    have hp : 2 ≤ p ∧ p < 10 ^ 32 := by
      cases hb : decide (V.int (c1 % 4) = V.int 3) with
      | true => have := h1 hb; omega
      | false => have := h1' hb; omega
    clear h1 h1' h0
    have E6 := ((E3.trans e4).trans e5).trans e6
    refine q_asgZ (n := timesOf (cellAt ns 2)) (ev_call0 (vs := [.int (cellAt ns 2)]) (ea_cons (cell 2 E6 rfl) ea_nil) sv_times) fun H7 e7 t ht => ?_
    dsimp only [List.set]
    have ht : 0 ≤ t := by rw [ht]; exact timesOf_nn _
    have E7 := E6.trans e7
    refine q_asgZ (n := timesOf (cellAt ns 3)) (ev_call0 (vs := [.int (cellAt ns 3)]) (ea_cons (cell 3 E7 rfl) ea_nil) sv_times) fun H8 e8 u hu => ?_
    dsimp only [List.set]
    have hu : 0 ≤ u := by rw [hu]; exact timesOf_nn _
    obtain ⟨hn0, hn1⟩ := hn
    obtain ⟨hp0, hp1⟩ := hp
    refine q_asgZ (n := agedI n p t) (by walk_at "ev") fun H9 e9 f hf => ?_
    dsimp only [List.set]
    have f1 : SpV spFits [.int f, .int n, .int p, .int t] H9 (.bl true) := sv_fits hf hn0 hn1 hp0 hp1 ht
    refine q_when (b := false) (et_is (et_not (et_B (ev_call0 (vs := [.int f, .int n, .int p, .int t]) (by walk_at "ev") f1))) rfl) (fun hb => nomatch hb) (fun _ H10 e10 => ?_)
    refine q_asgZ (n := agedI n p (t + u)) (by walk_at "ev") fun H11 e11 g hg => ?_
    dsimp only [List.set]
    have f2 : SpV spFits [.int g, .int n, .int p, .int (t + u)] H11 (.bl true) := sv_fits hg hn0 hn1 hp0 hp1 (by omega)
    refine q_when (b := false) (et_is (et_not (et_B (ev_call0 (vs := [.int g, .int n, .int p, .int (t + u)]) (by walk_at "ev") f2))) rfl) (fun hb => nomatch hb) (fun _ H12 e12 => ?_)
    have f0 : 0 ≤ f := by rw [hf]; exact agedI_nn hn0 hp0
    refine q_asgZ (n := agedI f p u) (by walk_at "ev") fun H13 e13 z hz => ?_
    dsimp only [List.set]
    refine s_ret (ev_and1 (by walk_at "ev") (ev_is (v := .bl (decide (V.int z = V.int g))) (by walk_at "ev") ?_)) fun H14 e14 => k _
    rw [hz, hf, hg, agedI_add hp0 ht hu, decide_eq_true rfl]
end

theorem all_mk {l : PySem.W.OpenLaw} {w : World} {K : PySem.W.Frag} {h : Heap} {mg : Str → Option Value} {fa : Addr} (X : K.In h) (G : h.Ns mainGlobals mg) (hfa : mg "law" = some (.ref fa))
    {f_aged : Addr} {od_aged an_aged : Option Addr} {sl_aged : Array (Option Value)} {oc_aged kV_aged dc_aged pm_aged cd_aged ct_aged : Value}
    {f_l_cell_at : Addr} {od_l_cell_at an_l_cell_at : Option Addr} {sl_l_cell_at : Array (Option Value)} {oc_l_cell_at kV_l_cell_at dc_l_cell_at pm_l_cell_at cd_l_cell_at ct_l_cell_at : Value}
    {f_l_whole : Addr} {od_l_whole an_l_whole : Option Addr} {sl_l_whole : Array (Option Value)} {oc_l_whole kV_l_whole dc_l_whole pm_l_whole cd_l_whole ct_l_whole : Value}
    {f_l_power : Addr} {od_l_power an_l_power : Option Addr} {sl_l_power : Array (Option Value)} {oc_l_power kV_l_power dc_l_power pm_l_power cd_l_power ct_l_power : Value}
    {f_l_fits : Addr} {od_l_fits an_l_fits : Option Addr} {sl_l_fits : Array (Option Value)} {oc_l_fits kV_l_fits dc_l_fits pm_l_fits cd_l_fits ct_l_fits : Value}
    {f_l_times : Addr} {od_l_times an_l_times : Option Addr} {sl_l_times : Array (Option Value)} {oc_l_times kV_l_times dc_l_times pm_l_times cd_l_times ct_l_times : Value}
    {f_law : Addr} {od_law an_law : Option Addr} {sl_law : Array (Option Value)} {oc_law kV_law dc_law pm_law cd_law ct_law : Value}
    (a_aged : PySem.W.nsIn K mainGlobals "aged" = some (some (.ref f_aged)))
    (l_aged : K.lookup f_aged = some ⟨oc_aged, od_aged, .func (PySem.W.fnOf "aged" "aged" (defArgs s_aged) (defBody s_aged) (defScope s_aged) .none kV_aged dc_aged pm_aged an_aged cd_aged ct_aged), sl_aged⟩)
    (c_aged : PySem.W.codeIn K cd_aged "aged" = true)
    (k_aged : PySem.W.keepIn K (.ref f_aged) = true)
    (a_l_cell_at : PySem.W.nsIn K mainGlobals "_law_cell_at" = some (some (.ref f_l_cell_at)))
    (l_l_cell_at : K.lookup f_l_cell_at = some ⟨oc_l_cell_at, od_l_cell_at, .func (PySem.W.fnOf "_law_cell_at" "_law_cell_at" (defArgs s_l_cell_at) (defBody s_l_cell_at) (defScope s_l_cell_at) .none kV_l_cell_at dc_l_cell_at pm_l_cell_at an_l_cell_at cd_l_cell_at ct_l_cell_at), sl_l_cell_at⟩)
    (c_l_cell_at : PySem.W.codeIn K cd_l_cell_at "_law_cell_at" = true)
    (k_l_cell_at : PySem.W.keepIn K (.ref f_l_cell_at) = true)
    (a_l_whole : PySem.W.nsIn K mainGlobals "_law_whole" = some (some (.ref f_l_whole)))
    (l_l_whole : K.lookup f_l_whole = some ⟨oc_l_whole, od_l_whole, .func (PySem.W.fnOf "_law_whole" "_law_whole" (defArgs s_l_whole) (defBody s_l_whole) (defScope s_l_whole) .none kV_l_whole dc_l_whole pm_l_whole an_l_whole cd_l_whole ct_l_whole), sl_l_whole⟩)
    (c_l_whole : PySem.W.codeIn K cd_l_whole "_law_whole" = true)
    (k_l_whole : PySem.W.keepIn K (.ref f_l_whole) = true)
    (a_l_power : PySem.W.nsIn K mainGlobals "_law_power" = some (some (.ref f_l_power)))
    (l_l_power : K.lookup f_l_power = some ⟨oc_l_power, od_l_power, .func (PySem.W.fnOf "_law_power" "_law_power" (defArgs s_l_power) (defBody s_l_power) (defScope s_l_power) .none kV_l_power dc_l_power pm_l_power an_l_power cd_l_power ct_l_power), sl_l_power⟩)
    (c_l_power : PySem.W.codeIn K cd_l_power "_law_power" = true)
    (k_l_power : PySem.W.keepIn K (.ref f_l_power) = true)
    (a_l_fits : PySem.W.nsIn K mainGlobals "_law_fits" = some (some (.ref f_l_fits)))
    (l_l_fits : K.lookup f_l_fits = some ⟨oc_l_fits, od_l_fits, .func (PySem.W.fnOf "_law_fits" "_law_fits" (defArgs s_l_fits) (defBody s_l_fits) (defScope s_l_fits) .none kV_l_fits dc_l_fits pm_l_fits an_l_fits cd_l_fits ct_l_fits), sl_l_fits⟩)
    (c_l_fits : PySem.W.codeIn K cd_l_fits "_law_fits" = true)
    (k_l_fits : PySem.W.keepIn K (.ref f_l_fits) = true)
    (a_l_times : PySem.W.nsIn K mainGlobals "_law_times" = some (some (.ref f_l_times)))
    (l_l_times : K.lookup f_l_times = some ⟨oc_l_times, od_l_times, .func (PySem.W.fnOf "_law_times" "_law_times" (defArgs s_l_times) (defBody s_l_times) (defScope s_l_times) .none kV_l_times dc_l_times pm_l_times an_l_times cd_l_times ct_l_times), sl_l_times⟩)
    (c_l_times : PySem.W.codeIn K cd_l_times "_law_times" = true)
    (k_l_times : PySem.W.keepIn K (.ref f_l_times) = true)
    (a_law : PySem.W.nsIn K mainGlobals "law" = some (some (.ref f_law)))
    (l_law : K.lookup f_law = some ⟨oc_law, od_law, .func (PySem.W.fnOf "law" "law" (defArgs s_law) (defBody s_law) (defScope s_law) .none kV_law dc_law pm_law an_law cd_law ct_law), sl_law⟩)
    (c_law : PySem.W.codeIn K cd_law "law" = true)
    (k_law : PySem.W.keepIn K (.ref f_law) = true)
    (z_len : PySem.W.nsIn K mainGlobals "len" = some none)
    (z_isinstance : PySem.W.nsIn K mainGlobals "isinstance" = some none)
    (z_int : PySem.W.nsIn K mainGlobals "int" = some none)
    (z_bool : PySem.W.nsIn K mainGlobals "bool" = some none) :
    ∃ fd : FuncData, (∀ (s : Shared) (v : Value), BindsTo s fd ⟨[v], []⟩ [("_law_script", v)]) ∧ ∀ base : Heap, K.In base → base.Ns mainGlobals mg → FnOk l.prog w K mg base CX0 9 fa fd P_law (spLaw K) := by
  have e := hfa.symm.trans (PySem.W.mg_of X G a_law)
  cases e
  have F_aged := fun_mk (st := s_aged) l_aged c_aged k_aged
  have b_aged := F_aged.binds (ps := P_aged) fun _ _ _ _ _ _ us hl => match us, hl with | [_, _, _], _ => rfl
  have F_l_cell_at := fun_mk (st := s_l_cell_at) l_l_cell_at c_l_cell_at k_l_cell_at
  have b_l_cell_at := F_l_cell_at.binds (ps := P_l_cell_at) fun _ _ _ _ _ _ us hl => match us, hl with | [_, _], _ => rfl
  have F_l_whole := fun_mk (st := s_l_whole) l_l_whole c_l_whole k_l_whole
  have b_l_whole := F_l_whole.binds (ps := P_l_whole) fun _ _ _ _ _ _ us hl => match us, hl with | [_], _ => rfl
  have F_l_power := fun_mk (st := s_l_power) l_l_power c_l_power k_l_power
  have b_l_power := F_l_power.binds (ps := P_l_power) fun _ _ _ _ _ _ us hl => match us, hl with | [_, _, _], _ => rfl
  have F_l_fits := fun_mk (st := s_l_fits) l_l_fits c_l_fits k_l_fits
  have b_l_fits := F_l_fits.binds (ps := P_l_fits) fun _ _ _ _ _ _ us hl => match us, hl with | [_, _, _, _], _ => rfl
  have F_l_times := fun_mk (st := s_l_times) l_l_times c_l_times k_l_times
  have b_l_times := F_l_times.binds (ps := P_l_times) fun _ _ _ _ _ _ us hl => match us, hl with | [_], _ => rfl
  have F_law := fun_mk (st := s_law) l_law c_law k_law
  have b_law := F_law.binds (ps := P_law) fun _ _ _ _ _ _ us hl => match us, hl with | [_], _ => rfl
  let T : Tx K mg := { f_aged := f_aged, fd_aged := _, F_aged := F_aged, b_aged := b_aged, mg_aged := PySem.W.mg_of X G a_aged, f_l_cell_at := f_l_cell_at, fd_l_cell_at := _, F_l_cell_at := F_l_cell_at, b_l_cell_at := b_l_cell_at, mg_l_cell_at := PySem.W.mg_of X G a_l_cell_at, f_l_whole := f_l_whole, fd_l_whole := _, F_l_whole := F_l_whole, b_l_whole := b_l_whole, mg_l_whole := PySem.W.mg_of X G a_l_whole, f_l_power := f_l_power, fd_l_power := _, F_l_power := F_l_power, b_l_power := b_l_power, mg_l_power := PySem.W.mg_of X G a_l_power, f_l_fits := f_l_fits, fd_l_fits := _, F_l_fits := F_l_fits, b_l_fits := b_l_fits, mg_l_fits := PySem.W.mg_of X G a_l_fits, f_l_times := f_l_times, fd_l_times := _, F_l_times := F_l_times, b_l_times := b_l_times, mg_l_times := PySem.W.mg_of X G a_l_times, f_law := fa, fd_law := _, F_law := F_law, b_law := b_law, mg_law := PySem.W.mg_of X G a_law, n_len := PySem.W.mg_none_of X G z_len, n_isinstance := PySem.W.mg_none_of X G z_isinstance, n_int := PySem.W.mg_none_of X G z_int, n_bool := PySem.W.mg_none_of X G z_bool }
  exact ⟨_, fun s v => .of_eq rfl, fun base _ _ => ok_law T⟩
theorem walk {l : PySem.W.OpenLaw} {q : Program} {loose : List Str} {XP : (Str → Option Value) → Heap → Prop} {YP : World → Heap → Prop} {d : DefRec} {K : Params → PySem.W.Frag} (hn : l.most = some 63) (hdf : d.params.defaults = [])
    (hY : ∀ (w : World) (h : Heap), YP w h → (K w.params).In h)
    (F : ∀ (w : World) (mg : Str → Option Value) (fa : Addr) (h : Heap), (K w.params).In h → h.Ns mainGlobals mg → mg d.name = some (.ref fa) →
      ∃ fd : FuncData, (∀ (s : Shared) (u : Value), BindsTo s fd ⟨[u], []⟩ [("_law_script", u)]) ∧ ∀ base : Heap, (K w.params).In base → base.Ns mainGlobals mg → FnOk l.prog w (K w.params) mg base CX0 9 fa fd P_law (spLaw (K w.params))) :
    PySem.W.WalkO q loose XP YP l.row.toRowW d [] (fun f vs => PySem.call f vs) :=
  L2.walk_of (n := 63) (k := 9) (x := "_law_script") (CX := fun _ => CX0) (sp := fun w => spLaw (K w.params)) hn (by decide) hdf ⟨rfl, by decide, by decide⟩ hY F (fun _ _ a ns hl _ hS => ⟨a, ns, rfl, hS, hl, fun _ => rfl⟩) fun _ _ _ _ _ z => z
end Own
open PySem PySem.W PyProof.Rows
set_option maxRecDepth 100000 in
set_option maxHeartbeats 0 in
theorem PySem.Challenge.cw_leastasked_k01_a_count_aged_holds : PySem.Challenge.rw_leastasked_k01_a_count_aged.Holds := by
  w_on; o_law; k_head; (case hw => w_witness2)
  k_fill
  refine Own.walk (l := PySem.Challenge.rw_leastasked_k01_a_count_aged) rfl rfl (fun w h Y => PySem.W.kIn_of Y) ?F
  case F =>
    intro w mg fa h KX G hmg
    refine' Own.all_mk KX G hmg ?a_aged ?l_aged ?c_aged ?k_aged ?a_l_cell_at ?l_l_cell_at ?c_l_cell_at ?k_l_cell_at ?a_l_whole ?l_l_whole ?c_l_whole ?k_l_whole ?a_l_power ?l_l_power ?c_l_power ?k_l_power ?a_l_fits ?l_l_fits ?c_l_fits ?k_l_fits ?a_l_times ?l_l_times ?c_l_times ?k_l_times ?a_law ?l_law ?c_law ?k_law ?z_len ?z_isinstance ?z_int ?z_bool
    (case a_aged => k_is)
    (case l_aged => k_is)
    (case c_aged => k_is)
    (case k_aged => k_is)
    (case a_l_cell_at => k_is)
    (case l_l_cell_at => k_is)
    (case c_l_cell_at => k_is)
    (case k_l_cell_at => k_is)
    (case a_l_whole => k_is)
    (case l_l_whole => k_is)
    (case c_l_whole => k_is)
    (case k_l_whole => k_is)
    (case a_l_power => k_is)
    (case l_l_power => k_is)
    (case c_l_power => k_is)
    (case k_l_power => k_is)
    (case a_l_fits => k_is)
    (case l_l_fits => k_is)
    (case c_l_fits => k_is)
    (case k_l_fits => k_is)
    (case a_l_times => k_is)
    (case l_l_times => k_is)
    (case c_l_times => k_is)
    (case k_l_times => k_is)
    (case a_law => k_is)
    (case l_law => k_is)
    (case c_law => k_is)
    (case k_law => k_is)
    (case z_len => k_is)
    (case z_isinstance => k_is)
    (case z_int => k_is)
    (case z_bool => k_is)
