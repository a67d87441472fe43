import PyProof.Rows.All
import Wide.All
import OpenK.AllK
import Wide.FinOn
import HandS.ForMost
import HandS.Wide
import HandS.IsInst
import HandS.Evl
import HandS.SortInts
import PySem.Challenge.RW_leastasked_k02_ageings_counted
set_option Elab.async false
set_option maxRecDepth 100000
set_option maxHeartbeats 4000000
set_option linter.all false
namespace Own
open PySem L2 PyProof.Rows Evl
def topS (i : Nat) : Stmt := PySem.Challenge.pw_leastasked_k02_ageings_counted.main.body.getD i (.Pass ⟨0, 0, 0, 0⟩)
abbrev s_ageings : Stmt := topS 1
abbrev N_ageings : List Str := ["span", "since", "upto"]
abbrev P_ageings : List Str := ["span", "since", "upto"]
theorem sc_ageings : FnScope N_ageings P_ageings (defScope s_ageings) := ⟨rfl, rfl, rfl, by decide +kernel, rfl, by decide +kernel, by decide +kernel⟩

abbrev s_l_cell_at : Stmt := topS 3
abbrev N_l_cell_at : List Str := ["_law_script", "_law_k"]
abbrev P_l_cell_at : List Str := ["_law_script", "_law_k"]
theorem sc_l_cell_at : FnScope N_l_cell_at P_l_cell_at (defScope s_l_cell_at) := ⟨rfl, rfl, rfl, by decide +kernel, rfl, by decide +kernel, by decide +kernel⟩

abbrev s_l_whole : Stmt := topS 4
abbrev N_l_whole : List Str := ["_law_found"]
abbrev P_l_whole : List Str := ["_law_found"]
theorem sc_l_whole : FnScope N_l_whole P_l_whole (defScope s_l_whole) := ⟨rfl, rfl, rfl, by decide +kernel, rfl, by decide +kernel, by decide +kernel⟩

abbrev s_l_due : Stmt := topS 5
abbrev N_l_due : List Str := ["_law_span", "_law_since", "_law_upto", "_law_first"]
abbrev P_l_due : List Str := ["_law_span", "_law_since", "_law_upto"]
theorem sc_l_due : FnScope N_l_due P_l_due (defScope s_l_due) := ⟨rfl, rfl, rfl, by decide +kernel, rfl, by decide +kernel, by decide +kernel⟩

abbrev s_l_told : Stmt := topS 6
abbrev N_l_told : List Str := ["_law_span", "_law_since", "_law_upto", "_law_found"]
abbrev P_l_told : List Str := ["_law_span", "_law_since", "_law_upto"]
theorem sc_l_told : FnScope N_l_told P_l_told (defScope s_l_told) := ⟨rfl, rfl, rfl, by decide +kernel, rfl, by decide +kernel, by decide +kernel⟩

abbrev s_law : Stmt := topS 7
abbrev N_law : List Str := ["_law_script", "_law_cell", "_law_span", "_law_since", "_law_extra", "_law_upto", "_law_amid"]
abbrev P_law : List Str := ["_law_script"]
theorem sc_law : FnScope N_law P_law (defScope s_law) := ⟨rfl, rfl, rfl, by decide +kernel, rfl, by decide +kernel, by decide +kernel⟩

def spLaw (K : PySem.W.Frag) : Sp := fun vs H Q _ => ∃ (a : Addr) (ns : List Int), vs = [.ref a] ∧ SqL K H a (ns.map V.int) ∧ ns.length ≤ 63 ∧ ∀ H', Q (.bl true) H'
structure Tx (K : PySem.W.Frag) (mg : Str → Option Value) where
  f_ageings : Addr
  fd_ageings : FuncData
  F_ageings : Fun K "ageings" "ageings" s_ageings f_ageings fd_ageings
  b_ageings : Binds K fd_ageings P_ageings []
  mg_ageings : mg "ageings" = some (.ref f_ageings)
  f_l_cell_at : Addr
  fd_l_cell_at : FuncData
  F_l_cell_at : Fun K "_law_cell_at" "_law_cell_at" s_l_cell_at f_l_cell_at fd_l_cell_at
  b_l_cell_at : Binds K fd_l_cell_at P_l_cell_at []
  mg_l_cell_at : mg "_law_cell_at" = some (.ref f_l_cell_at)
  f_l_whole : Addr
  fd_l_whole : FuncData
  F_l_whole : Fun K "_law_whole" "_law_whole" s_l_whole f_l_whole fd_l_whole
  b_l_whole : Binds K fd_l_whole P_l_whole []
  mg_l_whole : mg "_law_whole" = some (.ref f_l_whole)
  f_l_due : Addr
  fd_l_due : FuncData
  F_l_due : Fun K "_law_due" "_law_due" s_l_due f_l_due fd_l_due
  b_l_due : Binds K fd_l_due P_l_due []
  mg_l_due : mg "_law_due" = some (.ref f_l_due)
  f_l_told : Addr
  fd_l_told : FuncData
  F_l_told : Fun K "_law_told" "_law_told" s_l_told f_l_told fd_l_told
  b_l_told : Binds K fd_l_told P_l_told []
  mg_l_told : mg "_law_told" = some (.ref f_l_told)
  f_law : Addr
  fd_law : FuncData
  F_law : Fun K "law" "law" s_law f_law fd_law
  b_law : Binds K fd_law P_law []
  mg_law : mg "law" = some (.ref f_law)
  n_len : mg "len" = none
  n_isinstance : mg "isinstance" = none
  n_int : mg "int" = none
  n_bool : mg "bool" = none
/-! ### Evl, more: own lemmas and the tactic walk_at "ev" -/
section
variable {K : PySem.W.Frag} {σ : L2.St} {H H' : Hp} {t u : TT} {ta tb te : TE} {x y z v : V} {D : Ends} {tu tw tz : TS}
theorem ev_isi {t u : Value} {c : V} {b : Bool} (ha : Ev ta σ H x) (hb : Ev tb σ H c) (hc : ClsV c u) (ht : ∀ H1, Ex H H1 → TyX K H1 x t) (hk : PySem.W.kitOne K t u = some b) :
    Ev (tCB (rIsi K) (tCons ta (tCons tb tNil))) σ H (.bl b) := fun H1 e Q q =>
  ha H1 e _ fun H2 e2 => hb H2 (e.trans e2) _ fun H3 e3 => ⟨x, c, t, u, b, rfl, hc, ht H3 ((e.trans e2).trans e3), hk, q H3 (e2.trans e3)⟩
theorem isi_int_int {i : Int} : PySem.W.kitOne K (.type "int") (.type "int") = some true := kit_ty (by decide +kernel)
theorem isi_int_bool {i : Int} : PySem.W.kitOne K (.type "int") (.type "bool") = some false := kit_ty (by decide +kernel)
/-- isinstance(n, int), isinstance(n, bool) of an int -/
theorem ev_isInt {i : Int} (ha : Ev ta σ H (.int i)) : Ev (tCB (rIsi K) (tCons ta (tCons (tC (.ty "int")) tNil))) σ H (.bl true) := ev_isi ha ev_c (.ty _) (fun _ _ => .base (.int _)) (kit_ty (by decide +kernel))
theorem ev_isBoolI {i : Int} (ha : Ev ta σ H (.int i)) : Ev (tCB (rIsi K) (tCons ta (tCons (tC (.ty "bool")) tNil))) σ H (.bl false) := ev_isi ha ev_c (.ty _) (fun _ _ => .base (.int _)) (kit_ty (by decide +kernel))
theorem ev_isIntB {b : Bool} (ha : Ev ta σ H (.bl b)) : Ev (tCB (rIsi K) (tCons ta (tCons (tC (.ty "int")) tNil))) σ H (.bl true) := ev_isi ha ev_c (.ty _) (fun _ _ => .base (.bl _)) (kit_ty (by decide +kernel))
theorem ev_isBoolB {b : Bool} (ha : Ev ta σ H (.bl b)) : Ev (tCB (rIsi K) (tCons ta (tCons (tC (.ty "bool")) tNil))) σ H (.bl true) := ev_isi ha ev_c (.ty _) (fun _ _ => .base (.bl _)) (kit_ty (by decide +kernel))
/-- name = an int: a letter for it -/
theorem q_asgZ {i : Nat} {n : Int} (h : Ev te σ H (.int n)) (k : ∀ H1, Ex H H1 → ∀ z, z = n → tz D (σ.set i (some (.int z))) H1) : tSeq (tAsg te (gName i)) tz D σ H := q_asg h fun H1 e => k H1 e n rfl
/-- if c: name = an int -/
theorem q_ifZ {b : Bool} {i : Nat} {n m : Int} (hold : σ.set i (some (.int n)) = σ) (h : EvT t σ H b) (h1 : Ev te σ H (.int m)) (k : ∀ H1, Ex H H1 → ∀ z, (b = true → z = m) → (b = false → z = n) → tz D (σ.set i (some (.int z))) H1) : tSeq (tIfS t (tAsg te (gName i)) tNext) tz D σ H :=
  q_when h (fun hb H1 e1 => s_asg (D := { D with nx := tz D }) (h1.mono e1) fun H2 e2 => k H2 (e1.trans e2) m (fun _ => rfl) (fun q => by rw [hb] at q; cases q)) (fun hb H1 e1 => by
    have g := k H1 e1 n (fun q => by rw [hb] at q; cases q) (fun _ => rfl)
    rw [hold] at g
    exact g)
theorem ev_callI {sp : Sp} {dvs vs : List V} {E : XK} {ta : TA} {w : V} (h : EvA ta σ H vs) (hs : SpV sp (vs ++ dvs) H w) : Ev (tCall sp dvs E ta) σ H w := ev_call h hs
theorem spv_of {sp : Sp} {vs : List V} {w : V} (h : ∀ (H1 : Hp) (Q : VK) (E : XK), Ex H H1 → RetV w H1 Q → sp vs H1 Q E) : SpV sp vs H w := fun H1 e Q q E => h H1 Q E e q
/-- and, or where the first value decides -/
theorem ev_and0 (h1 : Ev ta σ H (.bl false)) : Ev (tAndV ta tb) σ H (.bl false) := ev_andV (b := false) h1 (fun q => nomatch q)
theorem ev_and1 {b : Bool} (h1 : Ev ta σ H (.bl true)) (h2 : Ev tb σ H (.bl b)) : Ev (tAndV ta tb) σ H (.bl b) := ev_is (ev_andV h1 fun _ => h2) rfl
end
def Pos9 (j : Int) : Prop := 0 < j ∧ j < 10 ^ 80
theorem Pos9.d {i j : Int} (h : Pos9 j) : CDivW i j := wide_div (b := 300) h.1 (by have h1 := h.1; have h2 := h.2; omega) (by decide) (by decide)
theorem pos9 {i j : Int} (h : 0 < j) (h2 : j < 10 ^ 80) : CDivW i j := Pos9.d ⟨h, h2⟩
/-- a condition of arithmetic -/
local macro_rules | `(tactic| walk_at "side") => `(tactic| first
  | assumption
  | (show _ ∧ _; omega)
  | (apply pos9 <;> omega)
  | (show (0 : Int) < _; omega)
  | (show _ ∨ _; omega)
  | decide
  | omega)
local macro_rules | `(tactic| walk_at "fn") => `(tactic| fail "no fn")
local macro_rules | `(tactic| walk_at "ev") => `(tactic| first
  | exact ev_var rfl
  | exact ev_c
  | (apply ev_op <;> walk_at "ev")
  | exact rv_I0
  | (apply rv_I ; walk_at "side")
  | (apply rv_eq ; rfl)
  | (apply rv_ne ; rfl)
  | (apply ev_isInt ; walk_at "ev")
  | (apply ev_isBoolI ; walk_at "ev")
  | (apply ev_isIntB ; walk_at "ev")
  | (apply ev_isBoolB ; walk_at "ev")
  | (apply ev_notV ; walk_at "ev")
  | (apply et_test ; walk_at "ev")
  | (apply et_B ; walk_at "ev")
  | (apply et_not ; walk_at "ev")
  | exact ea_nil
  | (apply ea_cons <;> walk_at "ev")
  | (apply ev_call <;> walk_at "ev")
  | (show SpV _ _ _ _; walk_at "fn"))

/-! ### the plain law -/
def cellAt (ns : List Int) (k : Nat) : Int := ns.getD k 0
def due (s a b : Int) : Int := if a - a % s + s > b then 0 else 1 + (b - (a - a % s + s)) / s
theorem due_is {s a b : Int} (hs : 0 < s) (h : a ≤ b) : b / s - a / s = due s a b := by
  have e : a - a % s = s * (a / s) := by
    have := Int.mul_ediv_add_emod a s
    omega
  unfold due
  rw [e]
  have h1 : a / s ≤ b / s := Int.ediv_le_ediv hs h
  have e2 : s * (a / s) + s = s * (a / s + 1) := by rw [Int.mul_add, Int.mul_one]
  rw [e2]
  by_cases c : s * (a / s + 1) > b
  · rw [if_pos c]
    have : b / s < a / s + 1 := by
      apply Int.ediv_lt_of_lt_mul hs
      rw [Int.mul_comm]
      exact c
    omega
  · rw [if_neg c]
    have : (b - s * (a / s + 1)) / s = b / s - (a / s + 1) := Int.sub_mul_ediv_left b (a / s + 1) (by omega)
    rw [this]
    omega
section
variable {P : Program} {w : World} {K : PySem.W.Frag} {mg : Str → Option Value} {base : Heap}
def spAgeings : Sp := fun vs H Q _ => ∃ span since upto : Int, vs = [.int span, .int since, .int upto] ∧ Pos9 span ∧ RetV (.int (upto / span - since / span)) H Q
theorem sv_ageings {H : Hp} {span since upto : Int} (h : Pos9 span) : SpV spAgeings [.int span, .int since, .int upto] H (.int (upto / span - since / span)) := spv_of fun H1 Q E e k => ⟨_, _, _, rfl, h, k⟩
theorem ok_ageings (T : Tx K mg) : FnOk P w K mg base CX0 1 T.f_ageings T.fd_ageings P_ageings spAgeings := by
  refine T.F_ageings.ok sc_ageings (fun vs H Q E h => ?_) (fun cdv A outer s H vs Q E hr h => ?_)
  · obtain ⟨a, b, c, rfl, _⟩ := h
    rfl
  · obtain ⟨a, b, c, rfl, hp, k⟩ := h
    refine ⟨_, (pss_one (ps_ret (pe_op op_sub (pe_op op_fdivW (pv 2) (pv 0)) (pe_op op_fdivW (pv 1) (pv 0))))), ?_⟩
    have h1 : CDivW c a := hp.d
    have h2 : CDivW b a := hp.d
    refine s_ret ?_ k
    walk_at "ev"
local macro_rules | `(tactic| walk_at "fn") => `(tactic| (apply sv_ageings; assumption))
def spCell (K : PySem.W.Frag) : Sp := fun vs H Q _ => ∃ (a : Addr) (ns : List Int) (k : Nat), vs = [.ref a, .int k] ∧ SqL K H a (ns.map V.int) ∧ ns.length ≤ 63 ∧ RetV (.int (cellAt ns k)) H Q
theorem sv_cell {H : Hp} {a : Addr} {ns : List Int} {k : Nat} (h : SqL K H a (ns.map V.int)) (hl : ns.length ≤ 63) : SpV (spCell K) [.ref a, .int k] H (.int (cellAt ns k)) := spv_of fun H1 Q E e q => ⟨_, _, _, rfl, ex_l e h, hl, q⟩
theorem ok_l_cell_at (T : Tx K mg) : FnOk P w K mg base CX0 1 T.f_l_cell_at T.fd_l_cell_at P_l_cell_at (spCell K) := by
  refine T.F_l_cell_at.ok sc_l_cell_at (fun vs H Q E h => ?_) (fun cdv A outer s H vs Q E hr h => ?_)
  · obtain ⟨a, b, c, rfl, _⟩ := h
    rfl
  · obtain ⟨a, ns, c, rfl, hS, hl, k⟩ := h
    refine ⟨_, (pss_cons (ps_if (pt_cmpR op_lt (pv 1) (pe_callB call_len_seq (by rfl) T.n_len PySem.boot_len (pa_cons (pv 0) pa_nil)) (nomark _)) (pss_one (ps_ret (pe_ix ix_list (pv 0) (pv 1) (fun _ _ => rfl)))) pss_nil)
      (pss_one (ps_ret pe_int))), ?_⟩
    refine q_when (et_test (ev_op (ev_var rfl) (ev_len (ev_var rfl) hS) rv_I0)) (fun hb H1 e => ?_) (fun hb H1 e => ?_)
    · have hb := of_decide_eq_true hb
      rw [List.length_map] at hb
      refine s_ret (ev_op (ev_var rfl) (ev_var rfl) (rv_ixL (ex_l e hS) (at_of rfl (v := .int (cellAt ns c)) ?_))) fun H2 e2 => k H2 (e.trans e2)
      unfold cellAt
      rw [List.getElem?_map, List.getElem?_eq_getElem (by omega), List.getD_eq_getElem?_getD, List.getElem?_eq_getElem (by omega)]
      rfl
    · have hb := of_decide_eq_false hb
      rw [List.length_map] at hb
      have e0 : cellAt ns c = 0 := by
        unfold cellAt
        rw [List.getD_eq_getElem?_getD, List.getElem?_eq_none (by omega)]
        rfl
      rw [e0] at k
      exact s_ret ev_c fun H2 e2 => k H2 (e.trans e2)
def spWhole : Sp := fun vs H Q _ => ∃ i : Int, vs = [.int i] ∧ RetV (.bl true) H Q
theorem sv_whole {H : Hp} {i : Int} : SpV spWhole [.int i] H (.bl true) := spv_of fun H1 Q E e q => ⟨_, rfl, q⟩
theorem ok_l_whole (T : Tx K mg) : FnOk P w K mg base CX0 1 T.f_l_whole T.fd_l_whole P_l_whole spWhole := by
  refine T.F_l_whole.ok sc_l_whole (fun vs H Q E h => ?_) (fun cdv A outer s H vs Q E hr h => ?_)
  · obtain ⟨a, rfl, _⟩ := h
    rfl
  · obtain ⟨i, rfl, k⟩ := h
    refine ⟨_, (pss_one (ps_ret (pe_and (pe_callB call_isi (by rfl) T.n_isinstance (by decide +kernel) (pa_cons (pv 0) (pa_cons (pe_bltn (v := .ty "int") (u := .type "int") rfl T.n_int (by decide +kernel) rfl) pa_nil))) (pe_one (pe_not (pe_callB call_isi (by rfl) T.n_isinstance (by decide +kernel) (pa_cons (pv 0) (pa_cons (pe_bltn (v := .ty "bool") (u := .type "bool") rfl T.n_bool (by decide +kernel) rfl) pa_nil)))))))), ?_⟩
    refine s_ret (ev_and1 ?_ (ev_is (v := .bl (!false)) ?_ rfl)) k <;> walk_at "ev"
local macro_rules | `(tactic| walk_at "fn") => `(tactic| exact sv_whole)
def spDue : Sp := fun vs H Q _ => ∃ s a b : Int, vs = [.int s, .int a, .int b] ∧ Pos9 s ∧ RetV (.int (due s a b)) H Q
theorem sv_due {H : Hp} {s a b : Int} (h : Pos9 s) : SpV spDue [.int s, .int a, .int b] H (.int (due s a b)) := spv_of fun H1 Q E e q => ⟨_, _, _, rfl, h, q⟩
theorem ok_l_due (T : Tx K mg) : FnOk P w K mg base CX0 1 T.f_l_due T.fd_l_due P_l_due spDue := by
  refine T.F_l_due.ok sc_l_due (fun vs H Q E h => ?_) (fun cdv A outer s H vs Q E hr h => ?_)
  · obtain ⟨a, b, c, rfl, _⟩ := h
    rfl
  · obtain ⟨z, a, b, rfl, hp, k⟩ := h
    refine ⟨_, (pss_cons (ps_set (i := 3) sc_l_due.nd rfl (Or.inl rfl) (pe_op op_add (pe_op op_sub (pv 1) (pe_op op_mod (pv 1) (pv 0))) (pv 0)))
      (pss_cons (ps_if (pt_cmpR op_gt (pv 3) (pv 2) (nomark _)) (pss_one (ps_ret pe_int)) pss_nil)
      (pss_one (ps_ret (pe_op op_add pe_int (pe_op op_fdivW (pe_op op_sub (pv 2) (pv 3)) (pv 0))))))), ?_⟩
    have hp0 := hp.1
    have hd := fun i => hp.d (i := i)
    unfold due at k
    refine q_asg (v := .int (a - a % z + z)) (by walk_at "ev") fun H1 e1 => ?_
    refine q_when (b := decide (a - a % z + z > b)) (by walk_at "ev") (fun hb H2 e2 => ?_) (fun hb H2 e2 => ?_)
    · rw [if_pos (of_decide_eq_true hb)] at k
      exact s_ret ev_c fun H3 e3 => k H3 ((e1.trans e2).trans e3)
    · rw [if_neg (of_decide_eq_false hb)] at k
      refine s_ret ?_ fun H3 e3 => k H3 ((e1.trans e2).trans e3)
      have := hd (b - (a - a % z + z))
      walk_at "ev"
local macro_rules | `(tactic| walk_at "fn") => `(tactic| (apply sv_due; assumption))
def spTold : Sp := fun vs H Q _ => ∃ s a b : Int, vs = [.int s, .int a, .int b] ∧ Pos9 s ∧ a ≤ b ∧ RetV (.bl true) H Q
theorem sv_told {H : Hp} {s a b : Int} (h : Pos9 s) (h2 : a ≤ b) : SpV spTold [.int s, .int a, .int b] H (.bl true) := spv_of fun H1 Q E e q => ⟨_, _, _, rfl, h, h2, q⟩
theorem ok_l_told (T : Tx K mg) : FnOk P w K mg base CX0 2 T.f_l_told T.fd_l_told P_l_told spTold := by
  refine T.F_l_told.ok sc_l_told (fun vs H Q E h => ?_) (fun cdv A outer s H vs Q E hr h => ?_)
  · obtain ⟨a, b, c, rfl, _⟩ := h
    rfl
  · obtain ⟨z, a, b, rfl, hp, hab, k⟩ := h
    refine ⟨_, (pss_cons (ps_set (i := 3) sc_l_told.nd rfl (Or.inl rfl) (pe_call (ok_ageings T) (hr.mono (by decide)) rfl T.mg_ageings T.F_ageings.kp T.b_ageings .nil pass0 (pa_cons (pv 0) (pa_cons (pv 1) (pa_cons (pv 2) pa_nil)))))
      (pss_one (ps_ret (pe_and (pe_call (ok_l_whole T) (hr.mono (by decide)) rfl T.mg_l_whole T.F_l_whole.kp T.b_l_whole .nil pass0 (pa_cons (pv 3) pa_nil)) (pe_one (pe_cmpR op_eq (pv 3) (pe_call (ok_l_due T) (hr.mono (by decide)) rfl T.mg_l_due T.F_l_due.kp T.b_l_due .nil pass0 (pa_cons (pv 0) (pa_cons (pv 1) (pa_cons (pv 2) pa_nil)))) (nomark _))))))), ?_⟩
    refine q_asg (v := .int (b / z - a / z)) (by walk_at "ev") fun H1 e1 => ?_
    refine s_ret (ev_and1 (by walk_at "ev") (ev_is (v := .bl (decide (V.int (b / z - a / z) = V.int (due z a b)))) (by walk_at "ev") ?_)) fun H2 e2 => k H2 (e1.trans e2)
    rw [due_is hp.1 hab, decide_eq_true rfl]
local macro_rules | `(tactic| walk_at "fn") => `(tactic| (apply sv_told <;> first | assumption | omega))
theorem p20 : (10 : Int) ^ (20 : Int).toNat = 100000000000000000000 := by decide
theorem p35 : (10 : Int) ^ (35 : Int).toNat = 100000000000000000000000000000000000 := by decide
theorem p40 : (10 : Int) ^ (40 : Int).toNat = 10000000000000000000000000000000000000000 := by decide
theorem ev_p20 {H : Hp} {σ : L2.St} : Ev (tOp (rI CPow fun i j => .int (i ^ j.toNat)) (tC (.int 10)) (tC (.int 20))) σ H (.int 100000000000000000000) := ev_is (ev_op ev_c ev_c (rv_I (by unfold CPow; decide))) (by rw [p20])
theorem ev_p35 {H : Hp} {σ : L2.St} : Ev (tOp (rI CPow fun i j => .int (i ^ j.toNat)) (tC (.int 10)) (tC (.int 35))) σ H (.int 100000000000000000000000000000000000) := ev_is (ev_op ev_c ev_c (rv_I (by unfold CPow; decide))) (by rw [p35])
theorem ev_p40 {H : Hp} {σ : L2.St} : Ev (tOp (rI CPow fun i j => .int (i ^ j.toNat)) (tC (.int 10)) (tC (.int 40))) σ H (.int 10000000000000000000000000000000000000000) := ev_is (ev_op ev_c ev_c (rv_I (by unfold CPow; decide))) (by rw [p40])
local macro_rules | `(tactic| walk_at "ev") => `(tactic| first | exact ev_p20 | exact ev_p35 | exact ev_p40)
theorem ok_law (T : Tx K mg) : FnOk P w K mg base CX0 9 T.f_law T.fd_law P_law (spLaw K) := by
  refine T.F_law.ok sc_law (fun vs H Q E h => ?_) (fun cdv A outer s H vs Q E hr h => ?_)
  · obtain ⟨a, ns, rfl, _⟩ := h
    rfl
  · obtain ⟨a, ns, rfl, hS, hl, k⟩ := h
    refine ⟨_, (pss_cons (ps_set (i := 1) sc_law.nd rfl (Or.inl rfl) (pe_call (ok_l_cell_at T) (hr.mono (by decide)) rfl T.mg_l_cell_at T.F_l_cell_at.kp T.b_l_cell_at .nil pass0 (pa_cons (pv 0) (pa_cons pe_int pa_nil))))
      (pss_cons (ps_set (i := 2) sc_law.nd rfl (Or.inl rfl) (pe_op op_add pe_int (pe_op op_mod (pe_op op_fdivW (pv 1) pe_int) pe_int)))
      (pss_cons (ps_if (pt_cmpR op_eq (pe_op op_mod (pv 1) pe_int) pe_int (nomark _)) (pss_one (ps_set (i := 2) sc_law.nd rfl (Or.inl rfl) (pe_op op_add pe_int (pe_op op_mod (pe_op op_fdivW (pv 1) pe_int) (pe_op op_pow pe_int pe_int))))) pss_nil)
      (pss_cons (ps_set (i := 1) sc_law.nd rfl (Or.inl rfl) (pe_call (ok_l_cell_at T) (hr.mono (by decide)) rfl T.mg_l_cell_at T.F_l_cell_at.kp T.b_l_cell_at .nil pass0 (pa_cons (pv 0) (pa_cons pe_int pa_nil))))
      (pss_cons (ps_set (i := 3) sc_law.nd rfl (Or.inl rfl) (pe_op op_mod (pe_op op_fdivW (pv 1) pe_int) (pe_op op_pow pe_int pe_int)))
      (pss_cons (ps_if (pt_cmpR op_gt (pe_op op_mod (pv 1) pe_int) pe_int (nomark _)) (pss_one (ps_set (i := 3) sc_law.nd rfl (Or.inl rfl) (pe_op op_sub (pv 3) (pe_op op_mod (pv 3) (pv 2))))) pss_nil)
      (pss_cons (ps_if (pt_cmpR op_eq (pe_op op_mod (pv 1) pe_int) pe_int (nomark _)) (pss_one (ps_set (i := 3) sc_law.nd rfl (Or.inl rfl) (pe_op op_sub (pe_op op_add (pv 3) (pv 2)) pe_int))) pss_nil)
      (pss_cons (ps_set (i := 1) sc_law.nd rfl (Or.inl rfl) (pe_call (ok_l_cell_at T) (hr.mono (by decide)) rfl T.mg_l_cell_at T.F_l_cell_at.kp T.b_l_cell_at .nil pass0 (pa_cons (pv 0) (pa_cons pe_int pa_nil))))
      (pss_cons (ps_set (i := 4) sc_law.nd rfl (Or.inl rfl) (pe_op op_mod (pe_op op_fdivW (pv 1) pe_int) (pe_op op_add (pe_op op_mul pe_int (pv 2)) pe_int)))
      (pss_cons (ps_if (pt_cmpR op_eq (pe_op op_mod (pv 1) pe_int) pe_int (nomark _)) (pss_one (ps_set (i := 4) sc_law.nd rfl (Or.inl rfl) (pe_op op_mod (pe_op op_fdivW (pv 1) pe_int) (pe_op op_pow pe_int pe_int)))) pss_nil)
      (pss_cons (ps_set (i := 5) sc_law.nd rfl (Or.inl rfl) (pe_op op_add (pv 3) (pv 4)))
      (pss_cons (ps_set (i := 6) sc_law.nd rfl (Or.inl rfl) (pe_op op_add (pv 3) (pe_op op_mod (pe_call (ok_l_cell_at T) (hr.mono (by decide)) rfl T.mg_l_cell_at T.F_l_cell_at.kp T.b_l_cell_at .nil pass0 (pa_cons (pv 0) (pa_cons pe_int pa_nil))) (pe_op op_add (pv 4) pe_int))))
      (pss_cons (ps_if (PW.pt (pw_or (pt_not (pt_val (pe_call (ok_l_told T) (hr.mono (by decide)) rfl T.mg_l_told T.F_l_told.kp T.b_l_told .nil pass0 (pa_cons (pv 2) (pa_cons (pv 3) (pa_cons (pv 5) pa_nil)))))) (pw_or (pt_not (pt_val (pe_call (ok_l_told T) (hr.mono (by decide)) rfl T.mg_l_told T.F_l_told.kp T.b_l_told .nil pass0 (pa_cons (pv 2) (pa_cons (pv 3) (pa_cons (pv 6) pa_nil)))))) (pw_or1 (pt_not (pt_val (pe_call (ok_l_told T) (hr.mono (by decide)) rfl T.mg_l_told T.F_l_told.kp T.b_l_told .nil pass0 (pa_cons (pv 2) (pa_cons (pv 6) (pa_cons (pv 5) pa_nil)))))))))) (pss_one (ps_ret pe_bl)) pss_nil)
      (pss_one (ps_ret (pe_cmpR op_eq (pe_op op_add (pe_call (ok_ageings T) (hr.mono (by decide)) rfl T.mg_ageings T.F_ageings.kp T.b_ageings .nil pass0 (pa_cons (pv 2) (pa_cons (pv 3) (pa_cons (pv 6) pa_nil)))) (pe_call (ok_ageings T) (hr.mono (by decide)) rfl T.mg_ageings T.F_ageings.kp T.b_ageings .nil pass0 (pa_cons (pv 2) (pa_cons (pv 6) (pa_cons (pv 5) pa_nil))))) (pe_call (ok_ageings T) (hr.mono (by decide)) rfl T.mg_ageings T.F_ageings.kp T.b_ageings .nil pass0 (pa_cons (pv 2) (pa_cons (pv 3) (pa_cons (pv 5) pa_nil)))) (nomark _))))))))))))))))), ?_⟩
    have cell : ∀ (i : Nat) {σ' H'} , Ex H H' → σ'[0]? = some (some (.ref a)) → Ev (tCall (spCell K) [] E0 (tCons (tVar 0) (tCons (tC (.int i)) tNil))) σ' H' (.int (cellAt ns i)) := fun i σ' H' e h0 =>
      ev_call (vs := [.ref a, .int i]) (ea_cons (ev_var h0) (ea_cons ev_c ea_nil)) (sv_cell (ex_l e hS) hl)
    refine q_asgZ (cell 0 (Ex.refl _) rfl) fun H1 e1 c0 _ => ?_
    refine q_asgZ (by walk_at "ev") fun H2 e2 s0 h0 => ?_
    refine q_ifZ (n := s0) rfl (by walk_at "ev") (by walk_at "ev") fun H3 e3 sp h1 h1' => ?_
    have hsp : Pos9 sp := by
      unfold Pos9
      cases hb : decide (V.int (c0 % 3) = V.int 2) with
      | true => have := h1 hb; omega
      | false => have := h1' hb; omega
    clear h1 h1' h0
    have hsp0 := hsp.1
    have hsp1 := hsp.2
    have E3 := (e1.trans e2).trans e3
    refine q_asgZ (cell 1 E3 rfl) fun H4 e4 c1 _ => ?_
    refine q_asgZ (by walk_at "ev") fun H5 e5 a0 ha0 => ?_
    refine q_ifZ (n := a0) rfl (by walk_at "ev") (by walk_at "ev") fun H6 e6 a1 _ _ => ?_
    refine q_ifZ (n := a1) rfl (by walk_at "ev") (by walk_at "ev") fun H7 e7 a2 _ _ => ?_
    have E7 := (((E3.trans e4).trans e5).trans e6).trans e7
    refine q_asgZ (cell 2 E7 rfl) fun H8 e8 c2 _ => ?_
    refine q_asgZ (by walk_at "ev") fun H9 e9 x0 hx0 => ?_
    refine q_ifZ (n := x0) rfl (by walk_at "ev") (by walk_at "ev") fun H10 e10 x1 hx1 hx1' => ?_
    have hx : 0 ≤ x1 := by
      cases hb : decide (V.int (c2 % 3) = V.int 2) with
      | true =>
        have := hx1 hb
        omega
      | false =>
        have e := hx1' hb
        have g0 : 0 ≤ c2 / 3 % (3 * sp + 1) := Int.emod_nonneg _ (by omega)
        omega
    have E10 := (((E7.trans e8).trans e9).trans e10)
    refine q_asgZ (by walk_at "ev") fun H11 e11 up hup => ?_
    refine q_asgZ (n := a2 + cellAt ns 3 % (x1 + 1)) (ev_op (ev_var rfl) (ev_op (cell 3 (E10.trans e11) rfl) (ev_op (ev_var rfl) ev_c rv_I0) (rv_I (by walk_at "side"))) rv_I0) fun H12 e12 am ham => ?_
    have g0 : 0 ≤ cellAt ns 3 % (x1 + 1) := Int.emod_nonneg _ (by omega)
    have g1 : cellAt ns 3 % (x1 + 1) < x1 + 1 := Int.emod_lt_of_pos _ (by omega)
    have l1 : a2 ≤ up := by omega
    have l2 : a2 ≤ am := by omega
    have l3 : am ≤ up := by omega
    refine q_when (b := false) (et_is (et_or (et_not (by walk_at "ev")) fun _ => et_or (et_not (by walk_at "ev")) fun _ => et_not (by walk_at "ev")) rfl) (fun hb => nomatch hb) (fun _ H13 e13 => ?_)
    refine s_ret (ev_is (v := .bl (decide (V.int (am / sp - a2 / sp + (up / sp - am / sp)) = V.int (up / sp - a2 / sp)))) (by walk_at "ev") rfl) fun H14 e14 => ?_
    rw [decide_eq_true (by congr 1; omega)]
    exact k _
end

theorem all_mk {l : PySem.W.OpenLaw} {w : World} {K : PySem.W.Frag} {h : Heap} {mg : Str → Option Value} {fa : Addr} (X : K.In h) (G : h.Ns mainGlobals mg) (hfa : mg "law" = some (.ref fa))
    {f_ageings : Addr} {od_ageings an_ageings : Option Addr} {sl_ageings : Array (Option Value)} {oc_ageings kV_ageings dc_ageings pm_ageings cd_ageings ct_ageings : Value}
    {f_l_cell_at : Addr} {od_l_cell_at an_l_cell_at : Option Addr} {sl_l_cell_at : Array (Option Value)} {oc_l_cell_at kV_l_cell_at dc_l_cell_at pm_l_cell_at cd_l_cell_at ct_l_cell_at : Value}
    {f_l_whole : Addr} {od_l_whole an_l_whole : Option Addr} {sl_l_whole : Array (Option Value)} {oc_l_whole kV_l_whole dc_l_whole pm_l_whole cd_l_whole ct_l_whole : Value}
    {f_l_due : Addr} {od_l_due an_l_due : Option Addr} {sl_l_due : Array (Option Value)} {oc_l_due kV_l_due dc_l_due pm_l_due cd_l_due ct_l_due : Value}
    {f_l_told : Addr} {od_l_told an_l_told : Option Addr} {sl_l_told : Array (Option Value)} {oc_l_told kV_l_told dc_l_told pm_l_told cd_l_told ct_l_told : Value}
    {f_law : Addr} {od_law an_law : Option Addr} {sl_law : Array (Option Value)} {oc_law kV_law dc_law pm_law cd_law ct_law : Value}
    (a_ageings : PySem.W.nsIn K mainGlobals "ageings" = some (some (.ref f_ageings)))
    (l_ageings : K.lookup f_ageings = some ⟨oc_ageings, od_ageings, .func (PySem.W.fnOf "ageings" "ageings" (defArgs s_ageings) (defBody s_ageings) (defScope s_ageings) .none kV_ageings dc_ageings pm_ageings an_ageings cd_ageings ct_ageings), sl_ageings⟩)
    (c_ageings : PySem.W.codeIn K cd_ageings "ageings" = true)
    (k_ageings : PySem.W.keepIn K (.ref f_ageings) = true)
    (a_l_cell_at : PySem.W.nsIn K mainGlobals "_law_cell_at" = some (some (.ref f_l_cell_at)))
    (l_l_cell_at : K.lookup f_l_cell_at = some ⟨oc_l_cell_at, od_l_cell_at, .func (PySem.W.fnOf "_law_cell_at" "_law_cell_at" (defArgs s_l_cell_at) (defBody s_l_cell_at) (defScope s_l_cell_at) .none kV_l_cell_at dc_l_cell_at pm_l_cell_at an_l_cell_at cd_l_cell_at ct_l_cell_at), sl_l_cell_at⟩)
    (c_l_cell_at : PySem.W.codeIn K cd_l_cell_at "_law_cell_at" = true)
    (k_l_cell_at : PySem.W.keepIn K (.ref f_l_cell_at) = true)
    (a_l_whole : PySem.W.nsIn K mainGlobals "_law_whole" = some (some (.ref f_l_whole)))
    (l_l_whole : K.lookup f_l_whole = some ⟨oc_l_whole, od_l_whole, .func (PySem.W.fnOf "_law_whole" "_law_whole" (defArgs s_l_whole) (defBody s_l_whole) (defScope s_l_whole) .none kV_l_whole dc_l_whole pm_l_whole an_l_whole cd_l_whole ct_l_whole), sl_l_whole⟩)
    (c_l_whole : PySem.W.codeIn K cd_l_whole "_law_whole" = true)
    (k_l_whole : PySem.W.keepIn K (.ref f_l_whole) = true)
    (a_l_due : PySem.W.nsIn K mainGlobals "_law_due" = some (some (.ref f_l_due)))
    (l_l_due : K.lookup f_l_due = some ⟨oc_l_due, od_l_due, .func (PySem.W.fnOf "_law_due" "_law_due" (defArgs s_l_due) (defBody s_l_due) (defScope s_l_due) .none kV_l_due dc_l_due pm_l_due an_l_due cd_l_due ct_l_due), sl_l_due⟩)
    (c_l_due : PySem.W.codeIn K cd_l_due "_law_due" = true)
    (k_l_due : PySem.W.keepIn K (.ref f_l_due) = true)
    (a_l_told : PySem.W.nsIn K mainGlobals "_law_told" = some (some (.ref f_l_told)))
    (l_l_told : K.lookup f_l_told = some ⟨oc_l_told, od_l_told, .func (PySem.W.fnOf "_law_told" "_law_told" (defArgs s_l_told) (defBody s_l_told) (defScope s_l_told) .none kV_l_told dc_l_told pm_l_told an_l_told cd_l_told ct_l_told), sl_l_told⟩)
    (c_l_told : PySem.W.codeIn K cd_l_told "_law_told" = true)
    (k_l_told : PySem.W.keepIn K (.ref f_l_told) = true)
    (a_law : PySem.W.nsIn K mainGlobals "law" = some (some (.ref f_law)))
    (l_law : K.lookup f_law = some ⟨oc_law, od_law, .func (PySem.W.fnOf "law" "law" (defArgs s_law) (defBody s_law) (defScope s_law) .none kV_law dc_law pm_law an_law cd_law ct_law), sl_law⟩)
    (c_law : PySem.W.codeIn K cd_law "law" = true)
    (k_law : PySem.W.keepIn K (.ref f_law) = true)
    (z_len : PySem.W.nsIn K mainGlobals "len" = some none)
    (z_isinstance : PySem.W.nsIn K mainGlobals "isinstance" = some none)
    (z_int : PySem.W.nsIn K mainGlobals "int" = some none)
    (z_bool : PySem.W.nsIn K mainGlobals "bool" = some none) :
    ∃ fd : FuncData, (∀ (s : Shared) (v : Value), BindsTo s fd ⟨[v], []⟩ [("_law_script", v)]) ∧ ∀ base : Heap, K.In base → base.Ns mainGlobals mg → FnOk l.prog w K mg base CX0 9 fa fd P_law (spLaw K) := by
  have e := hfa.symm.trans (PySem.W.mg_of X G a_law)
  cases e
  have F_ageings := fun_mk (st := s_ageings) l_ageings c_ageings k_ageings
  have b_ageings := F_ageings.binds (ps := P_ageings) fun _ _ _ _ _ _ us hl => match us, hl with | [_, _, _], _ => rfl
  have F_l_cell_at := fun_mk (st := s_l_cell_at) l_l_cell_at c_l_cell_at k_l_cell_at
  have b_l_cell_at := F_l_cell_at.binds (ps := P_l_cell_at) fun _ _ _ _ _ _ us hl => match us, hl with | [_, _], _ => rfl
  have F_l_whole := fun_mk (st := s_l_whole) l_l_whole c_l_whole k_l_whole
  have b_l_whole := F_l_whole.binds (ps := P_l_whole) fun _ _ _ _ _ _ us hl => match us, hl with | [_], _ => rfl
  have F_l_due := fun_mk (st := s_l_due) l_l_due c_l_due k_l_due
  have b_l_due := F_l_due.binds (ps := P_l_due) fun _ _ _ _ _ _ us hl => match us, hl with | [_, _, _], _ => rfl
  have F_l_told := fun_mk (st := s_l_told) l_l_told c_l_told k_l_told
  have b_l_told := F_l_told.binds (ps := P_l_told) fun _ _ _ _ _ _ us hl => match us, hl with | [_, _, _], _ => rfl
  have F_law := fun_mk (st := s_law) l_law c_law k_law
  have b_law := F_law.binds (ps := P_law) fun _ _ _ _ _ _ us hl => match us, hl with | [_], _ => rfl
  let T : Tx K mg := { f_ageings := f_ageings, fd_ageings := _, F_ageings := F_ageings, b_ageings := b_ageings, mg_ageings := PySem.W.mg_of X G a_ageings, f_l_cell_at := f_l_cell_at, fd_l_cell_at := _, F_l_cell_at := F_l_cell_at, b_l_cell_at := b_l_cell_at, mg_l_cell_at := PySem.W.mg_of X G a_l_cell_at, f_l_whole := f_l_whole, fd_l_whole := _, F_l_whole := F_l_whole, b_l_whole := b_l_whole, mg_l_whole := PySem.W.mg_of X G a_l_whole, f_l_due := f_l_due, fd_l_due := _, F_l_due := F_l_due, b_l_due := b_l_due, mg_l_due := PySem.W.mg_of X G a_l_due, f_l_told := f_l_told, fd_l_told := _, F_l_told := F_l_told, b_l_told := b_l_told, mg_l_told := PySem.W.mg_of X G a_l_told, f_law := fa, fd_law := _, F_law := F_law, b_law := b_law, mg_law := PySem.W.mg_of X G a_law, n_len := PySem.W.mg_none_of X G z_len, n_isinstance := PySem.W.mg_none_of X G z_isinstance, n_int := PySem.W.mg_none_of X G z_int, n_bool := PySem.W.mg_none_of X G z_bool }
  exact ⟨_, fun s v => .of_eq rfl, fun base _ _ => ok_law T⟩
theorem walk {l : PySem.W.OpenLaw} {q : Program} {loose : List Str} {XP : (Str → Option Value) → Heap → Prop} {YP : World → Heap → Prop} {d : DefRec} {K : Params → PySem.W.Frag} (hn : l.most = some 63) (hdf : d.params.defaults = [])
    (hY : ∀ (w : World) (h : Heap), YP w h → (K w.params).In h)
    (F : ∀ (w : World) (mg : Str → Option Value) (fa : Addr) (h : Heap), (K w.params).In h → h.Ns mainGlobals mg → mg d.name = some (.ref fa) →
      ∃ fd : FuncData, (∀ (s : Shared) (u : Value), BindsTo s fd ⟨[u], []⟩ [("_law_script", u)]) ∧ ∀ base : Heap, (K w.params).In base → base.Ns mainGlobals mg → FnOk l.prog w (K w.params) mg base CX0 9 fa fd P_law (spLaw (K w.params))) :
    PySem.W.WalkO q loose XP YP l.row.toRowW d [] (fun f vs => PySem.call f vs) :=
  L2.walk_of (n := 63) (k := 9) (x := "_law_script") (CX := fun _ => CX0) (sp := fun w => spLaw (K w.params)) hn (by decide) hdf ⟨rfl, by decide, by decide⟩ hY F (fun _ _ a ns hl _ hS => ⟨a, ns, rfl, hS, hl, fun _ => rfl⟩) fun _ _ _ _ _ z => z
end Own
open PySem PySem.W PyProof.Rows
set_option maxRecDepth 100000 in
set_option maxHeartbeats 0 in
theorem PySem.Challenge.cw_leastasked_k02_ageings_counted_holds : PySem.Challenge.rw_leastasked_k02_ageings_counted.Holds := by
  w_on; o_law; k_head; (case hw => w_witness2)
  k_fill
  refine Own.walk (l := PySem.Challenge.rw_leastasked_k02_ageings_counted) rfl rfl (fun w h Y => PySem.W.kIn_of Y) ?F
  case F =>
    intro w mg fa h KX G hmg
    refine' Own.all_mk KX G hmg ?a_ageings ?l_ageings ?c_ageings ?k_ageings ?a_l_cell_at ?l_l_cell_at ?c_l_cell_at ?k_l_cell_at ?a_l_whole ?l_l_whole ?c_l_whole ?k_l_whole ?a_l_due ?l_l_due ?c_l_due ?k_l_due ?a_l_told ?l_l_told ?c_l_told ?k_l_told ?a_law ?l_law ?c_law ?k_law ?z_len ?z_isinstance ?z_int ?z_bool
    (case a_ageings => k_is)
    (case l_ageings => k_is)
    (case c_ageings => k_is)
    (case k_ageings => k_is)
    (case a_l_cell_at => k_is)
    (case l_l_cell_at => k_is)
    (case c_l_cell_at => k_is)
    (case k_l_cell_at => k_is)
    (case a_l_whole => k_is)
    (case l_l_whole => k_is)
    (case c_l_whole => k_is)
    (case k_l_whole => k_is)
    (case a_l_due => k_is)
    (case l_l_due => k_is)
    (case c_l_due => k_is)
    (case k_l_due => k_is)
    (case a_l_told => k_is)
    (case l_l_told => k_is)
    (case c_l_told => k_is)
    (case k_l_told => k_is)
    (case a_law => k_is)
    (case l_law => k_is)
    (case c_law => k_is)
    (case k_law => k_is)
    (case z_len => k_is)
    (case z_isinstance => k_is)
    (case z_int => k_is)
    (case z_bool => k_is)
