import PyProof.Rows.All
import Wide.All
import OpenK.AllK
import Wide.FinOn
import HandS.ForMost
import HandS.Wide
import HandS.IsInst
import HandS.Evl
import HandS.SortInts
import HandS.SortKw
import HandS.More
import HandS.Conv
import KE.KMinKey
import KE.SortData
import HandS.ClsMeth
import HandS.Walk
import HandS.Defaults
import HandS.Style
import HandS.Strs
import PySem.Challenge.RW_leastasked_k06_whole_goings_walked
set_option Elab.async false
set_option maxRecDepth 100000
set_option maxHeartbeats 4000000
set_option linter.all false
/-! ### sorted(x, key=self.m), m a method of one's own -/
namespace OwnS
open PySem L2 PyProof.Rows SrtO
section
variable {X : Cx} {CX : CXT} {k : Nat} {g a q : Addr} {fd : FuncData} {ps : List Str} {sp : Sp} {pins : List (Addr × Obj)} {σ : L2.St} {H : Hp} {s : Shared}
/-- a method of one's own as a value: e.m -/
def tBound (K : PySem.W.Frag) (C g : Addr) (m : Str) (te : TE) : TE := fun σ H Q => te σ H fun x H1 => ∃ a dx fs, x = .ref a ∧ H1 a = some (.ins C dx fs) ∧ fs.lookup m = none ∧ ∀ p, H1 p = none → Q (.ref p) (upd H1 p (.met g a))
theorem pe_bound {e : Expr} {te : TE} {m : Str} {pos : Pos} {C : Addr} (he : PE X e te) (c : Cls X.K C) (b : BMeth X.K C m g) (hb : attributeBase e m X.env (eval e X.env) = eval e X.env := by rfl) : PE X (.Attribute e m pos) (tBound X.K C g m te) := by
  refine ⟨fun pins s σ H Q I h => ?_⟩
  refine attr_of hb (thn (he.run pins s σ H _ I h) fun u s1 ⟨x, H1, I1, rx, a, dx, fs, ex, ea, l, q⟩ => ?_)
  subst ex
  obtain rfl : u = Value.ref a := rx
  exact op_getbound I1 ea c b l rfl q
/-- the call of a bound method of one's own, wherever one stands -/
theorem run_metA {A : Around} {E : Value → Shared → Prop} {Q : VK} {x : V} {u : Value} (F : FnOk X.prog X.w X.K X.mg X.base CX0 k g fd ps sp) (hr : Room k A) (hf : A.frames = X.A.frames) (hb : Binds X.K fd ps [])
    (I : Inv X pins σ H s) (e : H q = some (.met g a)) (r : RelV x u) (h : sp [.ref a, x] H Q E0) :
    wpAny (model X.prog X.w) A (call (.ref q) [u]) (EP X pins σ Q) E s := by
  have r2 : Vals [.ref a, x] [.ref a, u] := .cons rfl (.cons r .nil)
  have e0 := I.env0
  have e1 : Env0 X.prog X.w X.K X.mg X.base A X.stack s H := { e0 with frames := hf.trans e0.frames }
  have hl : ([.ref a, u] ++ [] : List Value).length = ps.length := by
    rw [List.append_nil, ← r2.length]
    exact F.len _ _ _ _ h
  have hb' := hb s [.ref a, u] I.kIn hl
  refine wpAny_call (call_met I e (codeAny_mono (F.run A X.stack s H ⟨[.ref a, u], []⟩ [.ref a, u] [.ref a, x] Q E0 hr e1 hb' r2 h) fun r s' hq => ?_))
  cases r with
  | error e => exact False.elim hq
  | ok fl =>
    cases fl with
    | ret u => exact I.after hq
    | next => exact False.elim hq
    | brk => exact False.elim hq
    | cont => exact False.elim hq
/-- an untracked list of ours, changed, is tracked from here on -/
theorem adopt {h' : Heap} {D : Addr} {ys : List V} {its : List Value} {n t' : Nat} (I : Inv X pins σ H s) (hn : H D = none) (h1 : X.s_0.heap.objs.size ≤ D) (h2 : D ≠ X.env.locals) (h3 : ∀ x c, X.env.cells.lookup x = some c → c ≠ D) (h4 : ∀ p ∈ X.pn ++ pins, p.1 ≠ D)
    (sb : ∀ b o, b ≠ D → s.heap.get? b = some o → h'.get? b = some o) (ho : h'.get? D = some (seqObj "list" its.toArray n)) (r : Vals ys its) (hz : ys.length ≤ sizeLine) :
    Inv X pins σ (upd H D (.lst ys)) { s with heap := h', toks := t' } := by
  refine I.step (g' := s.gens) (d' := s.drawn) (ch := [D]) (fun b hb => ?_) (fun b o _ _ hc e _ => sb b o (fun z => hc (by simp [z])) e) (fun b o _ _ hc e _ => ⟨o.slots, sb b o (fun z => hc (by simp [z])) e⟩) (fun b o hc _ n => ?_) (fun b o hc e => ⟨o, sb b o (fun z => hc (by simp [z])) e⟩)
    (fun b xs e => ?_) (fun b o u e => ?_) (fun b ps e => ⟨#[], ?_⟩) (fun m hm => ?_) (fun b u e => ?_) I.bare
  · have e : b = D := by simpa using hb
    subst e
    exact ⟨.inr h1, h2, h3, h4⟩
  · rw [upd_ne (fun z => hc (by simp [z]))]; exact n
  · rw [upd_ne (ne_of_none e hn)]; exact e
  · rw [upd_ne (ne_of_none e hn)]; exact e
  · rw [upd_ne (ne_of_none e hn), e]; simp
  · obtain ⟨o, es, ep, ho, r⟩ := hm
    exact ⟨o, es, ep, sb _ o h2.symm ho, r⟩
  · by_cases hb : b = D
    · subst hb
      rw [upd_same] at e
      cases e
      exact ⟨hz, its, n, r, ho⟩
    · rw [upd_ne hb] at e
      refine (I.hok b u e).stay (fun c v hc q => sb c v ?_ q) (fun c q => by rw [upd_ne (ne_of_none q hn)]; exact q) fun c xs q => by rw [upd_ne (ne_of_none q hn)]; exact q
      rcases hc with z | z
      · rw [z]; exact hb
      · exact fun y => by rw [y, hn] at z; cases z
/-- a new list at the heap's end is not the frame's, no cell, no pin -/
theorem new_facts {D : Addr} (I : Inv X pins σ H s) (hD : s.heap.objs.size ≤ D) : X.s_0.heap.objs.size ≤ D ∧ D ≠ X.env.locals ∧ (∀ x c, X.env.cells.lookup x = some c → c ≠ D) ∧ (∀ p ∈ X.pn ++ pins, p.1 ≠ D) ∧ D ∉ X.fs := by
  refine ⟨Nat.le_trans I.sz hD, Nat.ne_of_gt (Nat.lt_of_lt_of_le I.lt hD), fun x c e z => ?_, fun p hp z => ?_, I.nofs hD⟩
  · obtain ⟨v, o, ho, _⟩ := I.cell x c e
    rw [z] at ho
    exact absurd (Nat.lt_of_lt_of_le (Heap.lt_size ho) hD) (Nat.lt_irrefl _)
  · obtain ⟨e, _⟩ := I.pin p hp
    rw [z] at e
    exact absurd (Nat.lt_of_lt_of_le (Heap.lt_size e) hD) (Nat.lt_irrefl _)
/-- what keys are: their order, how they are told from a heap, their kind for the sort -/
structure KeyKd (X : Cx) (κ : Type) where
  lt : κ → κ → Bool
  swo : Swo lt
  KV : κ → V → Hp → Prop
  up : ∀ {c : κ} {v : V} {H H' : Hp}, KV c v H → (∀ b xs, H b = some (.tup xs) → H' b = some (.tup xs)) → KV c v H'
  uni : ∀ {c d : κ} {v : V} {H : Hp}, KV c v H → KV d v H → c = d
  /-- the keys' values us, at a state: a function of values says which key each is, their kind is found, two of them compare -/
  srt : ∀ {A : Around} {pins : List (Addr × Obj)} {σ : L2.St} {H : Hp} {s : Shared} {ks : List V} {us : List Value}, Inv X pins σ H s → Vals ks us → (∀ v ∈ ks, ∃ c, KV c v H) → 2 ≤ us.length →
    ∃ kf : Value → κ, (∀ v u c, v ∈ ks → RelV v u → KV c v H → kf u = c) ∧ ∃ kd, (∀ (Q : SortKind → Shared → Prop) (E : Value → Shared → Prop), Q kd s → wpAny (model X.prog X.w) A (keyKind' us.toArray) Q E s) ∧
      Cmp X.prog X.w A s kd (fun p => p.1 ∈ us) (lt2 fun v u => lt (kf v) (kf u))
theorem swo_I : Swo fun i j : Int => decide (i < j) := by
  refine ⟨fun x y h => ?_, fun x y z h1 h2 => ?_⟩
  · have := of_decide_eq_true h
    exact decide_eq_false (by omega)
  · have := of_decide_eq_false h1
    have := of_decide_eq_false h2
    exact decide_eq_false (by omega)
theorem ints_all : ∀ {ks : List V} {us : List Value}, Vals ks us → (∀ v ∈ ks, ∃ c : Int, v = .int c) → IntsAre us (us.map iv)
  | _, _, .nil, _ => .nil
  | _, _, .cons r t, h => by
    obtain ⟨c, e⟩ := h _ List.mem_cons_self
    subst e
    obtain ⟨tk, e2⟩ := r
    subst e2
    exact .cons c tk (ints_all t fun v m => h v (List.mem_cons_of_mem _ m))
/-- keys that are ints -/
def kdInt (X : Cx) : KeyKd X Int where
  lt := fun i j => decide (i < j)
  swo := swo_I
  KV := fun c v _ => v = .int c
  up := fun h _ => h
  uni := fun h h' => by
    rw [h] at h'
    exact V.int.inj h'
  srt := fun {A pins σ H s ks us} I r h h2 => by
    have hI := ints_all r h
    refine ⟨iv, fun v u c _ ru e => ?_, oneType', fun Q E hq => ?_, ?_⟩
    · subst e
      obtain ⟨t, rfl⟩ := ru
      rfl
    · have e : us.toArray.toList = us := by simp
      have := ksk_kind (keys := us.toArray) (kz := us.map iv) (by rw [e]; exact hI) (by rw [List.size_toArray]; exact h2)
      rw [this]
      exact wpAny_pure hq
    · exact int_cmp hI
theorem swo_L : Swo lexB := by
  refine ⟨fun x y h => ?_, fun x y z h1 h2 => ?_⟩
  · have a := lexB_iff.mp h
    refine lexB_no.mpr ?_
    omega
  · have a := lexB_no.mp h1
    have b := lexB_no.mp h2
    refine lexB_no.mpr ?_
    omega
def pairAt (H : Hp) : Value → Int × Int
  | .ref t => match H t with
    | some (.tup [.int i, .int j]) => (i, j)
    | _ => (0, 0)
  | _ => (0, 0)
/-- keys that are pairs of ints -/
def kdPair (X : Cx) : KeyKd X (Int × Int) where
  lt := lexB
  swo := swo_L
  KV := fun c v H => ∃ t, v = .ref t ∧ H t = some (.tup [.int c.1, .int c.2])
  up := fun ⟨t, e, h⟩ k => ⟨t, e, k _ _ h⟩
  uni := fun {c d v H} ⟨t, e, h⟩ ⟨t', e', h'⟩ => by
    rw [e] at e'
    cases e'
    rw [h] at h'
    obtain ⟨c1, c2⟩ := c
    obtain ⟨d1, d2⟩ := d
    simp at h'
    exact Prod.ext h'.1 h'.2
  srt := fun {A pins σ H s ks us} I r h h2 => by
    have kfe : ∀ (t : Addr) (c : Int × Int), H t = some (.tup [.int c.1, .int c.2]) → pairAt H (.ref t) = c := fun t c e => by
      show (match H t with | some (.tup [.int i, .int j]) => (i, j) | _ => (0, 0)) = c
      rw [e]
    have hp : ∀ v ∈ us, Srt.IsPair s.heap v (pairAt H v).1 (pairAt H v).2 := fun u hu => by
      obtain ⟨j, hj, ej⟩ := List.mem_iff_getElem.mp hu
      have hjk : j < ks.length := by rw [r.length]; exact hj
      obtain ⟨u', e1, ru⟩ := r.get (i := j) (x := ks[j]) (List.getElem?_eq_getElem hjk)
      rw [List.getElem?_eq_getElem hj, ej] at e1
      cases e1
      obtain ⟨c, t, ev, ht⟩ := h _ (List.getElem_mem hjk)
      rw [ev] at ru
      obtain rfl : u = Value.ref t := ru
      rw [kfe t c ht]
      obtain ⟨_, its2, r2, o, ho, hc, n, hd⟩ := I.hok _ _ ht
      obtain ⟨u1, u2, rfl, ri, rj⟩ := vals2 r2
      obtain ⟨t1, rfl⟩ := ri
      obtain ⟨t2, rfl⟩ := rj
      exact ⟨t, o, t1, t2, n, rfl, ho, hc, hd⟩
    refine ⟨pairAt H, fun v u c _ ru ⟨t, e, ht⟩ => ?_, tuples' true, fun Q E hq => ?_, pair_cmp hp⟩
    · subst e
      obtain rfl : u = Value.ref t := ru
      exact kfe t c ht
    · obtain ⟨fs, h1, h2', h3⟩ := Srt.firsts_of fun v hm => ⟨_, _, hp v hm⟩
      refine PySem.W.kat_kind (T := .type "int") h1 (by omega) (fun f hm => ?_) (by rfl) ?_
      · obtain ⟨x, t, rfl⟩ := h3 f hm
        exact PySem.W.Looks.now
      · have e : (Value.type "int" != Value.type "tuple") = true := by first | decide +kernel | rfl | decide
        rw [e]
        exact hq
/-- the items behind the sort: out a rearrangement in the keys' order -/
theorem sort_out {κ : Type} (kd : KeyKd X κ) {kf : V → κ} {H : Hp} {xs ks : List V} {its us : List Value} {kv : Value → κ} {arr : List Keyed} (rx : Vals xs its) (rk : Vals ks us) (hl : ks.length = xs.length) (hk : ∀ (i : Nat) (x v : V), xs[i]? = some x → ks[i]? = some v → kd.KV (kf x) v H)
    (hkv : ∀ v u c, v ∈ ks → RelV v u → kd.KV c v H → kv u = c) (hs : Srtd (lt2 fun v u => kd.lt (kv v) (kv u)) arr) (hp : arr.Perm (us.zip its)) :
    ∃ ys : List V, ys.Perm xs ∧ ys.Pairwise (fun x y => kd.lt (kf y) (kf x) = false) ∧ Vals ys (arr.map (·.2)) := by
  have absx : ∀ (i : Nat) (x : V) (u : Value), xs[i]? = some x → its[i]? = some u → absV u = some x := fun i x u e1 e2 => by
    obtain ⟨u', e3, r⟩ := rx.get e1
    rw [e2] at e3
    cases e3
    exact r.abs
  have key : ∀ p ∈ us.zip its, ∃ (i : Nat) (x : V), xs[i]? = some x ∧ RelV x p.2 ∧ kv p.1 = kf x := fun p hm => by
    obtain ⟨i, hi, e⟩ := List.mem_iff_getElem.mp hm
    rw [List.getElem_zip] at e
    rw [List.length_zip] at hi
    have l1 := rx.length
    have l2 := rk.length
    have hx : i < xs.length := by omega
    have hkk : i < ks.length := by omega
    obtain ⟨u1, e1, r1⟩ := rx.get (List.getElem?_eq_getElem hx)
    obtain ⟨u2, e2, r2⟩ := rk.get (List.getElem?_eq_getElem hkk)
    rw [List.getElem?_eq_getElem (by omega)] at e1 e2
    cases e1
    cases e2
    subst e
    exact ⟨i, xs[i], List.getElem?_eq_getElem hx, r1, hkv _ _ _ (List.getElem_mem hkk) r2 (hk i _ _ (List.getElem?_eq_getElem hx) (List.getElem?_eq_getElem hkk))⟩
  refine ⟨arr.map fun p => (absV p.2).getD .non, ?_, ?_, ?_⟩
  · have e : (us.zip its).map (fun p => (absV p.2).getD .non) = xs := by
      apply List.ext_getElem?
      intro i
      rw [List.getElem?_map]
      have l1 := rx.length
      have l2 := rk.length
      by_cases hi : i < xs.length
      · have h1 : (us.zip its)[i]? = some (us[i]'(by omega), its[i]'(by omega)) := by
          rw [List.getElem?_eq_getElem (by rw [List.length_zip]; omega), List.getElem_zip]
        rw [h1, List.getElem?_eq_getElem hi]
        show some ((absV (its[i]'(by omega))).getD .non) = some xs[i]
        rw [absx i _ _ (List.getElem?_eq_getElem hi) (List.getElem?_eq_getElem (by omega))]
        rfl
      · rw [List.getElem?_eq_none (by rw [List.length_zip]; omega), List.getElem?_eq_none (by omega)]
        rfl
    have := hp.map fun p : Keyed => (absV p.2).getD V.non
    rw [e] at this
    exact this
  · rw [List.pairwise_map]
    refine List.Pairwise.imp_of_mem (fun {p q} mp mq h => ?_) hs
    obtain ⟨i, x, _, rx', e1⟩ := key p (hp.mem_iff.mp mp)
    obtain ⟨j, y, _, ry', e2⟩ := key q (hp.mem_iff.mp mq)
    have h' : kd.lt (kv q.1) (kv p.1) = false := h
    rw [e1, e2] at h'
    rw [rx'.abs, ry'.abs]
    exact h'
  · clear hs
    have : ∀ l : List Keyed, (∀ p ∈ l, ∃ x, RelV x p.2) → Vals (l.map fun p => (absV p.2).getD .non) (l.map (·.2)) := by
      intro l
      induction l with
      | nil => intro _; exact .nil
      | cons p l ih =>
        intro h
        obtain ⟨x, r⟩ := h p List.mem_cons_self
        refine .cons ?_ (ih fun p' m => h p' (List.mem_cons_of_mem _ m))
        show L2.RelV ((absV p.2).getD V.non) p.2
        rw [r.abs]
        exact r
    exact this arr fun p m => by
      obtain ⟨i, x, _, r, _⟩ := key p (hp.mem_iff.mp m)
      exact ⟨x, r⟩
/-- what is sorted: a list, the keys of a dict -/
def SrcV (K : PySem.W.Frag) (H : Hp) (l : Addr) (xs : List V) : Prop := SqL K H l xs ∨ ∃ kvs, H l = some (.dK kvs) ∧ xs = kvs.map fun kv => kV kv.1
theorem collect_src {A : Around} {E : Value → Shared → Prop} {l : Addr} {xs : List V} {Q : List Value → Shared → Prop} (hh : A.handled = none) (I : Inv X pins σ H s) (h : SrcV X.K H l xs)
    (q : ∀ (h' : Heap) (tk : Nat) (its : List Value), (∀ b o, s.heap.get? b = some o → h'.get? b = some o) → Vals xs its → xs.length ≤ sizeLine → Q its { s with heap := h', toks := tk }) : wpAny (model X.prog X.w) A (collect (.ref l)) Q E s := by
  rcases h with h | ⟨kvs, h, rfl⟩
  · obtain ⟨its, rv, hl, hz⟩ := I.list h
    refine collect_list hl.isList ?_ (by rw [← rv.length]; exact hz)
    refine q _ s.toks its (fun b o e => ?_) rv hz
    have hlt : b < s.heap.objs.size := Heap.lt_size e
    rw [Heap.get?_update_ne _ _ _ _ (Nat.ne_of_lt hlt)]
    exact Heap.get?_push_of_some _ e
  · obtain ⟨z, lo, vs, rk, hd⟩ := (show ObjOk X.prog X.w H s.heap l (.dK kvs) from I.hok l _ h)
    obtain ⟨ep, hat⟩ := hd.dictAt
    have hl : kvs.length = vs.length := Paired.length rk
    refine PySem.W.kdu_collect (PySem.W.kdl_dict (knd := mixKind X.prog X.w) (kvs := vs) (ep := ep) lo) hh hat (by rw [← hl]; exact z) fun h' tk acc hk hacc => ?_
    refine q h' tk acc.toList hk ?_ (by rw [List.length_map]; exact z)
    have el : acc.toList.length = acc.size := by simp
    refine vals_of_at (by rw [List.length_map, el, hacc.1, hl]) fun j x w h1 h2 => ?_
    obtain ⟨k, y, hky, hi⟩ := hacc.2 j w (by rw [← Array.getElem?_toList]; exact h2)
    have e1 : (kvs.map (·.1))[j]? = some k := by
      rw [KV.keys rk, List.getElem?_map, hky] <;> rfl
    have e2 : (kvs.map fun kv => kV kv.1)[j]? = some (kV k) := by
      have e3 : (kvs.map fun kv => kV kv.1) = (kvs.map (·.1)).map kV := by rw [List.map_map] <;> rfl
      rw [e3, List.getElem?_map, e1] <;> rfl
    rw [e2] at h1
    cases h1
    exact keyIs_rel hi
/-- the keys, one call after another: they stand in the list kS -/
theorem keys_run {κ : Type} (kd : KeyKd X κ) {A : Around} {E : Value → Shared → Prop} {kf : V → κ} {xs : List V} {its : List Value} {kS : Addr} {b : Bool} {items : Array Value} {D e1 : Nat} {P : PySem.Fin → Shared → Prop} {H0 : Hp} (F : FnOk X.prog X.w X.K X.mg X.base CX0 k g fd ps sp) (hr : Room k A) (hf : A.frames = X.A.frames) (hb : Binds X.K fd ps [])
    (hq : H0 q = some (.met g a)) (h0 : H0 kS = none) (hsp : ∀ x ∈ xs, ∀ H1, Evl.Ex H0 H1 → ∀ Q : VK, (∀ v H2, Evl.Ex H1 H2 → kd.KV (kf x) v H2 → Q v H2) → sp [.ref a, x] H1 Q E0) (rx : Vals xs its) (hz : xs.length ≤ sizeLine)
    (I : Inv X pins σ (upd H0 kS (.lst [])) s)
    (hq2 : ∀ (s' : Shared) (H' : Hp) (ks : List V) (us : List Value), Inv X pins σ H' s' → Evl.Ex H0 H' → H' kS = some (.lst ks) → Vals ks us → ks.length = xs.length → (∀ (i : Nat) (x v : V), xs[i]? = some x → ks[i]? = some v → kd.KV (kf x) v H') →
      wpAny (model X.prog X.w) A (ksk_end D b items e1 (.ref kS) us.toArray) P E s') :
    wpAny (model X.prog X.w) A (do
      for x in its do
        match ← (call (.ref q) [x]).attempt with
        | .ok k => Builtin.List.listUpdate (.ref kS) (·.push k)
        | .error e =>
          rule "list.sort.key-raised"
          let made ← Builtin.List.listItems (.ref kS)
          Builtin.List.listUpdate (.ref kS) fun _ => #[]
          letGo made.toList.reverse [e]
          Builtin.List.listUpdate (.ref D) fun _ => items; throw e
      let keys ← Builtin.List.listItems (.ref kS)
      ksk_end D b items e1 (.ref kS) keys) P E s := by
  have neKS : ∀ c o, H0 c = some o → c ≠ kS := fun c o e z => by rw [z, h0] at e; cases e
  refine wpAny_bind (ksk_fold (fun i s' => ∃ H' ks, Inv X pins σ H' s' ∧ Evl.Ex H0 H' ∧ H' kS = some (.lst ks) ∧ ks.length = i ∧ ∀ (j : Nat) (x v : V), xs[j]? = some x → ks[j]? = some v → kd.KV (kf x) v H') its 0 s
    ⟨_, [], I, fun c o e => by rw [upd_ne (neKS c o e)]; exact e, upd_same, rfl, fun j x v _ e => by simp at e⟩ ?step ?done)
  case step =>
    rintro j u s' hu ⟨H', ks, I', ex, hk, hl, hK⟩
    have hj : j < its.length := (List.getElem?_eq_some_iff.mp hu).1
    have hjx : j < xs.length := by rw [rx.length]; exact hj
    obtain ⟨u', e1, ru⟩ := rx.get (List.getElem?_eq_getElem hjx)
    rw [hu] at e1
    cases e1
    refine wpAny_bind (wpAny_attempt (wpAny_mono (run_metA (E := fun _ _ => False) (Q := fun v H2 => Evl.Ex H' H2 ∧ kd.KV (kf xs[j]) v H2) F hr hf hb I' (ex q _ hq) ru (hsp _ (List.getElem_mem hjx) H' ex _ fun v H2 e2 kv => ⟨e2, kv⟩)) (fun kv s2 hh => ?_) fun _ _ hF => hF.elim))
    obtain ⟨v, H2, I2, rv, e2, hkv⟩ := hh
    try dsimp only
    have hk2 := e2 kS _ hk
    obtain ⟨zk, ki, n, rk, ho⟩ := (show ObjOk X.prog X.w H2 s2.heap kS (.lst ks) from I2.hok kS _ hk2)
    have hlk := rk.length
    have sb := Heap.SameBut.update s2.heap kS (Obj.mapSeq (·.push kv))
    obtain ⟨c2, hc2⟩ : ∃ c2, (s2.heap.update kS (Obj.mapSeq (·.push kv))).get? kS = some (seqObj "list" (ki.toArray.push kv) c2) := ⟨_, get?_update_seq ho (·.push kv)⟩
    refine wpAny_bind (listUpdate_at ho rfl ?_ (by rw [List.size_toArray]; omega) (by rw [Array.size_push, List.size_toArray]; omega))
    refine wpAny_pure ⟨rfl, upd H2 kS (.lst (ks ++ [v])), ks ++ [v], ?_, fun c o e => ?_, upd_same, by rw [List.length_append, hl]; rfl, fun i x w h1 h2 => ?_⟩
    · refine I2.write (t' := s2.toks) (by rw [hk2]; trivial) (.inl rfl) (fun b u hb e => (sb.2 b hb).trans e) ⟨_, hc2⟩ ⟨by rw [List.length_append, List.length_singleton]; omega, ki ++ [kv], c2, rk.append (.cons rv .nil), ?_⟩
      rw [hc2]
      simp
    · rw [upd_ne (neKS c o e)]
      exact e2 c o (ex c o e)
    · have up : ∀ b xs, H2 b = some (.tup xs) → (upd H2 kS (.lst (ks ++ [v]))) b = some (.tup xs) := fun b xs e => by
        rw [upd_ne (fun z => by rw [z, hk2] at e; cases e)]
        exact e
      refine kd.up ?_ up
      by_cases hi : i < ks.length
      · rw [List.getElem?_append_left hi] at h2
        exact kd.up (hK i x w h1 h2) fun b xs e => e2 b _ e
      · have hlt := (List.getElem?_eq_some_iff.mp h2).1
        rw [List.length_append, List.length_singleton] at hlt
        have ei : i = j := by omega
        subst ei
        rw [List.getElem?_append_right (by omega), hl] at h2
        have e0 : 0 + i - i = 0 := by omega
        simp at h2
        subst h2
        rw [List.getElem?_eq_getElem hjx] at h1
        cases h1
        exact hkv
  case done =>
    rintro s' ⟨H', ks, I', ex, hk, hl, hK⟩
    obtain ⟨zk, ki, n, rk, ho⟩ := (show ObjOk X.prog X.w H' s'.heap kS (.lst ks) from I'.hok kS _ hk)
    try dsimp only
    refine wpAny_bind (listItems_at ho rfl ?_)
    exact hq2 s' H' ks ki I' ex hk rk (by rw [hl, rx.length]; omega) hK
/-- sorted(e, key=self.m) -/
def rSortF {κ : Type} (K : PySem.W.Frag) (kd : KeyKd X κ) (g : Addr) (sp : Sp) : List V → List V → Hp → VK → Prop := fun vs zs H Q => ∃ (l q a : Addr) (xs : List V) (kf : V → κ), vs = [.ref l] ∧ zs = [.ref q] ∧ H q = some (.met g a) ∧ SrcV K H l xs ∧
  (∀ x ∈ xs, ∀ H1, Evl.Ex H H1 → ∀ Q : VK, (∀ v H2, Evl.Ex H1 H2 → kd.KV (kf x) v H2 → Q v H2) → sp [.ref a, x] H1 Q E0) ∧
  ∀ ys p H', ys.Perm xs → ys.Pairwise (fun x y => kd.lt (kf y) (kf x) = false) → Evl.Ex H H' → H p = none → H' p = some (.lst ys) → Q (.ref p) H'
theorem cr_sortedF {κ : Type} (kd : KeyKd X κ) (hc : X.calm = true) (F : FnOk X.prog X.w X.K X.mg X.base CX0 k g fd ps sp) (hr : Room (k + 2) X.A) (hb : Binds X.K fd ps []) : CallRK X (.builtin "sorted") [Str.ofString "key"] (rSortF X.K kd g sp) := by
  intro pins s σ H vs zs us ws Q I r rz h
  obtain ⟨l, q, a, xs, kf, rfl, rfl, hq, hsrc, hsp, hQ⟩ := h
  obtain rfl := Vals.ref1 r
  obtain rfl := Vals.ref1 rz
  show wpAny (model X.prog X.w) X.A (call (.builtin "sorted") [.ref l] [(Str.ofString "key", .ref q)]) (EP X pins σ Q) X.xe s
  refine call_function_entry_kw kind_sorted plain_sorted entry_sorted (ksk_s1 _ _) ?_
  unfold Builtin.«sorted»
  refine wpAny_bind (m := checkCount "sorted" 1 1 _) (wpAny_pure ?_)
  refine wpAny_bind (collect_src (I.ok.hd hc) I hsrc fun h1 tk1 its hk1 rx hz => ?_)
  have hzi : its.length ≤ sizeLine := by rw [← rx.length]; exact hz
  refine wpAny_bind (wpAny_newList ?_ hzi)
  have I1 : Inv X pins σ H { s with heap := h1, toks := tk1 } := I.kept hk1
  have hoL : (h1.push (seqObj "list" its.toArray 0)).get? h1.objs.size = some (seqObj "list" its.toArray 0) := Heap.get?_push_size _ rfl
  show wpAny _ _ _ _ _ { s with heap := h1.push (seqObj "list" its.toArray 0), toks := tk1 }
  refine wpAny_bind (wpAny_holding (wpAny_call_entry_kw slot_list_sort ⟨_, hoL, rfl⟩ entry_list_sort ?body (ksk_l1 _ _)))
  case body =>
    show wpAny (model X.prog X.w) X.A.in1.in1 (Builtin.«list.sort» ⟨[.ref h1.objs.size], [(Str.ofString "key", .ref q)]⟩) _ _ _
    rw [ksk_t1]
    unfold ksk_tree
    obtain ⟨e1, ho1⟩ : ∃ e1, ((h1.push (seqObj "list" its.toArray 0)).update h1.objs.size (Obj.mapSeq fun _ => (#[] : Array Value))).get? h1.objs.size = some (seqObj "list" #[] e1) := ⟨_, get?_update_seq hoL fun _ => #[]⟩
    refine wpAny_bind (listItems_at hoL rfl ?_)
    refine wpAny_bind (listUpdate_at hoL rfl ?_ (by rw [List.size_toArray]; exact hzi) (Nat.zero_le _))
    refine wpAny_bind (seqEpoch_at ho1 rfl ?_)
    refine wpAny_bind (wpAny_newTuple ?_ (by show its.length ≤ _; exact hzi))
    refine wpAny_bind (wpAny_newList ?_ (Nat.zero_le _))
    refine wpAny_holding ?_
    unfold ksk_rest
    refine wpAny_bind (wpAny_rule ?_)
    first
      | rw [List.forIn_toArray]
      | (rw [← Array.forIn_toList]; simp only [List.toList_toArray])
      | rw [← Array.forIn_toList]
    -- the heap with the emptied list, the held tuple, the list of keys
    generalize hh5 : ((((h1.push (seqObj "list" its.toArray 0)).update h1.objs.size (Obj.mapSeq fun _ => (#[] : Array Value))).push (seqObj "tuple" its.toArray 0)).push (seqObj "list" #[] 0)) = h5
    have hsz : (((h1.push (seqObj "list" its.toArray 0)).update h1.objs.size (Obj.mapSeq fun _ => (#[] : Array Value))).push (seqObj "tuple" its.toArray 0)).objs.size = h1.objs.size + 1 + 1 := by rw [size_push', Heap.size_update, size_push']
    have keep5 : ∀ b o, h1.get? b = some o → h5.get? b = some o := fun b o e => by
      have hlt : b < h1.objs.size := Heap.lt_size e
      rw [← hh5]
      refine Heap.get?_push_of_some _ (Heap.get?_push_of_some _ ?_)
      rw [Heap.get?_update_ne _ _ _ _ (Nat.ne_of_lt hlt)]
      exact Heap.get?_push_of_some _ e
    have hD5 : h5.get? h1.objs.size = some (seqObj "list" #[] e1) := by
      rw [← hh5]
      exact Heap.get?_push_of_some _ (Heap.get?_push_of_some _ ho1)
    have hk5 : h5.get? (h1.objs.size + 1 + 1) = some (seqObj "list" #[] 0) := by
      rw [← hh5, ← hsz]
      exact Heap.get?_push_size _ rfl
    have hDn : H h1.objs.size = none := I1.hok.fresh (Nat.le_refl _)
    have hkn : H (h1.objs.size + 1 + 1) = none := I1.hok.fresh (Nat.le_succ_of_le (Nat.le_succ _))
    obtain ⟨n1, n2, n3, n4, n5⟩ := new_facts (D := h1.objs.size) I1 (Nat.le_refl _)
    have I5 : Inv X pins σ (upd H (h1.objs.size + 1 + 1) (.lst [])) { s with heap := h5, toks := tk1 } :=
      I1.laid (t' := tk1) keep5 (Nat.le_succ_of_le (Nat.le_succ _)) ⟨Nat.zero_le _, [], 0, .nil, hk5⟩
    have neD : (h1.objs.size : Nat) ≠ h1.objs.size + 1 + 1 := Nat.ne_of_lt (Nat.lt_succ_of_lt (Nat.lt_succ_self _))
    have I6 : Inv X (pins ++ [(h1.objs.size, seqObj "list" #[] e1)]) σ (upd H (h1.objs.size + 1 + 1) (.lst [])) { s with heap := h5, toks := tk1 } := I5.pins_of fun p hp => by
      rcases List.mem_append.mp hp with hp | hp
      · exact I5.pin p (List.mem_append_right _ hp)
      · rw [List.mem_singleton.mp hp]
        refine ⟨hD5, ?_, n2, n5, fun v z => by cases z⟩
        rw [upd_ne (show h1.objs.size ≠ h1.objs.size + 1 + 1 from neD)]
        exact hDn
    have hr2 : Room k X.A.in1.in1 := Room.in1 (Room.in1 hr)
    rw [hsz]
    show wpAny (model X.prog X.w) X.A.in1.in1 _ _ _ { s with heap := h5, toks := tk1 }
    refine keys_run kd (A := X.A.in1.in1) (kf := kf) (xs := xs) (H0 := H) F hr2 rfl hb hq hkn hsp rx hz I6 fun s' H' ks us I' ex hks rk hlk hK => ?_
    -- the sort
    obtain ⟨hDs, hDn', _, _, _⟩ := I'.pin (h1.objs.size, seqObj "list" #[] e1) (List.mem_append_right _ (List.mem_append_right _ (List.mem_singleton.mpr rfl)))
    obtain ⟨zk, ki, n, rk', hok⟩ := (show ObjOk X.prog X.w H' s'.heap (h1.objs.size + 1 + 1) (.lst ks) from I'.hok _ _ hks)
    have hus : us.length = its.length := by rw [← rk.length, hlk, rx.length]
    have fin : ∀ (arr : List Keyed) (st : SortSt), (arrOf st).toList = arr → failedOf st = none → ∀ kv : Value → κ, (∀ v u c, v ∈ ks → RelV v u → kd.KV c v H' → kv u = c) → Srtd (lt2 fun v u => kd.lt (kv v) (kv u)) arr → arr.Perm (us.zip its) →
        wpAny (model X.prog X.w) X.A.in1.in1 (ksk_tail h1.objs.size false e1 (.ref (h1.objs.size + 1 + 1)) st) (fun fin s' => ∃ v, fin = .done (.ret v) ∧ wpAny (model X.prog X.w) X.A.in1 (ret (.ref h1.objs.size)) (fun fin s' => ∃ v, fin = .done (.ret v) ∧ EP X pins σ Q v s') X.xe s') X.xe s' := by
      intro arr st harr hf kv hkv hs hp
      obtain ⟨ys, p1, p2, p3⟩ := sort_out kd rx rk hlk hK hkv hs hp
      unfold ksk_tail
      try dsimp only
      refine wpAny_bind (listUpdate_at hok rfl ?_ (by rw [List.size_toArray, ← rk'.length]; exact zk) (Nat.zero_le _))
      refine wpAny_bind (wpAny_letGo ?_)
      have s1 := Heap.SameBut.update s'.heap (h1.objs.size + 1 + 1) (Obj.mapSeq fun _ => (#[] : Array Value))
      obtain ⟨c1, hc1⟩ : ∃ c1, (s'.heap.update (h1.objs.size + 1 + 1) (Obj.mapSeq fun _ => (#[] : Array Value))).get? (h1.objs.size + 1 + 1) = some (seqObj "list" #[] c1) := ⟨_, get?_update_seq hok fun _ => #[]⟩
      have hD1 : (s'.heap.update (h1.objs.size + 1 + 1) (Obj.mapSeq fun _ => (#[] : Array Value))).get? h1.objs.size = some (seqObj "list" #[] e1) := (s1.2 _ (show h1.objs.size ≠ h1.objs.size + 1 + 1 from neD)).trans hDs
      have I7 : Inv X pins σ (upd H' (h1.objs.size + 1 + 1) (.lst [])) { s' with heap := s'.heap.update (h1.objs.size + 1 + 1) (Obj.mapSeq fun _ => (#[] : Array Value)) } :=
        I'.unpinned.write (t' := s'.toks) (by rw [hks]; trivial) (.inl rfl) (fun b u hb e => (s1.2 b hb).trans e) ⟨_, hc1⟩ ⟨Nat.zero_le _, [], c1, .nil, hc1⟩
      refine wpAny_bind (seqEpoch_at hD1 rfl ?_)
      have hal : ((arrOf st).map (·.2)).toList = arr.map (·.2) := by rw [Array.toList_map, harr]
      have hylen : ys.length ≤ sizeLine := by rw [p1.length_eq]; exact hz
      have hsz2 : ((arrOf st).map (·.2)).size ≤ sizeLine + 1 := by
        rw [← Array.length_toList, hal, ← p3.length]
        omega
      refine wpAny_bind (listUpdate_at hD1 rfl ?_ (Nat.zero_le _) (by simpa using hsz2))
      rw [hf]
      simp only [bne_self_eq_false, Bool.false_eq_true, if_false]
      have s2 := Heap.SameBut.update (s'.heap.update (h1.objs.size + 1 + 1) (Obj.mapSeq fun _ => (#[] : Array Value))) h1.objs.size (Obj.mapSeq fun _ => (arrOf st).map (·.2))
      obtain ⟨c2, hc2⟩ : ∃ c2, ((s'.heap.update (h1.objs.size + 1 + 1) (Obj.mapSeq fun _ => (#[] : Array Value))).update h1.objs.size (Obj.mapSeq fun _ => (arrOf st).map (·.2))).get? h1.objs.size = some (seqObj "list" ((arrOf st).map (·.2)) c2) := ⟨_, get?_update_seq hD1 fun _ => (arrOf st).map (·.2)⟩
      have hDn7 : (upd H' (h1.objs.size + 1 + 1) (.lst [])) h1.objs.size = none := by
        rw [upd_ne (show h1.objs.size ≠ h1.objs.size + 1 + 1 from neD)]
        exact hDn'
      have I8 := adopt (t' := s'.toks) (ys := ys) (its := arr.map (·.2)) (n := c2) I7 hDn7 n1 n2 n3 n4 (fun b o hb e => (s2.2 b hb).trans e) (by rw [hc2, ← hal, Array.toArray_toList]) p3 hylen
      refine wpAny_pure ⟨_, rfl, wpAny_pure ⟨_, rfl, .ref h1.objs.size, _, I8, rfl, hQ ys _ _ p1 p2 (fun b o e => ?_) hDn upd_same⟩⟩
      have nb1 : b ≠ h1.objs.size := fun z => by rw [z, hDn] at e; cases e
      have nb2 : b ≠ h1.objs.size + 1 + 1 := fun z => by rw [z, hkn] at e; cases e
      rw [upd_ne nb1, upd_ne nb2]
      exact ex b o e
    unfold ksk_end
    try dsimp only
    simp only [Bool.false_eq_true, if_false]
    have ez : (us.toArray.zip its.toArray).toList = us.zip its := by simp
    by_cases h2 : its.toArray.size < 2
    · rw [if_pos h2, if_pos h2]
      rw [List.size_toArray] at h2
      refine wpAny_bind (wpAny_pure ?_)
      rw [StateT.run_pure]
      refine wpAny_bind (wpAny_pure ?_)
      try dsimp only
      refine fin _ (SortSt.mk' general' (us.toArray.zip its.toArray) #[] 7 none) rfl rfl (fun _ => kf (xs.headD .non)) (fun v u c hv ru hc => ?_) ?_ ?_
      · obtain ⟨i, hi, e⟩ := List.mem_iff_getElem.mp hv
        have hix : i < xs.length := by omega
        have hl1 := rx.length
        have e0 : i = 0 := by omega
        subst e0
        have hK0 := hK 0 _ v (List.getElem?_eq_getElem hix) (by rw [← e, List.getElem?_eq_getElem hi])
        refine kd.uni (v := v) (H := H') ?_ hc
        cases xs with
        | nil => exact absurd hix (Nat.not_lt_zero _)
        | cons x r => exact hK0
      · show Srtd _ (us.toArray.zip its.toArray).toList
        rw [ez]
        have hzl : (us.zip its).length < 2 := by rw [List.length_zip]; omega
        match us.zip its, hzl with
        | [], _ => exact List.Pairwise.nil
        | [p], _ => exact List.pairwise_singleton _ _
        | _ :: _ :: l, h => exact absurd h (by rw [List.length_cons, List.length_cons]; omega)
      · show (us.toArray.zip its.toArray).toList.Perm _
        rw [ez]
    · rw [if_neg h2, if_neg h2]
      rw [List.size_toArray] at h2
      obtain ⟨kv, hkv, kn, hkn2, hcmp⟩ := kd.srt (A := X.A.in1.in1) I' rk (fun v hv => by
        obtain ⟨i, hi, e⟩ := List.mem_iff_getElem.mp hv
        have hix : i < xs.length := by omega
        exact ⟨_, hK i _ v (List.getElem?_eq_getElem hix) (by rw [← e, List.getElem?_eq_getElem hi])⟩) (by omega)
      refine wpAny_bind (hkn2 _ _ ?_)
      have hall : AllL (fun p : Keyed => p.1 ∈ us) (us.toArray.zip its.toArray).toList := fun p hm => by
        rw [ez] at hm
        exact (List.of_mem_zip hm).1
      have O2 : Swo fun v u : Value => kd.lt (kv v) (kv u) := ⟨fun x y => kd.swo.asym _ _, fun x y z => kd.swo.tr _ _ _⟩
      refine wpAny_bind (wpAny_mono (wpS_sortO (st0 := SortSt.mk' kn (us.toArray.zip its.toArray) #[] 7 none)
        (Q := fun _ st' => Srtd (lt2 fun v u => kd.lt (kv v) (kv u)) (arrOf st').toList ∧ (arrOf st').toList.Perm (us.zip its) ∧ failedOf st' = none) (swo2 O2) hcmp rfl hall rfl rfl fun st' a1 a2 a3 => ⟨a1, by
          have := a2.perm
          rw [show (arrOf (SortSt.mk' kn (us.toArray.zip its.toArray) #[] 7 none)).toList = us.zip its from ez] at this
          exact this, a3⟩) ?_ fun _ _ e => e)
      rintro ⟨⟨⟩, st'⟩ s2 ⟨rfl, hp1, hp2, hf⟩
      exact fin _ st' rfl hf kv hkv hp1 hp2
end
end OwnS

/-! ### min(list, key=self.m), m a method that answers pairs of ints -/
namespace OwnS
open PySem L2 PyProof.Rows SrtO
section
variable {X : Cx} {k : Nat} {g a q : Addr} {fd : FuncData} {ps : List Str} {sp : Sp} {pins : List (Addr × Obj)} {σ : L2.St} {H : Hp} {s : Shared}
/-- two pairs of ints compared -/
theorem lt_pairs {A : Around} {E : Value → Shared → Prop} {Q : Value → Shared → Prop} {v w : V} {u u' : Value} {c d : Int × Int} (I : Inv X pins σ H s) (hu : A.units < cLine) (r : RelV v u) (r' : RelV w u') (hc : (kdPair X).KV c v H) (hd : (kdPair X).KV d w H) (h : Q (.bool (lexB c d)) s) :
    wpAny (model X.prog X.w) A (richCompare .Lt u u') Q E s := by
  obtain ⟨t, rfl, ht⟩ := hc
  obtain ⟨t', rfl, ht'⟩ := hd
  obtain rfl : u = Value.ref t := r
  obtain rfl : u' = Value.ref t' := r'
  obtain ⟨its, r1, p1, _⟩ := I.tuple (SqT.of ht)
  obtain ⟨its2, r2, p2, _⟩ := I.tuple (SqT.of ht')
  have i1 : IntsAre its.toArray.toList [c.1, c.2] := intsAre_of (ns := [c.1, c.2]) r1
  have i2 : IntsAre its2.toArray.toList [d.1, d.2] := intsAre_of (ns := [d.1, d.2]) r2
  have e : HT.lexLt [c.1, c.2] [d.1, d.2] = lexB c d := by
    unfold lexB
    rw [HT.lexLt_cons, HT.lexLt_cons, HT.lexLt_nil_nil]
    by_cases h1 : c.1 = d.1
    · rw [if_pos h1, if_pos h1]
      by_cases h2 : c.2 = d.2
      · rw [if_pos h2, h2]
        exact (decide_eq_false (Int.lt_irrefl _)).symm
      · rw [if_neg h2]
    · rw [if_neg h1, if_neg h1]
  exact HT.lt_tupInts p1 p2 i1 i2 hu (by rw [e]; exact h)
/-- what own records are: not the frame's, no cells, no pins, young -/
structure OwnR (X : Cx) (pins : List (Addr × Obj)) (D : Addr) : Prop where
  y : X.s_0.heap.objs.size ≤ D
  l : D ≠ X.env.locals
  c : ∀ x c, X.env.cells.lookup x = some c → c ≠ D
  p : ∀ p ∈ X.pn ++ pins, p.1 ≠ D
  f : D ∉ X.fs
theorem OwnR.turned {h' : Heap} {t' : Nat} {D : Addr} (o : OwnR X pins D) (I : Inv X pins σ H s) (hn : H D = none) (k : ∀ b o, b ≠ D → s.heap.get? b = some o → h'.get? b = some o) : Inv X pins σ H { s with heap := h', toks := t' } :=
  I.turned k hn o.l (.inr o.y) o.c o.p
theorem OwnR.pin2 {D D' : Addr} {ob ob' : Obj} (o : OwnR X pins D) (o' : OwnR X pins D') (I : Inv X pins σ H s) (hn : H D = none) (hn' : H D' = none) (h : s.heap.get? D = some ob) (h' : s.heap.get? D' = some ob') (hc : ∀ v, ob.data ≠ .cell v) (hc' : ∀ v, ob'.data ≠ .cell v) :
    Inv X (pins ++ [(D, ob), (D', ob')]) σ H s := I.pins_of fun p hp => by
  rcases List.mem_append.mp hp with hp | hp
  · exact I.pin p (List.mem_append_right _ hp)
  · rcases List.mem_cons.mp hp with rfl | hp
    · exact ⟨h, hn, o.l, o.f, hc⟩
    · rw [List.mem_singleton.mp hp]
      exact ⟨h', hn', o'.l, o'.f, hc'⟩
/-- what stands between two turns: j items are behind, the best of them is the i-th -/
structure MinAt (X : Cx) (pins : List (Addr × Obj)) (σ : L2.St) (H0 : Hp) (xs : List V) (kf : V → Int × Int) (l I S : Addr) (j : Nat) (x : V) (s : Shared) : Prop where
  ex : ∃ H' vb kb kv c oI, Inv X (pins ++ [(S, seqObj "list" #[vb, kb] c), (I, oI)]) σ H' s ∧ Evl.Ex H0 H' ∧ H' S = none ∧ H' I = none ∧ s.heap.IsListIter I l j ∧ RelV x vb ∧ RelV kv kb ∧ (kdPair X).KV (kf x) kv H'
  mem : x ∈ xs.take j
  best : ∀ y ∈ xs.take j, lexB (kf y) (kf x) = false
theorem min_loop {R : Result → Shared → Prop} {xs : List V} {kf : V → Int × Int} {l I S : Addr} {H0 : Hp} (F : FnOk X.prog X.w X.K X.mg X.base CX0 k g fd ps sp) (hr : Room (k + 2) X.A) (hb : Binds X.K fd ps [])
    (hh : X.A.handled = none) (hq : H0 q = some (.met g a)) (hl : SqL X.K H0 l xs) (hI0 : H0 I = none) (hS0 : H0 S = none) (oS : OwnR X pins S) (oI : OwnR X pins I) (hSI : S ≠ I) (hlI : l ≠ I)
    (hsp : ∀ x ∈ xs, ∀ H1, Evl.Ex H0 H1 → ∀ Q : VK, (∀ v H2, Evl.Ex H1 H2 → (kdPair X).KV (kf x) v H2 → Q v H2) → sp [.ref a, x] H1 Q E0)
    (hR : ∀ s' H' x vb, Inv X pins σ H' s' → Evl.Ex H0 H' → x ∈ xs → (∀ y ∈ xs, lexB (kf y) (kf x) = false) → RelV x vb → R (.ok (.ret vb)) s') :
    ∀ (r j : Nat) (x : V) (s : Shared), xs.length - j = r → j ≤ xs.length → MinAt X pins σ H0 xs kf l I S j x s → codeAny (model X.prog X.w) X.A (.builtin "min.loop" ⟨[.ref I, .ref q, .ref S], []⟩) R s := by
  have hname : (toString "min" ++ toString ".loop" : String) = "min.loop" := by decide
  have hh1 : X.A.in1.handled = none := hh
  intro r
  induction r with
  | zero =>
    intro j x s hrj hj M
    have ej : j = xs.length := by omega
    obtain ⟨⟨H', vb, kb, kv, c, ob, I1, ex, hS, hI, hit, rv, rk, hk⟩, hm, hbest⟩ := M
    have pS := I1.pin (S, seqObj "list" #[vb, kb] c) (List.mem_append_right _ (List.mem_append_right _ List.mem_cons_self))
    obtain ⟨its, rx, pl, hz⟩ := I1.list (Evl.ex_l ex hl)
    have W := Walks.list (prog := X.prog) (w := X.w) (A := X.A.in1) hh1 I l hlI its.toArray
    have hsz : its.toArray.size = xs.length := by rw [List.size_toArray, rx.length]
    refine codeAny_builtin PySem.F.entry_min_loop ?_
    rw [Around.under_plainId PySem.F.plain_min_loop _]
    show wpAny _ X.A.in1 (seqItems? (.ref S) >>= _) _ _ _
    refine wpAny_bind (wpAny_seqItems pS.1 rfl ?_)
    show wpAny _ X.A.in1 (tryCatch (pyNext (.ref I)) _ >>= _) _ _ _
    refine wpAny_bind (wpAny_tryCatch (W.done _ _ _ ⟨by rw [hsz, ← ej]; exact hit, pl.isList⟩ fun h' tk' hk' => ?_))
    have hk2 : ∀ b o, b ≠ I → s.heap.get? b = some o → h'.get? b = some o := fun b o hb e => hk' b o (by simpa using hb) e
    have J := oI.turned (t' := tk') I1.unpinned hI hk2
    have hS' := hk2 S _ hSI pS.1
    have s1 := Heap.SameBut.update h' S (Obj.mapSeq fun _ => (#[] : Array Value))
    show wpAny _ X.A.in1 (updateSeq S (fun _ => #[]) >>= _) _ _ _
    refine wpAny_bind ?_
    refine wpAny_updateSeq hS' rfl (wpAny_bind (wpAny_letGo (wpAny_pure ?_)))
    have J2 := oS.turned (t' := tk') J hS (fun b o hb e => (s1.2 b hb).trans e)
    have et : xs.take j = xs := by rw [ej, List.take_length]
    rw [et] at hm hbest
    exact hR _ H' x vb J2 ex hm hbest rv
  | succ r ih =>
    intro j x s hrj hj M
    have hlt : j < xs.length := by omega
    obtain ⟨⟨H', vb, kb, kv, c, ob, I1, ex, hS, hI, hit, rv, rk, hk⟩, hm, hbest⟩ := M
    have pS := I1.pin (S, seqObj "list" #[vb, kb] c) (List.mem_append_right _ (List.mem_append_right _ List.mem_cons_self))
    obtain ⟨its, rx, pl, hz⟩ := I1.list (Evl.ex_l ex hl)
    have W := Walks.list (prog := X.prog) (w := X.w) (A := X.A.in1) hh1 I l hlI its.toArray
    have hsz : its.toArray.size = xs.length := by rw [List.size_toArray, rx.length]
    refine codeAny_builtin PySem.F.entry_min_loop ?_
    rw [Around.under_plainId PySem.F.plain_min_loop _]
    show wpAny _ X.A.in1 (seqItems? (.ref S) >>= _) _ _ _
    refine wpAny_bind (wpAny_seqItems pS.1 rfl ?_)
    show wpAny _ X.A.in1 (tryCatch (pyNext (.ref I)) _ >>= _) _ _ _
    refine wpAny_bind (wpAny_tryCatch (W.item j _ _ _ (by rw [hsz]; exact hlt) ⟨hit, pl.isList⟩ fun v h' tk' hP hst' hk' => ?_))
    have hk2 : ∀ b o, b ≠ I → s.heap.get? b = some o → h'.get? b = some o := fun b o hb e => hk' b o (by simpa using hb) e
    have hv : its[j]? = some v := by simpa using hP
    obtain ⟨u', e1, ru⟩ := rx.get (List.getElem?_eq_getElem hlt)
    rw [hv] at e1
    cases e1
    obtain ⟨oI', hoI', hoc, hod⟩ := id hst'.1
    have J := oI.turned (t' := tk') I1.unpinned hI hk2
    have hS' := hk2 S _ hSI pS.1
    have J2 := oS.pin2 oI J hS hI hS' hoI' (fun v z => by cases z) (fun v z => by rw [hod] at z; cases z)
    show wpAny _ X.A.in1 (tryCatch (holding [v] (call (.ref q) [v])) _ >>= _) _ _ _
    refine wpAny_bind (wpAny_tryCatch (wpAny_holding (wpAny_mono (run_metA (E := fun _ _ => False) (Q := fun v H2 => Evl.Ex H' H2 ∧ (kdPair X).KV (kf xs[j]) v H2) F (Room.in1 (hr.mono (Nat.le_succ _))) rfl hb J2 (ex q _ hq) ru (hsp _ (List.getElem_mem hlt) H' ex _ fun v H2 e2 kv => ⟨e2, kv⟩)) (fun nk s2 hh => ?_) fun _ _ hF => hF.elim)))
    obtain ⟨nv, H2, I2, rnv, e2, hkv⟩ := hh
    have qS := I2.pin (S, seqObj "list" #[vb, kb] c) (List.mem_append_right _ (List.mem_append_right _ List.mem_cons_self))
    have qI := I2.pin (I, oI') (List.mem_append_right _ (List.mem_append_right _ (List.mem_cons_of_mem _ List.mem_cons_self)))
    have hS2 : H2 S = none := qS.2.1
    have hI2 : H2 I = none := qI.2.1
    have hit2 : s2.heap.IsListIter I l (j + 1) := ⟨oI', qI.1, hoc, hod⟩
    have hu1 : X.A.in1.units < cLine := by
      have := hr.units
      show X.A.units + 1 < cLine
      omega
    show wpAny _ X.A.in1 (tryCatch (holding [v, nk] (richCompare .Lt nk kb >>= _)) _ >>= _) _ _ _
    refine wpAny_bind (wpAny_tryCatch (wpAny_holding (wpAny_bind (lt_pairs I2 hu1 rnv rk hkv ((kdPair X).up hk fun b ys e => e2 b _ e) ?_))))
    refine wpAny_bind (wpAny_holding (wpAny_truthy_bool ?_))
    refine wpAny_bind (wpAny_letGo (wpAny_pure ?_))
    have tk1 : xs.take (j + 1) = xs.take j ++ [xs[j]] := by rw [List.take_add_one, List.getElem?_eq_getElem hlt]; rfl
    by_cases hb' : lexB (kf xs[j]) (kf x) = true
    · have s1 := Heap.SameBut.update s2.heap S (Obj.mapSeq fun _ => #[v, nk])
      obtain ⟨c2, hc2⟩ : ∃ c2, (s2.heap.update S (Obj.mapSeq fun _ => #[v, nk])).get? S = some (seqObj "list" #[v, nk] c2) := ⟨_, get?_update_seq qS.1 fun _ => #[v, nk]⟩
      simp only [hb', if_true]
      refine wpAny_bind ?_
      refine wpAny_updateSeq qS.1 rfl (wpAny_bind (wpAny_letGo ?_))
      rw [hname]
      have J3 := oS.turned (t' := s2.toks) I2.unpinned hS2 (fun b o hb e => (s1.2 b hb).trans e)
      have hI3 : (s2.heap.update S (Obj.mapSeq fun _ => #[v, nk])).get? I = some oI' := (s1.2 I hSI.symm).trans qI.1
      refine wpAny_pure ⟨plainId_quiet PySem.F.plain_min_loop _, ih (j + 1) xs[j] _ (by omega) hlt ⟨⟨H2, v, nk, nv, c2, oI', oS.pin2 oI J3 hS2 hI2 hc2 hI3 (fun v z => by cases z) (fun v z => by rw [hod] at z; cases z), ex.trans e2, hS2, hI2, ⟨oI', hI3, hoc, hod⟩, ru, rnv, hkv⟩, ?_, ?_⟩⟩
      · rw [tk1]
        exact List.mem_append_right _ List.mem_cons_self
      · intro y hy
        rw [tk1] at hy
        rcases List.mem_append.mp hy with hy | hy
        · have h1 := hbest y hy
          exact swo_L.tr _ _ _ (swo_L.asym _ _ hb') h1
        · rw [List.mem_singleton.mp hy]
          exact swo_L.refl _
    · have hb2 : lexB (kf xs[j]) (kf x) = false := by simpa using hb'
      simp only [hb2, Bool.false_eq_true, if_false]
      refine wpAny_bind (wpAny_letGo ?_)
      rw [hname]
      refine wpAny_pure ⟨plainId_quiet PySem.F.plain_min_loop _, ih (j + 1) x _ (by omega) hlt ⟨⟨H2, vb, kb, kv, c, oI', I2, ex.trans e2, hS2, hI2, hit2, rv, rk, (kdPair X).up hk fun b ys e => e2 b _ e⟩, ?_, ?_⟩⟩
      · rw [tk1]
        exact List.mem_append_left _ hm
      · intro y hy
        rw [tk1] at hy
        rcases List.mem_append.mp hy with hy | hy
        · exact hbest y hy
        · rw [List.mem_singleton.mp hy]
          exact hb2
theorem ownR_new {D : Addr} (I : Inv X pins σ H s) (hD : s.heap.objs.size ≤ D) : OwnR X pins D := by
  obtain ⟨n1, n2, n3, n4, n5⟩ := new_facts I hD
  exact ⟨n1, n2, n3, n4, n5⟩
/-- min(l, key=self.m) -/
def rMinF (K : PySem.W.Frag) (g : Addr) (sp : Sp) : List V → List V → Hp → VK → Prop := fun vs zs H Q => ∃ (l q a : Addr) (xs : List V) (kf : V → Int × Int), vs = [.ref l] ∧ zs = [.ref q] ∧ H q = some (.met g a) ∧ H l = some (.lst xs) ∧ xs ≠ [] ∧
  (∀ x ∈ xs, ∀ H1, Evl.Ex H H1 → ∀ Q : VK, (∀ v H2, Evl.Ex H1 H2 → (kdPair X).KV (kf x) v H2 → Q v H2) → sp [.ref a, x] H1 Q E0) ∧
  ∀ x H', x ∈ xs → (∀ y ∈ xs, lexB (kf y) (kf x) = false) → Evl.Ex H H' → Q x H'
theorem cr_minF (hc : X.calm = true) (F : FnOk X.prog X.w X.K X.mg X.base CX0 k g fd ps sp) (hr : Room (k + 2) X.A) (hb : Binds X.K fd ps []) : CallRK X (.builtin "min") [Str.ofString "key"] (rMinF (X := X) X.K g sp) := by
  intro pins s σ H vs zs us ws Q I r rz h
  obtain ⟨l, q, a, xs, kf, rfl, rfl, hq, hl, hne, hsp, hQ⟩ := h
  obtain rfl := Vals.ref1 r
  obtain rfl := Vals.ref1 rz
  show wpAny (model X.prog X.w) X.A (call (.builtin "min") [.ref l] [(Str.ofString "key", .ref q)]) (EP X pins σ Q) X.xe s
  have hname : (toString "min" ++ toString ".loop" : String) = "min.loop" := by decide
  have hh := I.ok.hd hc
  have hh1 : X.A.in1.handled = none := hh
  have hlen : 0 < xs.length := List.length_pos_iff.mpr hne
  obtain ⟨its, rx, pl, hz⟩ := I.list (SqL.of (K := X.K) hl)
  have hls : s.heap.IsList l its.toArray := pl.isList
  obtain ⟨ol, hol, _⟩ := id hls
  have hll : l < s.heap.objs.size := Heap.lt_size hol
  refine kmk_tree PySem.F.kind_min PySem.F.plain_min PySem.F.entry_min (kmk_min_key _ _) ?_
  show wpAny _ X.A.in1 (Builtin.Builtins.bindParams "min" ["key", "default"] 0 ⟨[], [(Str.ofString "key", .ref q)]⟩ >>= _) _ _ s
  refine wpAny_bind (wpAny_of_eq (show Builtin.Builtins.bindParams "min" ["key", "default"] 0 ⟨[], [(Str.ofString "key", .ref q)]⟩ = pure [some (.ref q), none] from rfl) ?_)
  refine wpAny_bind (wpAny_pure ?_)
  refine wpAny_bind (wpAny_pyIter_list hls ?_)
  refine wpAny_bind (wpAny_newList ?_ (Nat.zero_le _))
  rw [hname]
  have hS : (s.heap.push { cls := .type "list_iterator", data := .fields #[.ref l, .int 0 0] }).objs.size = s.heap.objs.size + 1 := size_push' ..
  have gI : ((s.heap.push { cls := .type "list_iterator", data := .fields #[.ref l, .int 0 0] }).push (seqObj "list" #[] 0)).get? s.heap.objs.size = some { cls := .type "list_iterator", data := .fields #[.ref l, .int 0 0] } :=
    Heap.get?_push_of_some _ (Heap.get?_push_size _ rfl)
  have gS : ((s.heap.push { cls := .type "list_iterator", data := .fields #[.ref l, .int 0 0] }).push (seqObj "list" #[] 0)).get? (s.heap.objs.size + 1) = some (seqObj "list" #[] 0) := by
    rw [← hS]; exact Heap.get?_push_size _ rfl
  rw [hS]
  have keep : ∀ b o, s.heap.get? b = some o → ((s.heap.push { cls := .type "list_iterator", data := .fields #[.ref l, .int 0 0] }).push (seqObj "list" #[] 0)).get? b = some o := fun b o e => Heap.get?_push_of_some _ (Heap.get?_push_of_some _ e)
  generalize hgen : ((s.heap.push { cls := .type "list_iterator", data := .fields #[.ref l, .int 0 0] }).push (seqObj "list" #[] 0)) = h2 at gI gS keep ⊢
  generalize hi : s.heap.objs.size = I0 at *
  have J : Inv X pins σ H { s with heap := h2 } := I.kept (t' := s.toks) keep
  have oI : OwnR X pins I0 := ownR_new I (by rw [hi]; exact Nat.le_refl _)
  have oS : OwnR X pins (I0 + 1) := ownR_new I (by rw [hi]; exact Nat.le_succ _)
  have hIn : H I0 = none := I.hok.fresh (by rw [hi]; exact Nat.le_refl _)
  have hSn : H (I0 + 1) = none := I.hok.fresh (by rw [hi]; exact Nat.le_succ _)
  have hSI : (I0 + 1 : Nat) ≠ I0 := Nat.succ_ne_self _
  have hlI : l ≠ I0 := Nat.ne_of_lt hll
  refine wpAny_pure ⟨plainId_quiet PySem.F.plain_min_loop _, ?_⟩
  have W := Walks.list (prog := X.prog) (w := X.w) (A := X.A.in1) hh1 I0 l hlI its.toArray
  have hsz : its.toArray.size = xs.length := by rw [List.size_toArray, rx.length]
  have hl2 : h2.IsList l its.toArray := by
    obtain ⟨o, e1, e2⟩ := hls
    exact ⟨o, keep _ _ e1, e2⟩
  refine codeAny_builtin PySem.F.entry_min_loop ?_
  rw [Around.under_plainId PySem.F.plain_min_loop _]
  show wpAny _ X.A.in1 (seqItems? (.ref (I0 + 1)) >>= _) _ _ { s with heap := h2 }
  refine wpAny_bind (wpAny_seqItems gS rfl ?_)
  show wpAny _ X.A.in1 (tryCatch (pyNext (.ref I0)) _ >>= _) _ _ _
  refine wpAny_bind (wpAny_tryCatch (W.item 0 _ _ _ (by rw [hsz]; exact hlen) ⟨⟨_, gI, rfl, rfl⟩, hl2⟩ fun v h' tk' hP hst' hk' => ?_))
  have hk2 : ∀ b o, b ≠ I0 → h2.get? b = some o → h'.get? b = some o := fun b o hb e => hk' b o (by simpa using hb) e
  have hv : its[0]? = some v := by simpa using hP
  obtain ⟨u', e1, ru⟩ := rx.get (List.getElem?_eq_getElem hlen)
  rw [hv] at e1
  cases e1
  obtain ⟨oI', hoI', hoc, hod⟩ := id hst'.1
  have J1 := oI.turned (t' := tk') J hIn hk2
  have hS' := hk2 _ _ hSI gS
  have J2 := oS.pin2 oI J1 hSn hIn hS' hoI' (fun v z => by cases z) (fun v z => by rw [hod] at z; cases z)
  show wpAny _ X.A.in1 (tryCatch (holding [v] (call (.ref q) [v])) _ >>= _) _ _ _
  refine wpAny_bind (wpAny_tryCatch (wpAny_holding (wpAny_mono (run_metA (E := fun _ _ => False) (Q := fun v H2 => Evl.Ex H H2 ∧ (kdPair X).KV (kf xs[0]) v H2) F (Room.in1 (hr.mono (Nat.le_succ _))) rfl hb J2 hq ru (hsp _ (List.getElem_mem hlen) H (Evl.Ex.refl _) _ fun v H2 e2 kv => ⟨e2, kv⟩)) (fun nk s2 hh => ?_) fun _ _ hF => hF.elim)))
  obtain ⟨nv, H2, I2, rnv, e2, hkv⟩ := hh
  have qS := I2.pin (I0 + 1, seqObj "list" #[] 0) (List.mem_append_right _ (List.mem_append_right _ List.mem_cons_self))
  have qI := I2.pin (I0, oI') (List.mem_append_right _ (List.mem_append_right _ (List.mem_cons_of_mem _ List.mem_cons_self)))
  have s1 := Heap.SameBut.update s2.heap (I0 + 1) (Obj.mapSeq fun _ => #[v, nk])
  obtain ⟨c2, hc2⟩ : ∃ c2, (s2.heap.update (I0 + 1) (Obj.mapSeq fun _ => #[v, nk])).get? (I0 + 1) = some (seqObj "list" #[v, nk] c2) := ⟨_, get?_update_seq qS.1 fun _ => #[v, nk]⟩
  show wpAny _ X.A.in1 (updateSeq (I0 + 1) (fun _ => #[v, nk]) >>= _) _ _ _
  refine wpAny_bind ?_
  refine wpAny_updateSeq qS.1 rfl ?_
  rw [hname]
  have J3 := oS.turned (t' := s2.toks) I2.unpinned qS.2.1 (fun b o hb e => (s1.2 b hb).trans e)
  have hI3 : (s2.heap.update (I0 + 1) (Obj.mapSeq fun _ => #[v, nk])).get? I0 = some oI' := (s1.2 I0 hSI.symm).trans qI.1
  have tk1 : xs.take 1 = [xs[0]] := by
    rw [show (1 : Nat) = 0 + 1 from rfl, List.take_add_one, List.getElem?_eq_getElem hlen]
    rfl
  refine wpAny_pure ⟨plainId_quiet PySem.F.plain_min_loop _, min_loop (xs := xs) (kf := kf) (H0 := H) F hr hb hh hq (SqL.of hl) hIn hSn oS oI hSI hlI hsp ?_ _ 1 xs[0] _ rfl hlen
    ⟨⟨H2, v, nk, nv, c2, oI', oS.pin2 oI J3 qS.2.1 qI.2.1 hc2 hI3 (fun v z => by cases z) (fun v z => by rw [hod] at z; cases z), e2, qS.2.1, qI.2.1, ⟨oI', hI3, hoc, hod⟩, ru, rnv, hkv⟩, ?_, ?_⟩⟩
  · intro s' H' x vb I' e' hm hbest rv
    exact ⟨x, H', I', rv, hQ x H' hm hbest e'⟩
  · rw [tk1]
    exact List.mem_cons_self
  · intro y hy
    rw [tk1] at hy
    rw [List.mem_singleton.mp hy]
    exact swo_L.refl _
end
end OwnS

/-! ### own rules: Base.__init__(self, ..); data sorted -/
namespace OwnS
open PySem L2 PyProof.Rows SrtO
section
variable {X : Cx} {CX : CXT} {k : Nat} {f C : Addr} {fd : FuncData} {ps : List Str} {sp : Sp} {dvs : List V} {ds : List Value} {E : XK} {m : Str} {pos apos : Pos} {e o : Expr} {es : List Expr} {ta : TE} {t : TA} {mc : Value}
/-- what a class must have that a plain def is read off it -/
structure CDef (K : PySem.W.Frag) (C : Addr) (mc : Value) (m : Str) (f : Addr) : Prop where
  rd : PySem.W.readsIn K C mc = true
  ga : PySem.W.specialIn K (.ref C) "__getattribute__" = some (some (.builtin "type.__getattribute__"))
  at_ : PySem.W.findCls K (.ref C) mc m = some (.val (.ref f))
  kp : PySem.W.keepIn K (.ref f) = true
/-- C.m(e, ..), C a class of one's own, m a plain def of it -/
def tClsCall (C : Addr) (sp : Sp) (dvs : List V) (E : XK) (ta : TE) (t : TA) : TE := fun σ H Q => ta σ H fun x H1 => x = .ref C ∧ t σ H1 fun vs H2 => sp (vs ++ dvs) H2 Q E
theorem pe_clsCall {pl : Sem Bool} (he : PE X o ta) (c : CDef X.K C mc m f) (F : FnOk X.prog X.w X.K X.mg X.base CX k f fd ps sp) (hr : Room k X.A) (hb : Binds X.K fd ps ds) (hd : Vals dvs ds) (hx : Passes CX X E) (ha : PA X (e :: es) t)
    (hst : starEach (e :: es) X.env = (false, eval e X.env) :: starEach es X.env := by rfl) (hpl : (backTo pos (starEach es X.env)).any (·.1) = false := by rfl)
    (ht : eval (.Call (.Attribute o m apos) (e :: es) [] pos) X.env = (do
      let ov ← eval o X.env
      standAt apos.atName
      let (f, first) ← holding [ov] (getMethod ov m pl)
      callWith pos f first (backTo pos (starEach (e :: es) X.env)) (backToKw pos (keywordEach [] X.env))) := by rfl) :
    PE X (.Call (.Attribute o m apos) (e :: es) [] pos) (tClsCall C sp dvs E ta t) := by
  refine ⟨fun pins s σ H Q I h => ?_⟩
  refine PySem.W.methodCall_KW (pl := pl) (thn (he.run pins s σ H _ I h) fun u s1 ⟨x, H1, I1, rx, ex, q⟩ => ?_) ht
  subst ex
  obtain rfl : u = Value.ref C := rx
  refine PySem.W.method_cls I1.kIn c.ga (PySem.W.cls_value I1.kIn c.rd c.at_ rfl ?_)
  have I2 := I1.tok (s1.toks + 1)
  refine PySem.W.callWith_K (first := []) (h₀ := X.base) I.ok.mod.kin c.kp (thn (ha.run pos pins _ σ H1 _ I2 q) fun us s2 ⟨vs, H2, I3, r, q2⟩ => ⟨I3.kIn, ?_⟩) hst hpl
  exact run_fn F hr hb hd hx I3 r q2
/-- sorted(l), l a list of data of one kind (tuples, texts) -/
def rSortD (K : PySem.W.Frag) : List V → Hp → VK → Prop := fun vs H Q => ∃ (l : Addr) (xs : List V) (ds : List PyData), vs = [.ref l] ∧ SqL K H l xs ∧ DpAll K H xs ds ∧ PySem.W.AllAlike ds ∧ PySem.W.Sortable ds ∧ (∀ d ∈ ds, d.depth ≤ 20) ∧
  ∀ ys p, DpAll K H ys (ds.mergeSort (PySem.W.dataLe false id)) → H p = none → Q (.ref p) (upd H p (.lst ys))
theorem dpAll_len {K : PySem.W.Frag} {H : Hp} : ∀ {xs : List V} {ds : List PyData}, DpAll K H xs ds → xs.length = ds.length
  | _, _, .nil => rfl
  | _, _, .cons _ t => by rw [List.length_cons, List.length_cons, dpAll_len t]
theorem cr_sortedD (hu : X.A.units + 64 < cLine) : CallR X (.builtin "sorted") (rSortD X.K) := by
  intro pins s σ H vs us Q I r h
  obtain ⟨l, xs, ds, rfl, hs, hD, hal, hk, hdp, hQ⟩ := h
  obtain rfl := Vals.ref1 r
  obtain ⟨its, rx, pl, hz⟩ := I.list hs
  have e1 : ∀ {xs : List V} {its : List Value} {ds : List PyData}, Vals xs its → DpAll X.K H xs ds → PySem.W.EachIs (fun u d => ∃ v, RelV v u ∧ Dp X.K H v d) its ds := by
    intro xs its ds r
    induction r generalizing ds with
    | nil => intro h; cases h; exact .nil
    | cons r t ih =>
      intro h
      cases h with
      | cons h1 h2 => exact .cons ⟨_, r, h1⟩ (ih h2)
  have eR := e1 rx hD
  have eR2 : PySem.W.EachIs (fun u d => ∃ as, Reads s.heap u (id d) as) its ds := eR.mono fun u d ⟨v, r, h⟩ => Dp.reads I d v u h r
  have hl : ds.length = xs.length := (dpAll_len hD).symm
  refine PySem.W.sorted_data (bs := ds) (enc := id) (R := fun u d => ∃ v, RelV v u ∧ Dp X.K H v d) pl.isList eR eR2 (by rw [List.map_id]; exact hal) (by rw [List.map_id]; exact hk) (by rw [hl]; exact hz) (fun b hb => ?_) fun out ho eo => ?_
  · have := hdp b hb
    show X.A.units + 2 + b.depth < cLine
    omega
  · have e2 : ∀ {out : List Value} {ds : List PyData}, PySem.W.EachIs (fun u d => ∃ v, RelV v u ∧ Dp X.K H v d) out ds → ∃ ys, Vals ys out ∧ DpAll X.K H ys ds := by
      intro out ds h
      induction h with
      | nil => exact ⟨[], .nil, .nil⟩
      | cons h t ih =>
        obtain ⟨ys, r, hd⟩ := ih
        obtain ⟨v, rv, hv⟩ := h
        exact ⟨v :: ys, .cons rv r, .cons hv hd⟩
    obtain ⟨ys, r, hd⟩ := e2 eo
    obtain ⟨ep, he'⟩ := PyProof.Rows.sortedAll_at s.heap its out.toArray
    have hlen : ys.length ≤ sizeLine := by rw [r.length, ho, hl]; exact hz
    exact ⟨.ref _, upd H (s.heap.objs.size + 1) (.lst ys), I.laid (t' := s.toks) (fun _ _ => PyProof.Rows.sortedAll_old) (Nat.le_succ _) ⟨hlen, out, ep, r, he'⟩, rfl, hQ ys _ hd (I.hok.fresh (Nat.le_succ _))⟩
end
end OwnS

/-! ### the mirror: what a book, a shelf, a row hold; plain Lean -/
namespace Own
open PySem L2
inductive Kd where | book | shelf | row
  deriving DecidableEq
abbrev Ent := Str × Int × Int
structure Going where
  deed : Int
  name : Str
  reason : Str
  count : Int
  last : Int
structure Th where
  span : Int
  part : Int
  time : Int
  deed : Nat
  es : List Ent
  places : Int
  st : List Str
  went : List Going
  laid : List (Option Str)
  depths : List (Option Int)
/-! tables of entries -/
def look (es : List Ent) (n : Str) : Option (Int × Int) := (es.find? fun e => decide (e.1 = n)).map (·.2)
def dOf (f : Int × Int → V) (es : List Ent) : List (Key × V) := es.map fun e => (Sum.inr e.1, f e.2)
def cV : Int × Int → V := fun p => .int p.1
def lV : Int × Int → V := fun p => .int p.2
def putE (es : List Ent) (n : Str) (p : Int × Int) : List Ent := if (es.any fun e => decide (e.1 = n)) = true then es.map (fun e => if e.1 = n then (e.1, p) else e) else es ++ [(n, p)]
def setC (es : List Ent) (n : Str) (c : Int) : List Ent := es.map fun e => if e.1 = n then (e.1, c, e.2.2) else e
def dropE (es : List Ent) (n : Str) : List Ent := es.filter fun e => decide (e.1 ≠ n)
theorem key_iff {a b : Str} : ((Sum.inr a : Key) = Sum.inr b) ↔ a = b := ⟨fun h => Sum.inr.inj h, fun h => by rw [h]⟩
theorem valV_dOf (f : Int × Int → V) (n : Str) : ∀ es : List Ent, valV (dOf f es) (Sum.inr n : Key) = (look es n).map f
  | [] => rfl
  | e :: r => by
    by_cases h : e.1 = n
    · rw [show dOf f (e :: r) = (Sum.inr e.1, f e.2) :: dOf f r from rfl, valV_pos (p := (Sum.inr e.1, f e.2)) (by rw [h])]
      simp [look, h]
    · rw [show dOf f (e :: r) = (Sum.inr e.1, f e.2) :: dOf f r from rfl, valV_neg (p := (Sum.inr e.1, f e.2)) (fun q => h (Sum.inr.inj q)), valV_dOf f n r]
      simp [look, h]
theorem look_isSome (n : Str) : ∀ es : List Ent, (look es n).isSome = es.any fun e => decide (e.1 = n)
  | [] => rfl
  | e :: r => by
    by_cases h : e.1 = n
    · simp [look, h]
    · have := look_isSome n r
      simpa [look, h] using this
theorem look_mem {n : Str} {es : List Ent} : (look es n).isSome = true ↔ n ∈ es.map (·.1) := by
  rw [look_isSome, List.any_eq_true, List.mem_map]
  constructor
  · rintro ⟨e, h1, h2⟩
    exact ⟨e, h1, of_decide_eq_true h2⟩
  · rintro ⟨e, h1, h2⟩
    exact ⟨e, h1, decide_eq_true h2⟩
theorem dOf_any (f : Int × Int → V) (n : Str) (es : List Ent) : ((dOf f es).any fun kv => decide (kv.1 = (Sum.inr n : Key))) = es.any fun e => decide (e.1 = n) := by
  unfold dOf
  rw [List.any_map]
  congr 1
  funext e
  by_cases h : e.1 = n
  · simp [h]
  · simp [h]
theorem putK_dOf (f : Int × Int → V) (es : List Ent) (n : Str) (p : Int × Int) : putK (dOf f es) (Sum.inr n : Key) (f p) = dOf f (putE es n p) := by
  unfold putK putE
  rw [dOf_any]
  split
  · unfold dOf
    rw [List.map_map, List.map_map]
    congr 1
    funext e
    by_cases h : e.1 = n
    · simp [h]
    · simp [h]
  · unfold dOf
    rw [List.map_append]
    rfl
theorem dropK_dOf (f : Int × Int → V) (es : List Ent) (n : Str) : dropK (dOf f es) (Sum.inr n : Key) = dOf f (dropE es n) := by
  unfold dropK dropE dOf
  rw [List.filter_map]
  congr 1
  apply List.filter_congr
  intro e _
  by_cases h : e.1 = n
  · simp [h]
  · simp [h]
theorem setC_put {es : List Ent} {n : Str} (c : Int) (h : (look es n).isSome = true) : putK (dOf cV es) (Sum.inr n : Key) (.int c) = dOf cV (setC es n c) := by
  unfold putK
  rw [dOf_any, ← look_isSome, if_pos h]
  unfold dOf setC
  rw [List.map_map, List.map_map]
  congr 1
  funext e
  by_cases h : e.1 = n
  · simp [h, cV]
  · simp [h]
theorem setC_lasts (es : List Ent) (n : Str) (c : Int) : dOf lV (setC es n c) = dOf lV es := by
  unfold dOf setC
  rw [List.map_map]
  congr 1
  funext e
  by_cases h : e.1 = n
  · simp [h, lV]
  · simp [h]
theorem setC_keys (es : List Ent) (n : Str) (c : Int) : (setC es n c).map (·.1) = es.map (·.1) := by
  unfold setC
  rw [List.map_map]
  congr 1
  funext e
  by_cases h : e.1 = n
  · simp [h]
  · simp [h]
theorem setC_ls (es : List Ent) (n : Str) (c : Int) : (setC es n c).map (fun e => e.2.2) = es.map (fun e => e.2.2) := by
  unfold setC
  rw [List.map_map]
  congr 1
  funext e
  by_cases h : e.1 = n
  · simp [h]
  · simp [h]
theorem look_setC (n m : Str) (c : Int) : ∀ es : List Ent, look (setC es n c) m = if m = n then (look es m).map (fun p => (c, p.2)) else look es m
  | [] => by
    by_cases h : m = n <;> simp [setC, look, h]
  | e :: r => by
    have ih := look_setC n m c r
    by_cases h1 : e.1 = m
    · by_cases h2 : m = n
      · have h3 : e.1 = n := h1.trans h2
        simp [setC, look, h2, h3]
      · have h3 : ¬ e.1 = n := fun q => h2 (h1.symm.trans q)
        simp [setC, look, h2, h3, h1]
    · have e0 : look (setC (e :: r) n c) m = look (setC r n c) m := by
        by_cases h3 : e.1 = n
        · simp [setC, look, h3, show ¬ n = m from fun q => h1 (h3.trans q)]
        · simp [setC, look, h3, h1]
      have e1 : look (e :: r) m = look r m := by simp [look, h1]
      rw [e0, e1, ih]
theorem look_dropE (n m : Str) : ∀ es : List Ent, look (dropE es n) m = if m = n then none else look es m
  | [] => by
    by_cases h : m = n <;> simp [dropE, look, h]
  | e :: r => by
    have ih := look_dropE n m r
    by_cases h1 : e.1 = n
    · have e0 : dropE (e :: r) n = dropE r n := by simp [dropE, h1]
      rw [e0, ih]
      by_cases h2 : m = n
      · rw [if_pos h2, if_pos h2]
      · rw [if_neg h2, if_neg h2]
        have : ¬ e.1 = m := fun q => h2 (q.symm.trans h1)
        simp [look, this]
    · have e0 : dropE (e :: r) n = e :: dropE r n := by simp [dropE, h1]
      rw [e0]
      by_cases h3 : e.1 = m
      · have : ¬ m = n := fun q => h1 (h3.trans q)
        rw [if_neg this]
        simp [look, h3]
      · have e1 : look (e :: dropE r n) m = look (dropE r n) m := by simp [look, h3]
        have e2 : look (e :: r) m = look r m := by simp [look, h3]
        rw [e1, e2, ih]
theorem look_putE (n m : Str) (p : Int × Int) : ∀ es : List Ent, look (putE es n p) m = if m = n then some p else look es m := by
  intro es
  unfold putE
  split
  · rename_i h
    induction es with
    | nil => simp at h
    | cons e r ih =>
      by_cases h1 : e.1 = n
      · by_cases h2 : m = n
        · simp [look, h1, h2]
        · rw [if_neg h2]
          have h3 : ¬ n = m := fun q => h2 q.symm
          have : ∀ l : List Ent, look (l.map fun e => if e.1 = n then (e.1, p) else e) m = look l m := by
            intro l
            induction l with
            | nil => rfl
            | cons a l ih2 =>
              by_cases h4 : a.1 = n
              · have h5 : ¬ a.1 = m := fun q => h2 (q.symm.trans h4)
                simp only [List.map_cons, h4, if_true]
                have e1 : look ((n, p) :: l.map fun e => if e.1 = n then (e.1, p) else e) m = look (l.map fun e => if e.1 = n then (e.1, p) else e) m := by simp [look, h3]
                have e2 : look (a :: l) m = look l m := by simp [look, h5]
                rw [e1, e2, ih2]
              · simp only [List.map_cons, h4, if_false]
                by_cases h5 : a.1 = m
                · simp [look, h5]
                · have e1 : look (a :: l.map fun e => if e.1 = n then (e.1, p) else e) m = look (l.map fun e => if e.1 = n then (e.1, p) else e) m := by simp [look, h5]
                  have e2 : look (a :: l) m = look l m := by simp [look, h5]
                  rw [e1, e2, ih2]
          exact this (e :: r)
      · have hr : (r.any fun e => decide (e.1 = n)) = true := by simpa [h1] using h
        have ih := ih hr
        simp only [List.map_cons, h1, if_false]
        by_cases h5 : e.1 = m
        · have : ¬ m = n := fun q => h1 (h5.trans q)
          simp [look, h5, this]
        · have e1 : look (e :: r.map fun e => if e.1 = n then (e.1, p) else e) m = look (r.map fun e => if e.1 = n then (e.1, p) else e) m := by simp [look, h5]
          have e2 : look (e :: r) m = look r m := by simp [look, h5]
          rw [e1, e2, ih]
  · rename_i h
    have hn : look es n = none := by
      have := look_isSome n es
      rw [Bool.eq_false_iff.mpr h] at this
      simpa using this
    by_cases h2 : m = n
    · subst h2
      rw [if_pos rfl]
      have : es.find? (fun e => decide (e.1 = m)) = none := by
        unfold look at hn
        simpa using hn
      unfold look
      rw [List.find?_append, this]
      simp
    · rw [if_neg h2]
      unfold look
      rw [List.find?_append]
      have : ¬ n = m := fun q => h2 q.symm
      simp [this]
theorem look_of_mem {es : List Ent} (hn : (es.map (·.1)).Nodup) {e : Ent} (h : e ∈ es) : look es e.1 = some e.2 := by
  induction es with
  | nil => cases h
  | cons a r ih =>
    rw [List.map_cons, List.nodup_cons] at hn
    rcases List.mem_cons.mp h with rfl | h
    · simp [look]
    · have : ¬ a.1 = e.1 := fun q => hn.1 (by rw [q]; exact List.mem_map.mpr ⟨e, h, rfl⟩)
      have e2 : look (a :: r) e.1 = look r e.1 := by simp [look, this]
      rw [e2]
      exact ih hn.2 h
theorem mem_of_look {es : List Ent} {n : Str} {p : Int × Int} (h : look es n = some p) : (n, p) ∈ es := by
  unfold look at h
  cases hf : es.find? (fun e => decide (e.1 = n)) with
  | none => rw [hf] at h; cases h
  | some e =>
    rw [hf] at h
    have h1 := List.find?_some hf
    have h2 := List.mem_of_find?_eq_some hf
    have h3 : e.1 = n := of_decide_eq_true h1
    have h4 : e.2 = p := Option.some.inj h
    rw [← h3, ← h4]
    exact h2
def cntE (es : List Ent) (n : Str) : Int := ((look es n).map (·.1)).getD 0
def lstE (es : List Ent) (n : Str) : Int := ((look es n).map (·.2)).getD 0
/-! orders -/
def lexQ (p q : Int × Int) : Bool := if p.1 = q.1 then decide (p.2 < q.2) else decide (p.1 < q.1)
theorem lexQ_iff {p q : Int × Int} : lexQ p q = true ↔ p.1 < q.1 ∨ (p.1 = q.1 ∧ p.2 < q.2) := by
  unfold lexQ
  by_cases h : p.1 = q.1
  · rw [if_pos h, decide_eq_true_eq]; omega
  · rw [if_neg h, decide_eq_true_eq]; omega
theorem lexQ_no {p q : Int × Int} : lexQ p q = false ↔ ¬ (p.1 < q.1 ∨ (p.1 = q.1 ∧ p.2 < q.2)) := by
  rw [← lexQ_iff]
  cases lexQ p q <;> simp
/-- two lists in one order with the same members -/
theorem sorted_uniq {α β : Type} {lt : β → β → Bool} {f : α → β} : ∀ {l m : List α}, l.Perm m → l.Pairwise (fun x y => lt (f y) (f x) = false) → m.Pairwise (fun x y => lt (f y) (f x) = false) →
    (∀ x ∈ l, ∀ y ∈ l, lt (f x) (f y) = false → lt (f y) (f x) = false → x = y) → l = m
  | [], m, h, _, _, _ => (List.Perm.eq_nil h.symm).symm
  | x :: l, [], h, _, _, _ => absurd h.length_eq (by simp)
  | x :: l, y :: m, h, hl, hm, an => by
    have hy : y ∈ x :: l := h.mem_iff.mpr List.mem_cons_self
    have hx : x ∈ y :: m := h.mem_iff.mp List.mem_cons_self
    have e : x = y := by
      rcases List.mem_cons.mp hx with e | hx'
      · exact e
      · rcases List.mem_cons.mp hy with e | hy'
        · exact e.symm
        · exact an x List.mem_cons_self y hy ((List.pairwise_cons.mp hm).1 x hx') ((List.pairwise_cons.mp hl).1 y hy')
    subst e
    rw [sorted_uniq h.cons_inv (List.pairwise_cons.mp hl).2 (List.pairwise_cons.mp hm).2 fun a ha b hb => an a (List.mem_cons_of_mem _ ha) b (List.mem_cons_of_mem _ hb)]
def rankE (es : List Ent) (n : Str) : Int × Int := (cntE es n, lstE es n)
def sortR (es : List Ent) (ns : List Str) : List Str := ns.mergeSort fun a b => !lexQ (rankE es b) (rankE es a)
def byLast (es : List Ent) : List Str := (es.map (·.1)).mergeSort fun a b => decide (lstE es a ≤ lstE es b)
theorem sortR_perm (es : List Ent) (ns : List Str) : (sortR es ns).Perm ns := List.mergeSort_perm _ _
theorem sortR_sorted (es : List Ent) (ns : List Str) : (sortR es ns).Pairwise (fun x y => lexQ (rankE es y) (rankE es x) = false) := by
  have := List.pairwise_mergeSort (le := fun a b => !lexQ (rankE es b) (rankE es a)) (fun a b c h1 h2 => by
    rw [Bool.not_eq_true', lexQ_no] at h1 h2 ⊢
    omega) (fun a b => by
    cases h : lexQ (rankE es b) (rankE es a) with
    | false => rfl
    | true =>
      cases h2 : lexQ (rankE es a) (rankE es b) with
      | false => rfl
      | true =>
        rw [lexQ_iff] at h h2
        omega) ns
  exact this.imp fun h => by rwa [Bool.not_eq_true'] at h
theorem byLast_perm (es : List Ent) : (byLast es).Perm (es.map (·.1)) := List.mergeSort_perm _ _
theorem byLast_sorted (es : List Ent) : (byLast es).Pairwise (fun x y => decide (lstE es y < lstE es x) = false) := by
  have := List.pairwise_mergeSort (le := fun a b => decide (lstE es a ≤ lstE es b)) (fun a b c h1 h2 => by
    simp only [decide_eq_true_eq] at h1 h2 ⊢
    omega) (fun a b => by
    by_cases h : lstE es a ≤ lstE es b
    · simp [h]
    · simp [show lstE es b ≤ lstE es a by omega]) (es.map (·.1))
  exact this.imp fun h => decide_eq_false (by have := of_decide_eq_true h; omega)
/-! the deeds -/
def agedI (c p t : Int) : Int := c / p ^ t.toNat
def Kd.inside (k : Kd) (s : Th) : List Str := match k with
  | .book => s.es.map (·.1)
  | .shelf => s.st
  | .row => s.laid.filterMap id
def trim (l : List (Option Str)) : List (Option Str) := (l.reverse.dropWhile (·.isNone)).reverse
def idx (l : List (Option Str)) (n : Str) : Nat := l.findIdx fun o => decide (o = some n)
def takeOff (l : List (Option Str)) (n : Str) : List (Option Str) := l.set (idx l n) none
def carryGo (rk : Str → Int × Int) : List (Option Str) → Str → List (Option Str)
  | [], n => [some n]
  | none :: r, n => some n :: r
  | some m :: r, n => if lexQ (rk m) (rk n) = true then some n :: carryGo rk r m else some m :: carryGo rk r n
def carry (rk : Str → Int × Int) : List (Option Str) → Str → List (Option Str)
  | some m :: r, n => some n :: carryGo rk r m
  | none :: r, n => some n :: r
  | [], n => [some n]
def Kd.gone (k : Kd) (s : Th) (n r : Str) : Bool × Th := match k with
  | .book => (false, s)
  | .shelf => if n ∈ s.st then (true, { s with st := s.st.filter (fun m => decide (m ≠ n)), went := s.went ++ [⟨s.deed, n, r, cntE s.es n, lstE s.es n⟩] }) else (false, s)
  | .row => if some n ∈ s.laid then (true, { s with laid := trim (takeOff s.laid n) }) else (false, s)
def weakest (s : Th) : Str := (sortR s.es s.st).headD ""
def Kd.came (k : Kd) (s : Th) (n : Str) : V × Th := match k with
  | .book => (.bl (decide (n ∈ s.es.map (·.1))), s)
  | .shelf => if n ∈ s.st then (.bl true, s) else
      let s1 := if (s.st.length : Int) = s.places then (Kd.gone .shelf s (weakest s) "crowded").2 else s
      (.bl false, { s1 with st := s1.st ++ [n] })
  | .row => if some n ∈ s.laid then (.int ((idx s.laid n : Int) + 1), { s with depths := s.depths ++ [some ((idx s.laid n : Int) + 1)], laid := trim (carry (rankE s.es) (takeOff s.laid n) n) })
      else (.non, { s with depths := s.depths ++ [none], laid := trim (carry (rankE s.es) s.laid n) })
def Kd.ageStep (k : Kd) (t : Int) (s : Th) (n : Str) : Th :=
  if agedI (cntE s.es n) s.part t = 0 then
    { (k.gone { s with es := setC s.es n (agedI (cntE s.es n) s.part t) } n "faded").2 with es := dropE s.es n }
  else { s with es := setC s.es n (agedI (cntE s.es n) s.part t) }
def Th.times (s : Th) (steps : Int) : Int := (s.time + steps) / s.span - s.time / s.span
def Kd.spend (k : Kd) (s : Th) (steps : Int) : Th :=
  if 0 < s.times steps then (byLast s.es).foldl (k.ageStep (s.times steps)) { s with time := s.time + steps } else { s with time := s.time + steps }
def Th.next (s : Th) : Th := { s with deed := s.deed + 1 }
def Kd.ask (k : Kd) (s : Th) (n : Str) (w : Int) : V × Th :=
  let c := k.came (k.spend s.next 1) n
  (c.1, { c.2 with es := putE c.2.es n (cntE c.2.es n + w, (c.2.deed : Int)) })
def Kd.rest (k : Kd) (s : Th) (steps : Int) : Int × Th := (s.next.times steps, k.spend s.next steps)
def Kd.drop (k : Kd) (s : Th) (n : Str) : Bool × Th := k.gone s.next n "dropped"
def Kd.names (k : Kd) (s : Th) : List Str := sortR s.es (k.inside s)
/-- what always holds -/
structure WF (k : Kd) (s : Th) : Prop where
  kb : k ≠ .shelf → s.st = [] ∧ s.went = []
  kr : k ≠ .row → s.laid = [] ∧ s.depths = []
  sp : 0 < s.span
  sp2 : s.span < 10 ^ 80
  pt : 2 ≤ s.part
  pt2 : s.part < 10 ^ 80
  nd : (s.es.map (·.1)).Nodup
  cn : ∀ e ∈ s.es, 0 ≤ e.2.1
  ls : (s.es.map fun e => e.2.2).Nodup
  lr : ∀ e ∈ s.es, e.2.2 ≤ (s.deed : Int)
  sz : s.es.length ≤ s.deed
  snd : s.st.Nodup
  sin : ∀ n ∈ s.st, n ∈ s.es.map (·.1)
  ssz : s.st.length + s.went.length ≤ s.deed
  lin : ∀ n, some n ∈ s.laid → n ∈ s.es.map (·.1)
  lnd : (s.laid.filterMap id).Nodup
  lsz : s.laid.length ≤ s.deed
  dsz : s.depths.length ≤ s.deed
  pl : k = .shelf → 1 ≤ s.places
/-! ### what always holds is kept -/
theorem keys_dropE (es : List Ent) (n : Str) : (dropE es n).map (·.1) = (es.map (·.1)).filter fun m => decide (m ≠ n) := by
  unfold dropE
  rw [List.filter_map]
  rfl
theorem mem_keys_dropE {es : List Ent} {n m : Str} : m ∈ (dropE es n).map (·.1) ↔ m ∈ es.map (·.1) ∧ m ≠ n := by
  rw [keys_dropE, List.mem_filter, decide_eq_true_eq]
theorem keys_putE (es : List Ent) (n : Str) (p : Int × Int) : (putE es n p).map (·.1) = if n ∈ es.map (·.1) then es.map (·.1) else es.map (·.1) ++ [n] := by
  unfold putE
  by_cases h : n ∈ es.map (·.1)
  · rw [if_pos (by rw [← look_isSome]; exact look_mem.mpr h), if_pos h, List.map_map]
    congr 1
    funext e
    by_cases h : e.1 = n <;> simp [h]
  · rw [if_neg (by rw [← look_isSome]; exact fun q => h (look_mem.mp q)), if_neg h, List.map_append]
    rfl
theorem nodup_filter {α : Type} {l : List α} (p : α → Bool) (h : l.Nodup) : (l.filter p).Nodup := h.sublist List.filter_sublist
theorem mem_tw {α : Type} {p : α → Bool} : ∀ (l : List α) {o : α}, o ∈ l.takeWhile p → p o = true
  | [], _, h => by cases h
  | a :: l, o, h => by
    rw [List.takeWhile_cons] at h
    by_cases e : p a = true
    · rw [if_pos e] at h
      rcases List.mem_cons.mp h with q | q
      · rw [q]; exact e
      · exact mem_tw l q
    · rw [if_neg e] at h; cases h
theorem trim_sub (l : List (Option Str)) : ∃ r, l = trim l ++ r ∧ ∀ o ∈ r, o = none := by
  unfold trim
  refine ⟨(l.reverse.takeWhile (·.isNone)).reverse, ?_, ?_⟩
  · rw [← List.reverse_append, List.takeWhile_append_dropWhile, List.reverse_reverse]
  · intro o ho
    rw [List.mem_reverse] at ho
    have := mem_tw _ ho
    simpa using this
theorem trim_len (l : List (Option Str)) : (trim l).length ≤ l.length := by
  obtain ⟨r, e, _⟩ := trim_sub l
  have := congrArg List.length e
  rw [List.length_append] at this
  omega
theorem trim_map (l : List (Option Str)) : (trim l).filterMap id = l.filterMap id := by
  obtain ⟨r, e, h⟩ := trim_sub l
  have hr : r.filterMap id = [] := by
    rw [List.filterMap_eq_nil_iff]
    intro o ho
    rw [h o ho]
    rfl
  have := congrArg (List.filterMap id) e
  rw [List.filterMap_append, hr, List.append_nil] at this
  exact this.symm
theorem mem_fm {l : List (Option Str)} {n : Str} : n ∈ l.filterMap id ↔ some n ∈ l := by
  rw [List.mem_filterMap]
  constructor
  · rintro ⟨o, h1, h2⟩
    have : o = some n := h2
    rw [← this]
    exact h1
  · intro h
    exact ⟨some n, h, rfl⟩
/-- the first place of a name -/
theorem idx_lt {l : List (Option Str)} {n : Str} (h : some n ∈ l) : idx l n < l.length := List.findIdx_lt_length_of_exists ⟨some n, h, by simp⟩
theorem idx_at {l : List (Option Str)} {n : Str} (h : some n ∈ l) : l[idx l n]? = some (some n) := by
  have h1 := idx_lt h
  rw [List.getElem?_eq_getElem h1]
  have := List.findIdx_getElem (xs := l) (p := fun o => decide (o = some n)) (w := h1)
  exact congrArg some (of_decide_eq_true this)
theorem takeOff_map : ∀ {l : List (Option Str)} {n : Str}, (l.filterMap id).Nodup → some n ∈ l → (takeOff l n).filterMap id = (l.filterMap id).filter fun m => decide (m ≠ n)
  | [], n, _, h => by cases h
  | o :: r, n, hd, h => by
    by_cases e : o = some n
    · subst e
      have e1 : takeOff (some n :: r) n = none :: r := by simp [takeOff, idx, List.findIdx_cons]
      have e2 : (some n :: r).filterMap id = n :: r.filterMap id := rfl
      rw [e2, List.nodup_cons] at hd
      rw [e1, e2]
      show r.filterMap id = _
      rw [List.filter_cons, if_neg (by simp)]
      symm
      rw [List.filter_eq_self]
      intro m hm
      exact decide_eq_true fun q => hd.1 (by rw [← q]; exact hm)
    · have hr : some n ∈ r := by
        rcases List.mem_cons.mp h with q | q
        · exact absurd q.symm e
        · exact q
      have e1 : takeOff (o :: r) n = o :: takeOff r n := by simp [takeOff, idx, List.findIdx_cons, e]
      rw [e1]
      cases o with
      | none => exact takeOff_map (l := r) hd hr
      | some m =>
        have e2 : (some m :: r).filterMap id = m :: r.filterMap id := rfl
        rw [e2, List.nodup_cons] at hd
        have e3 : (some m :: takeOff r n).filterMap id = m :: (takeOff r n).filterMap id := rfl
        have ne : m ≠ n := fun q => e (by rw [q])
        rw [e2, e3, takeOff_map hd.2 hr]
        simp [ne]
theorem WF.gone {k : Kd} {s : Th} (w : WF k s) (n r : Str) : WF k (k.gone s n r).2 := by
  cases k with
  | book => exact w
  | shelf =>
    unfold Kd.gone
    dsimp only
    split
    · rename_i hn
      refine { w with kb := fun h => absurd rfl h, snd := nodup_filter _ w.snd, sin := fun m hm => w.sin m (List.mem_filter.mp hm).1, ssz := ?_ }
      show (s.st.filter _).length + (s.went ++ [_]).length ≤ s.deed
      have h1 := w.ssz
      have h2 : (s.st.filter fun m => decide (m ≠ n)).length < s.st.length := by
        rw [List.length_filter_lt_length_iff_exists]
        exact ⟨n, hn, by simp⟩
      rw [List.length_append, List.length_singleton]
      omega
    · exact w
  | row =>
    unfold Kd.gone
    dsimp only
    split
    · rename_i hn
      refine { w with kr := fun h => absurd rfl h, lin := fun m hm => ?_, lnd := ?_, lsz := ?_ }
      · show m ∈ s.es.map (·.1)
        have hm' : m ∈ (trim (takeOff s.laid n)).filterMap id := mem_fm.mpr hm
        rw [trim_map, takeOff_map w.lnd hn] at hm'
        exact w.lin m (mem_fm.mp (List.mem_filter.mp hm').1)
      · show ((trim (takeOff s.laid n)).filterMap id).Nodup
        rw [trim_map, takeOff_map w.lnd hn]
        exact nodup_filter _ w.lnd
      · show (trim (takeOff s.laid n)).length ≤ s.deed
        have h1 := trim_len (takeOff s.laid n)
        have h2 : (takeOff s.laid n).length = s.laid.length := List.length_set
        have := w.lsz
        omega
    · exact w
/-- behind a going the name stands nowhere -/
theorem gone_off {k : Kd} {s : Th} (w : WF k s) (n r : Str) : n ∉ (k.gone s n r).2.st ∧ some n ∉ (k.gone s n r).2.laid := by
  cases k with
  | book =>
    have h1 := (w.kb (by decide)).1
    have h2 := (w.kr (by decide)).1
    refine ⟨?_, ?_⟩
    · show n ∉ s.st
      rw [h1]; simp
    · show some n ∉ s.laid
      rw [h2]; simp
  | shelf =>
    have h2 := (w.kr (by decide)).1
    unfold Kd.gone
    dsimp only
    split
    · refine ⟨?_, ?_⟩
      · show n ∉ s.st.filter _
        simp
      · show some n ∉ s.laid
        rw [h2]; simp
    · rename_i h
      refine ⟨h, ?_⟩
      show some n ∉ s.laid
      rw [h2]; simp
  | row =>
    have h1 := (w.kb (by decide)).1
    unfold Kd.gone
    dsimp only
    split
    · rename_i hn
      refine ⟨?_, ?_⟩
      · show n ∉ s.st
        rw [h1]; simp
      · show some n ∉ trim (takeOff s.laid n)
        intro q
        have := mem_fm.mpr q
        rw [trim_map, takeOff_map w.lnd hn] at this
        simpa using (List.mem_filter.mp this).2
    · rename_i h
      refine ⟨?_, h⟩
      show n ∉ s.st
      rw [h1]; simp
theorem gone_core (k : Kd) (s : Th) (n r : Str) : (k.gone s n r).2.es = s.es ∧ (k.gone s n r).2.span = s.span ∧ (k.gone s n r).2.part = s.part ∧ (k.gone s n r).2.time = s.time ∧ (k.gone s n r).2.deed = s.deed ∧ (k.gone s n r).2.places = s.places := by
  cases k with
  | book => exact ⟨rfl, rfl, rfl, rfl, rfl, rfl⟩
  | shelf =>
    unfold Kd.gone
    dsimp only
    split <;> exact ⟨rfl, rfl, rfl, rfl, rfl, rfl⟩
  | row =>
    unfold Kd.gone
    dsimp only
    split <;> exact ⟨rfl, rfl, rfl, rfl, rfl, rfl⟩
theorem gone_mem {k : Kd} {s : Th} {n r m : Str} (w : WF k s) : (m ∈ (k.gone s n r).2.st → m ∈ s.st) ∧ (some m ∈ (k.gone s n r).2.laid → some m ∈ s.laid) := by
  cases k with
  | book => exact ⟨id, id⟩
  | shelf =>
    unfold Kd.gone
    dsimp only
    split
    · exact ⟨fun h => (List.mem_filter.mp h).1, id⟩
    · exact ⟨id, id⟩
  | row =>
    unfold Kd.gone
    dsimp only
    split
    · rename_i hn
      refine ⟨id, fun q => ?_⟩
      have := mem_fm.mpr q
      rw [trim_map, takeOff_map w.lnd hn] at this
      exact mem_fm.mp (List.mem_filter.mp this).1
    · exact ⟨id, id⟩
theorem agedI_nn {c p t : Int} (hc : 0 ≤ c) (hp : 2 ≤ p) : 0 ≤ agedI c p t := Int.ediv_nonneg hc (Int.le_of_lt (Int.pow_pos (by omega)))
theorem cntE_nn {es : List Ent} (h : ∀ e ∈ es, 0 ≤ e.2.1) (n : Str) : 0 ≤ cntE es n := by
  unfold cntE
  cases e : look es n with
  | none => exact Int.le_refl _
  | some p => exact h _ (mem_of_look e)
theorem WF.setC {k : Kd} {s : Th} (w : WF k s) (n : Str) {c : Int} (hc : 0 ≤ c) : WF k { s with es := setC s.es n c } := by
  refine { w with nd := ?_, cn := fun e he => ?_, ls := ?_, lr := fun e he => ?_, sz := ?_, sin := ?_, lin := ?_ }
  · show ((Own.setC s.es n c).map (·.1)).Nodup
    rw [setC_keys]; exact w.nd
  · obtain ⟨a, ha, rfl⟩ := List.mem_map.mp he
    by_cases h : a.1 = n
    · simp only [h, if_true]; exact hc
    · simp only [h, if_false]; exact w.cn a ha
  · show ((Own.setC s.es n c).map fun e => e.2.2).Nodup
    rw [setC_ls]; exact w.ls
  · obtain ⟨a, ha, rfl⟩ := List.mem_map.mp he
    by_cases h : a.1 = n
    · simp only [h, if_true]; exact w.lr a ha
    · simp only [h, if_false]; exact w.lr a ha
  · show (Own.setC s.es n c).length ≤ s.deed
    unfold Own.setC
    rw [List.length_map]; exact w.sz
  · show ∀ m ∈ s.st, m ∈ (Own.setC s.es n c).map (·.1)
    rw [setC_keys]; exact w.sin
  · show ∀ m, some m ∈ s.laid → m ∈ (Own.setC s.es n c).map (·.1)
    rw [setC_keys]; exact w.lin
theorem WF.dropE {k : Kd} {s : Th} (w : WF k s) {n : Str} (h1 : n ∉ s.st) (h2 : some n ∉ s.laid) : WF k { s with es := dropE s.es n } := by
  have sub : (Own.dropE s.es n).Sublist s.es := List.filter_sublist
  refine { w with nd := ?_, cn := fun e he => w.cn e (sub.subset he), ls := ?_, lr := fun e he => w.lr e (sub.subset he), sz := ?_, sin := fun m hm => ?_, lin := fun m hm => ?_ }
  · show ((Own.dropE s.es n).map (·.1)).Nodup
    exact w.nd.sublist (sub.map _)
  · show ((Own.dropE s.es n).map fun e => e.2.2).Nodup
    exact w.ls.sublist (sub.map _)
  · show (Own.dropE s.es n).length ≤ s.deed
    have := sub.length_le
    have := w.sz
    omega
  · exact mem_keys_dropE.mpr ⟨w.sin m hm, fun q => h1 (by rw [← q]; exact hm)⟩
  · exact mem_keys_dropE.mpr ⟨w.lin m hm, fun q => h2 (by rw [← q]; exact hm)⟩
theorem WF.ageStep {k : Kd} {s : Th} (w : WF k s) (t : Int) (n : Str) : WF k (k.ageStep t s n) := by
  have hc : 0 ≤ agedI (cntE s.es n) s.part t := Own.agedI_nn (cntE_nn w.cn n) w.pt
  have w1 := w.setC n hc
  unfold Kd.ageStep
  split
  · have w2 := w1.gone n "faded"
    have off := gone_off w1 n "faded"
    have c := gone_core k { s with es := Own.setC s.es n (agedI (cntE s.es n) s.part t) } n "faded"
    have w3 := w2.dropE off.1 off.2
    rw [c.1] at w3
    have w4 : ∀ es0, WF k { (k.gone { s with es := Own.setC s.es n (agedI (cntE s.es n) s.part t) } n "faded").2 with es := Own.dropE es0 n } → es0 = Own.setC s.es n (agedI (cntE s.es n) s.part t) → True := fun _ _ _ => trivial
    have e1 : Own.dropE (Own.setC s.es n (agedI (cntE s.es n) s.part t)) n = Own.dropE s.es n := by
      unfold Own.dropE Own.setC
      rw [List.filter_map]
      have : (fun e : Ent => decide (e.1 ≠ n)) ∘ (fun e => if e.1 = n then (e.1, agedI (cntE s.es n) s.part t, e.2.2) else e) = fun e : Ent => decide (e.1 ≠ n) := by
        funext e
        by_cases h : e.1 = n <;> simp [h]
      rw [this]
      have : ∀ l : List Ent, (∀ e ∈ l, e.1 ≠ n) → l.map (fun e => if e.1 = n then (e.1, agedI (cntE s.es n) s.part t, e.2.2) else e) = l := by
        intro l hl
        induction l with
        | nil => rfl
        | cons a l ih =>
          rw [List.map_cons, ih fun e he => hl e (List.mem_cons_of_mem _ he), if_neg (hl a List.mem_cons_self)]
      exact this _ fun e he => of_decide_eq_true (List.mem_filter.mp he).2
    rw [e1] at w3
    exact w3
  · exact w1
theorem WF.time {k : Kd} {s : Th} (w : WF k s) (t : Int) : WF k { s with time := t } := { w with }
theorem WF.next {k : Kd} {s : Th} (w : WF k s) : WF k s.next :=
  { w with lr := fun e he => by have := w.lr e he; show e.2.2 ≤ ((s.deed + 1 : Nat) : Int); omega, sz := by have := w.sz; show s.es.length ≤ s.deed + 1; omega, ssz := by have := w.ssz; show s.st.length + s.went.length ≤ s.deed + 1; omega, lsz := by have := w.lsz; show s.laid.length ≤ s.deed + 1; omega, dsz := by have := w.dsz; show s.depths.length ≤ s.deed + 1; omega }
theorem WF.fold {k : Kd} (t : Int) : ∀ (ns : List Str) {s : Th}, WF k s → WF k (ns.foldl (k.ageStep t) s)
  | [], _, w => w
  | n :: r, _, w => WF.fold t r (w.ageStep t n)
theorem WF.spend {k : Kd} {s : Th} (w : WF k s) (steps : Int) : WF k (k.spend s steps) := by
  unfold Kd.spend
  split
  · exact WF.fold _ _ (w.time _)
  · exact w.time _
end Own

/-! ### the mirror, further; plain Lean -/
namespace Own
open PySem L2
theorem dropE_setC (es : List Ent) (n : Str) (c : Int) : dropE (setC es n c) n = dropE es n := by
  unfold dropE setC
  rw [List.filter_map]
  have : (fun e : Ent => decide (e.1 ≠ n)) ∘ (fun e => if e.1 = n then (e.1, c, e.2.2) else e) = fun e : Ent => decide (e.1 ≠ n) := by
    funext e
    by_cases h : e.1 = n <;> simp [h]
  rw [this]
  have : ∀ l : List Ent, (∀ e ∈ l, e.1 ≠ n) → l.map (fun e => if e.1 = n then (e.1, c, e.2.2) else e) = l := by
    intro l hl
    induction l with
    | nil => rfl
    | cons a l ih =>
      rw [List.map_cons, ih fun e he => hl e (List.mem_cons_of_mem _ he), if_neg (hl a List.mem_cons_self)]
  exact this _ fun e he => of_decide_eq_true (List.mem_filter.mp he).2
/-! what a step of ageing leaves room for -/
def Slack (s : Th) (d : Nat) : Prop := s.es.length ≤ d ∧ s.st.length + s.went.length ≤ d ∧ s.laid.length ≤ d ∧ s.depths.length ≤ d
theorem WF.slack {k : Kd} {s : Th} (w : WF k s) : Slack s s.deed := ⟨w.sz, w.ssz, w.lsz, w.dsz⟩
theorem Slack.gone {k : Kd} {s : Th} {d : Nat} (h : Slack s d) (n r : Str) : Slack (k.gone s n r).2 d := by
  obtain ⟨h1, h2, h3, h4⟩ := h
  cases k with
  | book => exact ⟨h1, h2, h3, h4⟩
  | shelf =>
    unfold Kd.gone
    dsimp only
    split
    · rename_i hn
      refine ⟨h1, ?_, h3, h4⟩
      show (s.st.filter _).length + (s.went ++ [_]).length ≤ d
      have : (s.st.filter fun m => decide (m ≠ n)).length < s.st.length := by
        rw [List.length_filter_lt_length_iff_exists]
        exact ⟨n, hn, by simp⟩
      rw [List.length_append, List.length_singleton]
      omega
    · exact ⟨h1, h2, h3, h4⟩
  | row =>
    unfold Kd.gone
    dsimp only
    split
    · refine ⟨h1, h2, ?_, h4⟩
      show (trim (takeOff s.laid n)).length ≤ d
      have a := trim_len (takeOff s.laid n)
      have b : (takeOff s.laid n).length = s.laid.length := List.length_set
      omega
    · exact ⟨h1, h2, h3, h4⟩
theorem Slack.ageStep {k : Kd} {s : Th} {d : Nat} (h : Slack s d) (t : Int) (n : Str) : Slack (k.ageStep t s n) d := by
  have h0 : Slack { s with es := setC s.es n (agedI (cntE s.es n) s.part t) } d := ⟨by show (setC _ _ _).length ≤ d; unfold setC; rw [List.length_map]; exact h.1, h.2.1, h.2.2.1, h.2.2.2⟩
  unfold Kd.ageStep
  split
  · have h1 := h0.gone (k := k) n "faded"
    refine ⟨?_, h1.2.1, h1.2.2.1, h1.2.2.2⟩
    show (dropE s.es n).length ≤ d
    have := (List.filter_sublist (l := s.es) (p := fun e => decide (e.1 ≠ n))).length_le
    have := h.1
    unfold dropE
    omega
  · exact h0
theorem Slack.spend {k : Kd} {s : Th} {d : Nat} (h : Slack s d) (steps : Int) : Slack (k.spend s steps) d := by
  have fold : ∀ (t : Int) (ns : List Str) (s : Th), Slack s d → Slack (ns.foldl (k.ageStep t) s) d := by
    intro t ns
    induction ns with
    | nil => intro s h; exact h
    | cons n r ih => intro s h; exact ih _ (h.ageStep t n)
  have h0 : Slack { s with time := s.time + steps } d := h
  unfold Kd.spend
  split
  · exact fold _ _ _ h0
  · exact h0
theorem ageStep_core (k : Kd) (t : Int) (s : Th) (n : Str) : (k.ageStep t s n).span = s.span ∧ (k.ageStep t s n).part = s.part ∧ (k.ageStep t s n).time = s.time ∧ (k.ageStep t s n).deed = s.deed ∧ (k.ageStep t s n).places = s.places := by
  unfold Kd.ageStep
  split
  · have c := gone_core k { s with es := setC s.es n (agedI (cntE s.es n) s.part t) } n "faded"
    exact ⟨c.2.1, c.2.2.1, c.2.2.2.1, c.2.2.2.2.1, c.2.2.2.2.2⟩
  · exact ⟨rfl, rfl, rfl, rfl, rfl⟩
theorem fold_core (k : Kd) (t : Int) : ∀ (ns : List Str) (s : Th), (ns.foldl (k.ageStep t) s).span = s.span ∧ (ns.foldl (k.ageStep t) s).part = s.part ∧ (ns.foldl (k.ageStep t) s).time = s.time ∧ (ns.foldl (k.ageStep t) s).deed = s.deed ∧ (ns.foldl (k.ageStep t) s).places = s.places
  | [], _ => ⟨rfl, rfl, rfl, rfl, rfl⟩
  | n :: r, s => by
    obtain ⟨a, b, c, d, e⟩ := fold_core k t r (k.ageStep t s n)
    obtain ⟨a', b', c', d', e'⟩ := ageStep_core k t s n
    exact ⟨a.trans a', b.trans b', c.trans c', d.trans d', e.trans e'⟩
theorem spend_core (k : Kd) (s : Th) (steps : Int) : (k.spend s steps).span = s.span ∧ (k.spend s steps).part = s.part ∧ (k.spend s steps).time = s.time + steps ∧ (k.spend s steps).deed = s.deed ∧ (k.spend s steps).places = s.places := by
  unfold Kd.spend
  split
  · exact fold_core k _ _ _
  · exact ⟨rfl, rfl, rfl, rfl, rfl⟩
/-- the names ahead of a turn are still there at it -/
theorem keys_ageStep {k : Kd} {s : Th} {t : Int} {n m : Str} (h : m ∈ s.es.map (·.1)) (ne : m ≠ n) : m ∈ (k.ageStep t s n).es.map (·.1) := by
  unfold Kd.ageStep
  split
  · exact mem_keys_dropE.mpr ⟨h, ne⟩
  · show m ∈ (setC _ _ _).map (·.1)
    rw [setC_keys]; exact h
theorem keys_fold {k : Kd} {t : Int} {m : Str} : ∀ (ns : List Str) (s : Th), m ∈ s.es.map (·.1) → m ∉ ns → m ∈ (ns.foldl (k.ageStep t) s).es.map (·.1)
  | [], _, h, _ => h
  | n :: r, s, h, hn => keys_fold r _ (keys_ageStep h fun q => hn (by rw [q]; exact List.mem_cons_self)) fun q => hn (List.mem_cons_of_mem _ q)
/-! lasts below a bound -/
def LB (s : Th) (d : Int) : Prop := ∀ e ∈ s.es, e.2.2 ≤ d
theorem LB.ageStep {k : Kd} {s : Th} {d : Int} (h : LB s d) (t : Int) (n : Str) : LB (k.ageStep t s n) d := by
  unfold Kd.ageStep
  split
  · exact fun e he => h e ((List.filter_sublist (l := s.es)).subset he)
  · intro e he
    obtain ⟨a, ha, rfl⟩ := List.mem_map.mp he
    by_cases q : a.1 = n
    · simp only [q, if_true]; exact h a ha
    · simp only [q, if_false]; exact h a ha
theorem LB.fold {k : Kd} {d : Int} (t : Int) : ∀ (ns : List Str) {s : Th}, LB s d → LB (ns.foldl (k.ageStep t) s) d
  | [], _, h => h
  | n :: r, _, h => LB.fold t r (h.ageStep t n)
theorem LB.spend {k : Kd} {s : Th} {d : Int} (h : LB s d) (steps : Int) : LB (k.spend s steps) d := by
  unfold Kd.spend
  split
  · exact LB.fold _ _ h
  · exact h
/-! carrying -/
theorem carryGo_perm (rk : Str → Int × Int) : ∀ (l : List (Option Str)) (n : Str), ((carryGo rk l n).filterMap id).Perm (n :: l.filterMap id)
  | [], n => List.Perm.refl _
  | none :: r, n => List.Perm.refl _
  | some m :: r, n => by
    unfold carryGo
    split
    · have := carryGo_perm rk r m
      exact List.Perm.cons n this
    · have := carryGo_perm rk r n
      exact (List.Perm.cons m this).trans (List.Perm.swap _ _ _)
theorem carry_perm (rk : Str → Int × Int) (l : List (Option Str)) (n : Str) : ((carry rk l n).filterMap id).Perm (n :: l.filterMap id) := by
  cases l with
  | nil => exact List.Perm.refl _
  | cons o r =>
    cases o with
    | none => exact List.Perm.refl _
    | some m => exact List.Perm.cons n (carryGo_perm rk r m)
theorem carryGo_len (rk : Str → Int × Int) : ∀ (l : List (Option Str)) (n : Str), (carryGo rk l n).length ≤ l.length + 1
  | [], n => by simp [carryGo]
  | none :: r, n => by simp [carryGo]
  | some m :: r, n => by
    unfold carryGo
    split
    · have := carryGo_len rk r m
      simp only [List.length_cons]
      omega
    · have := carryGo_len rk r n
      simp only [List.length_cons]
      omega
theorem carry_len (rk : Str → Int × Int) (l : List (Option Str)) (n : Str) : (carry rk l n).length ≤ l.length + 1 := by
  cases l with
  | nil => simp [carry]
  | cons o r =>
    cases o with
    | none => simp [carry]
    | some m =>
      have := carryGo_len rk r m
      simp only [carry, List.length_cons]
      omega
theorem came_core (k : Kd) (s : Th) (n : Str) : (k.came s n).2.es = s.es ∧ (k.came s n).2.span = s.span ∧ (k.came s n).2.part = s.part ∧ (k.came s n).2.time = s.time ∧ (k.came s n).2.deed = s.deed ∧ (k.came s n).2.places = s.places := by
  cases k with
  | book => exact ⟨rfl, rfl, rfl, rfl, rfl, rfl⟩
  | shelf =>
    unfold Kd.came
    dsimp only
    split
    · exact ⟨rfl, rfl, rfl, rfl, rfl, rfl⟩
    · split
      · exact gone_core .shelf s (weakest s) "crowded"
      · exact ⟨rfl, rfl, rfl, rfl, rfl, rfl⟩
  | row =>
    unfold Kd.came
    dsimp only
    split <;> exact ⟨rfl, rfl, rfl, rfl, rfl, rfl⟩
theorem Slack.le {s : Th} {d e : Nat} (h : Slack s d) (he : d ≤ e) : Slack s e := ⟨Nat.le_trans h.1 he, Nat.le_trans h.2.1 he, Nat.le_trans h.2.2.1 he, Nat.le_trans h.2.2.2 he⟩
/-- the state of an ask, from one where the deed is new -/
theorem WF.cameAsk {k : Kd} {s : Th} (w : WF k s) {d : Nat} (hd : s.deed = d + 1) (sl : Slack s d) (lb : LB s d) (n : Str) {c : Int} (hc : 0 ≤ c) : WF k { (k.came s n).2 with es := putE s.es n (c, (s.deed : Int)) } := by
  have core := came_core k s n
  have hkeys := keys_putE s.es n (c, (s.deed : Int))
  have nd : ((putE s.es n (c, (s.deed : Int))).map (·.1)).Nodup := by
    rw [hkeys]
    split
    · exact w.nd
    · rename_i h
      rw [List.nodup_append]
      exact ⟨w.nd, by simp, fun a ha b hb => by rw [List.mem_singleton.mp hb]; exact fun q => h (q ▸ ha)⟩
  have hmem : ∀ e ∈ putE s.es n (c, (s.deed : Int)), e = (n, c, (s.deed : Int)) ∨ (e ∈ s.es ∧ e.1 ≠ n) := by
    intro e he
    unfold putE at he
    split at he
    · obtain ⟨a, ha, rfl⟩ := List.mem_map.mp he
      by_cases q : a.1 = n
      · left; simp only [q, if_true]
      · right; simp only [q, if_false]; exact ⟨ha, q⟩
    · rename_i hn
      rcases List.mem_append.mp he with h | h
      · right
        refine ⟨h, fun q => hn ?_⟩
        rw [List.any_eq_true]
        exact ⟨e, h, decide_eq_true q⟩
      · left; exact List.mem_singleton.mp h
  have hlsd : ((putE s.es n (c, (s.deed : Int))).map fun e => e.2.2).Nodup := by
    have hnew : ∀ e ∈ s.es, e.2.2 ≠ (s.deed : Int) := fun e he => by have := lb e he; omega
    unfold putE
    split
    · rw [List.map_map]
      have h1 := w.ls
      have h2 := w.nd
      have : ∀ l : List Ent, (l.map (·.1)).Nodup → (l.map fun e => e.2.2).Nodup → (∀ e ∈ l, e.2.2 ≠ (s.deed : Int)) → (l.map ((fun e : Ent => e.2.2) ∘ fun e => if e.1 = n then (e.1, c, (s.deed : Int)) else e)).Nodup := by
        intro l
        induction l with
        | nil => intro _ _ _; exact List.nodup_nil
        | cons a l ih =>
          intro h2 h1 h3
          rw [List.map_cons, List.nodup_cons] at h1 h2 ⊢
          refine ⟨fun q => ?_, ih h2.2 h1.2 fun e he => h3 e (List.mem_cons_of_mem _ he)⟩
          obtain ⟨b, hb, e⟩ := List.mem_map.mp q
          simp only [Function.comp] at e
          by_cases qa : a.1 = n
          · by_cases qb : b.1 = n
            · exact h2.1 (List.mem_map.mpr ⟨b, hb, qb.trans qa.symm⟩)
            · rw [if_pos qa, if_neg qb] at e
              exact h3 b (List.mem_cons_of_mem _ hb) e
          · by_cases qb : b.1 = n
            · rw [if_neg qa, if_pos qb] at e
              exact h3 a List.mem_cons_self e.symm
            · rw [if_neg qa, if_neg qb] at e
              exact h1.1 (List.mem_map.mpr ⟨b, hb, e⟩)
      exact this s.es h2 h1 hnew
    · rw [List.map_append, List.nodup_append]
      refine ⟨w.ls, by simp, fun a ha b hb => ?_⟩
      obtain ⟨e, he, rfl⟩ := List.mem_map.mp ha
      rw [show b = (s.deed : Int) from List.mem_singleton.mp hb]
      exact hnew e he
  have hlen : (putE s.es n (c, (s.deed : Int))).length ≤ d + 1 := by
    have h1 := sl.1
    unfold putE
    split
    · rw [List.length_map]; omega
    · rw [List.length_append, List.length_singleton]; omega
  have hin : ∀ m, m ∈ s.es.map (·.1) ∨ m = n → m ∈ (putE s.es n (c, (s.deed : Int))).map (·.1) := by
    intro m hm
    rw [hkeys]
    split
    · rename_i h
      rcases hm with h1 | rfl
      · exact h1
      · exact h
    · rcases hm with h1 | rfl
      · exact List.mem_append_left _ h1
      · exact List.mem_append_right _ List.mem_cons_self
  have hcn : ∀ e ∈ putE s.es n (c, (s.deed : Int)), 0 ≤ e.2.1 := fun e he => by
    rcases hmem e he with rfl | ⟨h, _⟩
    · exact hc
    · exact w.cn e h
  have hlr : ∀ e ∈ putE s.es n (c, (s.deed : Int)), e.2.2 ≤ (s.deed : Int) := fun e he => by
    rcases hmem e he with rfl | ⟨h, _⟩
    · exact Int.le_refl _
    · exact w.lr e h
  obtain ⟨_, sl2, sl3, sl4⟩ := sl
  cases k with
  | book => exact { w with nd := nd, cn := hcn, ls := hlsd, lr := hlr, sz := by rw [← hd] at hlen; exact hlen, sin := fun m hm => hin m (.inl (w.sin m hm)), lin := fun m hm => hin m (.inl (w.lin m hm)) }
  | shelf =>
    have hr := w.kr (by decide)
    by_cases hn : n ∈ s.st
    · have e1 : Kd.came .shelf s n = (.bl true, s) := by unfold Kd.came; dsimp only; rw [if_pos hn]
      rw [e1]
      exact { w with nd := nd, cn := hcn, ls := hlsd, lr := hlr, sz := by rw [← hd] at hlen; exact hlen, sin := fun m hm => hin m (.inl (w.sin m hm)), lin := fun m hm => hin m (.inl (w.lin m hm)) }
    · have e1 : (Kd.came .shelf s n).2 = { (if (s.st.length : Int) = s.places then (Kd.gone .shelf s (weakest s) "crowded").2 else s) with st := (if (s.st.length : Int) = s.places then (Kd.gone .shelf s (weakest s) "crowded").2 else s).st ++ [n] } := by
        unfold Kd.came; dsimp only; rw [if_neg hn]
      rw [e1]
      have w1 : WF .shelf (if (s.st.length : Int) = s.places then (Kd.gone .shelf s (weakest s) "crowded").2 else s) := by
        split
        · exact w.gone _ _
        · exact w
      have sl1 : Slack (if (s.st.length : Int) = s.places then (Kd.gone .shelf s (weakest s) "crowded").2 else s) d := by
        split
        · exact Slack.gone (k := .shelf) ⟨‹_›, sl2, sl3, sl4⟩ _ _
        · exact ⟨‹_›, sl2, sl3, sl4⟩
      have hsub : ∀ m, m ∈ (if (s.st.length : Int) = s.places then (Kd.gone .shelf s (weakest s) "crowded").2 else s).st → m ∈ s.st := by
        intro m
        split
        · exact (gone_mem w).1
        · exact id
      have hco : (if (s.st.length : Int) = s.places then (Kd.gone .shelf s (weakest s) "crowded").2 else s).es = s.es ∧ (if (s.st.length : Int) = s.places then (Kd.gone .shelf s (weakest s) "crowded").2 else s).deed = s.deed := by
        split
        · have := gone_core .shelf s (weakest s) "crowded"
          exact ⟨this.1, this.2.2.2.2.1⟩
        · exact ⟨rfl, rfl⟩
      generalize (if (s.st.length : Int) = s.places then (Kd.gone .shelf s (weakest s) "crowded").2 else s) = s1 at w1 sl1 hsub hco
      refine { w1 with kb := fun h => absurd rfl h, nd := nd, cn := hcn, ls := hlsd, lr := ?_, sz := ?_, snd := ?_, sin := ?_, ssz := ?_, lin := ?_ }
      · show ∀ e ∈ putE s.es n (c, (s.deed : Int)), e.2.2 ≤ (s1.deed : Int)
        rw [hco.2]; exact hlr
      · show (putE s.es n (c, (s.deed : Int))).length ≤ s1.deed
        have := hco.2
        omega
      · show (s1.st ++ [n]).Nodup
        rw [List.nodup_append]
        exact ⟨w1.snd, by simp, fun a ha b hb => by rw [List.mem_singleton.mp hb]; exact fun q => hn (q ▸ hsub a ha)⟩
      · intro m hm
        rcases List.mem_append.mp (show m ∈ s1.st ++ [n] from hm) with h | h
        · exact hin m (.inl (w.sin m (hsub m h)))
        · exact hin m (.inr (List.mem_singleton.mp h))
      · show (s1.st ++ [n]).length + s1.went.length ≤ s1.deed
        have := sl1.2.1
        rw [hco.2, hd, List.length_append, List.length_singleton]
        omega
      · intro m hm
        have := (w1.kr (by decide)).1
        rw [show s1.laid = [] from this] at hm
        cases hm
  | row =>
    have hb := w.kb (by decide)
    have key : ∀ (l : List (Option Str)) (o : Option Int), (l.filterMap id).Nodup → n ∉ l.filterMap id → (∀ m, m ∈ l.filterMap id → m ∈ s.es.map (·.1)) → l.length ≤ d → WF .row { s with depths := s.depths ++ [o], laid := trim (carry (rankE s.es) l n), es := putE s.es n (c, (s.deed : Int)) } := by
      intro l o h1 h2 h3 h4
      have hp : ((trim (carry (rankE s.es) l n)).filterMap id).Perm (n :: l.filterMap id) := by
        rw [trim_map]; exact carry_perm _ _ _
      refine { w with kr := fun h => absurd rfl h, nd := nd, cn := hcn, ls := hlsd, lr := hlr, sz := by rw [← hd] at hlen; exact hlen, sin := fun m hm => hin m (.inl (w.sin m hm)), lin := fun m hm => ?_, lnd := ?_, lsz := ?_, dsz := ?_ }
      · have := hp.mem_iff.mp (mem_fm.mpr hm)
        rcases List.mem_cons.mp this with q | q
        · exact hin m (.inr q)
        · exact hin m (.inl (h3 m q))
      · exact hp.nodup_iff.mpr (List.nodup_cons.mpr ⟨h2, h1⟩)
      · show (trim (carry (rankE s.es) l n)).length ≤ s.deed
        have a1 := trim_len (carry (rankE s.es) l n)
        have a2 := carry_len (rankE s.es) l n
        omega
      · show (s.depths ++ [o]).length ≤ s.deed
        rw [List.length_append, List.length_singleton]
        omega
    by_cases hn : some n ∈ s.laid
    · have e1 : (Kd.came .row s n).2 = { s with depths := s.depths ++ [some ((idx s.laid n : Int) + 1)], laid := trim (carry (rankE s.es) (takeOff s.laid n) n) } := by
        unfold Kd.came; dsimp only; rw [if_pos hn]
      rw [e1]
      have tm := takeOff_map w.lnd hn
      refine key (takeOff s.laid n) _ ?_ ?_ ?_ ?_
      · rw [tm]; exact nodup_filter _ w.lnd
      · rw [tm]; simp
      · intro m hm
        rw [tm] at hm
        exact w.lin m (mem_fm.mp (List.mem_filter.mp hm).1)
      · have : (takeOff s.laid n).length = s.laid.length := List.length_set
        omega
    · have e1 : (Kd.came .row s n).2 = { s with depths := s.depths ++ [none], laid := trim (carry (rankE s.es) s.laid n) } := by
        unfold Kd.came; dsimp only; rw [if_neg hn]
      rw [e1]
      refine key s.laid _ w.lnd (fun q => hn (mem_fm.mp q)) (fun m hm => w.lin m (mem_fm.mp hm)) ?_
      omega
theorem WF.ask {k : Kd} {s : Th} (w : WF k s) (n : Str) {c : Int} (hc : 0 ≤ c) : WF k (k.ask s n c).2 := by
  have w1 := w.next.spend 1
  have c1 := spend_core k s.next 1
  have sl : Slack (k.spend s.next 1) s.deed := Slack.spend (s := s.next) w.slack 1
  have lb : LB (k.spend s.next 1) s.deed := LB.spend (s := s.next) w.lr 1
  have cc := came_core k (k.spend s.next 1) n
  have := w1.cameAsk (d := s.deed) (by rw [c1.2.2.2.1]; rfl) sl lb n (c := cntE (k.spend s.next 1).es n + c) (by have := cntE_nn w1.cn n; omega)
  have e : putE (k.came (k.spend s.next 1) n).2.es n (cntE (k.came (k.spend s.next 1) n).2.es n + c, ((k.came (k.spend s.next 1) n).2.deed : Int)) = putE (k.spend s.next 1).es n (cntE (k.spend s.next 1).es n + c, ((k.spend s.next 1).deed : Int)) := by
    rw [cc.1, cc.2.2.2.2.1]
  unfold Kd.ask
  dsimp only
  rw [e]
  exact this
theorem WF.rest {k : Kd} {s : Th} (w : WF k s) (n : Int) : WF k (k.rest s n).2 := w.next.spend n
theorem WF.drop {k : Kd} {s : Th} (w : WF k s) (n : Str) : WF k (k.drop s n).2 := w.next.gone n _
theorem WF.inside {k : Kd} {s : Th} (w : WF k s) : ∀ n ∈ k.inside s, n ∈ s.es.map (·.1) := by
  cases k with
  | book => exact fun n h => h
  | shelf => exact w.sin
  | row => exact fun n h => w.lin n (mem_fm.mp h)
theorem ask_core (k : Kd) (s : Th) (n : Str) (c : Int) : (k.ask s n c).2.span = s.span ∧ (k.ask s n c).2.part = s.part ∧ (k.ask s n c).2.time = s.time + 1 ∧ (k.ask s n c).2.deed = s.deed + 1 ∧ (k.ask s n c).2.places = s.places := by
  have c1 := spend_core k s.next 1
  have c2 := came_core k (k.spend s.next 1) n
  exact ⟨c2.2.1.trans c1.1, c2.2.2.1.trans c1.2.1, c2.2.2.2.1.trans c1.2.2.1, c2.2.2.2.2.1.trans c1.2.2.2.1, c2.2.2.2.2.2.trans c1.2.2.2.2⟩
theorem rest_core (k : Kd) (s : Th) (n : Int) : (k.rest s n).2.span = s.span ∧ (k.rest s n).2.part = s.part ∧ (k.rest s n).2.time = s.time + n ∧ (k.rest s n).2.deed = s.deed + 1 ∧ (k.rest s n).2.places = s.places := spend_core k s.next n
theorem drop_core (k : Kd) (s : Th) (n : Str) : (k.drop s n).2.span = s.span ∧ (k.drop s n).2.part = s.part ∧ (k.drop s n).2.time = s.time ∧ (k.drop s n).2.deed = s.deed + 1 ∧ (k.drop s n).2.places = s.places := by
  have c := gone_core k s.next n "dropped"
  exact ⟨c.2.1, c.2.2.1, c.2.2.2.1, c.2.2.2.2.1, c.2.2.2.2.2⟩
/-- a new thing -/
def th0 (span part places : Int) : Th := ⟨span, part, 0, 0, [], places, [], [], [], []⟩
theorem wf0 {k : Kd} {span part places : Int} (h1 : 0 < span) (h2 : span < 10 ^ 80) (h3 : 2 ≤ part) (h4 : part < 10 ^ 80) (h5 : k = .shelf → 1 ≤ places) : WF k (th0 span part places) where
  pl := h5
  kb := fun _ => ⟨rfl, rfl⟩
  kr := fun _ => ⟨rfl, rfl⟩
  sp := h1
  sp2 := h2
  pt := h3
  pt2 := h4
  nd := List.nodup_nil
  cn := fun e he => by cases he
  ls := List.nodup_nil
  lr := fun e he => by cases he
  sz := Nat.le_refl _
  snd := List.nodup_nil
  sin := fun e he => by cases he
  ssz := Nat.le_refl _
  lin := fun e he => by cases he
  lnd := List.nodup_nil
  lsz := Nat.le_refl _
  dsz := Nat.le_refl _
end Own

/-! ### signs and names; plain Lean -/
namespace Own
open PySem L2
def GoodName (n : Str) : Prop := 1 ≤ n.length ∧ n.length ≤ 40 ∧ ∀ c ∈ n.cps.toList, 32 ≤ c ∧ c ≤ 126
def someA : Str := Str.ofString " !\"#$&'()*+,-./0123456789:;<=>?@ABCDEFGHIJKLMNOPQRSTUVWXYZ[\\]^_`"
def someB : Str := Str.ofString "abcdefghijklmnopqrstuvwxyz{|}~"
def someL : List Nat := someA.cps.toList ++ someB.cps.toList
theorem some_len : someL.length = 94 := by decide +kernel
theorem some_nd : someL.Nodup := by decide +kernel
theorem some_rg : ∀ c ∈ someL, 32 ≤ c ∧ c ≤ 126 := by decide +kernel
theorem someS_list : (someA ++ someB).cps.toList = someL := by
  show (someA.cps ++ someB.cps).toList = _
  rw [Array.toList_append]
  rfl
theorem someS_len : (someA ++ someB).length = 94 := by
  show (someA ++ someB).cps.size = 94
  rw [← Array.length_toList, someS_list, some_len]
def sg (n : Int) : Nat := someL.getD (n % 94).toNat 32
theorem sg_at (n : Int) : someL[(n % 94).toNat]? = some (sg n) := by
  have h1 := Int.emod_nonneg n (show (94 : Int) ≠ 0 by decide)
  have h2 := Int.emod_lt_of_pos n (show (0 : Int) < 94 by decide)
  have h3 : (n % 94).toNat < someL.length := by rw [some_len]; omega
  unfold sg
  rw [List.getD_eq_getElem?_getD, List.getElem?_eq_getElem h3]
  rfl
theorem sg_good (n : Int) : 32 ≤ sg n ∧ sg n ≤ 126 := some_rg _ (List.mem_of_getElem? (sg_at n))
theorem sg_inj {n m : Int} (h : sg n = sg m) : n % 94 = m % 94 := by
  have h1 := sg_at n
  have h2 := sg_at m
  rw [h] at h1
  obtain ⟨a1, b1⟩ := List.getElem?_eq_some_iff.mp h1
  obtain ⟨a2, b2⟩ := List.getElem?_eq_some_iff.mp h2
  have := (List.getElem_inj some_nd).mp (b1.trans b2.symm)
  have g1 := Int.emod_nonneg n (show (94 : Int) ≠ 0 by decide)
  have g2 := Int.emod_nonneg m (show (94 : Int) ≠ 0 by decide)
  omega
def mkS (l : List Nat) : Str := ⟨l.toArray⟩
theorem mkS_list (l : List Nat) : (mkS l).cps.toList = l := rfl
theorem mkS_len (l : List Nat) : (mkS l).length = l.length := by
  show l.toArray.size = l.length
  exact List.size_toArray
theorem mkS_inj {l m : List Nat} (h : mkS l = mkS m) : l = m := congrArg (fun s : Str => s.cps.toList) h
theorem mkS_app (l m : List Nat) : mkS l ++ mkS m = mkS (l ++ m) := by
  show (⟨l.toArray ++ m.toArray⟩ : Str) = ⟨(l ++ m).toArray⟩
  rw [List.append_toArray]
theorem join_ones (l : List Nat) : Txt.join (Str.ofString "") (l.map fun c => mkS [c]) = mkS l := by
  rw [TL.join_eq, show Str.ofString "" = mkS [] from by decide +kernel]
  induction l with
  | nil => rfl
  | cons a l ih =>
    cases l with
    | nil => rfl
    | cons b r =>
      show mkS [a] ++ mkS [] ++ Str.join (mkS []) ((b :: r).map fun c => mkS [c]) = _
      rw [ih, mkS_app, mkS_app]
      rfl
theorem cut_take (l : List Nat) (k : Nat) (h : k ≤ l.length) : cutS (mkS l) none (some (k : Int)) = mkS (l.take k) := by
  unfold cutS
  rw [mkS_len, HT.sIx_none, HT.sIx_nat, Nat.min_eq_left h, mkS_list]
  rfl
theorem cut_drop (l : List Nat) (k : Nat) (h : k ≤ l.length) : cutS (mkS l) (some (k : Int)) none = mkS (l.drop k) := by
  unfold cutS
  rw [mkS_len, HT.sIx_none, HT.sIx_nat, Nat.min_eq_left h, mkS_list]
  show mkS _ = _
  rw [List.take_of_length_le (by rw [List.length_drop]; omega)]
/-- names: so many, none twice, all good -/
structure Names (ns : List Str) (m : Nat) : Prop where
  len : ns.length = m
  nd : ns.Nodup
  good : ∀ n ∈ ns, GoodName n
/-- beginnings of one text -/
def namesA (b : List Nat) (m : Nat) : List Str := (List.range m).map fun k => mkS (b.take (1 + k))
theorem names_a {b : List Nat} {m : Nat} (hb : b.length = 40) (hm : m ≤ 40) (hc : ∀ c ∈ b, 32 ≤ c ∧ c ≤ 126) : Names (namesA b m) m where
  len := by unfold namesA; rw [List.length_map, List.length_range]
  nd := by
    unfold namesA
    rw [List.nodup_iff_pairwise_ne, List.pairwise_map]
    refine (List.nodup_range (n := m)).imp_of_mem fun {i j} hi hj hne q => hne ?_
    rw [List.mem_range] at hi hj
    have := congrArg List.length (mkS_inj q)
    rw [List.length_take, List.length_take, hb] at this
    omega
  good := by
    intro n hn
    obtain ⟨k, hk, rfl⟩ := List.mem_map.mp hn
    rw [List.mem_range] at hk
    refine ⟨?_, ?_, fun c h => hc c ?_⟩
    · rw [mkS_len, List.length_take, hb]; omega
    · rw [mkS_len, List.length_take, hb]; omega
    · rw [mkS_list] at h
      exact List.mem_of_mem_take h
/-- alike but at one place -/
def namesB (b : List Nat) (at_ : Nat) (f : Nat → Nat) (m : Nat) : List Str := (List.range m).map fun k => mkS (b.take at_ ++ [f k] ++ b.drop (at_ + 1))
theorem names_b {b : List Nat} {at_ m : Nat} {f : Nat → Nat} (hb : at_ < b.length) (h40 : b.length ≤ 40) (hc : ∀ c ∈ b, 32 ≤ c ∧ c ≤ 126) (hf : ∀ k, 32 ≤ f k ∧ f k ≤ 126) (inj : ∀ i j, i < m → j < m → f i = f j → i = j) : Names (namesB b at_ f m) m where
  len := by unfold namesB; rw [List.length_map, List.length_range]
  nd := by
    unfold namesB
    rw [List.nodup_iff_pairwise_ne, List.pairwise_map]
    refine (List.nodup_range (n := m)).imp_of_mem fun {i j} hi hj hne q => hne ?_
    rw [List.mem_range] at hi hj
    have e := mkS_inj q
    rw [List.append_assoc, List.append_assoc] at e
    have e2 := List.append_cancel_left e
    exact inj i j hi hj (List.cons.inj e2).1
  good := by
    intro n hn
    obtain ⟨k, hk, rfl⟩ := List.mem_map.mp hn
    have hl : (mkS (b.take at_ ++ [f k] ++ b.drop (at_ + 1))).length = b.length := by
      rw [mkS_len, List.length_append, List.length_append, List.length_take, List.length_drop, List.length_singleton]
      omega
    refine ⟨by rw [hl]; omega, by rw [hl]; exact h40, fun c h => ?_⟩
    rw [mkS_list, List.mem_append, List.mem_append, List.mem_singleton] at h
    rcases h with (h | h) | h
    · exact hc c (List.mem_of_mem_take h)
    · rw [h]; exact hf k
    · exact hc c (List.mem_of_mem_drop h)
theorem Names.mem {ns : List Str} {m : Nat} (h : Names ns m) {k : Nat} (hk : k < m) : ∃ n, ns[k]? = some n ∧ n ∈ ns := by
  have hk' : k < ns.length := by rw [h.len]; exact hk
  exact ⟨ns[k], List.getElem?_eq_getElem hk', List.getElem_mem hk'⟩
/-! deeds -/
inductive Deed where
  | ask (n : Str) (w : Int)
  | drop (n : Str)
  | rest (t : Int)
def Deed.V : Deed → List V
  | .ask n w => [.str "ask", .str n, .int w]
  | .drop n => [.str "drop", .str n, .int 0]
  | .rest t => [.str "rest", .str "", .int t]
def Deed.Good (ns : List Str) : Deed → Prop
  | .ask n w => n ∈ ns ∧ 1 ≤ w ∧ w ≤ 1000000000000000000000000000000
  | .drop n => n ∈ ns
  | .rest t => 0 ≤ t ∧ t ≤ 1000000000000000000000000000000
def Deed.steps : Deed → Int
  | .ask _ _ => 1
  | .drop _ => 0
  | .rest t => t
/-- the answer and the thing behind a deed -/
def Kd.act (k : Kd) (s : Th) : Deed → L2.V × Th
  | .ask n w => k.ask s n w
  | .drop n => (.bl (k.drop s n).1, (k.drop s n).2)
  | .rest t => (.int (k.rest s t).1, (k.rest s t).2)
theorem WF.act {k : Kd} {s : Th} (w : WF k s) {ns : List Str} {d : Deed} (h : d.Good ns) : WF k (k.act s d).2 := by
  cases d with
  | ask n c => exact w.ask n (by have := h.2.1; omega)
  | drop n => exact w.drop n
  | rest t => exact w.rest t
theorem act_core (k : Kd) (s : Th) (d : Deed) : (k.act s d).2.span = s.span ∧ (k.act s d).2.part = s.part ∧ (k.act s d).2.time = s.time + d.steps ∧ (k.act s d).2.deed = s.deed + 1 ∧ (k.act s d).2.places = s.places := by
  cases d with
  | ask n c => exact ask_core k s n c
  | drop n =>
    have := drop_core k s n
    refine ⟨this.1, this.2.1, ?_, this.2.2.2⟩
    show _ = s.time + 0
    rw [Int.add_zero]
    exact this.2.2.1
  | rest t => exact rest_core k s t
end Own

namespace Own
open PySem L2 PyProof.Rows Evl OwnS
/-! ### Evl, more: own lemmas and the tactic walk_at "ev" -/
section
variable {K : PySem.W.Frag} {σ : L2.St} {H H' : Hp} {t u : TT} {ta tb te : TE} {x y z v : V} {D : Ends} {tu tw tz : TS}
theorem ev_isi {t u : Value} {c : V} {b : Bool} (ha : Ev ta σ H x) (hb : Ev tb σ H c) (hc : ClsV c u) (ht : ∀ H1, Ex H H1 → TyX K H1 x t) (hk : PySem.W.kitOne K t u = some b) :
    Ev (tCB (rIsi K) (tCons ta (tCons tb tNil))) σ H (.bl b) := fun H1 e Q q =>
  ha H1 e _ fun H2 e2 => hb H2 (e.trans e2) _ fun H3 e3 => ⟨x, c, t, u, b, rfl, hc, ht H3 ((e.trans e2).trans e3), hk, q H3 (e2.trans e3)⟩
theorem isi_int_int {i : Int} : PySem.W.kitOne K (.type "int") (.type "int") = some true := kit_ty (by decide +kernel)
theorem isi_int_bool {i : Int} : PySem.W.kitOne K (.type "int") (.type "bool") = some false := kit_ty (by decide +kernel)
/-- isinstance(n, int), isinstance(n, bool) of an int -/
theorem ev_isInt {i : Int} (ha : Ev ta σ H (.int i)) : Ev (tCB (rIsi K) (tCons ta (tCons (tC (.ty "int")) tNil))) σ H (.bl true) := ev_isi ha ev_c (.ty _) (fun _ _ => .base (.int _)) (kit_ty (by decide +kernel))
theorem ev_isBoolI {i : Int} (ha : Ev ta σ H (.int i)) : Ev (tCB (rIsi K) (tCons ta (tCons (tC (.ty "bool")) tNil))) σ H (.bl false) := ev_isi ha ev_c (.ty _) (fun _ _ => .base (.int _)) (kit_ty (by decide +kernel))
theorem ev_isIntB {b : Bool} (ha : Ev ta σ H (.bl b)) : Ev (tCB (rIsi K) (tCons ta (tCons (tC (.ty "int")) tNil))) σ H (.bl true) := ev_isi ha ev_c (.ty _) (fun _ _ => .base (.bl _)) (kit_ty (by decide +kernel))
theorem ev_isBoolB {b : Bool} (ha : Ev ta σ H (.bl b)) : Ev (tCB (rIsi K) (tCons ta (tCons (tC (.ty "bool")) tNil))) σ H (.bl true) := ev_isi ha ev_c (.ty _) (fun _ _ => .base (.bl _)) (kit_ty (by decide +kernel))
/-- name = an int: a letter for it -/
theorem q_asgZ {i : Nat} {n : Int} (h : Ev te σ H (.int n)) (k : ∀ H1, Ex H H1 → ∀ z, z = n → tz D (σ.set i (some (.int z))) H1) : tSeq (tAsg te (gName i)) tz D σ H := q_asg h fun H1 e => k H1 e n rfl
/-- if c: name = an int -/
theorem q_ifZ {b : Bool} {i : Nat} {n m : Int} (hold : σ.set i (some (.int n)) = σ) (h : EvT t σ H b) (h1 : Ev te σ H (.int m)) (k : ∀ H1, Ex H H1 → ∀ z, (b = true → z = m) → (b = false → z = n) → tz D (σ.set i (some (.int z))) H1) : tSeq (tIfS t (tAsg te (gName i)) tNext) tz D σ H :=
  q_when h (fun hb H1 e1 => s_asg (D := { D with nx := tz D }) (h1.mono e1) fun H2 e2 => k H2 (e1.trans e2) m (fun _ => rfl) (fun q => by rw [hb] at q; cases q)) (fun hb H1 e1 => by
    have g := k H1 e1 n (fun q => by rw [hb] at q; cases q) (fun _ => rfl)
    rw [hold] at g
    exact g)
theorem ev_callI {sp : Sp} {dvs vs : List V} {E : XK} {ta : TA} {w : V} (h : EvA ta σ H vs) (hs : SpV sp (vs ++ dvs) H w) : Ev (tCall sp dvs E ta) σ H w := ev_call h hs
theorem spv_of {sp : Sp} {vs : List V} {w : V} (h : ∀ (H1 : Hp) (Q : VK) (E : XK), Ex H H1 → RetV w H1 Q → sp vs H1 Q E) : SpV sp vs H w := fun H1 e Q q E => h H1 Q E e q
/-- a call without defaults -/
theorem ev_call0 {sp : Sp} {vs : List V} {E : XK} {ta : TA} {w : V} (h : EvA ta σ H vs) (hs : SpV sp vs H w) : Ev (tCall sp [] E ta) σ H w := ev_call h (by rw [List.append_nil]; exact hs)
/-- what evaluates to some value of which P holds (P may speak of the heap behind it) -/
def EvP (te : TE) (σ : L2.St) (H : Hp) (P : V → Hp → Prop) : Prop := ∀ H1, Ex H H1 → ∀ Q : VK, (∀ v H2, Ex H1 H2 → P v H2 → Q v H2) → te σ H1 Q
def SpP (sp : Sp) (vs : List V) (H : Hp) (P : V → Hp → Prop) : Prop := ∀ H1, Ex H H1 → ∀ Q : VK, (∀ v H2, Ex H1 H2 → P v H2 → Q v H2) → ∀ E : XK, sp vs H1 Q E
def RetP (P : V → Hp → Prop) (H : Hp) (Q : VK) : Prop := ∀ v H2, Ex H H2 → P v H2 → Q v H2
theorem ev_callP {sp : Sp} {vs : List V} {E : XK} {ta : TA} {P : V → Hp → Prop} (h : EvA ta σ H vs) (hs : SpP sp vs H P) : EvP (tCall sp [] E ta) σ H P := fun H1 e Q q =>
  h H1 e _ fun H2 e2 => by
    rw [List.append_nil]
    exact hs H2 (e.trans e2) Q (fun v H3 e3 p => q v H3 (e2.trans e3) p) E
theorem q_asgP {i : Nat} {P : V → Hp → Prop} (h : EvP te σ H P) (k : ∀ v H1, Ex H H1 → P v H1 → tz D (σ.set i (some v)) H1) : tSeq (tAsg te (gName i)) tz D σ H := h H (Ex.refl H) _ fun v H1 e p => k v H1 e p
theorem s_retP {P : V → Hp → Prop} (h : EvP te σ H P) (k : ∀ v H1, Ex H H1 → P v H1 → D.rt v H1) : tRet te D σ H := h H (Ex.refl H) _ fun v H1 e p => k v H1 e p
theorem dec_i {i j : Int} : decide (V.int i = V.int j) = decide (i = j) := by
  by_cases h : i = j
  · rw [h, decide_eq_true rfl, decide_eq_true rfl]
  · rw [decide_eq_false h, decide_eq_false (fun q => h (V.int.inj q))]
/-- and, or where the first value decides -/
theorem ev_and0 (h1 : Ev ta σ H (.bl false)) : Ev (tAndV ta tb) σ H (.bl false) := ev_andV (b := false) h1 (fun q => nomatch q)
theorem ev_and1 {b : Bool} (h1 : Ev ta σ H (.bl true)) (h2 : Ev tb σ H (.bl b)) : Ev (tAndV ta tb) σ H (.bl b) := ev_is (ev_andV h1 fun _ => h2) rfl
end
def Pos9 (j : Int) : Prop := 0 < j ∧ j < 10 ^ 80
theorem Pos9.d {i j : Int} (h : Pos9 j) : CDivW i j := wide_div (b := 300) h.1 (by have h1 := h.1; have h2 := h.2; omega) (by decide) (by decide)
theorem pos9 {i j : Int} (h : 0 < j) (h2 : j < 10 ^ 80) : CDivW i j := Pos9.d ⟨h, h2⟩
/-- a condition of arithmetic -/
local macro_rules | `(tactic| walk_at "side") => `(tactic| first
  | assumption
  | (show _ ∧ _; omega)
  | (apply pos9 <;> omega)
  | (show (0 : Int) < _; omega)
  | (show _ ∨ _; omega)
  | decide
  | omega)
local macro_rules | `(tactic| walk_at "fn") => `(tactic| fail "no fn")
local macro_rules | `(tactic| walk_at "ev") => `(tactic| first
  | ((with_reducible apply ev_var) ; exact rfl)
  | with_reducible exact ev_c
  | ((with_reducible apply ev_op) <;> walk_at "ev")
  | with_reducible exact rv_I0
  | ((with_reducible apply rv_I) ; walk_at "side")
  | ((with_reducible apply rv_eq) ; rfl)
  | ((with_reducible apply rv_ne) ; rfl)
  | ((with_reducible apply ev_isInt) ; walk_at "ev")
  | ((with_reducible apply ev_isBoolI) ; walk_at "ev")
  | ((with_reducible apply ev_isIntB) ; walk_at "ev")
  | ((with_reducible apply ev_isBoolB) ; walk_at "ev")
  | ((with_reducible apply ev_notV) ; walk_at "ev")
  | ((with_reducible apply et_test) ; walk_at "ev")
  | ((with_reducible apply et_B) ; walk_at "ev")
  | ((with_reducible apply et_not) ; walk_at "ev")
  | with_reducible exact ea_nil
  | ((with_reducible apply ea_cons) <;> walk_at "ev")
  | ((with_reducible apply ev_call0) <;> walk_at "ev")
  | ((with_reducible show SpV _ _ _ _); walk_at "fn"))

/-! ### Evl, further: fields, dicts, methods, walks -/
section
variable {K : PySem.W.Frag} {σ : L2.St} {H H' : Hp} {t u : TT} {ta tb te tx td ty tv : TE} {x y z v : V} {D : Ends} {tu tw tz : TS}
/-- all that is no list is as it was -/
def Nl (H H' : Hp) : Prop := ∀ b o, H b = some o → (∀ xs, o ≠ .lst xs) → H' b = some o
theorem Nl.of (e : Ex H H') : Nl H H' := fun b o h _ => e b o h
theorem Nl.trans {H1 H2 H3 : Hp} (a : Nl H1 H2) (b : Nl H2 H3) : Nl H1 H3 := fun c o h n => b c o (a c o h n) n
theorem Nl.upd {H : Hp} {p : Addr} {xs : List V} {o : HO} (h : H p = some (.lst xs)) : Nl H (upd H p o) := fun b u e n => by
  have : b ≠ p := fun q => by rw [q, h] at e; cases e; exact n _ rfl
  rw [upd_ne this]
  exact e
theorem Nl.new {H : Hp} {p : Addr} {o : HO} (h : H p = none) : Nl H (L2.upd H p o) := Nl.of (Ex.new h)
theorem Nl.sqT {a : Addr} {xs : List V} (e : Nl H H') (h : SqT K H a xs) : SqT K H' a xs := by
  rcases h with (h | ⟨o, h⟩) | h
  · exact .inl (.inl (e _ _ h fun _ q => by cases q))
  · exact .inl (.inr ⟨o, e _ _ h fun _ q => by cases q⟩)
  · exact .inr h
/-! fields -/
theorem ev_fld {p C dx : Addr} {fs : List (Str × V)} {f : Str} (h : Ev te σ H (.ref p)) (ho : H p = some (.ins C dx fs)) (hc : Cls K C) (hn : NoAttr K C f) (hl : fs.lookup f = some v) : Ev (tFld K te f) σ H v := fun H1 e Q q =>
  h H1 e _ fun H2 e2 => ⟨p, C, dx, fs, v, rfl, e2 p _ (e p _ ho), hc, hn, hl, q H2 e2⟩
theorem q_fldaug {p C dx : Addr} {fs : List (Str × V)} {f : Str} {rd : V → V → Hp → VK → Prop} {a b w : V} (ha : Ev ta σ H (.ref p)) (ho : H p = some (.ins C dx fs)) (hc : Cls K C) (hn : NoAttr K C f) (hl : fs.lookup f = some a) (hv : Ev tv σ H b) (hr : ∀ (H1 : Hp) (Q : VK), Q w H1 → rd a b H1 Q)
    (hz : fs.length < 1000) (k : ∀ H1, Ex H H1 → tz D σ (upd H1 p (.ins C dx (putF f w fs)))) : tSeq (sFldAug K ta tv rd f) tz D σ H := by
  refine ha H (Ex.refl H) _ fun H1 e1 => ?_
  refine ⟨p, C, dx, fs, a, rfl, e1 p _ ho, hc, hn, hl, ?_⟩
  refine hv H1 e1 _ fun H2 e2 => ?_
  exact hr H2 _ ⟨dx, fs, e2 p _ (e1 p _ ho), hz, k H2 (e1.trans e2)⟩
theorem add_rd {i j : Int} (H1 : Hp) (Q : VK) (q : Q (.int (i + j)) H1) : rAdd (.int i) (.int j) H1 Q := ⟨i, j, rfl, rfl, q⟩
theorem q_fld {p C dx : Addr} {fs : List (Str × V)} {f : Str} {w : V} (hv : Ev tv σ H w) (ha : Ev ta σ H (.ref p)) (ho : H p = some (.ins C dx fs)) (hc : Cls K C) (hn : NoAttr K C f) (hz : fs.length < 1000) (k : ∀ H1, Ex H H1 → tz D σ (upd H1 p (.ins C dx (putF f w fs)))) : tSeq (sFld K ta tv f) tz D σ H := by
  refine hv H (Ex.refl H) _ fun H1 e1 => ?_
  refine ha H1 e1 _ fun H2 e2 => ?_
  exact ⟨p, C, dx, fs, rfl, e2 p _ (e1 p _ ho), hc, hn, hz, k H2 (e1.trans e2)⟩
/-! dicts with text keys -/
theorem ev_din {d : Addr} {kvs : List (Key × V)} {n : Str} (hy : Ev ty σ H (.str n)) (hd : Ev td σ H (.ref d)) (h : H d = some (.dK kvs)) : Ev (tDIn ty td) σ H (.bl (valV kvs (Sum.inr n : Key)).isSome) := fun H1 e Q q =>
  hy H1 e _ fun H2 e2 => hd H2 (e.trans e2) _ fun H3 e3 => ⟨d, _, rfl, DGet.k (k := Sum.inr n) (((e.trans e2).trans e3) d _ h), q H3 (e2.trans e3)⟩
theorem ev_dnotin {d : Addr} {kvs : List (Key × V)} {n : Str} (hy : Ev ty σ H (.str n)) (hd : Ev td σ H (.ref d)) (h : H d = some (.dK kvs)) : Ev (tDNotIn ty td) σ H (.bl (!(valV kvs (Sum.inr n : Key)).isSome)) := fun H1 e Q q =>
  hy H1 e _ fun H2 e2 => hd H2 (e.trans e2) _ fun H3 e3 => ⟨d, _, rfl, DGet.k (k := Sum.inr n) (((e.trans e2).trans e3) d _ h), q H3 (e2.trans e3)⟩
theorem ev_dget {d : Addr} {kvs : List (Key × V)} {n : Str} (hd : Ev td σ H (.ref d)) (hy : Ev ty σ H (.str n)) (h : H d = some (.dK kvs)) (hv : valV kvs (Sum.inr n : Key) = some v) : Ev (tDGet td ty) σ H v := fun H1 e Q q =>
  hd H1 e _ fun H2 e2 => hy H2 (e.trans e2) _ fun H3 e3 => ⟨d, v, rfl, by rw [← hv]; exact DGet.k (k := Sum.inr n) (((e.trans e2).trans e3) d _ h), q H3 (e2.trans e3)⟩
theorem ev_dget1 {d : Addr} {kvs : List (Key × V)} {n : Str} (hd : Ev td σ H (.ref d)) (hy : Ev ty σ H (.str n)) (h : H d = some (.dK kvs)) : Ev (tDGet1 td ty) σ H ((valV kvs (Sum.inr n : Key)).getD .non) := fun H1 e Q q =>
  hd H1 e _ fun H2 e2 => ⟨d, rfl, .inl ⟨kvs, .inl (e2 d _ (e d _ h))⟩, hy H2 (e.trans e2) _ fun H3 e3 => ⟨_, DGet.k (k := Sum.inr n) (((e.trans e2).trans e3) d _ h), q H3 (e2.trans e3)⟩⟩
theorem ev_dget2 {d : Addr} {kvs : List (Key × V)} {n : Str} (hd : Ev td σ H (.ref d)) (hy : Ev ty σ H (.str n)) (hx : Ev tx σ H x) (h : H d = some (.dK kvs)) : Ev (tDGet2 td ty tx) σ H ((valV kvs (Sum.inr n : Key)).getD x) := fun H1 e Q q =>
  hd H1 e _ fun H2 e2 => ⟨d, rfl, .inl ⟨kvs, .inl (e2 d _ (e d _ h))⟩, hy H2 (e.trans e2) _ fun H3 e3 => hx H3 ((e.trans e2).trans e3) _ fun H4 e4 => ⟨_, DGet.k (k := Sum.inr n) ((((e.trans e2).trans e3).trans e4) d _ h), q H4 ((e2.trans e3).trans e4)⟩⟩
theorem ev_lenD {d : Addr} {kvs : List (Key × V)} (hd : Ev td σ H (.ref d)) (h : H d = some (.dK kvs)) : Ev (tCB (fun xs H Q => ∃ a kvs, xs = [V.ref a] ∧ H a = some (.dK kvs) ∧ Q (.int kvs.length) H) (tCons td tNil)) σ H (.int kvs.length) := fun H1 e Q q =>
  hd H1 e _ fun H2 e2 => ⟨d, kvs, rfl, e2 d _ (e d _ h), q H2 e2⟩
theorem el_listD {d : Addr} {kvs : List (Key × V)} (hd : Ev td σ H (.ref d)) (h : H d = some (.dK kvs)) : EvL (tCB rListD (tCons td tNil)) σ H (kvs.map fun kv => kV kv.1) := fun H1 e Q q =>
  hd H1 e _ fun H2 e2 => ⟨d, kvs, rfl, e2 d _ (e d _ h), fun p hp => q p _ (fresh_back e2 hp) (e2.trans (Ex.new hp)) upd_same⟩
theorem q_dput {d : Addr} {kvs : List (Key × V)} {n : Str} (hv : Ev tv σ H v) (hd : Ev td σ H (.ref d)) (hy : Ev ty σ H (.str n)) (h : H d = some (.dK kvs)) (hz : kvs.length < 100000) (k : ∀ H1, Ex H H1 → tz D σ (upd H1 d (.dK (putK kvs (Sum.inr n) v)))) : tSeq (sDPut td ty tv) tz D σ H := by
  refine hv H (Ex.refl H) _ fun H1 e1 => ?_
  refine hd H1 e1 _ fun H2 e2 => ?_
  refine hy H2 (e1.trans e2) _ fun H3 e3 => ?_
  exact ⟨d, _, rfl, DPut.k (k := Sum.inr n) (((e1.trans e2).trans e3) d _ h) (sz_lt hz), k H3 ((e1.trans e2).trans e3)⟩
theorem s_dput {d : Addr} {kvs : List (Key × V)} {n : Str} (hv : Ev tv σ H v) (hd : Ev td σ H (.ref d)) (hy : Ev ty σ H (.str n)) (h : H d = some (.dK kvs)) (hz : kvs.length < 100000) (k : ∀ H1, Ex H H1 → D.nx σ (upd H1 d (.dK (putK kvs (Sum.inr n) v)))) : sDPut td ty tv D σ H :=
  q_dput (D := D) (tz := fun _ σ H => D.nx σ H) hv hd hy h hz k
/-- d.pop(n) as a statement -/
theorem q_dpop {d : Addr} {kvs : List (Key × V)} {n : Str} (hd : Ev td σ H (.ref d)) (hy : Ev ty σ H (.str n)) (h : H d = some (.dK kvs)) (hv : valV kvs (Sum.inr n : Key) = some v) (k : ∀ H1, Ex H H1 → tz D σ (upd H1 d (.dK (dropK kvs (Sum.inr n))))) : tSeq (tDrop (tDPop1 td ty)) tz D σ H := by
  refine hd H (Ex.refl H) _ fun H1 e1 => ?_
  refine ⟨d, rfl, .inl ⟨kvs, .inl (e1 d _ h)⟩, ?_⟩
  refine hy H1 e1 _ fun H2 e2 => ?_
  exact ⟨kvs, Sum.inr n, v, (e1.trans e2) d _ h, rfl, hv, k H2 (e1.trans e2)⟩
theorem s_dpop {d : Addr} {kvs : List (Key × V)} {n : Str} (hd : Ev td σ H (.ref d)) (hy : Ev ty σ H (.str n)) (h : H d = some (.dK kvs)) (hv : valV kvs (Sum.inr n : Key) = some v) (k : ∀ H1, Ex H H1 → D.nx σ (upd H1 d (.dK (dropK kvs (Sum.inr n))))) : tDrop (tDPop1 td ty) D σ H :=
  q_dpop (D := D) (tz := fun _ σ H => D.nx σ H) hd hy h hv k
/-! calls that may change what stands: a promise's end at hand -/
/-- o.m(..): the arguments are evaluated, then the promise -/
theorem ev_methR {C p dx : Addr} {fs : List (Str × V)} {m : Str} {sp : Sp} {dvs vs : List V} {E : XK} {tr : TA} {Q : VK} (ho : Ev ta σ H (.ref p)) (hp : H p = some (.ins C dx fs)) (hm : fs.lookup m = none) (ha : EvA tr σ H vs) (k : ∀ H1, Ex H H1 → sp (.ref p :: (vs ++ dvs)) H1 Q E) : tMeth C m sp dvs E ta tr σ H Q := by
  refine ho H (Ex.refl H) _ fun H1 e1 => ?_
  refine ⟨p, dx, fs, rfl, e1 p _ hp, hm, ?_⟩
  exact ha H1 e1 _ fun H2 e2 => k H2 (e1.trans e2)
theorem ev_callR {sp : Sp} {vs dvs : List V} {E : XK} {tr : TA} {Q : VK} (ha : EvA tr σ H vs) (k : ∀ H1, Ex H H1 → sp (vs ++ dvs) H1 Q E) : tCall sp dvs E tr σ H Q := ha H (Ex.refl H) _ fun H1 e1 => k H1 e1
/-- a method whose promise is a value and an extension -/
theorem ev_meth {C p dx : Addr} {fs : List (Str × V)} {m : Str} {sp : Sp} {vs : List V} {E : XK} {tr : TA} (ho : Ev ta σ H (.ref p)) (hp : H p = some (.ins C dx fs)) (hm : fs.lookup m = none) (ha : EvA tr σ H vs) (hs : SpV sp (.ref p :: vs) H v) : Ev (tMeth C m sp [] E ta tr) σ H v := fun H1 e Q q =>
  ev_methR (ho.mono e) (e p _ hp) hm (ha.mono e) fun H2 e2 => by
    rw [List.append_nil]
    exact hs H2 (e.trans e2) Q (fun H3 e3 => q H3 (e2.trans e3)) E
theorem ev_methP {C p dx : Addr} {fs : List (Str × V)} {m : Str} {sp : Sp} {vs : List V} {E : XK} {tr : TA} {P : V → Hp → Prop} (ho : Ev ta σ H (.ref p)) (hp : H p = some (.ins C dx fs)) (hm : fs.lookup m = none) (ha : EvA tr σ H vs) (hs : SpP sp (.ref p :: vs) H P) : EvP (tMeth C m sp [] E ta tr) σ H P := fun H1 e Q q =>
  ev_methR (ho.mono e) (e p _ hp) hm (ha.mono e) fun H2 e2 => by
    rw [List.append_nil]
    exact hs H2 (e.trans e2) Q (fun v H3 e3 p => q v H3 (e2.trans e3) p) E
/-! walks -/
def EvI (wi : TI) (σ : L2.St) (H : Hp) (n : Nat) (Y : Nat → Hp → V → Hp → Prop) : Prop := ∀ H1, Ex H H1 → ∀ R, (∀ J H2, Ex H1 H2 → Walk J n (fun H' => Ex H2 H') Y → R J H2) → wi σ H1 R
theorem ei_list {a : Addr} {xs : List V} (h : Ev ta σ H (.ref a)) (hx : SqL K H a xs) : EvI (iList K ta) σ H xs.length (YAt xs) := fun H1 e R q =>
  h H1 e _ fun H2 e2 => ⟨a, rfl, ⟨xs, ex_l (e.trans e2) hx⟩, q _ H2 e2 (walk_list.mono (fun H3 e3 => ex_l e3 (ex_l (e.trans e2) hx)) fun _ _ _ _ _ _ y => y)⟩
theorem ei_listN {xs : List V} (h : EvL ta σ H xs) : EvI (iList K ta) σ H xs.length (YAt xs) := fun H1 e R q =>
  h H1 e _ fun p H2 _ e2 h2 => ⟨p, rfl, ⟨xs, sq_of h2⟩, q _ H2 e2 (walk_list.mono (fun H3 e3 => sq_of (e3 p _ h2)) fun _ _ _ _ _ _ y => y)⟩
theorem ei_range {tr : TA} {n : Int} (h : EvA tr σ H [.int n]) (hn : 0 ≤ n ∧ n ≤ 100000) : EvI (iRng1 tr) σ H n.toNat (YFn fun i => .int (i : Nat)) := fun H1 e R q =>
  h H1 e _ fun H2 e2 => ⟨n, rfl, by omega, by omega, q _ H2 e2 (walk_range.mono (fun _ _ => trivial) fun i H x H' _ _ y => ⟨y.1, y.2.trans (by show V.int (0 + (i : Int)) = V.int i; rw [Int.zero_add])⟩)⟩
theorem ei_str {z : Str} (h : Ev te σ H (.str z)) : EvI (iStr te) σ H z.cps.size (fun i H v H' => H' = H ∧ ∃ c, z.cps[i]? = some c ∧ v = .str ⟨#[c]⟩) := fun H1 e R q =>
  h H1 e _ fun H2 e2 => ⟨z, rfl, q _ H2 e2 (walk_str.mono (fun _ _ => trivial) fun _ _ _ _ _ _ y => y)⟩
theorem ei_enum {tr : TA} {a : Addr} {xs : List V} (h : EvA tr σ H [.ref a]) (hx : SqL K H a xs) : EvI (iEnum K tr) σ H xs.length (YPair (fun i => some (.int (i : Nat))) (fun i => xs[i]?)) := fun H1 e R q =>
  h H1 e _ fun H2 e2 => ⟨a, xs, rfl, ex_l (e.trans e2) hx, q _ H2 e2 (walk_enum.mono (fun H3 e3 => ex_l e3 (ex_l (e.trans e2) hx)) fun _ _ _ _ _ _ y => y)⟩
theorem ei_enumN {xs : List V} (h : EvL ta σ H xs) : EvI (iEnum K (tCons ta tNil)) σ H xs.length (YPair (fun i => some (.int (i : Nat))) (fun i => xs[i]?)) := fun H1 e R q =>
  h H1 e _ fun p H2 _ e2 h2 => ⟨p, xs, rfl, sq_of h2, q _ H2 e2 (walk_enum.mono (fun H3 e3 => sq_of (e3 p _ h2)) fun _ _ _ _ _ _ y => y)⟩
/-- a target that stores what it is given and leaves the heap -/
def GoT (g : TG) (x : V) (σ : L2.St) (H : Hp) (σ2 : L2.St) : Prop := ∀ Q : L2.St → Hp → Prop, Q σ2 H → g x σ H Q
theorem got_name {j : Nat} : GoT (gName j) x σ H (σ.set j (some x)) := fun _ q => q
theorem got_pair {i j : Nat} {T : Addr} (h : SqT K H T [x, y]) : GoT (gTup K 2 (gCons (gName i) (gCons (gName j) gNil))) (.ref T) σ H ((σ.set i (some x)).set j (some y)) := fun _ q => ⟨T, _, rfl, h, rfl, x, _, rfl, y, _, rfl, rfl, q⟩
theorem got_trip {i j l : Nat} {T : Addr} (h : SqT K H T [x, y, z]) : GoT (gTup K 3 (gCons (gName i) (gCons (gName j) (gCons (gName l) gNil)))) (.ref T) σ H (((σ.set i (some x)).set j (some y)).set l (some z)) := fun _ q => ⟨T, _, rfl, h, rfl, x, _, rfl, y, _, rfl, z, _, rfl, rfl, q⟩
/-- a new list whose items P tells -/
def EvLP (te : TE) (σ : L2.St) (H : Hp) (P : List V → Hp → Prop) : Prop := ∀ H1, Ex H H1 → ∀ Q : VK, (∀ p ys H2, H1 p = none → Ex H1 H2 → H2 p = some (.lst ys) → P ys H2 → Q (.ref p) H2) → te σ H1 Q
theorem EvLP.of {xs : List V} (h : EvL te σ H xs) : EvLP te σ H (fun ys _ => ys = xs) := fun H1 e Q q => h H1 e Q fun p H2 hp e2 h2 => q p xs H2 hp e2 h2 rfl
theorem EvLP.val {P : List V → Hp → Prop} (h : EvLP te σ H P) : EvP te σ H (fun v H' => ∃ p ys, v = .ref p ∧ H' p = some (.lst ys) ∧ P ys H') := fun H1 e Q q => h H1 e Q fun p ys H2 _ e2 h2 hp => q _ H2 e2 ⟨p, ys, rfl, h2, hp⟩
theorem q_asgLP {i : Nat} {P : List V → Hp → Prop} (h : EvLP te σ H P) (k : ∀ p ys H1, H p = none → Ex H H1 → H1 p = some (.lst ys) → P ys H1 → tz D (σ.set i (some (.ref p))) H1) : tSeq (tAsg te (gName i)) tz D σ H := h H (Ex.refl H) _ fun p ys H1 hp e h1 hP => k p ys H1 hp e h1 hP
theorem s_retLP {P : List V → Hp → Prop} (h : EvLP te σ H P) (k : ∀ p ys H1, H p = none → Ex H H1 → H1 p = some (.lst ys) → P ys H1 → D.rt (.ref p) H1) : tRet te D σ H := h H (Ex.refl H) _ fun p ys H1 hp e h1 hP => k p ys H1 hp e h1 hP
theorem paired_snoc {α β : Type} {F : α → β → Prop} {a : α} {b : β} (r : F a b) : ∀ {l : List α} {m : List β}, Paired F l m → Paired F (l ++ [a]) (m ++ [b])
  | _, _, .nil => .cons r .nil
  | _, _, .cons r' t => .cons r' (paired_snoc r t)
/-- a comprehension: which turns give (f), and what of each (P) -/
theorem elp_lc {wi : TI} {n : Nat} {Y : Nat → Hp → V → Hp → Prop} {g : TG} {vs : List Nat} (f : Nat → Bool) (P : Nat → V → Hp → Prop) (hI : EvI wi σ H n Y) (hz : n ≤ 40000)
    (up : ∀ i v H1 H2, P i v H1 → Nl H1 H2 → P i v H2)
    (ht : ∀ i H1 x H2, i < n → Ex H H1 → Y i H1 x H2 → Ex H1 H2 ∧ ∃ σ2, GoT g x (wipe σ vs) H2 σ2 ∧ wipe σ2 vs = wipe σ vs ∧ EvT t σ2 H2 (f i) ∧ (f i = true → EvP te σ2 H2 (P i))) :
    EvLP (tLc wi g t te vs) σ H (fun ys H' => Paired (fun i y => P i y H') ((List.range n).filter f) ys) := fun H0 e Q q => hI H0 e _ fun J H1 e1 w => fun Dl hD => by
  have hD0 : H0 Dl = none := fresh_back e1 hD
  refine lc_it w (fun i H' => Ex H1 H' ∧ ∃ ys, H' Dl = some (.lst ys) ∧ ys.length ≤ i ∧ Paired (fun j y => P j y H') ((List.range i).filter f) ys) ⟨Ex.new hD, [], upd_same, Nat.le_refl _, .nil⟩ (fun i H' _ p => p.1) ?_ fun H' p => ?_
  · rintro i x H2 H3 hi ⟨ex, ys, hl, hlen, hp⟩ hy
    obtain ⟨e3, σ2, hg, hw, hf, he⟩ := ht i H2 x H3 hi (e.trans (e1.trans ex)) hy
    refine hg _ ⟨hw, ?_⟩
    refine hf H3 (Ex.refl _) _ fun H4 e4 => ?_
    have r1 : (List.range (i + 1)).filter f = (List.range i).filter f ++ (if f i = true then [i] else []) := by
      rw [List.range_succ, List.filter_append, List.filter_cons]
      rfl
    cases hb : f i with
    | true =>
      show te σ2 H4 fun y H4 => ∃ acc, H4 Dl = some (.lst acc) ∧ acc.length < sizeLine ∧ _
      refine he hb H4 e4 _ fun y H5 e5 py => ?_
      have hl5 := e5 Dl _ (e4 Dl _ (e3 Dl _ hl))
      have nl : Nl H5 (upd H5 Dl (.lst (ys ++ [y]))) := Nl.upd hl5
      refine ⟨ys, hl5, sz_lt (by omega), Ex.mut (((ex.trans e3).trans e4).trans e5) hD, ys ++ [y], upd_same, by rw [List.length_append, List.length_singleton]; omega, ?_⟩
      rw [r1, if_pos hb]
      have hp' : Paired (fun j z => P j z (upd H5 Dl (.lst (ys ++ [y])))) ((List.range i).filter f) ys := L2.Paired.mapP hp fun j v h => up j v _ _ h ((Nl.of ((e3.trans e4).trans e5)).trans nl)
      exact paired_snoc (F := fun j z => P j z (upd H5 Dl (.lst (ys ++ [y])))) (up _ _ _ _ py nl) hp'
    | false =>
      show Ex H1 H4 ∧ _
      refine ⟨(ex.trans e3).trans e4, ys, e4 Dl _ (e3 Dl _ hl), by omega, ?_⟩
      rw [r1, if_neg (by rw [hb]; decide), List.append_nil]
      exact L2.Paired.mapP hp fun j v h => up j v _ _ h (Nl.of (e3.trans e4))
  · obtain ⟨ex, ys, hl, _, hp⟩ := p
    exact q Dl ys H' hD0 (e1.trans ex) hl hp
/-- .. all turns give, flat values -/
theorem el_lc {wi : TI} {n : Nat} {Y : Nat → Hp → V → Hp → Prop} {g : TG} {vs : List Nat} (v : Nat → V) (hI : EvI wi σ H n Y) (hz : n ≤ 40000)
    (ht : ∀ i H1 x H2, i < n → Ex H H1 → Y i H1 x H2 → Ex H1 H2 ∧ ∃ σ2, GoT g x (wipe σ vs) H2 σ2 ∧ wipe σ2 vs = wipe σ vs ∧ Ev te σ2 H2 (v i)) :
    EvL (tLc wi g tYes te vs) σ H ((List.range n).map v) := fun H1 e Q q =>
  elp_lc (t := tYes) (fun _ => true) (fun i y _ => y = v i) hI hz (fun _ _ _ _ h _ => h) (fun i H1 x H2 hi e hy => by
    obtain ⟨e2, σ2, hg, hw, hv⟩ := ht i H1 x H2 hi e hy
    exact ⟨e2, σ2, hg, hw, fun H3 _ Q q => q H3 (Ex.refl _), fun _ H3 e3 Q q => hv H3 e3 Q fun H4 e4 => q _ H4 e4 rfl⟩) H1 e Q fun p ys H2 hp e2 h2 hP => by
    have : ys = (List.range n).map v := by
      have hf : (List.range n).filter (fun _ => true) = List.range n := List.filter_eq_self.mpr fun _ _ => rfl
      rw [hf] at hP
      clear h2
      generalize List.range n = l at hP ⊢
      induction hP with
      | nil => rfl
      | cons r _ ih => rw [List.map_cons, ← ih, r]
    rw [this] at h2
    exact q p H2 hp e2 h2
/-- any, all of a new list of bools -/
theorem ev_any {bs : List Bool} (h : EvL te σ H (bs.map V.bl)) : Ev (tCB (rAny K) (tCons te tNil)) σ H (.bl (bs.any id)) := fun H1 e Q q =>
  h H1 e _ fun p H2 _ e2 h2 => ⟨p, bs, rfl, sq_of h2, q H2 e2⟩
theorem ev_all {bs : List Bool} (h : EvL te σ H (bs.map V.bl)) : Ev (tCB (rAll K) (tCons te tNil)) σ H (.bl (bs.all id)) := fun H1 e Q q =>
  h H1 e _ fun p H2 _ e2 h2 => ⟨p, bs, rfl, sq_of h2, q H2 e2⟩
/-- a comprehension of bools -/
theorem el_lcB {wi : TI} {n : Nat} {Y : Nat → Hp → V → Hp → Prop} {g : TG} {vs : List Nat} (v : Nat → Bool) (hI : EvI wi σ H n Y) (hz : n ≤ 40000)
    (ht : ∀ i H1 x H2, i < n → Ex H H1 → Y i H1 x H2 → Ex H1 H2 ∧ ∃ σ2, GoT g x (wipe σ vs) H2 σ2 ∧ wipe σ2 vs = wipe σ vs ∧ Ev te σ2 H2 (.bl (v i))) :
    EvL (tLc wi g tYes te vs) σ H (((List.range n).map v).map V.bl) := by
  rw [List.map_map]
  exact el_lc (fun i => V.bl (v i)) hI hz ht
end

end Own
namespace Own
open PySem L2 PyProof.Rows Evl OwnS
/-! ### more for Evl: sorted, min by a method; methods as statements -/
section
variable {X : Cx} {σ : L2.St} {H H' : Hp} {ta tb te tx : TE} {D : Ends} {tz : TS}
theorem EvLP.toL {P : List V → Hp → Prop} {xs : List V} (h : EvLP te σ H P) (he : ∀ ys H', P ys H' → ys = xs) : EvL te σ H xs := fun H1 e Q q => h H1 e Q fun p ys H2 hp e2 h2 hP => by
  have := he ys H2 hP
  subst this
  exact q p H2 hp e2 h2
theorem elp_sortF {κ : Type} {kd : KeyKd X κ} {g p l C dx : Addr} {fs : List (Str × V)} {m : Str} {sp : Sp} {xs : List V} {kf : V → κ} (hx : Ev tx σ H (.ref l)) (hs : SrcV X.K H l xs) (ho : Ev ta σ H (.ref p)) (hp : H p = some (.ins C dx fs)) (hm : fs.lookup m = none)
    (hsp : ∀ x ∈ xs, SpP sp [.ref p, x] H (fun v H2 => kd.KV (kf x) v H2)) :
    EvLP (tCKw (rSortF X.K kd g sp) (tCons tx tNil) (tCons (tBound X.K C g m ta) tNil)) σ H (fun ys _ => ys.Perm xs ∧ ys.Pairwise (fun x y => kd.lt (kf y) (kf x) = false)) := fun H1 e Q q =>
  hx H1 e _ fun H2 e2 => ho H2 (e.trans e2) _ fun H3 e3 => ⟨p, dx, fs, rfl, ((e.trans e2).trans e3) p _ hp, hm, fun b hb => by
    have E3 := (e.trans e2).trans e3
    have E4 : Ex H3 (upd H3 b (.met g p)) := Ex.new hb
    refine ⟨l, b, p, xs, kf, rfl, rfl, upd_same, ?_, fun x hx' H4 e4 Q' q' => hsp x hx' H4 (E3.trans (E4.trans e4)) Q' q' E0, fun ys r H4 hp1 hp2 e4 hr hl => q r ys H4 (fresh_back ((e2.trans e3).trans E4) hr) (((e2.trans e3).trans E4).trans e4) hl ⟨hp1, hp2⟩⟩
    rcases hs with hs | ⟨kvs, hs, hk⟩
    · exact .inl (ex_l (E3.trans E4) hs)
    · exact .inr ⟨kvs, E4 _ _ (E3 _ _ hs), hk⟩⟩
theorem elp_sortFN {κ : Type} {kd : KeyKd X κ} {g p C dx : Addr} {fs : List (Str × V)} {m : Str} {sp : Sp} {xs : List V} {kf : V → κ} (hx : EvL tx σ H xs) (ho : Ev ta σ H (.ref p)) (hp : H p = some (.ins C dx fs)) (hm : fs.lookup m = none)
    (hsp : ∀ x ∈ xs, SpP sp [.ref p, x] H (fun v H2 => kd.KV (kf x) v H2)) :
    EvLP (tCKw (rSortF X.K kd g sp) (tCons tx tNil) (tCons (tBound X.K C g m ta) tNil)) σ H (fun ys _ => ys.Perm xs ∧ ys.Pairwise (fun x y => kd.lt (kf y) (kf x) = false)) := fun H1 e Q q =>
  hx H1 e _ fun l H2 hl0 e2 hl => ho H2 (e.trans e2) _ fun H3 e3 => ⟨p, dx, fs, rfl, ((e.trans e2).trans e3) p _ hp, hm, fun b hb => by
    have E3 := (e.trans e2).trans e3
    have E4 : Ex H3 (upd H3 b (.met g p)) := Ex.new hb
    exact ⟨l, b, p, xs, kf, rfl, rfl, upd_same, .inl (sq_of (E4 _ _ (e3 _ _ hl))), fun x hx' H4 e4 Q' q' => hsp x hx' H4 (E3.trans (E4.trans e4)) Q' q' E0, fun ys r H4 hp1 hp2 e4 hr hl => q r ys H4 (fresh_back ((e2.trans e3).trans E4) hr) (((e2.trans e3).trans E4).trans e4) hl ⟨hp1, hp2⟩⟩⟩
theorem evp_minF {g p C dx : Addr} {fs : List (Str × V)} {m : Str} {sp : Sp} {xs : List V} {kf : V → Int × Int} (hx : EvL tx σ H xs) (hne : xs ≠ []) (ho : Ev ta σ H (.ref p)) (hp : H p = some (.ins C dx fs)) (hm : fs.lookup m = none)
    (hsp : ∀ x ∈ xs, SpP sp [.ref p, x] H (fun v H2 => (kdPair X).KV (kf x) v H2)) :
    EvP (tCKw (rMinF (X := X) X.K g sp) (tCons tx tNil) (tCons (tBound X.K C g m ta) tNil)) σ H (fun v _ => v ∈ xs ∧ ∀ y ∈ xs, SrtO.lexB (kf y) (kf v) = false) := fun H1 e Q q =>
  hx H1 e _ fun l H2 hl0 e2 hl => ho H2 (e.trans e2) _ fun H3 e3 => ⟨p, dx, fs, rfl, ((e.trans e2).trans e3) p _ hp, hm, fun b hb => by
    have E3 := (e.trans e2).trans e3
    have E4 : Ex H3 (upd H3 b (.met g p)) := Ex.new hb
    exact ⟨l, b, p, xs, kf, rfl, rfl, upd_same, E4 _ _ (e3 _ _ hl), hne, fun x hx' H4 e4 Q' q' => hsp x hx' H4 (E3.trans (E4.trans e4)) Q' q' E0, fun x H4 h1 h2 e4 => q x H4 (((e2.trans e3).trans E4).trans e4) ⟨h1, h2⟩⟩⟩
/-- a method called as a statement, its value kept, returned -/
theorem q_dropM {C p dx : Addr} {fs : List (Str × V)} {m : Str} {sp : Sp} {vs : List V} {E : XK} {tr : TA} (ho : Ev ta σ H (.ref p)) (hp : H p = some (.ins C dx fs)) (hm : fs.lookup m = none) (ha : EvA tr σ H vs) (k : ∀ H1, Ex H H1 → sp (.ref p :: vs) H1 (fun _ H2 => tz D σ H2) E) :
    tSeq (tDrop (tMeth C m sp [] E ta tr)) tz D σ H := ev_methR (Q := fun _ H2 => tz D σ H2) ho hp hm ha fun H1 e => by rw [List.append_nil]; exact k H1 e
theorem q_asgM {i : Nat} {C p dx : Addr} {fs : List (Str × V)} {m : Str} {sp : Sp} {vs : List V} {E : XK} {tr : TA} (ho : Ev ta σ H (.ref p)) (hp : H p = some (.ins C dx fs)) (hm : fs.lookup m = none) (ha : EvA tr σ H vs) (k : ∀ H1, Ex H H1 → sp (.ref p :: vs) H1 (fun v H2 => tz D (σ.set i (some v)) H2) E) :
    tSeq (tAsg (tMeth C m sp [] E ta tr) (gName i)) tz D σ H := ev_methR (Q := fun v H2 => tz D (σ.set i (some v)) H2) ho hp hm ha fun H1 e => by rw [List.append_nil]; exact k H1 e
theorem s_retM {C p dx : Addr} {fs : List (Str × V)} {m : Str} {sp : Sp} {vs : List V} {E : XK} {tr : TA} (ho : Ev ta σ H (.ref p)) (hp : H p = some (.ins C dx fs)) (hm : fs.lookup m = none) (ha : EvA tr σ H vs) (k : ∀ H1, Ex H H1 → sp (.ref p :: vs) H1 D.rt E) :
    tRet (tMeth C m sp [] E ta tr) D σ H := ev_methR (Q := D.rt) ho hp hm ha fun H1 e => by rw [List.append_nil]; exact k H1 e
theorem s_dropM {C p dx : Addr} {fs : List (Str × V)} {m : Str} {sp : Sp} {vs : List V} {E : XK} {tr : TA} (ho : Ev ta σ H (.ref p)) (hp : H p = some (.ins C dx fs)) (hm : fs.lookup m = none) (ha : EvA tr σ H vs) (k : ∀ H1, Ex H H1 → sp (.ref p :: vs) H1 (fun _ H2 => D.nx σ H2) E) :
    tDrop (tMeth C m sp [] E ta tr) D σ H := q_dropM (D := D) (tz := fun _ σ H => D.nx σ H) ho hp hm ha k
/-- Base.__init__(self, ..) as a statement -/
theorem q_dropCls {C : Addr} {sp : Sp} {vs : List V} {E : XK} {tr : TA} (ha : EvA tr σ H vs) (k : ∀ H1, Ex H H1 → sp vs H1 (fun _ H2 => tz D σ H2) E) : tSeq (tDrop (tClsCall C sp [] E (tC (.ref C)) tr)) tz D σ H :=
  ⟨rfl, ha H (Ex.refl H) _ fun H2 e2 => by
    rw [List.append_nil]
    exact k H2 e2⟩
/-- a method that hands back a new list -/
theorem el_meth {C p dx : Addr} {fs : List (Str × V)} {m : Str} {sp : Sp} {vs xs : List V} {E : XK} {tr : TA} (ho : Ev ta σ H (.ref p)) (hp : H p = some (.ins C dx fs)) (hm : fs.lookup m = none) (ha : EvA tr σ H vs) (hs : SpL sp (.ref p :: vs) H xs) : EvL (tMeth C m sp [] E ta tr) σ H xs := fun H1 e Q q =>
  ev_methR (ho.mono e) (e p _ hp) hm (ha.mono e) fun H2 e2 => by
    rw [List.append_nil]
    exact hs H2 (e.trans e2) Q (fun l H3 hl e3 h3 => q l H3 (fresh_back e2 hl) (e2.trans e3) h3) E
theorem s_forNLn {K : PySem.W.Frag} {tu : TS} {xs : List V} {tl : TE} {j : Nat} (h : EvL tl σ H xs) (Pv : Addr → Nat → L2.St → Hp → Prop) (h0 : ∀ p H1, H p = none → Ex H H1 → H1 p = some (.lst xs) → Pv p 0 σ H1) (hl : ∀ p i σ' H', i ≤ xs.length → Pv p i σ' H' → SqL K H' p xs)
    (hs : ∀ p i x σ' H', xs[i]? = some x → Pv p i σ' H' → tu { D with nx := Pv p (i + 1), ct := Pv p (i + 1), bk := D.nx } (σ'.set j (some x)) H') (hd : ∀ p σ' H', Pv p xs.length σ' H' → D.nx σ' H') : tFor (iList K tl) (gName j) tu D σ H :=
  s_forNL h Pv h0 hl hs hd
theorem s_drop0 {v : V} (h : Ev te σ H v) (k : ∀ H1, Ex H H1 → tz D σ H1) : tSeq (tDrop te) tz D σ H := q_drop h k
end
section
variable {K : PySem.W.Frag} {σ : L2.St} {H H' : Hp} {ta tb te tx tv : TE} {D : Ends} {tz : TS}
/-- o.f = {} -/
theorem q_fldNew {p C dx : Addr} {fs : List (Str × V)} {f : Str} (ha : Ev ta σ H (.ref p)) (ho : H p = some (.ins C dx fs)) (hc : Cls K C) (hn : NoAttr K C f) (hz : fs.length < 1000) (k : ∀ d H1, H d = none → Ex H H1 → H1 d = some (.dK []) → tz D σ (upd H1 p (.ins C dx (putF f (.ref d) fs)))) : tSeq (sFld K ta tDNewK f) tz D σ H :=
  fun d hd => ha (upd H d _) (Ex.new hd) _ fun H2 e2 => ⟨p, C, dx, fs, rfl, e2 p _ (Ex.new hd p _ ho), hc, hn, hz, k d H2 hd ((Ex.new hd).trans e2) (e2 d _ upd_same)⟩
theorem s_fldNew {p C dx : Addr} {fs : List (Str × V)} {f : Str} (ha : Ev ta σ H (.ref p)) (ho : H p = some (.ins C dx fs)) (hc : Cls K C) (hn : NoAttr K C f) (hz : fs.length < 1000) (k : ∀ d H1, H d = none → Ex H H1 → H1 d = some (.dK []) → D.nx σ (upd H1 p (.ins C dx (putF f (.ref d) fs)))) : sFld K ta tDNewK f D σ H :=
  q_fldNew (D := D) (tz := fun _ σ H => D.nx σ H) ha ho hc hn hz k
/-- o.f = a new list -/
theorem q_fldL {p C dx : Addr} {fs : List (Str × V)} {f : Str} {xs : List V} (hv : EvL tv σ H xs) (ha : Ev ta σ H (.ref p)) (ho : H p = some (.ins C dx fs)) (hc : Cls K C) (hn : NoAttr K C f) (hz : fs.length < 1000) (k : ∀ d H1, H d = none → Ex H H1 → H1 d = some (.lst xs) → tz D σ (upd H1 p (.ins C dx (putF f (.ref d) fs)))) : tSeq (sFld K ta tv f) tz D σ H :=
  hv H (Ex.refl H) _ fun d H1 hd e1 h1 => ha H1 e1 _ fun H2 e2 => ⟨p, C, dx, fs, rfl, e2 p _ (e1 p _ ho), hc, hn, hz, k d H2 hd (e1.trans e2) (e2 d _ h1)⟩
theorem s_fldL {p C dx : Addr} {fs : List (Str × V)} {f : Str} {xs : List V} (hv : EvL tv σ H xs) (ha : Ev ta σ H (.ref p)) (ho : H p = some (.ins C dx fs)) (hc : Cls K C) (hn : NoAttr K C f) (hz : fs.length < 1000) (k : ∀ d H1, H d = none → Ex H H1 → H1 d = some (.lst xs) → D.nx σ (upd H1 p (.ins C dx (putF f (.ref d) fs)))) : sFld K ta tv f D σ H :=
  q_fldL (D := D) (tz := fun _ σ H => D.nx σ H) hv ha ho hc hn hz k
end
/-- the rule for a def with defaults from which no exception leaves -/
theorem okN {P : Program} {w : World} {K : PySem.W.Frag} {mg : Str → Option Value} {base : Heap} {x qual : Str} {params : Arguments} {body : List Stmt} {scope : Scope} {dvs : List V} {kws : List (Str × V)} {f : Addr} {fd : FuncData}
    {N ps : List Str} {k : Nat} {sp : Sp} (F : FunD K x qual params body scope dvs kws f fd) (S : FnScope N ps scope) (len : ∀ vs H Q E, sp vs H Q E → vs.length = ps.length)
    (hbody : ∀ (cdv : Value) (A : Around) (outer : List Env) (s : Shared) (H : Hp) (vs : List V) (Q : VK) (E : XK), Room k (A.deeper (envOfC qual scope s.heap.objs.size f cdv)) → sp vs H Q E →
      ∃ t, PSs (cxOf CX0 P w K mg base N qual scope f cdv A outer s H E).nox body t ∧ t { nx := fun _ H' => Q .non H', rt := Q } (L2.start N vs) H) : FnOk P w K mg base CX0 (k + 1) f fd ps sp :=
  F.ok S len fun cdv A outer s H vs Q E hr hsp => by
    obtain ⟨t, h, q⟩ := hbody cdv A outer s H vs Q E hr hsp
    exact ⟨t, h.nox, q⟩
end Own

/-! ### what stands in the heap for a book, a shelf, a row -/
namespace Own
open PySem L2 PyProof.Rows Evl OwnS
structure Ad where
  p : Addr
  dx : Addr
  c : Addr
  l : Addr
  x1 : Addr
  x2 : Addr
def flds (k : Kd) (ad : Ad) (s : Th) : List (Str × V) :=
  ("span", .int s.span) :: ("part", .int s.part) :: ("time", .int s.time) :: ("deed", .int (s.deed : Int)) :: ("counts", .ref ad.c) :: ("lasts", .ref ad.l) ::
  (match k with
    | .book => []
    | .shelf => [("places", .int s.places), ("standing", .ref ad.x1), ("went", .ref ad.x2)]
    | .row => [("laid", .ref ad.x1), ("depths", .ref ad.x2)])
def own (k : Kd) (ad : Ad) : List Addr := match k with
  | .book => [ad.p, ad.c, ad.l]
  | _ => [ad.p, ad.c, ad.l, ad.x1, ad.x2]
def stV (st : List Str) : List (Key × V) := st.map fun n => (Sum.inr n, V.bl true)
def oV : Option Str → V
  | some n => .str n
  | none => .non
def oI : Option Int → V
  | some i => .int i
  | none => .non
def gV (g : Going) : List V := [.int g.deed, .str g.name, .str g.reason, .int g.count, .int g.last]
def X1 (k : Kd) (ad : Ad) (H : Hp) (s : Th) : Prop := match k with
  | .book => True
  | .shelf => H ad.x1 = some (.dK (stV s.st)) ∧ ad.x1 ≠ ad.c ∧ ad.x1 ≠ ad.l
  | .row => H ad.x1 = some (.lst (s.laid.map oV))
def X2 (k : Kd) (ad : Ad) (H : Hp) (s : Th) : Prop := match k with
  | .book => True
  | .shelf => ∃ ts : List Addr, H ad.x2 = some (.lst (ts.map V.ref)) ∧ Paired (fun t g => H t = some (.tup (gV g))) ts s.went
  | .row => H ad.x2 = some (.lst (s.depths.map oI)) ∧ ad.x1 ≠ ad.x2
structure At (k : Kd) (C : Addr) (ad : Ad) (H : Hp) (s : Th) : Prop where
  ob : H ad.p = some (.ins C ad.dx (flds k ad s))
  ct : H ad.c = some (.dK (dOf cV s.es))
  ls : H ad.l = some (.dK (dOf lV s.es))
  cl : ad.c ≠ ad.l
  x1 : X1 k ad H s
  x2 : X2 k ad H s
/-- all that is not the thing's own is as it was -/
def Kp (k : Kd) (ad : Ad) (H H' : Hp) : Prop := ∀ b o, H b = some o → b ∉ own k ad → H' b = some o
theorem Kp.refl {k : Kd} {ad : Ad} {H : Hp} : Kp k ad H H := fun _ _ h _ => h
theorem Kp.trans {k : Kd} {ad : Ad} {H H1 H2 : Hp} (a : Kp k ad H H1) (b : Kp k ad H1 H2) : Kp k ad H H2 := fun c o h n => b c o (a c o h n) n
theorem Kp.ex {k : Kd} {ad : Ad} {H H1 : Hp} (e : Ex H H1) : Kp k ad H H1 := fun c o h _ => e c o h
theorem Kp.upd {k : Kd} {ad : Ad} {H : Hp} {b : Addr} {o : HO} (hb : b ∈ own k ad) : Kp k ad H (upd H b o) := fun c u h n => by
  rw [upd_ne (fun q => n (by rw [q]; exact hb))]
  exact h
section
variable {k : Kd} {C : Addr} {ad : Ad} {H H' : Hp} {s : Th}
theorem own_p : ad.p ∈ own k ad := by cases k <;> simp [own]
theorem own_c : ad.c ∈ own k ad := by cases k <;> simp [own]
theorem own_l : ad.l ∈ own k ad := by cases k <;> simp [own]
theorem own_x1 (h : k ≠ .book) : ad.x1 ∈ own k ad := by cases k <;> simp [own] at h ⊢
theorem own_x2 (h : k ≠ .book) : ad.x2 ∈ own k ad := by cases k <;> simp [own] at h ⊢
/-- carried over by what keeps the own things and the tuples -/
theorem At.keep (A : At k C ad H s) (h : ∀ b o, H b = some o → (b ∈ own k ad ∨ ∃ xs, o = .tup xs) → H' b = some o) : At k C ad H' s where
  ob := h _ _ A.ob (.inl own_p)
  ct := h _ _ A.ct (.inl own_c)
  ls := h _ _ A.ls (.inl own_l)
  cl := A.cl
  x1 := by
    have := A.x1
    cases k with
    | book => trivial
    | shelf => exact ⟨h _ _ this.1 (.inl (own_x1 (by decide))), this.2⟩
    | row => exact h _ _ this (.inl (own_x1 (by decide)))
  x2 := by
    have := A.x2
    cases k with
    | book => trivial
    | shelf =>
      obtain ⟨ts, h1, h2⟩ := this
      exact ⟨ts, h _ _ h1 (.inl (own_x2 (by decide))), L2.Paired.mapP h2 fun t g e => h _ _ e (.inr ⟨_, rfl⟩)⟩
    | row => exact ⟨h _ _ this.1 (.inl (own_x2 (by decide))), this.2⟩
theorem At.ex (A : At k C ad H s) (e : Ex H H') : At k C ad H' s := A.keep fun b o h _ => e b o h
/-- none of the own things is a tuple -/
theorem At.noTup (A : At k C ad H s) {b : Addr} (hb : b ∈ own k ad) : ∃ o, H b = some o ∧ ∀ xs, o ≠ .tup xs := by
  have h1 := A.x1
  have h2 := A.x2
  cases k with
  | book =>
    simp only [own, List.mem_cons, List.not_mem_nil, or_false] at hb
    rcases hb with rfl | rfl | rfl
    · exact ⟨_, A.ob, fun _ q => by cases q⟩
    · exact ⟨_, A.ct, fun _ q => by cases q⟩
    · exact ⟨_, A.ls, fun _ q => by cases q⟩
  | shelf =>
    obtain ⟨ts, h3, _⟩ := h2
    simp only [own, List.mem_cons, List.not_mem_nil, or_false] at hb
    rcases hb with rfl | rfl | rfl | rfl | rfl
    · exact ⟨_, A.ob, fun _ q => by cases q⟩
    · exact ⟨_, A.ct, fun _ q => by cases q⟩
    · exact ⟨_, A.ls, fun _ q => by cases q⟩
    · exact ⟨_, h1.1, fun _ q => by cases q⟩
    · exact ⟨_, h3, fun _ q => by cases q⟩
  | row =>
    simp only [own, List.mem_cons, List.not_mem_nil, or_false] at hb
    rcases hb with rfl | rfl | rfl | rfl | rfl
    · exact ⟨_, A.ob, fun _ q => by cases q⟩
    · exact ⟨_, A.ct, fun _ q => by cases q⟩
    · exact ⟨_, A.ls, fun _ q => by cases q⟩
    · exact ⟨_, h1, fun _ q => by cases q⟩
    · exact ⟨_, h2.1, fun _ q => by cases q⟩
/-- another thing is as it was -/
theorem At.other {k2 : Kd} {C2 : Addr} {ad2 : Ad} {s2 : Th} (A : At k C ad H s) (B : At k2 C2 ad2 H s2) (hk : Kp k2 ad2 H H') (hd : ∀ b ∈ own k ad, b ∉ own k2 ad2) : At k C ad H' s := A.keep fun b o h hb => by
  refine hk b o h ?_
  rcases hb with hb | ⟨xs, rfl⟩
  · exact hd b hb
  · intro q
    obtain ⟨o, h1, h2⟩ := B.noTup q
    rw [h] at h1
    exact h2 xs (Option.some.inj h1).symm
theorem At.pc (A : At k C ad H s) : ad.p ≠ ad.c := ne_of A.ob A.ct (by intro q; cases q)
theorem At.pl (A : At k C ad H s) : ad.p ≠ ad.l := ne_of A.ob A.ls (by intro q; cases q)
theorem x1_upd {b : Addr} {o : HO} (h : X1 k ad H s) (hb : k ≠ .book → b ≠ ad.x1) : X1 k ad (upd H b o) s := by
  cases k with
  | book => trivial
  | shelf => exact ⟨by rw [upd_ne (hb (by decide)).symm]; exact h.1, h.2⟩
  | row => exact (upd_ne (hb (by decide)).symm).trans h
theorem x2_upd {b : Addr} {o : HO} (h : X2 k ad H s) (hb : k ≠ .book → b ≠ ad.x2) (ht : ∀ xs, H b ≠ some (.tup xs)) : X2 k ad (upd H b o) s := by
  cases k with
  | book => trivial
  | shelf =>
    obtain ⟨ts, h1, h2⟩ := h
    exact ⟨ts, by rw [upd_ne (hb (by decide)).symm]; exact h1, L2.Paired.mapP h2 fun t g e => by rw [upd_ne (fun q => ht _ (by rw [← q]; exact e))]; exact e⟩
  | row => exact ⟨(upd_ne (hb (by decide)).symm).trans h.1, h.2⟩
theorem At.px1 (A : At k C ad H s) (hk : k ≠ .book) : ad.p ≠ ad.x1 := by
  have h := A.x1
  cases k with
  | book => exact absurd rfl hk
  | shelf => exact ne_of A.ob h.1 (by intro q; cases q)
  | row => exact ne_of A.ob h (by intro q; cases q)
theorem At.px2 (A : At k C ad H s) (hk : k ≠ .book) : ad.p ≠ ad.x2 := by
  have h := A.x2
  cases k with
  | book => exact absurd rfl hk
  | shelf => obtain ⟨ts, h1, _⟩ := h; exact ne_of A.ob h1 (by intro q; cases q)
  | row => exact ne_of A.ob h.1 (by intro q; cases q)
theorem At.cx1 (A : At k C ad H s) (hk : k ≠ .book) : ad.c ≠ ad.x1 := by
  have h := A.x1
  cases k with
  | book => exact absurd rfl hk
  | shelf => exact h.2.1.symm
  | row => exact ne_of A.ct h (by intro q; cases q)
theorem At.lx1 (A : At k C ad H s) (hk : k ≠ .book) : ad.l ≠ ad.x1 := by
  have h := A.x1
  cases k with
  | book => exact absurd rfl hk
  | shelf => exact h.2.2.symm
  | row => exact ne_of A.ls h (by intro q; cases q)
theorem At.cx2 (A : At k C ad H s) (hk : k ≠ .book) : ad.c ≠ ad.x2 := by
  have h := A.x2
  cases k with
  | book => exact absurd rfl hk
  | shelf => obtain ⟨ts, h1, _⟩ := h; exact ne_of A.ct h1 (by intro q; cases q)
  | row => exact ne_of A.ct h.1 (by intro q; cases q)
theorem At.lx2 (A : At k C ad H s) (hk : k ≠ .book) : ad.l ≠ ad.x2 := by
  have h := A.x2
  cases k with
  | book => exact absurd rfl hk
  | shelf => obtain ⟨ts, h1, _⟩ := h; exact ne_of A.ls h1 (by intro q; cases q)
  | row => exact ne_of A.ls h.1 (by intro q; cases q)
theorem noTup_of {b : Addr} {o : HO} (h : H b = some o) (n : ∀ xs, o ≠ .tup xs) : ∀ xs, H b ≠ some (.tup xs) := fun xs q => by
  rw [h] at q
  exact n xs (Option.some.inj q)
/-- the instance's own attributes are stored -/
theorem At.upP {s2 : Th} {fs : List (Str × V)} (A : At k C ad H s) (e : fs = flds k ad s2) (h1 : s2.es = s.es) (h2 : s2.st = s.st) (h3 : s2.went = s.went) (h4 : s2.laid = s.laid) (h5 : s2.depths = s.depths) : At k C ad (upd H ad.p (.ins C ad.dx fs)) s2 where
  ob := by rw [e]; exact upd_same
  ct := by rw [upd_ne A.pc.symm, h1]; exact A.ct
  ls := by rw [upd_ne A.pl.symm, h1]; exact A.ls
  cl := A.cl
  x1 := by
    have := x1_upd (b := ad.p) (o := .ins C ad.dx fs) A.x1 fun h => A.px1 h
    cases k with
    | book => trivial
    | shelf => rw [show X1 .shelf ad _ s2 = (_ ∧ _) from rfl, h2]; exact this
    | row => rw [show X1 .row ad _ s2 = (_ = _) from rfl, h4]; exact this
  x2 := by
    have := x2_upd (b := ad.p) (o := .ins C ad.dx fs) A.x2 (fun h => A.px2 h) (noTup_of A.ob fun _ q => by cases q)
    cases k with
    | book => trivial
    | shelf => rw [show X2 .shelf ad _ s2 = (∃ ts, _ ∧ _) from rfl, h3]; exact this
    | row => rw [show X2 .row ad _ s2 = (_ ∧ _) from rfl, h5]; exact this
/-- both tables are stored -/
theorem At.upE {es : List Ent} (A : At k C ad H s) : At k C ad (upd (upd H ad.c (.dK (dOf cV es))) ad.l (.dK (dOf lV es))) { s with es := es } where
  ob := by rw [upd_ne A.pl, upd_ne A.pc]; exact A.ob
  ct := by rw [upd_ne A.cl]; exact upd_same
  ls := upd_same
  cl := A.cl
  x1 := x1_upd (k := k) (s := { s with es := es }) (x1_upd (k := k) (s := { s with es := es }) A.x1 fun h => A.cx1 h) fun h => A.lx1 h
  x2 := x2_upd (k := k) (s := { s with es := es }) (x2_upd (k := k) (s := { s with es := es }) A.x2 (fun h => A.cx2 h) (noTup_of A.ct fun _ q => by cases q)) (fun h => A.lx2 h) (noTup_of (by rw [upd_ne A.cl.symm]; exact A.ls) fun _ q => by cases q)
theorem upd_comm {a b : Addr} {o u : HO} (h : a ≠ b) : upd (upd H a o) b u = upd (upd H b u) a o := by
  funext c
  unfold upd
  by_cases h1 : c = a
  · by_cases h2 : c = b
    · exact absurd (h1.symm.trans h2) h
    · rw [if_neg h2, if_pos h1, if_pos h1]
  · by_cases h2 : c = b
    · rw [if_pos h2, if_neg h1, if_pos h2]
    · rw [if_neg h2, if_neg h1, if_neg h1, if_neg h2]
/-- the counts alone -/
theorem At.upC {es : List Ent} (A : At k C ad H s) (hl : dOf lV es = dOf lV s.es) : At k C ad (upd H ad.c (.dK (dOf cV es))) { s with es := es } where
  ob := by rw [upd_ne A.pc]; exact A.ob
  ct := upd_same
  ls := by rw [upd_ne A.cl.symm, hl]; exact A.ls
  cl := A.cl
  x1 := x1_upd (k := k) (s := { s with es := es }) A.x1 fun h => A.cx1 h
  x2 := x2_upd (k := k) (s := { s with es := es }) A.x2 (fun h => A.cx2 h) (noTup_of A.ct fun _ q => by cases q)
/-! the attributes by name -/
theorem fl_span : (flds k ad s).lookup ("span" : Str) = some (.int s.span) := by cases k <;> kernel_rfl
theorem fl_part : (flds k ad s).lookup ("part" : Str) = some (.int s.part) := by cases k <;> kernel_rfl
theorem fl_time : (flds k ad s).lookup ("time" : Str) = some (.int s.time) := by cases k <;> kernel_rfl
theorem fl_deed : (flds k ad s).lookup ("deed" : Str) = some (.int (s.deed : Int)) := by cases k <;> kernel_rfl
theorem fl_counts : (flds k ad s).lookup ("counts" : Str) = some (.ref ad.c) := by cases k <;> kernel_rfl
theorem fl_lasts : (flds k ad s).lookup ("lasts" : Str) = some (.ref ad.l) := by cases k <;> kernel_rfl
theorem fl_places : (flds .shelf ad s).lookup ("places" : Str) = some (.int s.places) := by kernel_rfl
theorem fl_standing : (flds .shelf ad s).lookup ("standing" : Str) = some (.ref ad.x1) := by kernel_rfl
theorem fl_went : (flds .shelf ad s).lookup ("went" : Str) = some (.ref ad.x2) := by kernel_rfl
theorem fl_laid : (flds .row ad s).lookup ("laid" : Str) = some (.ref ad.x1) := by kernel_rfl
theorem fl_depths : (flds .row ad s).lookup ("depths" : Str) = some (.ref ad.x2) := by kernel_rfl
theorem fl_putTime (z : Int) : putF "time" (.int z) (flds k ad s) = flds k ad { s with time := z } := by cases k <;> kernel_rfl
theorem fl_putDeed (z : Nat) : putF "deed" (.int (z : Int)) (flds k ad s) = flds k ad { s with deed := z } := by cases k <;> kernel_rfl
theorem fl_len : (flds k ad s).length < 1000 := by cases k <;> simp [flds]
end
/-- both tables, from any heap where they stand so -/
theorem At.upE2 {k : Kd} {C : Addr} {ad : Ad} {H : Hp} {s : Th} {es : List Ent} (A : At k C ad H s) {c l : List (Key × V)} (hc : c = dOf cV es) (hl : l = dOf lV es) : At k C ad (upd (upd H ad.c (.dK c)) ad.l (.dK l)) { s with es := es } := by
  rw [hc, hl]
  exact A.upE
/-- the counts, then the lasts, stored one behind the other -/
theorem At.upE3 {k : Kd} {C : Addr} {ad : Ad} {H H' : Hp} {s : Th} {es : List Ent} (A : At k C ad H s) {c l : List (Key × V)} (e : Ex (upd H ad.c (.dK c)) H') (hc : c = dOf cV es) (hl : l = dOf lV es) : At k C ad (upd H' ad.l (.dK l)) { s with es := es } := by
  have ob : H' ad.p = some (.ins C ad.dx (flds k ad s)) := e _ _ (by rw [upd_ne A.pc]; exact A.ob)
  have ct : H' ad.c = some (.dK c) := e _ _ upd_same
  have ls : H' ad.l = some (.dK (dOf lV s.es)) := e _ _ (by rw [upd_ne A.cl.symm]; exact A.ls)
  have x1 : X1 k ad (upd H ad.c (.dK c)) { s with es := es } := x1_upd (k := k) (s := { s with es := es }) A.x1 fun h => A.cx1 h
  have x2 : X2 k ad (upd H ad.c (.dK c)) { s with es := es } := x2_upd (k := k) (s := { s with es := es }) A.x2 (fun h => A.cx2 h) (noTup_of A.ct fun _ q => by cases q)
  have x1' : X1 k ad H' { s with es := es } := by
    cases k with
    | book => trivial
    | shelf => exact ⟨e _ _ x1.1, x1.2⟩
    | row => exact e _ _ x1
  have x2' : X2 k ad H' { s with es := es } := by
    cases k with
    | book => trivial
    | shelf =>
      obtain ⟨ts, h1, h2⟩ := x2
      exact ⟨ts, e _ _ h1, L2.Paired.mapP h2 fun t g q => e _ _ q⟩
    | row => exact ⟨e _ _ x2.1, x2.2⟩
  refine ⟨by rw [upd_ne A.pl]; exact ob, by rw [upd_ne A.cl, ct, hc], by rw [hl]; exact upd_same, A.cl, x1_upd (k := k) x1' fun h => A.lx1 h, x2_upd (k := k) x2' (fun h => A.lx2 h) (noTup_of ls fun _ q => by cases q)⟩
/-! what stands on a shelf, what went -/
theorem At.upX1 {C : Addr} {ad : Ad} {H : Hp} {s : Th} {st : List Str} (A : At .shelf C ad H s) : At .shelf C ad (upd H ad.x1 (.dK (stV st))) { s with st := st } where
  ob := by rw [upd_ne (A.px1 (by decide))]; exact A.ob
  ct := by rw [upd_ne (A.cx1 (by decide))]; exact A.ct
  ls := by rw [upd_ne (A.lx1 (by decide))]; exact A.ls
  cl := A.cl
  x1 := ⟨upd_same, A.x1.2⟩
  x2 := by
    obtain ⟨ts, h1, h2⟩ := A.x2
    refine ⟨ts, ?_, L2.Paired.mapP h2 fun t g e => ?_⟩
    · rw [upd_ne (fun q => by rw [q, A.x1.1] at h1; cases h1)]; exact h1
    · rw [upd_ne (fun q => by rw [q, A.x1.1] at e; cases e)]; exact e
theorem At.upX2 {C : Addr} {ad : Ad} {H : Hp} {s : Th} {ts : List Addr} {q : Addr} {g : Going} (A : At .shelf C ad H s) (h1 : H ad.x2 = some (.lst (ts.map V.ref))) (h2 : Paired (fun t g => H t = some (.tup (gV g))) ts s.went) (hq : H q = some (.tup (gV g))) : At .shelf C ad (upd H ad.x2 (.lst (ts.map V.ref ++ [.ref q]))) { s with went := s.went ++ [g] } where
  ob := by rw [upd_ne (A.px2 (by decide))]; exact A.ob
  ct := by rw [upd_ne (A.cx2 (by decide))]; exact A.ct
  ls := by rw [upd_ne (A.lx2 (by decide))]; exact A.ls
  cl := A.cl
  x1 := ⟨by rw [upd_ne (fun q => by have := A.x1.1; rw [q, h1] at this; cases this)]; exact A.x1.1, A.x1.2⟩
  x2 := by
    refine ⟨ts ++ [q], by rw [upd_same, List.map_append]; rfl, ?_⟩
    refine paired_snoc (F := fun t g => (upd H ad.x2 (.lst (ts.map V.ref ++ [.ref q]))) t = some (.tup (gV g))) ?_ (L2.Paired.mapP h2 fun t g e => ?_)
    · rw [upd_ne (fun r => by rw [r, h1] at hq; cases hq)]; exact hq
    · rw [upd_ne (fun r => by rw [r, h1] at e; cases e)]; exact e
theorem val_st (n : Str) : ∀ st : List Str, valV (stV st) (Sum.inr n : Key) = if n ∈ st then some (V.bl true) else none
  | [] => by rw [if_neg (by simp)]; rfl
  | m :: r => by
    by_cases h : m = n
    · rw [show stV (m :: r) = (Sum.inr m, V.bl true) :: stV r from rfl, valV_pos (p := (Sum.inr m, V.bl true)) (by rw [h]), if_pos (by rw [h]; exact List.mem_cons_self)]
    · rw [show stV (m :: r) = (Sum.inr m, V.bl true) :: stV r from rfl, valV_neg (p := (Sum.inr m, V.bl true)) (fun q => h (Sum.inr.inj q)), val_st n r]
      by_cases h2 : n ∈ r
      · rw [if_pos h2, if_pos (List.mem_cons_of_mem _ h2)]
      · rw [if_neg h2, if_neg (fun q => (List.mem_cons.mp q).elim (fun e => h e.symm) h2)]
theorem val_st_some (n : Str) (st : List Str) : (valV (stV st) (Sum.inr n : Key)).isSome = decide (n ∈ st) := by
  rw [val_st]
  by_cases h : n ∈ st
  · rw [if_pos h, decide_eq_true h]; rfl
  · rw [if_neg h, decide_eq_false h]; rfl
theorem drop_st (n : Str) (st : List Str) : dropK (stV st) (Sum.inr n : Key) = stV (st.filter fun m => decide (m ≠ n)) := by
  unfold dropK stV
  rw [List.filter_map]
  congr 1
  apply List.filter_congr
  intro m _
  by_cases h : m = n <;> simp [h]
theorem put_st {n : Str} {st : List Str} (h : n ∉ st) : putK (stV st) (Sum.inr n : Key) (V.bl true) = stV (st ++ [n]) := by
  unfold putK
  have : ((stV st).any fun kv => decide (kv.1 = (Sum.inr n : Key))) = false := by
    rw [List.any_eq_false]
    intro kv hkv
    obtain ⟨m, hm, rfl⟩ := List.mem_map.mp hkv
    simp only [decide_eq_true_eq]
    exact fun q => h (by rw [← Sum.inr.inj q]; exact hm)
  rw [this, if_neg (by decide)]
  unfold stV
  rw [List.map_append]
  rfl
end Own

/-! ### Evl, more: data compared, kinds of things, walks that change the heap -/
namespace Own
open PySem L2 PyProof.Rows Evl OwnS
section
variable {K : PySem.W.Frag} {σ : L2.St} {H H' : Hp} {ta tb te tx tv : TE} {D : Ends} {tz tu : TS}
mutual
theorem dp_ex (e : Ex H H') : ∀ (d : PyData) (v : V), Dp K H v d → Dp K H' v d
  | .none, _, h => by cases h; exact .non
  | .bool b, _, h => by cases h; exact .bl _
  | .int i, _, h => by cases h; exact .int _
  | .str x, _, h => by cases h; exact .str _
  | .list xs, _, h => by
    cases h with
    | lst h1 h2 => exact .lst (ex_l e h1) (dpAll_ex e xs _ h2)
  | .tuple xs, _, h => by
    cases h with
    | tup h1 h2 => exact .tup (ex_t e h1) (dpAll_ex e xs _ h2)
  | .dict _, _, h => by cases h
theorem dpAll_ex (e : Ex H H') : ∀ (ds : List PyData) (vs : List V), DpAll K H vs ds → DpAll K H' vs ds
  | [], _, h => by cases h; exact .nil
  | d :: ds, _, h => by
    cases h with
    | cons h1 h2 => exact .cons (dp_ex e d _ h1) (dpAll_ex e ds _ h2)
end
/-- flat values as data -/
def fdV : V → PyData
  | .int i => .int i
  | .str s => .str s
  | .bl b => .bool b
  | _ => .none
inductive FlatV : V → Prop where
  | int (i : Int) : FlatV (.int i)
  | bl (b : Bool) : FlatV (.bl b)
  | non : FlatV .non
  | str (s : Str) (h : PyData.strOk s = true) : FlatV (.str s)
theorem FlatV.dp {v : V} (h : FlatV v) : Dp K H v (fdV v) := by cases h <;> constructor
theorem FlatV.can {v : V} (h : FlatV v) : (fdV v).canLay0 = true := by
  cases h with
  | str s h => exact h
  | _ => rfl
theorem FlatV.dep {v : V} (h : FlatV v) : (fdV v).depth = 0 := by cases h <;> rfl
theorem dpAll_flat : ∀ {xs : List V}, (∀ x ∈ xs, FlatV x) → DpAll K H xs (xs.map fdV)
  | [], _ => .nil
  | x :: xs, h => .cons (h x List.mem_cons_self).dp (dpAll_flat fun y hy => h y (List.mem_cons_of_mem _ hy))
theorem can_flat : ∀ {xs : List V}, (∀ x ∈ xs, FlatV x) → PyData.canLayAll0 (xs.map fdV) = true
  | [], _ => rfl
  | x :: xs, h => by
    rw [List.map_cons, PyData.canLayAll0, (h x List.mem_cons_self).can, can_flat fun y hy => h y (List.mem_cons_of_mem _ hy)]
    rfl
theorem dep_flat : ∀ {xs : List V}, (∀ x ∈ xs, FlatV x) → PyData.depthAll (xs.map fdV) = 0
  | [], _ => rfl
  | x :: xs, h => by
    rw [List.map_cons, PyData.depthAll, (h x List.mem_cons_self).dep, dep_flat fun y hy => h y (List.mem_cons_of_mem _ hy)]
    rfl
theorem shaped_list {xs : List V} (h : ∀ x ∈ xs, FlatV x) : SeqAt.shaped (.list (xs.map fdV)) = true := by
  unfold SeqAt.shaped
  rw [Bool.and_eq_true]
  refine ⟨can_flat h, decide_eq_true ?_⟩
  rw [PyData.depth, dep_flat h]
  decide
theorem shaped_tup {xs : List V} (h : ∀ x ∈ xs, FlatV x) : SeqAt.shaped (.tuple (xs.map fdV)) = true := by
  unfold SeqAt.shaped
  rw [Bool.and_eq_true]
  refine ⟨can_flat h, decide_eq_true ?_⟩
  rw [PyData.depth, dep_flat h]
  decide
/-- what evaluates to such data -/
def EvD (K : PySem.W.Frag) (te : TE) (σ : L2.St) (H : Hp) (d : PyData) : Prop := ∀ H1, Ex H H1 → ∀ Q : VK, (∀ v H2, Ex H1 H2 → Dp K H2 v d → Q v H2) → te σ H1 Q
theorem ed_L {xs : List V} (h : EvL te σ H xs) (hf : ∀ x ∈ xs, FlatV x) : EvD K te σ H (.list (xs.map fdV)) := fun H1 e Q q => h H1 e Q fun p H2 hp e2 h2 => q _ H2 e2 (.lst (sq_of h2) (dpAll_flat hf))
theorem ed_R {v : V} {d : PyData} (h : Ev te σ H v) (hd : Dp K H v d) : EvD K te σ H d := fun H1 e Q q => h H1 e Q fun H2 e2 => q _ H2 e2 (dp_ex (e.trans e2) d v hd)
theorem ev_eqD {d : PyData} (ha : EvD K ta σ H d) (hb : EvD K tb σ H d) (hs : SeqAt.shaped d = true) : Ev (tOp (rEqD K) ta tb) σ H (.bl true) := fun H1 e Q q =>
  ha H1 e _ fun u H2 e2 hu => hb H2 (e.trans e2) _ fun v H3 e3 hv => ⟨d, d, dp_ex e3 d u hu, hv, hs, hs, by
    rw [SeqAt.eqv_refl d (SeqAt.canLay_of_shaped hs)]
    exact q H3 (e2.trans e3)⟩
theorem ev_neD {d : PyData} (ha : EvD K ta σ H d) (hb : EvD K tb σ H d) (hs : SeqAt.shaped d = true) : Ev (tOp (rNeD K) ta tb) σ H (.bl false) := fun H1 e Q q =>
  ha H1 e _ fun u H2 e2 hu => hb H2 (e.trans e2) _ fun v H3 e3 hv => ⟨d, d, dp_ex e3 d u hu, hv, hs, hs, by
    rw [SeqAt.eqv_refl d (SeqAt.canLay_of_shaped hs)]
    exact q H3 (e2.trans e3)⟩
theorem dp_list {p : Addr} {xs : List V} (h : H p = some (.lst xs)) (hf : ∀ x ∈ xs, FlatV x) : Dp K H (.ref p) (.list (xs.map fdV)) := .lst (sq_of h) (dpAll_flat hf)
/-! kinds -/
theorem ev_isList {p : Addr} {xs : List V} (ha : Ev ta σ H (.ref p)) (h : H p = some (.lst xs)) : Ev (tCB (rIsi K) (tCons ta (tCons (tC (.ty "list")) tNil))) σ H (.bl true) := ev_isi ha ev_c (.ty _) (fun _ e => .base (.lst (e _ _ h))) (kit_ty (by decide +kernel))
theorem ev_isTup {p : Addr} {xs : List V} (ha : Ev ta σ H (.ref p)) (h : H p = some (.tup xs)) : Ev (tCB (rIsi K) (tCons ta (tCons (tC (.ty "tuple")) tNil))) σ H (.bl true) := ev_isi ha ev_c (.ty _) (fun _ e => .base (.tup (e _ _ h))) (kit_ty (by decide +kernel))
/-- is None of a value -/
theorem rv_isN {x : V} : RV (fun x y H Q => y = .non ∧ Q (.bl (decide (x = .non))) H) x .non H (.bl (decide (x = .non))) := fun H1 _ Q q => ⟨rfl, q H1 (Ex.refl H1)⟩
theorem rv_notN {x : V} : RV (fun x y H Q => y = .non ∧ Q (.bl (!decide (x = .non))) H) x .non H (.bl (!decide (x = .non))) := fun H1 _ Q q => ⟨rfl, q H1 (Ex.refl H1)⟩
/-! walks that change the heap -/
theorem s_forE {a : Addr} {xs : List V} {tr : TA} {i j : Nat} (h : EvA tr σ H [.ref a]) (hx : SqL K H a xs) (Pv : Nat → L2.St → Hp → Prop) (h0 : ∀ H1, Ex H H1 → Pv 0 σ H1) (hl : ∀ i σ' H', i ≤ xs.length → Pv i σ' H' → SqL K H' a xs)
    (hs : ∀ (t : Nat) x σ' H' H2, xs[t]? = some x → Pv t σ' H' → Ex H' H2 → tu { D with nx := Pv (t + 1), ct := Pv (t + 1), bk := D.nx } ((σ'.set i (some (.int (t : Int)))).set j (some x)) H2) (hd : ∀ σ' H', Pv xs.length σ' H' → D.nx σ' H') :
    tFor (iEnum K tr) (gTup K 2 (gCons (gName i) (gCons (gName j) gNil))) tu D σ H :=
  h H (Ex.refl H) _ fun H1 e => ⟨a, xs, rfl, ex_l e hx, for_it walk_enum Pv (h0 H1 e) hl (fun t x σ' H' H2 ht hp hy => by
    obtain ⟨T, u, v, rfl, hT, rfl, h1, h2⟩ := hy
    cases h1
    exact got_pair (SqT.of upd_same) _ (hs t v σ' H' _ h2 hp (Ex.new hT))) hd⟩
theorem q_forE {a : Addr} {xs : List V} {tr : TA} {i j : Nat} (h : EvA tr σ H [.ref a]) (hx : SqL K H a xs) (Pv : Nat → L2.St → Hp → Prop) (h0 : ∀ H1, Ex H H1 → Pv 0 σ H1) (hl : ∀ i σ' H', i ≤ xs.length → Pv i σ' H' → SqL K H' a xs)
    (hs : ∀ (t : Nat) x σ' H' H2, xs[t]? = some x → Pv t σ' H' → Ex H' H2 → tu { D with nx := Pv (t + 1), ct := Pv (t + 1), bk := tz D } ((σ'.set i (some (.int (t : Int)))).set j (some x)) H2) (hd : ∀ σ' H', Pv xs.length σ' H' → tz D σ' H') :
    tSeq (tFor (iEnum K tr) (gTup K 2 (gCons (gName i) (gCons (gName j) gNil))) tu) tz D σ H := s_forE (D := { D with nx := tz D }) h hx Pv h0 hl hs hd
theorem s_forEN {xs : List V} {i j : Nat} (h : EvL te σ H xs) (Pv : Addr → Nat → L2.St → Hp → Prop) (h0 : ∀ p H1, H p = none → Ex H H1 → H1 p = some (.lst xs) → Pv p 0 σ H1) (hl : ∀ p i σ' H', i ≤ xs.length → Pv p i σ' H' → SqL K H' p xs)
    (hs : ∀ p (t : Nat) x σ' H' H2, xs[t]? = some x → Pv p t σ' H' → Ex H' H2 → tu { D with nx := Pv p (t + 1), ct := Pv p (t + 1), bk := D.nx } ((σ'.set i (some (.int (t : Int)))).set j (some x)) H2) (hd : ∀ p σ' H', Pv p xs.length σ' H' → D.nx σ' H') :
    tFor (iEnum K (tCons te tNil)) (gTup K 2 (gCons (gName i) (gCons (gName j) gNil))) tu D σ H :=
  h H (Ex.refl H) _ fun p H1 hp e h1 => ⟨p, xs, rfl, sq_of h1, for_it walk_enum (Pv p) (h0 p H1 hp e h1) (hl p) (fun t x σ' H' H2 ht hP hy => by
    obtain ⟨T, u, v, rfl, hT, rfl, g1, g2⟩ := hy
    cases g1
    exact got_pair (SqT.of upd_same) _ (hs p t v σ' H' _ g2 hP (Ex.new hT))) (hd p)⟩
theorem q_forEN {xs : List V} {i j : Nat} (h : EvL te σ H xs) (Pv : Addr → Nat → L2.St → Hp → Prop) (h0 : ∀ p H1, H p = none → Ex H H1 → H1 p = some (.lst xs) → Pv p 0 σ H1) (hl : ∀ p i σ' H', i ≤ xs.length → Pv p i σ' H' → SqL K H' p xs)
    (hs : ∀ p (t : Nat) x σ' H' H2, xs[t]? = some x → Pv p t σ' H' → Ex H' H2 → tu { D with nx := Pv p (t + 1), ct := Pv p (t + 1), bk := tz D } ((σ'.set i (some (.int (t : Int)))).set j (some x)) H2) (hd : ∀ p σ' H', Pv p xs.length σ' H' → tz D σ' H') :
    tSeq (tFor (iEnum K (tCons te tNil)) (gTup K 2 (gCons (gName i) (gCons (gName j) gNil))) tu) tz D σ H := s_forEN (D := { D with nx := tz D }) h Pv h0 hl hs hd
/-- a locked dict: within, it holds .frz -/
theorem elp_lock {d : Addr} {kvs : List (Key × V)} {P : List V → Hp → Prop} (hd : H d = some (.dK kvs)) (up : ∀ ys H' o, H' d = some (.frz o (.dK kvs)) → P ys H' → P ys (L2.upd H' d (.dK kvs))) (h : ∀ H1, Ex H H1 → ∀ o, EvLP te σ (L2.upd H1 d (.frz o (.dK kvs))) P) : EvLP (tLockE te) σ H P := fun H1 e Q q =>
  ⟨d, _, e _ _ hd, trivial, fun o => h H1 e o _ (Ex.refl _) _ fun p ys H2 hp e2 h2 hP => by
    have hf := e2 d _ upd_same
    have hpd : p ≠ d := fun r => by rw [r, upd_same] at hp; cases hp
    refine ⟨hf, q p ys _ ?_ ?_ ?_ (up ys H2 o hf hP)⟩
    · rw [upd_ne hpd] at hp; exact hp
    · intro b u hb
      by_cases r : b = d
      · rw [r] at hb ⊢
        rw [upd_same, ← hb, e _ _ hd]
      · rw [upd_ne r]
        exact e2 b u (by rw [upd_ne r]; exact hb)
    · rw [upd_ne hpd]; exact h2⟩
theorem ei_items {d : Addr} {o : Obj} {kvs : List (Key × V)} (h : Ev te σ H (.ref d)) (hd : H d = some (.frz o (.dK kvs))) : EvI (iItems te) σ H kvs.length (YPair (fun i => kvs[i]?.map fun kv => kV kv.1) (fun i => kvs[i]?.map Prod.snd)) := fun H1 e R q =>
  h H1 e _ fun H2 e2 => ⟨d, o, kvs, rfl, e2 _ _ (e _ _ hd), q _ H2 e2 (walk_items.mono (fun H3 e3 => e3 _ _ (e2 _ _ (e _ _ hd))) fun _ _ _ _ _ _ y => y)⟩
end
/-- what stood before a thing was made still stands -/
theorem Ex.kp {k : Kd} {ad : Ad} {H0 H H' : Hp} (e : Ex H0 H) (off : ∀ x ∈ own k ad, H0 x = none) (kp : Kp k ad H H') : Ex H0 H' := fun b o h => kp b o (e b o h) fun q => by
  rw [off b q] at h
  cases h
end Own

/-! ### lists of tuples in the heap; more statements -/
namespace Own
open PySem L2 PyProof.Rows Evl OwnS
/-- a list of new tuples -/
def TupsAt (H : Hp) (p : Addr) (rows : List (List V)) : Prop := ∃ vs : List V, H p = some (.lst vs) ∧ vs.length = rows.length ∧ ∀ (i : Nat) (r : List V), rows[i]? = some r → ∃ q, vs[i]? = some (.ref q) ∧ H q = some (.tup r)
theorem TupsAt.ex {H H' : Hp} {p : Addr} {rows : List (List V)} (h : TupsAt H p rows) (e : Ex H H') : TupsAt H' p rows := by
  obtain ⟨vs, h1, h2, h3⟩ := h
  refine ⟨vs, e _ _ h1, h2, fun i r hr => ?_⟩
  obtain ⟨q, a, b⟩ := h3 i r hr
  exact ⟨q, a, e _ _ b⟩
theorem TupsAt.nil {H : Hp} {p : Addr} (h : H p = some (.lst [])) : TupsAt H p [] := ⟨[], h, rfl, fun i r hr => by cases hr⟩
theorem TupsAt.push {H : Hp} {p q : Addr} {rows : List (List V)} {r : List V} {vs : List V} (h1 : H p = some (.lst vs)) (h2 : vs.length = rows.length) (h3 : ∀ (i : Nat) (r : List V), rows[i]? = some r → ∃ q, vs[i]? = some (.ref q) ∧ H q = some (.tup r)) (hq : H q = some (.tup r)) : TupsAt (upd H p (.lst (vs ++ [.ref q]))) p (rows ++ [r]) := by
  have ne : ∀ {a : Addr} {x : List V}, H a = some (.tup x) → a ≠ p := fun ha e => by rw [e, h1] at ha; cases ha
  refine ⟨_, upd_same, by rw [List.length_append, List.length_append, h2]; rfl, fun i r' hr => ?_⟩
  by_cases hi : i < rows.length
  · rw [List.getElem?_append_left hi] at hr
    obtain ⟨a, x, y⟩ := h3 i r' hr
    exact ⟨a, by rw [List.getElem?_append_left (by omega)]; exact x, by rw [upd_ne (ne y)]; exact y⟩
  · rw [List.getElem?_append_right (by omega)] at hr
    have hi0 : i - rows.length = 0 := by
      by_cases z : i - rows.length = 0
      · exact z
      · rw [List.getElem?_eq_none (by simp only [List.length_singleton]; omega)] at hr
        cases hr
    rw [hi0] at hr
    have : r = r' := Option.some.inj hr
    subst this
    exact ⟨q, by rw [List.getElem?_append_right (by omega), h2, hi0]; rfl, by rw [upd_ne (ne hq)]; exact hq⟩
/-- paired lists by places -/
theorem paired_at {α β : Type} {F : α → β → Prop} : ∀ {l : List α} {m : List β}, Paired F l m → l.length = m.length ∧ ∀ (i : Nat) (a : α), l[i]? = some a → ∃ b, m[i]? = some b ∧ F a b
  | _, _, .nil => ⟨rfl, fun i a h => by cases h⟩
  | _, _, .cons r t => by
    obtain ⟨h1, h2⟩ := paired_at t
    refine ⟨by rw [List.length_cons, List.length_cons, h1], fun i a h => ?_⟩
    cases i with
    | zero => cases h; exact ⟨_, rfl, r⟩
    | succ i => exact h2 i a h
theorem dpAll_at {K : PySem.W.Frag} {H : Hp} : ∀ {vs : List V} {ds : List PyData}, DpAll K H vs ds → vs.length = ds.length ∧ ∀ (i : Nat) (d : PyData), ds[i]? = some d → ∃ v, vs[i]? = some v ∧ Dp K H v d
  | _, _, .nil => ⟨rfl, fun i a h => by cases h⟩
  | _, _, .cons r t => by
    obtain ⟨h1, h2⟩ := dpAll_at t
    refine ⟨by rw [List.length_cons, List.length_cons, h1], fun i a h => ?_⟩
    cases i with
    | zero => cases h; exact ⟨_, rfl, r⟩
    | succ i => exact h2 i a h
section
variable {K : PySem.W.Frag} {σ : L2.St} {H H' : Hp} {ta tb te tx tv td ty : TE} {D : Ends} {tz tu : TS}
theorem q_appU {p : Addr} {xs vs : List V} (ho : Ev ta σ H (.ref p)) (h : H p = some (.lst xs)) (hv : EvU tv σ H vs) (hz : xs.length < 100000) (k : ∀ q H1, H q = none → Ex H H1 → H1 q = some (.tup vs) → H1 p = some (.lst xs) → tz D σ (upd H1 p (.lst (xs ++ [.ref q])))) : tSeq (tDrop (tBM K "list" rAppend ta (tCons tv tNil))) tz D σ H :=
  ho H (Ex.refl H) _ fun H1 e1 => ⟨.inl ⟨rfl, _, SqL.of (e1 _ _ h)⟩, hv H1 e1 _ fun q H2 hq e2 h2 => ⟨p, xs, _, rfl, rfl, e2 _ _ (e1 _ _ h), sz_lt hz, k q H2 (fresh_back e1 hq) (e1.trans e2) h2 (e2 _ _ (e1 _ _ h))⟩⟩
theorem s_appU {p : Addr} {xs vs : List V} (ho : Ev ta σ H (.ref p)) (h : H p = some (.lst xs)) (hv : EvU tv σ H vs) (hz : xs.length < 100000) (k : ∀ q H1, H q = none → Ex H H1 → H1 q = some (.tup vs) → H1 p = some (.lst xs) → D.nx σ (upd H1 p (.lst (xs ++ [.ref q])))) : tDrop (tBM K "list" rAppend ta (tCons tv tNil)) D σ H :=
  q_appU (D := D) (tz := fun _ σ H => D.nx σ H) ho h hv hz k
theorem q_app {p : Addr} {xs : List V} {v : V} (ho : Ev ta σ H (.ref p)) (h : H p = some (.lst xs)) (hv : Ev tv σ H v) (hz : xs.length < 100000) (k : ∀ H1, Ex H H1 → H1 p = some (.lst xs) → tz D σ (upd H1 p (.lst (xs ++ [v])))) : tSeq (tDrop (tBM K "list" rAppend ta (tCons tv tNil))) tz D σ H :=
  ho H (Ex.refl H) _ fun H1 e1 => ⟨.inl ⟨rfl, _, SqL.of (e1 _ _ h)⟩, hv H1 e1 _ fun H2 e2 => ⟨p, xs, _, rfl, rfl, e2 _ _ (e1 _ _ h), sz_lt hz, k H2 (e1.trans e2) (e2 _ _ (e1 _ _ h))⟩⟩
theorem s_app {p : Addr} {xs : List V} {v : V} (ho : Ev ta σ H (.ref p)) (h : H p = some (.lst xs)) (hv : Ev tv σ H v) (hz : xs.length < 100000) (k : ∀ H1, Ex H H1 → H1 p = some (.lst xs) → D.nx σ (upd H1 p (.lst (xs ++ [v])))) : tDrop (tBM K "list" rAppend ta (tCons tv tNil)) D σ H :=
  q_app (D := D) (tz := fun _ σ H => D.nx σ H) ho h hv hz k
theorem q_lockLP {d : Addr} {kvs : List (Key × V)} {i : Nat} {P : List V → Hp → Prop} (hd : H d = some (.dK kvs)) (up : ∀ ys H' o, H' d = some (.frz o (.dK kvs)) → P ys H' → P ys (L2.upd H' d (.dK kvs))) (h : ∀ o, EvLP te σ (L2.upd H d (.frz o (.dK kvs))) P)
    (k : ∀ p ys H1, H p = none → Ex H H1 → H1 p = some (.lst ys) → P ys H1 → tz D (σ.set i (some (.ref p))) H1) : tSeq (tLock (tAsg te (gName i))) tz D σ H :=
  ⟨d, _, hd, trivial, fun o => h o _ (Ex.refl _) _ fun p ys H2 hp e2 h2 hP => by
    have hf := e2 d _ upd_same
    have hpd : p ≠ d := fun r => by rw [r, upd_same] at hp; cases hp
    refine ⟨hf, k p ys _ ?_ ?_ ?_ (up ys H2 o hf hP)⟩
    · rw [upd_ne hpd] at hp; exact hp
    · intro b u hb
      by_cases r : b = d
      · rw [r] at hb ⊢
        rw [upd_same, ← hb, hd]
      · rw [upd_ne r]
        exact e2 b u (by rw [upd_ne r]; exact hb)
    · rw [upd_ne hpd]; exact h2⟩
theorem q_dputP {d : Addr} {kvs : List (Key × V)} {n : Str} {P : V → Hp → Prop} (hv : EvP tv σ H P) (hd : Ev td σ H (.ref d)) (hy : Ev ty σ H (.str n)) (h : H d = some (.dK kvs)) (hz : kvs.length < 100000) (up : ∀ v H1 H2, P v H1 → Ex H1 H2 → P v H2) (k : ∀ v H1, Ex H H1 → P v H1 → tz D σ (upd H1 d (.dK (putK kvs (Sum.inr n) v)))) : tSeq (sDPut td ty tv) tz D σ H :=
  hv H (Ex.refl H) _ fun v H1 e1 p1 => hd H1 e1 _ fun H2 e2 => hy H2 (e1.trans e2) _ fun H3 e3 => ⟨d, _, rfl, DPut.k (k := Sum.inr n) (((e1.trans e2).trans e3) d _ h) (sz_lt hz), k v H3 ((e1.trans e2).trans e3) (up v H1 H3 p1 (e2.trans e3))⟩
theorem s_dputP {d : Addr} {kvs : List (Key × V)} {n : Str} {P : V → Hp → Prop} (hv : EvP tv σ H P) (hd : Ev td σ H (.ref d)) (hy : Ev ty σ H (.str n)) (h : H d = some (.dK kvs)) (hz : kvs.length < 100000) (up : ∀ v H1 H2, P v H1 → Ex H1 H2 → P v H2) (k : ∀ v H1, Ex H H1 → P v H1 → D.nx σ (upd H1 d (.dK (putK kvs (Sum.inr n) v)))) : sDPut td ty tv D σ H :=
  q_dputP (D := D) (tz := fun _ σ H => D.nx σ H) hv hd hy h hz up k
theorem ev_intB {b : Bool} (h : Ev te σ H (.bl b)) : Ev (tCB (fun xs H Q => (∃ i, xs = [.int i] ∧ Q (.int i) H) ∨ ∃ k, xs = [.bl k] ∧ Q (.int (if k then 1 else 0)) H) (tCons te tNil)) σ H (.int (if b then 1 else 0)) := fun H1 e Q q =>
  h H1 e _ fun H2 e2 => .inr ⟨b, rfl, q H2 e2⟩
/-- a walk over a new list whose items are told -/
theorem ei_listP {n : Nat} {P : List V → Hp → Prop} {R : Nat → Hp → V → Prop} (h : EvLP ta σ H P) (hn : ∀ ys H', P ys H' → ys.length = n ∧ ∀ (i : Nat) (x : V), ys[i]? = some x → R i H' x) (up : ∀ i H1 H2 x, Ex H1 H2 → R i H1 x → R i H2 x) : EvI (iList K ta) σ H n (fun i H x H' => H' = H ∧ R i H x) := fun H1 e T q =>
  h H1 e _ fun p ys H2 _ e2 h2 hP => ⟨p, rfl, ⟨ys, sq_of h2⟩, by
    obtain ⟨h3, h4⟩ := hn ys H2 hP
    refine q _ H2 e2 ?_
    rw [← h3]
    exact walk_list.mono (fun H3 e3 => sq_of (e3 p _ h2)) fun i H3 x H4 hi e3 y => ⟨y.1, up i H2 H3 x e3 (h4 i x y.2)⟩⟩
/-- a tuple's place; a list's place -/
theorem ev_ixT {p : Addr} {xs : List V} {i : Nat} {v : V} (h : Ev ta σ H (.ref p)) (hx : H p = some (.tup xs)) (ha : xs[i]? = some v) : Ev (tOp (rIxT K) ta (tC (.int (i : Int)))) σ H v := ev_op h ev_c (rv_ixT (SqT.of hx) (by rw [show ((i : Int)) = ((i : Nat) : Int) from rfl]; exact atI_nat ha))
theorem ev_ixLn {p : Addr} {xs : List V} {z : Int} {i : Nat} {v : V} (h : Ev ta σ H (.ref p)) (hb : Ev tb σ H (.int z)) (hz : z = (i : Int)) (hx : H p = some (.lst xs)) (ha : xs[i]? = some v) : Ev (tOp (rIxL K) ta tb) σ H v := ev_op h hb (rv_ixL (SqL.of hx) (by rw [hz]; exact atI_nat ha))
theorem ev_not {b : Bool} (h : Ev ta σ H (.bl b)) : EvT (fun σ H Q => ta σ H fun x H' => ∃ k, x = .bl k ∧ Q (!k) H') σ H (!b) := fun H1 e Q q => h H1 e _ fun H2 e2 => ⟨b, rfl, q H2 e2⟩
theorem ev_isBoolV {b : Bool} (ha : Ev ta σ H (.bl b)) : Ev (tCB (rIsi K) (tCons ta (tCons (tC (.ty "bool")) tNil))) σ H (.bl true) := ev_isBoolB ha
theorem ev_isBl {a b : Bool} (ha : Ev ta σ H (.bl a)) (hb : Ev tb σ H (.bl b)) : Ev (tOp rIsB ta tb) σ H (.bl (decide (a = b))) := ev_op ha hb fun H1 _ Q q => ⟨a, b, rfl, rfl, q H1 (Ex.refl H1)⟩
/-- sorted(..) of a new list of data -/
theorem elp_sortD {P : List V → Hp → Prop} {ds : List PyData} (h : EvLP te σ H P) (hD : ∀ ys H', P ys H' → DpAll K H' ys ds) (al : PySem.W.AllAlike ds) (so : PySem.W.Sortable ds) (dp : ∀ d ∈ ds, d.depth ≤ 20) :
    EvLP (tCB (rSortD K) (tCons te tNil)) σ H (fun ys H' => DpAll K H' ys (ds.mergeSort (PySem.W.dataLe false id))) := fun H1 e Q q =>
  h H1 e _ fun p ys H2 hp e2 h2 hP => ⟨p, ys, ds, rfl, sq_of h2, hD ys H2 hP, al, so, dp, fun zs r hz hr => q r zs _ (fresh_back e2 hr) (e2.trans (Ex.new hr)) upd_same (dpAll_ex (Ex.new hr) _ _ hz)⟩
theorem elp_sortDr {l : Addr} {xs : List V} {ds : List PyData} (hx : Ev te σ H (.ref l)) (h : H l = some (.lst xs)) (hD : DpAll K H xs ds) (al : PySem.W.AllAlike ds) (so : PySem.W.Sortable ds) (dp : ∀ d ∈ ds, d.depth ≤ 20) :
    EvLP (tCB (rSortD K) (tCons te tNil)) σ H (fun ys H' => DpAll K H' ys (ds.mergeSort (PySem.W.dataLe false id))) := fun H1 e Q q =>
  hx H1 e _ fun H2 e2 => ⟨l, xs, ds, rfl, sq_of (e2 _ _ (e _ _ h)), dpAll_ex (e.trans e2) _ _ hD, al, so, dp, fun zs r hz hr => q r zs _ (fresh_back e2 hr) (e2.trans (Ex.new hr)) upd_same (dpAll_ex (Ex.new hr) _ _ hz)⟩
/-- name = f(x, y), y told by P -/
theorem q_asgC2P {i : Nat} {t1 t2 : TE} {sp : Sp} {E : XK} {x : V} {P : V → Hp → Prop} (h1 : Ev t1 σ H x) (h2 : EvP t2 σ H P) (k : ∀ v H1, Ex H H1 → P v H1 → sp [x, v] H1 (fun r H2 => tz D (σ.set i (some r)) H2) E) : tSeq (tAsg (tCall sp [] E (tCons t1 (tCons t2 tNil))) (gName i)) tz D σ H :=
  h1 H (Ex.refl H) _ fun H1 e1 => h2 H1 e1 _ fun v H2 e2 p => k v H2 (e1.trans e2) p
/-- name = f(..), by the promise itself -/
theorem q_asgC {i : Nat} {tr : TA} {sp : Sp} {E : XK} {vs : List V} (h : EvA tr σ H vs) (k : ∀ H1, Ex H H1 → sp vs H1 (fun r H2 => tz D (σ.set i (some r)) H2) E) : tSeq (tAsg (tCall sp [] E tr) (gName i)) tz D σ H :=
  h H (Ex.refl H) _ fun H1 e1 => by
    rw [List.append_nil]
    exact k H1 e1
theorem q_asgNew {i : Nat} (k : ∀ d H1, H d = none → Ex H H1 → H1 d = some (.dK []) → tz D (σ.set i (some (.ref d))) H1) : tSeq (tAsg tDNewK (gName i)) tz D σ H := fun d hd => k d _ hd (Ex.new hd) upd_same
/-- f(x, a new list) -/
theorem ev_callVL {sp : Sp} {E : XK} {x v : V} {xs : List V} (ha : Ev ta σ H x) (hb : EvL tb σ H xs) (hs : ∀ p H1, Ex H H1 → H1 p = some (.lst xs) → SpV sp [x, .ref p] H1 v) : Ev (tCall sp [] E (tCons ta (tCons tb tNil))) σ H v := fun H1 e Q q =>
  ha H1 e _ fun H2 e2 => hb H2 (e.trans e2) _ fun p H3 _ e3 h3 => hs p H3 ((e.trans e2).trans e3) h3 H3 (Ex.refl _) Q (fun H4 e4 => q H4 ((e2.trans e3).trans e4)) E
theorem el_call0 {sp : Sp} {vs xs : List V} {E : XK} {tr : TA} (h : EvA tr σ H vs) (hs : SpL sp vs H xs) : EvL (tCall sp [] E tr) σ H xs := el_call h (by rw [List.append_nil]; exact hs)
theorem el_eq {xs ys : List V} (h : EvL te σ H xs) (e : xs = ys) : EvL te σ H ys := by
  rw [← e]
  exact h
/-- a new list's own method, thrown away with it -/
theorem s_clearN {xs : List V} (h : EvL te σ H xs) (k : ∀ H1, Ex H H1 → D.nx σ H1) : tDrop (tBM0 K "list" rClear te) D σ H :=
  h H (Ex.refl H) _ fun p H1 hp e1 h1 => ⟨.inl ⟨rfl, _, SqL.of h1⟩, p, xs, rfl, rfl, h1, k _ (e1.mut hp)⟩
theorem s_reverseN {xs : List V} (h : EvL te σ H xs) (k : ∀ H1, Ex H H1 → D.nx σ H1) : tDrop (tBM0 K "list" rReverse te) D σ H :=
  h H (Ex.refl H) _ fun p H1 hp e1 h1 => ⟨.inl ⟨rfl, _, SqL.of h1⟩, p, xs, rfl, rfl, h1, k _ (e1.mut hp)⟩
/-- a call as a statement, nothing that stands is changed -/
theorem s_drop0' {v : V} (h : Ev te σ H v) (k : ∀ H1, Ex H H1 → D.nx σ H1) : tDrop te D σ H := h H (Ex.refl H) _ fun H1 e1 => k H1 e1
/-- if not f(a call that changes things, y): .. -/
theorem q_notCall2 {t1 t2 : TE} {sp : Sp} {E : XK} {R : V → Hp → Prop} (h1 : ∀ Q : VK, (∀ x H1, R x H1 → Q x H1) → t1 σ H Q) (h2 : ∀ x H1, R x H1 → ∃ y, Ev t2 σ H1 y ∧ SpV sp [x, y] H1 (.bl true) ∧ ∀ H2, Ex H1 H2 → tz D σ H2) : tSeq (tIfS (tNot (tB (tCall sp [] E (tCons t1 (tCons t2 tNil))))) tu tNext) tz D σ H :=
  h1 _ fun x H1 r => by
    obtain ⟨y, h3, h4, h5⟩ := h2 x H1 r
    exact h3 H1 (Ex.refl _) _ fun H2 e2 => h4 H2 e2 _ (fun H3 e3 => ⟨true, rfl, h5 H3 (e2.trans e3)⟩) E
end
end Own

/-! ### counts by history; plain Lean -/
namespace Own
open PySem L2
/-- what so many ageings leave of an entry -/
def ag (p t : Int) (o : Option (Int × Int)) : Option (Int × Int) := o.bind fun q => if agedI q.1 p t = 0 then none else some (agedI q.1 p t, q.2)
def Pos1 (s : Th) : Prop := ∀ e ∈ s.es, 1 ≤ e.2.1
theorem look_ageStep (k : Kd) (t : Int) (s : Th) (n m : Str) : look (k.ageStep t s n).es m = if m = n then ag s.part t (look s.es m) else look s.es m := by
  unfold Kd.ageStep
  by_cases h0 : agedI (cntE s.es n) s.part t = 0
  · rw [if_pos h0]
    show look (dropE s.es n) m = _
    rw [look_dropE]
    by_cases h : m = n
    · rw [if_pos h, if_pos h, h]
      unfold ag
      unfold cntE at h0
      cases e : look s.es n with
      | none => rfl
      | some q =>
        rw [e] at h0
        have h0 : agedI q.1 s.part t = 0 := h0
        show none = if _ then _ else _
        rw [if_pos h0]
    · rw [if_neg h, if_neg h]
  · rw [if_neg h0]
    show look (setC s.es n _) m = _
    rw [look_setC]
    by_cases h : m = n
    · rw [if_pos h, if_pos h, h]
      unfold ag
      unfold cntE at h0 ⊢
      cases e : look s.es n with
      | none => rfl
      | some q =>
        rw [e] at h0
        have h0 : ¬ agedI q.1 s.part t = 0 := h0
        show some _ = if _ then _ else _
        rw [if_neg h0]
        rfl
    · rw [if_neg h, if_neg h]
theorem look_fold (k : Kd) (t : Int) (m : Str) : ∀ (ns : List Str) (s : Th), ns.Nodup → look (ns.foldl (k.ageStep t) s).es m = if m ∈ ns then ag s.part t (look s.es m) else look s.es m
  | [], s, _ => by rw [if_neg (by simp)]; rfl
  | n :: r, s, hd => by
    rw [List.nodup_cons] at hd
    have ih := look_fold k t m r (k.ageStep t s n) hd.2
    have hp := (ageStep_core k t s n).2.1
    rw [List.foldl_cons, ih, look_ageStep, hp]
    by_cases h1 : m = n
    · have h2 : m ∉ r := by rw [h1]; exact hd.1
      rw [if_neg h2, if_pos h1, if_pos (by rw [h1]; exact List.mem_cons_self)]
    · rw [if_neg h1]
      by_cases h2 : m ∈ r
      · rw [if_pos h2, if_pos (List.mem_cons_of_mem _ h2)]
      · rw [if_neg h2, if_neg (fun q => (List.mem_cons.mp q).elim h1 h2)]
theorem pos_look {s : Th} (h : Pos1 s) {m : Str} {q : Int × Int} (e : look s.es m = some q) : 1 ≤ q.1 := h _ (mem_of_look e)
theorem agedI_0 (c p : Int) : agedI c p 0 = c := by
  unfold agedI
  show c / p ^ 0 = c
  rw [Int.pow_zero, Int.ediv_one]
theorem ag_0 {s : Th} (h : Pos1 s) (p : Int) (m : Str) : ag p 0 (look s.es m) = look s.es m := by
  unfold ag
  cases e : look s.es m with
  | none => rfl
  | some q =>
    have := pos_look h e
    show (if _ then _ else _) = _
    rw [agedI_0, if_neg (by omega)]
theorem times_nn {s : Th} (h : 0 < s.span) {n : Int} (hn : 0 ≤ n) : 0 ≤ s.times n := by
  unfold Th.times
  have := Int.ediv_le_ediv h (show s.time ≤ s.time + n by omega)
  omega
theorem look_spend {k : Kd} {s : Th} (w : WF k s) (hp : Pos1 s) {n : Int} (hn : 0 ≤ n) (m : Str) : look (k.spend s n).es m = ag s.part (s.times n) (look s.es m) := by
  unfold Kd.spend
  by_cases h : 0 < s.times n
  · rw [if_pos h, look_fold _ _ _ _ _ ((byLast_perm s.es).nodup_iff.mpr w.nd)]
    show (if m ∈ byLast s.es then ag s.part (s.times n) (look s.es m) else look s.es m) = _
    by_cases hm : m ∈ byLast s.es
    · rw [if_pos hm]
    · rw [if_neg hm]
      have h1 : m ∉ s.es.map (·.1) := fun q => hm ((byLast_perm s.es).mem_iff.mpr q)
      cases e : look s.es m with
      | none => rfl
      | some q => exact absurd (look_mem.mp (by rw [e]; rfl)) h1
  · rw [if_neg h]
    have : s.times n = 0 := by have := times_nn w.sp hn; omega
    rw [this]
    exact (ag_0 hp _ _).symm
theorem Pos1.ageStep {k : Kd} {s : Th} (h : Pos1 s) (w : WF k s) (t : Int) (n : Str) : Pos1 (k.ageStep t s n) := by
  unfold Kd.ageStep
  split
  · exact fun e he => h e ((List.filter_sublist (l := s.es)).subset he)
  · rename_i h0
    intro e he
    have nn := agedI_nn (t := t) (cntE_nn w.cn n) w.pt
    obtain ⟨a, ha, rfl⟩ := List.mem_map.mp he
    by_cases q : a.1 = n
    · simp only [q, if_true]
      omega
    · simp only [q, if_false]
      exact h a ha
theorem Pos1.fold {k : Kd} (t : Int) : ∀ (ns : List Str) {s : Th}, Pos1 s → WF k s → Pos1 (ns.foldl (k.ageStep t) s)
  | [], _, h, _ => h
  | n :: r, _, h, w => Pos1.fold t r (h.ageStep w t n) (w.ageStep t n)
theorem Pos1.spend {k : Kd} {s : Th} (h : Pos1 s) (w : WF k s) (n : Int) : Pos1 (k.spend s n) := by
  unfold Kd.spend
  split
  · exact Pos1.fold _ _ (s := { s with time := s.time + n }) h (w.time _)
  · exact h
theorem Pos1.act {k : Kd} {s : Th} (h : Pos1 s) (w : WF k s) {ns : List Str} {d : Deed} (g : d.Good ns) : Pos1 (k.act s d).2 := by
  cases d with
  | rest t => exact Pos1.spend (s := s.next) h w.next t
  | drop n =>
    have c := gone_core k s.next n "dropped"
    unfold Pos1
    show ∀ e ∈ (k.gone s.next n "dropped").2.es, _
    rw [c.1]
    exact h
  | ask n x =>
    have h1 := Pos1.spend (s := s.next) h w.next 1
    have w1 := w.next.spend 1
    have c := came_core k (k.spend s.next 1) n
    intro e he
    have he' : e ∈ putE (k.came (k.spend s.next 1) n).2.es n (cntE (k.came (k.spend s.next 1) n).2.es n + x, ((k.came (k.spend s.next 1) n).2.deed : Int)) := he
    rw [c.1] at he'
    have nn := cntE_nn w1.cn n
    have hx : 1 ≤ x := g.2.1
    unfold putE at he'
    split at he'
    · obtain ⟨a, ha, rfl⟩ := List.mem_map.mp he'
      by_cases q : a.1 = n
      · simp only [q, if_true]
        omega
      · simp only [q, if_false]
        exact h1 a ha
    · rcases List.mem_append.mp he' with q | q
      · exact h1 e q
      · rw [List.mem_singleton.mp q]
        show 1 ≤ _ + x
        omega
theorem pos0 (a b c : Int) : Pos1 (th0 a b c) := fun e he => by cases he
/-- one deed, one name -/
def nextO (p t : Int) (j : Int) (d : Deed) (m : Str) (o : Option (Int × Int)) : Option (Int × Int) :=
  match d with
  | .ask n w => if m = n then some (((ag p t o).map (·.1)).getD 0 + w, j) else ag p t o
  | _ => ag p t o
theorem look_act {k : Kd} {s : Th} (w : WF k s) (hp : Pos1 s) {ns : List Str} {d : Deed} (g : d.Good ns) (m : Str) : look (k.act s d).2.es m = nextO s.part (s.times d.steps) ((s.deed : Int) + 1) d m (look s.es m) := by
  cases d with
  | rest t => exact look_spend (s := s.next) w.next hp g.1 m
  | drop n =>
    have c := gone_core k s.next n "dropped"
    show look (k.gone s.next n "dropped").2.es m = ag s.part (s.times 0) (look s.es m)
    rw [c.1]
    have : s.times 0 = 0 := by unfold Th.times; rw [Int.add_zero]; omega
    rw [this, ag_0 hp]
    rfl
  | ask n x =>
    have l1 := fun m => look_spend (s := s.next) w.next hp (show (0 : Int) ≤ 1 by decide) m
    have c := came_core k (k.spend s.next 1) n
    have sc := spend_core k s.next 1
    show look (putE (k.came (k.spend s.next 1) n).2.es n (cntE (k.came (k.spend s.next 1) n).2.es n + x, ((k.came (k.spend s.next 1) n).2.deed : Int))) m = _
    rw [c.1, c.2.2.2.2.1, sc.2.2.2.1, look_putE]
    show _ = if m = n then some (((ag s.part (s.times 1) (look s.es m)).map (·.1)).getD 0 + x, (s.deed : Int) + 1) else ag s.part (s.times 1) (look s.es m)
    by_cases h : m = n
    · rw [if_pos h, if_pos h]
      unfold cntE
      rw [l1 n, h]
      rfl
    · rw [if_neg h, if_neg h]
      exact l1 m
/-- the states of a history -/
def runTo (k : Kd) (s0 : Th) (ds : List Deed) : Th := ds.foldl (fun s d => (k.act s d).2) s0
theorem runTo_succ {k : Kd} {s0 : Th} {ds : List Deed} {i : Nat} {d : Deed} (h : ds[i]? = some d) : runTo k s0 (ds.take (i + 1)) = (k.act (runTo k s0 (ds.take i)) d).2 := by
  unfold runTo
  rw [List.take_add_one, h, List.foldl_append]
  rfl
structure Fine (k : Kd) (s0 s : Th) (i : Nat) : Prop where
  wf : WF k s
  pos : Pos1 s
  deed : s.deed = s0.deed + i
  span : s.span = s0.span
  part : s.part = s0.part
  places : s.places = s0.places
theorem fine {k : Kd} {s0 : Th} (w : WF k s0) (hp : Pos1 s0) {ns : List Str} {ds : List Deed} (g : ∀ d ∈ ds, d.Good ns) : ∀ i, i ≤ ds.length → Fine k s0 (runTo k s0 (ds.take i)) i
  | 0, _ => ⟨w, hp, rfl, rfl, rfl, rfl⟩
  | i + 1, h => by
    obtain ⟨d, hd⟩ : ∃ d, ds[i]? = some d := ⟨_, List.getElem?_eq_getElem (by omega)⟩
    have f := fine w hp g i (by omega)
    have gd := g d (List.mem_of_getElem? hd)
    have c := act_core k (runTo k s0 (ds.take i)) d
    rw [runTo_succ hd]
    exact ⟨f.wf.act gd, f.pos.act f.wf gd, by rw [c.2.2.2.1, f.deed]; omega, c.1.trans f.span, c.2.1.trans f.part, c.2.2.2.2.trans f.places⟩
/-! counts and last askings by entries -/
def lastO : Option (Int × Int) → V
  | some p => .int p.2
  | none => .non
def lastV (es : List Ent) (n : Str) : V := lastO (look es n)
theorem cnt_ag (p t : Int) (o : Option (Int × Int)) : ((ag p t o).map (·.1)).getD 0 = agedI ((o.map (·.1)).getD 0) p t := by
  cases o with
  | none => show (0 : Int) = agedI 0 p t; unfold agedI; rw [Int.zero_ediv]
  | some q =>
    show ((if agedI q.1 p t = 0 then none else some (agedI q.1 p t, q.2) : Option (Int × Int)).map (·.1)).getD 0 = agedI q.1 p t
    by_cases h : agedI q.1 p t = 0
    · rw [if_pos h, h]; rfl
    · rw [if_neg h]; rfl
theorem last_ag (p t : Int) (o : Option (Int × Int)) : lastO (ag p t o) = if agedI ((o.map (·.1)).getD 0) p t = 0 then .non else lastO o := by
  cases o with
  | none =>
    have : agedI 0 p t = 0 := by unfold agedI; rw [Int.zero_ediv]
    show V.non = if agedI 0 p t = 0 then V.non else _
    rw [if_pos this]
  | some q =>
    show lastO (if agedI q.1 p t = 0 then none else some (agedI q.1 p t, q.2)) = if agedI q.1 p t = 0 then .non else _
    by_cases h : agedI q.1 p t = 0
    · rw [if_pos h, if_pos h]; rfl
    · rw [if_neg h, if_neg h]; rfl
/-- what is left of a name's count when the ageings of a deed are done -/
def beh (s : Th) (d : Deed) (n : Str) : Int := agedI (cntE s.es n) s.part (s.times d.steps)
theorem beh_nn {k : Kd} {s : Th} (w : WF k s) (d : Deed) (n : Str) : 0 ≤ beh s d n := agedI_nn (cntE_nn w.cn n) w.pt
theorem cnt_act {k : Kd} {s : Th} (w : WF k s) (hp : Pos1 s) {ns : List Str} {d : Deed} (g : d.Good ns) (n : Str) : cntE (k.act s d).2.es n = match d with
    | .ask m x => if n = m then beh s d n + x else beh s d n
    | _ => beh s d n := by
  unfold cntE
  rw [look_act w hp g]
  unfold nextO beh
  cases d with
  | ask m x =>
    dsimp only
    by_cases h : n = m
    · rw [if_pos h, if_pos h]
      show ((ag s.part (s.times 1) (look s.es n)).map (·.1)).getD 0 + x = _
      rw [cnt_ag]
      rfl
    · rw [if_neg h, if_neg h, cnt_ag]
      rfl
  | drop m => exact cnt_ag _ _ _
  | rest t => exact cnt_ag _ _ _
theorem last_act {k : Kd} {s : Th} (w : WF k s) (hp : Pos1 s) {ns : List Str} {d : Deed} (g : d.Good ns) (n : Str) : lastV (k.act s d).2.es n = match d with
    | .ask m _ => if n = m then .int ((s.deed : Int) + 1) else if beh s d n = 0 then .non else lastV s.es n
    | _ => if beh s d n = 0 then .non else lastV s.es n := by
  unfold lastV
  rw [look_act w hp g]
  unfold nextO beh cntE
  cases d with
  | ask m x =>
    dsimp only
    by_cases h : n = m
    · rw [if_pos h, if_pos h]; rfl
    · rw [if_neg h, if_neg h]
      exact last_ag _ _ _
  | drop m => exact last_ag _ _ _
  | rest t => exact last_ag _ _ _
theorem cnt0 (a b c : Int) (n : Str) : cntE (th0 a b c).es n = 0 := rfl
theorem last0 (a b c : Int) (n : Str) : lastV (th0 a b c).es n = .non := rfl
/-- the rows of a name's life -/
def lifeRow (k : Kd) (s : Th) (d : Deed) (n : Str) : List V := [.int (beh s d n), .int (cntE (k.act s d).2.es n), lastV (k.act s d).2.es n]
def lifeRows (k : Kd) (s0 : Th) (ds : List Deed) (n : Str) : List (List V) := (List.range ds.length).map fun i => match ds[i]? with
  | some d => lifeRow k (runTo k s0 (ds.take i)) d n
  | none => []
theorem lifeRows_at {k : Kd} {s0 : Th} {ds : List Deed} {n : Str} {i : Nat} {d : Deed} (h : ds[i]? = some d) : (lifeRows k s0 ds n)[i]? = some (lifeRow k (runTo k s0 (ds.take i)) d n) := by
  have hi : i < ds.length := (List.getElem?_eq_some_iff.mp h).1
  unfold lifeRows
  rw [List.getElem?_map, List.getElem?_range hi, Option.map_some, h]
theorem lifeRows_len {k : Kd} {s0 : Th} {ds : List Deed} {n : Str} : (lifeRows k s0 ds n).length = ds.length := by
  unfold lifeRows
  rw [List.length_map, List.length_range]
/-- who is there has a count -/
theorem pos_iff {s : Th} (hp : Pos1 s) (n : Str) : 0 < cntE s.es n ↔ n ∈ s.es.map (·.1) := by
  unfold cntE
  constructor
  · intro h
    cases e : look s.es n with
    | none => rw [e] at h; exact absurd h (by decide)
    | some q => exact look_mem.mp (by rw [e]; rfl)
  · intro h
    have := look_mem.mpr h
    cases e : look s.es n with
    | none => rw [e] at this; cases this
    | some q => exact pos_look hp e
theorem last_mem {s : Th} {n : Str} (h : n ∈ s.es.map (·.1)) : lastV s.es n = .int (lstE s.es n) := by
  have := look_mem.mpr h
  unfold lastV lstE
  cases e : look s.es n with
  | none => rw [e] at this; cases this
  | some q => rfl
end Own

/-! ### tuples sorted; plain Lean -/
namespace Own
open PySem L2
def trip (es : List Ent) (n : Str) : PyData := .tuple [.int (cntE es n), .int (lstE es n), .str n]
theorem alike_i (a b : Int) : PySem.W.alike (.int a) (.int b) = true := by simp only [PySem.W.alike]
theorem alike_s (a b : Str) : PySem.W.alike (.str a) (.str b) = true := by simp only [PySem.W.alike]
theorem lt_trip (c l c' l' : Int) (n n' : Str) : PySem.W.dataLt (.tuple [.int c, .int l, .str n]) (.tuple [.int c', .int l', .str n']) = if c = c' then (if l = l' then (if n = n' then false else decide (n.cps.toList < n'.cps.toList)) else decide (l < l')) else decide (c < c') := by
  rw [PySem.W.dataLt_tuple, PySem.W.dataLt_cons (alike_i _ _), PySem.W.dataLt_cons (alike_i _ _), PySem.W.dataLt_cons (alike_s _ _), PySem.W.dataLt_int, PySem.W.dataLt_int, PySem.W.dataLt_str]
  have e : PyProof.Rows.lexLt PyProof.Rows.itemOrd (PySem.W.keyToksAll []) (PySem.W.keyToksAll []) = false := PyProof.Rows.lex_irrefl _
  rw [e]
  have e1 : ∀ a b : Int, (PyData.eqv (.int a) (.int b) = true) = (a = b) := fun a b => by simp [PyData.eqv]
  have e2 : ∀ a b : Str, (PyData.eqv (.str a) (.str b) = true) = (a = b) := fun a b => by simp [PyData.eqv]
  simp only [e1, e2]
theorem le_sorted (l : List PyData) : (l.mergeSort (PySem.W.dataLe false id)).Pairwise fun x y => PySem.W.dataLt y x = false := by
  have t := PySem.W.sortLe_total (PyProof.Rows.listOrd PyProof.Rows.itemOrd) false (fun b : PyData => PySem.W.keyToks b)
  have := List.pairwise_mergeSort (le := PySem.W.dataLe false id) (fun a b c h1 h2 => t.trans a b c h1 h2) (fun a b => (Bool.or_eq_true _ _).mpr (t.total a b)) l
  exact this.imp fun {a b} h => by
    have h' : (!PySem.W.dataLt b a) = true := h
    rwa [Bool.not_eq_true'] at h'
theorem sort_trip {es : List Ent} (inj : ∀ m n, m ∈ es.map (·.1) → n ∈ es.map (·.1) → lstE es m = lstE es n → m = n) {ns : List Str} (hn : ∀ n ∈ ns, n ∈ es.map (·.1)) : (ns.map (trip es)).mergeSort (PySem.W.dataLe false id) = (sortR es ns).map (trip es) := by
  have p1 : ((ns.map (trip es)).mergeSort (PySem.W.dataLe false id)).Perm (ns.map (trip es)) := List.mergeSort_perm _ _
  have p2 : ((sortR es ns).map (trip es)).Perm (ns.map (trip es)) := (sortR_perm es ns).map _
  refine sorted_uniq (lt := PySem.W.dataLt) (f := id) (p1.trans p2.symm) (le_sorted _) ?_ fun x hx y hy a b => ?_
  · rw [List.pairwise_map]
    refine (sortR_sorted es ns).imp_of_mem fun {a b} ha hb h => ?_
    show PySem.W.dataLt (trip es b) (trip es a) = false
    unfold trip
    rw [lt_trip]
    rw [lexQ_no] at h
    unfold rankE at h
    dsimp only at h
    by_cases h1 : cntE es b = cntE es a
    · rw [if_pos h1]
      by_cases h2 : lstE es b = lstE es a
      · rw [if_pos h2, if_pos (inj b a (hn _ ((sortR_perm es ns).mem_iff.mp hb)) (hn _ ((sortR_perm es ns).mem_iff.mp ha)) h2)]
      · rw [if_neg h2, decide_eq_false_iff_not]
        omega
    · rw [if_neg h1, decide_eq_false_iff_not]
      omega
  · obtain ⟨m, hm, rfl⟩ := List.mem_map.mp (p1.mem_iff.mp hx)
    obtain ⟨n, hn', rfl⟩ := List.mem_map.mp (p1.mem_iff.mp hy)
    have a : PySem.W.dataLt (trip es m) (trip es n) = false := a
    have b : PySem.W.dataLt (trip es n) (trip es m) = false := b
    unfold trip at a b
    rw [lt_trip] at a b
    have h1 : cntE es m = cntE es n := by
      by_cases q : cntE es m = cntE es n
      · exact q
      · rw [if_neg q, decide_eq_false_iff_not] at a
        rw [if_neg (fun r => q r.symm), decide_eq_false_iff_not] at b
        omega
    have h2 : lstE es m = lstE es n := by
      by_cases q : lstE es m = lstE es n
      · exact q
      · rw [if_pos h1, if_neg q, decide_eq_false_iff_not] at a
        rw [if_pos h1.symm, if_neg (fun r => q r.symm), decide_eq_false_iff_not] at b
        omega
    rw [inj m n (hn _ hm) (hn _ hn') h2]
end Own

/-! ### what a spending does to a shelf; plain Lean -/
namespace Own
open PySem L2
/-- the name fades -/
def fadesB (s : Th) (t : Int) (n : Str) : Bool := decide (agedI (cntE s.es n) s.part t = 0)
def fadeG (s : Th) (n : Str) : Going := ⟨s.deed, n, "faded", 0, lstE s.es n⟩
theorem cnt_step {k : Kd} {t : Int} {s : Th} {n m : Str} (h : m ≠ n) : cntE (k.ageStep t s n).es m = cntE s.es m ∧ lstE (k.ageStep t s n).es m = lstE s.es m := by
  unfold cntE lstE
  rw [look_ageStep, if_neg h]
  exact ⟨rfl, rfl⟩
theorem step_st {t : Int} {s : Th} {n : Str} : (Kd.shelf.ageStep t s n).st = s.st.filter fun m => !(decide (m = n) && fadesB s t m) := by
  unfold Kd.ageStep fadesB
  by_cases h0 : agedI (cntE s.es n) s.part t = 0
  · rw [if_pos h0]
    show (Kd.shelf.gone { s with es := setC s.es n (agedI (cntE s.es n) s.part t) } n "faded").2.st = _
    unfold Kd.gone
    dsimp only
    by_cases hn : n ∈ s.st
    · rw [if_pos hn]
      show s.st.filter _ = _
      apply List.filter_congr
      intro m _
      by_cases q : m = n
      · simp [q, h0]
      · simp [q]
    · rw [if_neg hn]
      show s.st = _
      symm
      rw [List.filter_eq_self]
      intro m hm
      have : m ≠ n := fun q => hn (q ▸ hm)
      simp [this]
  · rw [if_neg h0]
    show s.st = _
    symm
    rw [List.filter_eq_self]
    intro m hm
    by_cases q : m = n
    · simp [q, h0]
    · simp [q]
theorem step_went {t : Int} {s : Th} {n : Str} (hn : n ∈ s.es.map (·.1)) : (Kd.shelf.ageStep t s n).went = s.went ++ (if (fadesB s t n && decide (n ∈ s.st)) = true then [fadeG s n] else []) := by
  unfold Kd.ageStep fadesB
  by_cases h0 : agedI (cntE s.es n) s.part t = 0
  · rw [if_pos h0, decide_eq_true h0]
    show (Kd.shelf.gone { s with es := setC s.es n (agedI (cntE s.es n) s.part t) } n "faded").2.went = _
    unfold Kd.gone
    dsimp only
    by_cases hs : n ∈ s.st
    · rw [if_pos hs, decide_eq_true hs, if_pos (show (true && true) = true from rfl)]
      show s.went ++ [_] = _
      congr 2
      unfold fadeG cntE lstE
      rw [look_setC, if_pos rfl]
      have := look_mem.mpr hn
      unfold cntE at h0
      cases e : look s.es n with
      | none => rw [e] at this; cases this
      | some q =>
        rw [e] at h0
        show (⟨s.deed, n, "faded", agedI q.1 s.part t, q.2⟩ : Going) = ⟨s.deed, n, "faded", 0, q.2⟩
        rw [show agedI q.1 s.part t = 0 from h0]
    · rw [if_neg hs, decide_eq_false hs, if_neg (by simp)]
      show s.went = _
      rw [List.append_nil]
  · rw [if_neg h0, decide_eq_false h0, if_neg (by simp)]
    show s.went = _
    rw [List.append_nil]
theorem fold_shelf (t : Int) : ∀ (ns : List Str) (s : Th), ns.Nodup → (∀ n ∈ ns, n ∈ s.es.map (·.1)) →
    (ns.foldl (Kd.shelf.ageStep t) s).st = s.st.filter (fun m => !(decide (m ∈ ns) && fadesB s t m)) ∧ (ns.foldl (Kd.shelf.ageStep t) s).went = s.went ++ (ns.filter fun n => fadesB s t n && decide (n ∈ s.st)).map (fadeG s)
  | [], s, _, _ => ⟨(List.filter_eq_self.mpr fun m _ => by simp).symm, by simp⟩
  | n :: r, s, hd, hin => by
    rw [List.nodup_cons] at hd
    have hr : ∀ m ∈ r, m ≠ n := fun m hm q => hd.1 (q ▸ hm)
    have core := ageStep_core .shelf t s n
    obtain ⟨h1, h2⟩ := fold_shelf t r (Kd.shelf.ageStep t s n) hd.2 (fun m hm => keys_ageStep (hin m (List.mem_cons_of_mem _ hm)) (hr m hm))
    have hn := hin n List.mem_cons_self
    have hf : ∀ m, m ≠ n → fadesB (Kd.shelf.ageStep t s n) t m = fadesB s t m := fun m hm => by
      unfold fadesB
      rw [(cnt_step hm).1, core.2.1]
    have hg : ∀ m, m ≠ n → fadeG (Kd.shelf.ageStep t s n) m = fadeG s m := fun m hm => by
      unfold fadeG
      rw [(cnt_step hm).2, core.2.2.2.1]
    refine ⟨?_, ?_⟩
    · rw [List.foldl_cons, h1, step_st, List.filter_filter]
      apply List.filter_congr
      intro m _
      by_cases q : m = n
      · simp [q, hd.1]
      · simp [q, hf m q]
    · rw [List.foldl_cons, h2, step_went hn, List.append_assoc]
      congr 1
      rw [List.filter_cons]
      have e1 : (r.filter fun m => fadesB (Kd.shelf.ageStep t s n) t m && decide (m ∈ (Kd.shelf.ageStep t s n).st)).map (fadeG (Kd.shelf.ageStep t s n)) = (r.filter fun m => fadesB s t m && decide (m ∈ s.st)).map (fadeG s) := by
        have e2 : (r.filter fun m => fadesB (Kd.shelf.ageStep t s n) t m && decide (m ∈ (Kd.shelf.ageStep t s n).st)) = r.filter fun m => fadesB s t m && decide (m ∈ s.st) := by
          apply List.filter_congr
          intro m hm
          rw [hf m (hr m hm), step_st]
          congr 1
          rw [decide_eq_decide, List.mem_filter]
          simp [hr m hm]
        rw [e2]
        apply List.map_congr_left
        intro m hm
        exact hg m (hr m (List.mem_filter.mp hm).1)
      rw [e1]
      split
      · rfl
      · rfl
theorem fades_0 {s : Th} (hp : Pos1 s) {m : Str} (hm : m ∈ s.es.map (·.1)) : fadesB s 0 m = false := by
  unfold fadesB
  rw [agedI_0, decide_eq_false_iff_not]
  have := (pos_iff hp m).mpr hm
  omega
/-- a shelf's spending: what stands, what went -/
theorem spend_shelf {s : Th} (w : WF .shelf s) (hp : Pos1 s) {n : Int} (hn : 0 ≤ n) :
    (Kd.shelf.spend s n).st = s.st.filter (fun m => !fadesB s (s.times n) m) ∧ (Kd.shelf.spend s n).went = s.went ++ ((byLast s.es).filter fun m => fadesB s (s.times n) m && decide (m ∈ s.st)).map (fadeG s) := by
  unfold Kd.spend
  by_cases h : 0 < s.times n
  · rw [if_pos h]
    obtain ⟨h1, h2⟩ := fold_shelf (s.times n) (byLast s.es) { s with time := s.time + n } ((byLast_perm s.es).nodup_iff.mpr w.nd) (fun m hm => (byLast_perm s.es).mem_iff.mp hm)
    refine ⟨?_, h2⟩
    rw [h1]
    show s.st.filter _ = _
    apply List.filter_congr
    intro m hm
    have : m ∈ byLast s.es := (byLast_perm s.es).mem_iff.mpr (w.sin m hm)
    rw [decide_eq_true this]
    rfl
  · rw [if_neg h]
    have h0 : s.times n = 0 := by have := times_nn w.sp hn; omega
    rw [h0]
    refine ⟨?_, ?_⟩
    · show s.st = _
      symm
      rw [List.filter_eq_self]
      intro m hm
      rw [fades_0 hp (w.sin m hm)]
      rfl
    · show s.went = _
      have : ((byLast s.es).filter fun m => fadesB s 0 m && decide (m ∈ s.st)) = [] := by
        rw [List.filter_eq_nil_iff]
        intro m hm
        rw [fades_0 hp ((byLast_perm s.es).mem_iff.mp hm)]
        simp
      rw [this]
      simp
/-- one, then more: together -/
theorem times_add (s : Th) (a b : Int) : s.times (a + b) = s.times a + { s with time := s.time + a }.times b := by
  unfold Th.times
  show (s.time + (a + b)) / s.span - s.time / s.span = (s.time + a) / s.span - s.time / s.span + ((s.time + a + b) / s.span - (s.time + a) / s.span)
  rw [← Int.add_assoc]
  omega
theorem agedI_add {c p a b : Int} (hc : 0 ≤ c) (hp : 2 ≤ p) (ha : 0 ≤ a) (hb : 0 ≤ b) : agedI (agedI c p a) p b = agedI c p (a + b) := by
  unfold agedI
  rw [Int.ediv_ediv_of_nonneg (Int.le_of_lt (Int.pow_pos (by omega))), ← Int.pow_add]
  congr 2
  omega
theorem ag_add {p a b : Int} {o : Option (Int × Int)} (hc : ∀ q, o = some q → 0 ≤ q.1) (hp : 2 ≤ p) (ha : 0 ≤ a) (hb : 0 ≤ b) : ag p b (ag p a o) = ag p (a + b) o := by
  cases o with
  | none => rfl
  | some q =>
    have h0 := hc q rfl
    have e := agedI_add h0 hp ha hb
    show ag p b (if agedI q.1 p a = 0 then none else some (agedI q.1 p a, q.2)) = if agedI q.1 p (a + b) = 0 then none else some (agedI q.1 p (a + b), q.2)
    by_cases h : agedI q.1 p a = 0
    · rw [if_pos h]
      rw [h] at e
      have z : agedI 0 p b = 0 := by unfold agedI; rw [Int.zero_ediv]
      rw [z] at e
      rw [if_pos e.symm]
      rfl
    · rw [if_neg h]
      show (if agedI (agedI q.1 p a) p b = 0 then none else some (agedI (agedI q.1 p a) p b, q.2)) = _
      rw [e]
end Own

/-! ### two shelves that differ by their deeds' numbers alone; plain Lean -/
namespace Own
open PySem L2
structure Rel (s t : Th) : Prop where
  span : s.span = t.span
  part : s.part = t.part
  time : s.time = t.time
  places : s.places = t.places
  st : s.st = t.st
  cnt : ∀ m, (look s.es m).map (·.1) = (look t.es m).map (·.1)
  ord : ∀ m n, m ∈ s.es.map (·.1) → n ∈ s.es.map (·.1) → (lstE s.es m < lstE s.es n ↔ lstE t.es m < lstE t.es n)
def tri (g : Going) : Str × Str × Int := (g.name, g.reason, g.count)
theorem Rel.c {s t : Th} (r : Rel s t) (m : Str) : cntE s.es m = cntE t.es m := by
  unfold cntE
  rw [r.cnt]
theorem Rel.k {s t : Th} (r : Rel s t) (m : Str) : m ∈ s.es.map (·.1) ↔ m ∈ t.es.map (·.1) := by
  have h := congrArg Option.isSome (r.cnt m)
  rw [Option.isSome_map, Option.isSome_map] at h
  rw [← look_mem, ← look_mem, h]
theorem Rel.lex {s t : Th} (r : Rel s t) {m n : Str} (hm : m ∈ s.es.map (·.1)) (hn : n ∈ s.es.map (·.1)) : lexQ (rankE s.es m) (rankE s.es n) = lexQ (rankE t.es m) (rankE t.es n) := by
  unfold lexQ rankE
  dsimp only
  rw [r.c m, r.c n]
  have := r.ord m n hm hn
  split
  · exact decide_eq_decide.mpr this
  · rfl
theorem lst_one {k : Kd} {s : Th} (w : WF k s) {m n : Str} (hm : m ∈ s.es.map (·.1)) (hn : n ∈ s.es.map (·.1)) (h : lstE s.es m = lstE s.es n) : m = n := by
  obtain ⟨a, ha, rfl⟩ := List.mem_map.mp hm
  obtain ⟨b, hb, rfl⟩ := List.mem_map.mp hn
  have e1 : lstE s.es a.1 = a.2.2 := by unfold lstE; rw [look_of_mem w.nd ha]; rfl
  have e2 : lstE s.es b.1 = b.2.2 := by unfold lstE; rw [look_of_mem w.nd hb]; rfl
  rw [e1, e2] at h
  have : ∀ {l : List Ent}, (l.map fun e => e.2.2).Nodup → ∀ {a b : Ent}, a ∈ l → b ∈ l → a.2.2 = b.2.2 → a = b := by
    intro l
    induction l with
    | nil => intro _ a b ha; cases ha
    | cons c l ih =>
      intro hd a b ha' hb' he
      rw [List.map_cons, List.nodup_cons] at hd
      rcases List.mem_cons.mp ha' with q1 | q1
      · rcases List.mem_cons.mp hb' with q2 | q2
        · rw [q1, q2]
        · rw [q1] at he
          exact absurd (List.mem_map.mpr ⟨b, q2, he.symm⟩) hd.1
      · rcases List.mem_cons.mp hb' with q2 | q2
        · rw [q2] at he
          exact absurd (List.mem_map.mpr ⟨a, q1, he⟩) hd.1
        · exact ih hd.2 q1 q2 he
  rw [this w.ls ha hb h]
theorem Rel.sort {k : Kd} {s t : Th} (r : Rel s t) (w : WF k s) {ns : List Str} (hn : ∀ n ∈ ns, n ∈ s.es.map (·.1)) : sortR s.es ns = sortR t.es ns := by
  refine sorted_uniq (lt := lexQ) (f := rankE s.es) ((sortR_perm s.es ns).trans (sortR_perm t.es ns).symm) (sortR_sorted s.es ns) ?_ fun x hx y hy a b => ?_
  · refine (sortR_sorted t.es ns).imp_of_mem fun {x y} hx hy h => ?_
    rw [r.lex (hn _ ((sortR_perm t.es ns).mem_iff.mp hy)) (hn _ ((sortR_perm t.es ns).mem_iff.mp hx))]
    exact h
  · rw [lexQ_no] at a b
    have e : (rankE s.es x).2 = (rankE s.es y).2 := by omega
    exact lst_one w (hn _ ((sortR_perm s.es ns).mem_iff.mp hx)) (hn _ ((sortR_perm s.es ns).mem_iff.mp hy)) e
theorem Rel.weak {s t : Th} (r : Rel s t) (w : WF .shelf s) : weakest s = weakest t := by
  unfold weakest
  rw [r.sort w w.sin, r.st]
theorem Rel.fades {s t : Th} (r : Rel s t) (n : Int) (m : Str) : fadesB s n m = fadesB t n m := by
  unfold fadesB
  rw [r.c, r.part]
theorem map_ag {p n : Int} {o o2 : Option (Int × Int)} (h : o.map (·.1) = o2.map (·.1)) : (ag p n o).map (·.1) = (ag p n o2).map (·.1) := by
  cases o with
  | none =>
    cases o2 with
    | none => rfl
    | some q => cases h
  | some q =>
    cases o2 with
    | none => cases h
    | some q2 =>
      have h : q.1 = q2.1 := Option.some.inj h
      show (if agedI q.1 p n = 0 then none else some (agedI q.1 p n, q.2) : Option (Int × Int)).map _ = (if agedI q2.1 p n = 0 then none else some (agedI q2.1 p n, q2.2) : Option (Int × Int)).map _
      rw [h]
      split <;> rfl
theorem ag_snd {p n : Int} {o : Option (Int × Int)} (h : (ag p n o).isSome = true) : ((ag p n o).map (·.2)).getD 0 = (o.map (·.2)).getD 0 ∧ o.isSome = true := by
  cases o with
  | none => cases h
  | some q =>
    have h : (if agedI q.1 p n = 0 then none else some (agedI q.1 p n, q.2) : Option (Int × Int)).isSome = true := h
    show ((if agedI q.1 p n = 0 then none else some (agedI q.1 p n, q.2) : Option (Int × Int)).map _).getD 0 = q.2 ∧ _
    by_cases e : agedI q.1 p n = 0
    · rw [if_pos e] at h; cases h
    · rw [if_neg e]; exact ⟨rfl, rfl⟩
/-- look told for both: related again -/
theorem rel_of {s t s2 t2 : Th} (r : Rel s t) {p n : Int} (h1 : s2.span = s.span ∧ s2.part = s.part ∧ s2.places = s.places) (h2 : t2.span = t.span ∧ t2.part = t.part ∧ t2.places = t.places) (ht : s2.time = t2.time) (hst : s2.st = t2.st)
    (l1 : ∀ m, look s2.es m = ag p n (look s.es m)) (l2 : ∀ m, look t2.es m = ag p n (look t.es m)) : Rel s2 t2 where
  span := h1.1.trans (r.span.trans h2.1.symm)
  part := h1.2.1.trans (r.part.trans h2.2.1.symm)
  time := ht
  places := h1.2.2.trans (r.places.trans h2.2.2.symm)
  st := hst
  cnt := fun m => by rw [l1, l2]; exact map_ag (r.cnt m)
  ord := fun m n' hm hn => by
    have k1 := look_mem.mpr hm
    have k2 := look_mem.mpr hn
    have key : ∀ {m}, (look s2.es m).isSome = true → lstE s2.es m = lstE s.es m ∧ lstE t2.es m = lstE t.es m ∧ m ∈ s.es.map (·.1) := by
      intro m hm
      have h3 := hm
      rw [l1] at h3
      have a := ag_snd h3
      have h4 : (ag p n (look t.es m)).isSome = true := by
        have := congrArg Option.isSome (map_ag (p := p) (n := n) (r.cnt m))
        rw [Option.isSome_map, Option.isSome_map] at this
        rw [← this]
        exact h3
      have b := ag_snd h4
      refine ⟨?_, ?_, look_mem.mp a.2⟩
      · unfold lstE; rw [l1]; exact a.1
      · unfold lstE; rw [l2]; exact b.1
    obtain ⟨a1, a2, a3⟩ := key k1
    obtain ⟨b1, b2, b3⟩ := key k2
    rw [a1, a2, b1, b2]
    exact r.ord m n' a3 b3
theorem Rel.deed {s t : Th} (r : Rel s t) (i j : Nat) : Rel { s with deed := i } { t with deed := j } := ⟨r.span, r.part, r.time, r.places, r.st, r.cnt, r.ord⟩
theorem Rel.spend {s t : Th} (r : Rel s t) (w : WF .shelf s) (v : WF .shelf t) (p : Pos1 s) (q : Pos1 t) {n : Int} (hn : 0 ≤ n) : Rel (Kd.shelf.spend s n) (Kd.shelf.spend t n) := by
  have c1 := spend_core .shelf s n
  have c2 := spend_core .shelf t n
  have ht : s.times n = t.times n := by unfold Th.times; rw [r.span, r.time]
  refine rel_of r (p := s.part) (n := s.times n) ⟨c1.1, c1.2.1, c1.2.2.2.2⟩ ⟨c2.1, c2.2.1, c2.2.2.2.2⟩ (by rw [c1.2.2.1, c2.2.2.1, r.time]) ?_ (look_spend w p hn) (fun m => by rw [look_spend v q hn, r.part, ht])
  rw [(spend_shelf w p hn).1, (spend_shelf v q hn).1, r.st, ht]
  apply List.filter_congr
  intro m _
  rw [r.fades]
/-- what fades, by name -/
def fadeL (s : Th) (n : Int) : List Going := ((byLast s.es).filter fun m => fadesB s (s.times n) m && decide (m ∈ s.st)).map (fadeG s)
theorem fadeL_perm {s : Th} (w : WF .shelf s) (n : Int) : ((fadeL s n).map tri).Perm ((s.st.filter fun m => fadesB s (s.times n) m).map fun m => (m, ("faded" : Str), (0 : Int))) := by
  unfold fadeL
  rw [List.map_map]
  have h : ((byLast s.es).filter fun m => fadesB s (s.times n) m && decide (m ∈ s.st)).Perm (s.st.filter fun m => fadesB s (s.times n) m) := by
    refine (List.perm_ext_iff_of_nodup (nodup_filter _ ((byLast_perm s.es).nodup_iff.mpr w.nd)) (nodup_filter _ w.snd)).mpr fun m => ?_
    rw [List.mem_filter, List.mem_filter, Bool.and_eq_true, decide_eq_true_eq]
    exact ⟨fun h => ⟨h.2.2, h.2.1⟩, fun h => ⟨(byLast_perm s.es).mem_iff.mpr (w.sin m h.1), h.2, h.1⟩⟩
  exact h.map _
/-- a rest at once, and in two parts -/
theorem rest_two {s t : Th} (r : Rel s t) (w : WF .shelf s) (v : WF .shelf t) (p : Pos1 s) (q : Pos1 t) {a b : Int} (ha : 0 ≤ a) (hb : 0 ≤ b) :
    Rel (Kd.shelf.rest s (a + b)).2 (Kd.shelf.rest (Kd.shelf.rest t a).2 b).2 ∧ (Kd.shelf.rest s (a + b)).1 = (Kd.shelf.rest t a).1 + (Kd.shelf.rest (Kd.shelf.rest t a).2 b).1 ∧
    ∃ A B : List Going, (Kd.shelf.rest s (a + b)).2.went = s.went ++ A ∧ (Kd.shelf.rest (Kd.shelf.rest t a).2 b).2.went = t.went ++ B ∧ (A.map tri).Perm (B.map tri) := by
  have w1 := w.next
  have v1 := v.next
  have v2 : WF .shelf (Kd.shelf.spend t.next a) := v1.spend a
  have v3 := v2.next
  have q1 : Pos1 t.next := q
  have q2 : Pos1 (Kd.shelf.spend t.next a) := q1.spend v1 a
  have q3 : Pos1 (Kd.shelf.spend t.next a).next := q2
  have p1 : Pos1 s.next := p
  have c0 := spend_core .shelf s.next (a + b)
  have c1 := spend_core .shelf t.next a
  have c2 := spend_core .shelf (Kd.shelf.spend t.next a).next b
  have e1 : (Kd.shelf.spend t.next a).next.times b = { t with time := t.time + a }.times b := by
    unfold Th.times
    show ((Kd.shelf.spend t.next a).time + b) / (Kd.shelf.spend t.next a).span - (Kd.shelf.spend t.next a).time / (Kd.shelf.spend t.next a).span = _
    rw [c1.1, c1.2.2.1]
    rfl
  have e0 : s.next.times (a + b) = t.next.times a + (Kd.shelf.spend t.next a).next.times b := by
    rw [e1]
    have : s.next.times (a + b) = t.times (a + b) := by
      unfold Th.times
      show (s.time + (a + b)) / s.span - s.time / s.span = _
      rw [r.span, r.time]
    rw [this, times_add]
    rfl
  have n1 : 0 ≤ t.next.times a := times_nn v1.sp ha
  have n2 : 0 ≤ (Kd.shelf.spend t.next a).next.times b := times_nn v3.sp hb
  have pos : ∀ m q, look t.es m = some q → 0 ≤ q.1 := fun m q' h => by have := pos_look q h; omega
  have lk : ∀ m, look (Kd.shelf.spend (Kd.shelf.spend t.next a).next b).es m = ag s.part (s.next.times (a + b)) (look t.es m) := fun m => by
    rw [look_spend v3 q3 hb]
    show ag (Kd.shelf.spend t.next a).part _ (look (Kd.shelf.spend t.next a).es m) = _
    rw [look_spend v1 q1 ha, c1.2.1]
    show ag t.part _ (ag t.part _ (look t.es m)) = _
    rw [ag_add (pos m) v.pt n1 n2, e0, r.part]
  have sp1 := spend_shelf w1 p1 (show (0 : Int) ≤ a + b by omega)
  have sp2 := spend_shelf v1 q1 ha
  have sp3 := spend_shelf v3 q3 hb
  have f1 : ∀ m, fadesB s.next (s.next.times (a + b)) m = decide (agedI (cntE t.es m) t.part (t.next.times a + (Kd.shelf.spend t.next a).next.times b) = 0) := fun m => by
    unfold fadesB
    rw [e0]
    show decide (agedI (cntE s.es m) s.part _ = 0) = _
    rw [r.c, r.part]
  have f2 : ∀ m, fadesB t.next (t.next.times a) m = decide (agedI (cntE t.es m) t.part (t.next.times a) = 0) := fun m => rfl
  have f3 : ∀ m, fadesB (Kd.shelf.spend t.next a).next ((Kd.shelf.spend t.next a).next.times b) m = decide (agedI (cntE t.es m) t.part (t.next.times a + (Kd.shelf.spend t.next a).next.times b) = 0) := fun m => by
    unfold fadesB
    show decide (agedI (cntE (Kd.shelf.spend t.next a).es m) (Kd.shelf.spend t.next a).part _ = 0) = _
    have : cntE (Kd.shelf.spend t.next a).es m = agedI (cntE t.es m) t.part (t.next.times a) := by
      unfold cntE
      rw [look_spend v1 q1 ha, cnt_ag]
      rfl
    rw [this, c1.2.1]
    show decide (agedI (agedI (cntE t.es m) t.part (t.next.times a)) t.part _ = 0) = _
    rw [agedI_add (cntE_nn v.cn m) v.pt n1 n2]
  have imp : ∀ m, fadesB t.next (t.next.times a) m = true → fadesB s.next (s.next.times (a + b)) m = true := fun m h => by
    rw [f2, decide_eq_true_eq] at h
    rw [f1, decide_eq_true_eq, ← agedI_add (cntE_nn v.cn m) v.pt n1 n2, h]
    unfold agedI
    rw [Int.zero_ediv]
  have f13 : ∀ m, fadesB (Kd.shelf.spend t.next a).next ((Kd.shelf.spend t.next a).next.times b) m = fadesB s.next (s.next.times (a + b)) m := fun m => by rw [f1, f3]
  have hst : (Kd.shelf.rest s (a + b)).2.st = (Kd.shelf.rest (Kd.shelf.rest t a).2 b).2.st := by
    show (Kd.shelf.spend s.next (a + b)).st = (Kd.shelf.spend (Kd.shelf.spend t.next a).next b).st
    rw [sp1.1, sp3.1]
    show s.st.filter _ = (Kd.shelf.spend t.next a).st.filter _
    rw [sp2.1, List.filter_filter, r.st]
    show t.st.filter _ = t.st.filter _
    apply List.filter_congr
    intro m _
    rw [f13]
    cases h : fadesB t.next (t.next.times a) m with
    | false => simp
    | true => rw [imp m h]; rfl
  refine ⟨rel_of r (p := s.part) (n := s.next.times (a + b)) ⟨c0.1, c0.2.1, c0.2.2.2.2⟩ ⟨c2.1.trans c1.1, c2.2.1.trans c1.2.1, c2.2.2.2.2.trans c1.2.2.2.2⟩ ?_ hst (look_spend w1 p1 (by omega)) lk, ?_, fadeL s.next (a + b), fadeL t.next a ++ fadeL (Kd.shelf.spend t.next a).next b, sp1.2, ?_, ?_⟩
  · show (Kd.shelf.spend s.next (a + b)).time = (Kd.shelf.spend (Kd.shelf.spend t.next a).next b).time
    rw [c0.2.2.1, c2.2.2.1]
    show s.time + (a + b) = (Kd.shelf.spend t.next a).time + b
    rw [c1.2.2.1]
    show s.time + (a + b) = t.time + a + b
    rw [r.time]
    omega
  · exact e0
  · show (Kd.shelf.spend (Kd.shelf.spend t.next a).next b).went = _
    rw [sp3.2]
    show (Kd.shelf.spend t.next a).went ++ _ = _
    rw [sp2.2, List.append_assoc]
    rfl
  · refine (fadeL_perm w1 _).trans (List.Perm.trans ?_ (((fadeL_perm v1 a).append (fadeL_perm v3 b)).symm.trans (by rw [List.map_append])))
    rw [← List.map_append]
    apply List.Perm.map
    show (s.st.filter _).Perm (t.st.filter _ ++ (Kd.shelf.spend t.next a).st.filter _)
    rw [sp2.1, List.filter_filter, r.st]
    show (t.st.filter _).Perm (t.st.filter _ ++ t.st.filter _)
    have e : (t.st.filter fun m => fadesB (Kd.shelf.spend t.next a).next ((Kd.shelf.spend t.next a).next.times b) m && !fadesB t.next (t.next.times a) m) = (t.st.filter fun m => fadesB s.next (s.next.times (a + b)) m).filter fun m => !fadesB t.next (t.next.times a) m := by
      rw [List.filter_filter]
      apply List.filter_congr
      intro m _
      rw [f13, Bool.and_comm]
    have e2 : (t.st.filter fun m => fadesB t.next (t.next.times a) m) = (t.st.filter fun m => fadesB s.next (s.next.times (a + b)) m).filter fun m => fadesB t.next (t.next.times a) m := by
      rw [List.filter_filter]
      apply List.filter_congr
      intro m _
      cases h : fadesB t.next (t.next.times a) m with
      | false => rfl
      | true => rw [imp m h]; rfl
    rw [e, e2]
    exact (List.filter_append_perm _ _).symm
theorem gone_two {s t : Th} (r : Rel s t) (n why : Str) : Rel (Kd.shelf.gone s n why).2 (Kd.shelf.gone t n why).2 ∧ (Kd.shelf.gone s n why).1 = (Kd.shelf.gone t n why).1 ∧
    ∃ A B : List Going, (Kd.shelf.gone s n why).2.went = s.went ++ A ∧ (Kd.shelf.gone t n why).2.went = t.went ++ B ∧ A.map tri = B.map tri := by
  unfold Kd.gone
  dsimp only
  by_cases h : n ∈ s.st
  · have h2 : n ∈ t.st := by rw [← r.st]; exact h
    rw [if_pos h, if_pos h2]
    refine ⟨⟨r.span, r.part, r.time, r.places, by show s.st.filter _ = t.st.filter _; rw [r.st], r.cnt, r.ord⟩, rfl, [⟨s.deed, n, why, cntE s.es n, lstE s.es n⟩], [⟨t.deed, n, why, cntE t.es n, lstE t.es n⟩], rfl, rfl, ?_⟩
    show [(n, why, cntE s.es n)] = [(n, why, cntE t.es n)]
    rw [r.c]
  · have h2 : ¬ n ∈ t.st := by rw [← r.st]; exact h
    rw [if_neg h, if_neg h2]
    exact ⟨r, rfl, [], [], (List.append_nil _).symm, (List.append_nil _).symm, rfl⟩
theorem came_two {s t : Th} (r : Rel s t) (w : WF .shelf s) (n : Str) : Rel (Kd.shelf.came s n).2 (Kd.shelf.came t n).2 ∧ (Kd.shelf.came s n).1 = (Kd.shelf.came t n).1 ∧
    ∃ A B : List Going, (Kd.shelf.came s n).2.went = s.went ++ A ∧ (Kd.shelf.came t n).2.went = t.went ++ B ∧ A.map tri = B.map tri := by
  unfold Kd.came
  dsimp only
  by_cases h : n ∈ s.st
  · have h2 : n ∈ t.st := by rw [← r.st]; exact h
    rw [if_pos h, if_pos h2]
    exact ⟨r, rfl, [], [], (List.append_nil _).symm, (List.append_nil _).symm, rfl⟩
  · have h2 : ¬ n ∈ t.st := by rw [← r.st]; exact h
    rw [if_neg h, if_neg h2]
    by_cases f : (s.st.length : Int) = s.places
    · have f2 : (t.st.length : Int) = t.places := by rw [← r.st, ← r.places]; exact f
      rw [if_pos f, if_pos f2, ← r.weak w]
      obtain ⟨g, _, A, B, a1, a2, a3⟩ := gone_two r (weakest s) "crowded"
      exact ⟨⟨g.span, g.part, g.time, g.places, by show _ ++ [n] = _ ++ [n]; rw [g.st], g.cnt, g.ord⟩, rfl, A, B, a1, a2, a3⟩
    · have f2 : ¬ (t.st.length : Int) = t.places := by rw [← r.st, ← r.places]; exact f
      rw [if_neg f, if_neg f2]
      exact ⟨⟨r.span, r.part, r.time, r.places, by show s.st ++ [n] = t.st ++ [n]; rw [r.st], r.cnt, r.ord⟩, rfl, [], [], (List.append_nil _).symm, (List.append_nil _).symm, rfl⟩
theorem put_two {s t : Th} (r : Rel s t) {n : Str} {c d e : Int} (ls : ∀ x ∈ s.es, x.2.2 < d) (lt : ∀ x ∈ t.es, x.2.2 < e) : Rel { s with es := putE s.es n (c, d) } { t with es := putE t.es n (c, e) } where
  span := r.span
  part := r.part
  time := r.time
  places := r.places
  st := r.st
  cnt := fun m => by
    show (look (putE s.es n (c, d)) m).map _ = (look (putE t.es n (c, e)) m).map _
    rw [look_putE, look_putE]
    by_cases h : m = n
    · rw [if_pos h, if_pos h]; rfl
    · rw [if_neg h, if_neg h]; exact r.cnt m
  ord := fun a b ha hb => by
    have l1 : ∀ m, lstE (putE s.es n (c, d)) m = if m = n then d else lstE s.es m := fun m => by
      unfold lstE
      rw [look_putE]
      by_cases h : m = n
      · rw [if_pos h, if_pos h]; rfl
      · rw [if_neg h, if_neg h]
    have l2 : ∀ m, lstE (putE t.es n (c, e)) m = if m = n then e else lstE t.es m := fun m => by
      unfold lstE
      rw [look_putE]
      by_cases h : m = n
      · rw [if_pos h, if_pos h]; rfl
      · rw [if_neg h, if_neg h]
    have bs : ∀ m, m ∈ s.es.map (·.1) → lstE s.es m < d := fun m hm => by
      have := look_mem.mpr hm
      unfold lstE
      cases q : look s.es m with
      | none => rw [q] at this; cases this
      | some x => exact ls _ (mem_of_look q)
    have bt : ∀ m, m ∈ t.es.map (·.1) → lstE t.es m < e := fun m hm => by
      have := look_mem.mpr hm
      unfold lstE
      cases q : look t.es m with
      | none => rw [q] at this; cases this
      | some x => exact lt _ (mem_of_look q)
    have key : ∀ {m}, m ∈ (putE s.es n (c, d)).map (·.1) → m ≠ n → m ∈ s.es.map (·.1) := fun {m} hm hne => by
      rw [keys_putE] at hm
      split at hm
      · exact hm
      · rcases List.mem_append.mp hm with h | h
        · exact h
        · exact absurd (List.mem_singleton.mp h) hne
    show lstE (putE s.es n (c, d)) a < lstE (putE s.es n (c, d)) b ↔ lstE (putE t.es n (c, e)) a < lstE (putE t.es n (c, e)) b
    rw [l1, l1, l2, l2]
    by_cases h1 : a = n
    · rw [if_pos h1, if_pos h1]
      by_cases h2 : b = n
      · rw [if_pos h2, if_pos h2]
        exact ⟨fun h => absurd h (Int.lt_irrefl _), fun h => absurd h (Int.lt_irrefl _)⟩
      · rw [if_neg h2, if_neg h2]
        have x := bs b (key hb h2)
        have y := bt b ((r.k b).mp (key hb h2))
        constructor <;> intro h <;> omega
    · rw [if_neg h1, if_neg h1]
      by_cases h2 : b = n
      · rw [if_pos h2, if_pos h2]
        have x := bs a (key ha h1)
        have y := bt a ((r.k a).mp (key ha h1))
        constructor <;> intro h <;> omega
      · rw [if_neg h2, if_neg h2]
        exact r.ord a b (key ha h1) (key hb h2)
theorem ask_two {s t : Th} (r : Rel s t) (w : WF .shelf s) (v : WF .shelf t) (p : Pos1 s) (q : Pos1 t) (n : Str) (c : Int) : Rel (Kd.shelf.ask s n c).2 (Kd.shelf.ask t n c).2 ∧ (Kd.shelf.ask s n c).1 = (Kd.shelf.ask t n c).1 ∧
    ∃ A B : List Going, (Kd.shelf.ask s n c).2.went = s.went ++ A ∧ (Kd.shelf.ask t n c).2.went = t.went ++ B ∧ (A.map tri).Perm (B.map tri) := by
  have r1 : Rel s.next t.next := ⟨r.span, r.part, r.time, r.places, r.st, r.cnt, r.ord⟩
  have w1 := w.next.spend 1
  have v1 := v.next.spend 1
  have r2 := r1.spend w.next v.next p q (show (0 : Int) ≤ 1 by decide)
  obtain ⟨r3, ans, A, B, a1, a2, a3⟩ := came_two r2 w1 n
  have cs := came_core .shelf (Kd.shelf.spend s.next 1) n
  have ct := came_core .shelf (Kd.shelf.spend t.next 1) n
  have ss := spend_core .shelf s.next 1
  have st := spend_core .shelf t.next 1
  have lbs : LB (Kd.shelf.spend s.next 1) s.deed := LB.spend (s := s.next) w.lr 1
  have lbt : LB (Kd.shelf.spend t.next 1) t.deed := LB.spend (s := t.next) v.lr 1
  have ds : ((Kd.shelf.came (Kd.shelf.spend s.next 1) n).2.deed : Int) = (s.deed : Int) + 1 := by rw [cs.2.2.2.2.1, ss.2.2.2.1]; rfl
  have dt : ((Kd.shelf.came (Kd.shelf.spend t.next 1) n).2.deed : Int) = (t.deed : Int) + 1 := by rw [ct.2.2.2.2.1, st.2.2.2.1]; rfl
  refine ⟨?_, ans, fadeL s.next 1 ++ A, fadeL t.next 1 ++ B, ?_, ?_, ?_⟩
  · have := put_two r3 (n := n) (c := cntE (Kd.shelf.came (Kd.shelf.spend s.next 1) n).2.es n + c) (d := ((Kd.shelf.came (Kd.shelf.spend s.next 1) n).2.deed : Int)) (e := ((Kd.shelf.came (Kd.shelf.spend t.next 1) n).2.deed : Int)) (fun x hx => by
      rw [cs.1] at hx
      have := lbs x hx
      omega) (fun x hx => by
      rw [ct.1] at hx
      have := lbt x hx
      omega)
    have e : cntE (Kd.shelf.came (Kd.shelf.spend s.next 1) n).2.es n = cntE (Kd.shelf.came (Kd.shelf.spend t.next 1) n).2.es n := r3.c n
    unfold Kd.ask
    dsimp only
    rw [← e]
    exact this
  · show (Kd.shelf.came (Kd.shelf.spend s.next 1) n).2.went = _
    rw [a1, (spend_shelf w.next p (show (0 : Int) ≤ 1 by decide)).2, List.append_assoc]
    rfl
  · show (Kd.shelf.came (Kd.shelf.spend t.next 1) n).2.went = _
    rw [a2, (spend_shelf v.next q (show (0 : Int) ≤ 1 by decide)).2, List.append_assoc]
    rfl
  · rw [List.map_append, List.map_append, a3]
    refine List.Perm.append_right _ ((fadeL_perm w.next 1).trans (List.Perm.trans ?_ (fadeL_perm v.next 1).symm))
    have e : (s.next.st.filter fun m => fadesB s.next (s.next.times 1) m) = t.next.st.filter fun m => fadesB t.next (t.next.times 1) m := by
      show s.st.filter _ = t.st.filter _
      rw [r.st]
      apply List.filter_congr
      intro m _
      have ht : s.next.times 1 = t.next.times 1 := by
        unfold Th.times
        show (s.time + 1) / s.span - s.time / s.span = (t.time + 1) / t.span - t.time / t.span
        rw [r.span, r.time]
      rw [r1.fades, ht]
    rw [e]
theorem drop_two {s t : Th} (r : Rel s t) (n : Str) : Rel (Kd.shelf.drop s n).2 (Kd.shelf.drop t n).2 ∧ (Kd.shelf.drop s n).1 = (Kd.shelf.drop t n).1 ∧
    ∃ A B : List Going, (Kd.shelf.drop s n).2.went = s.went ++ A ∧ (Kd.shelf.drop t n).2.went = t.went ++ B ∧ A.map tri = B.map tri :=
  gone_two (s := s.next) (t := t.next) ⟨r.span, r.part, r.time, r.places, r.st, r.cnt, r.ord⟩ n "dropped"
/-! what the log holds -/
def OkG (ns : List Str) (g : Going) : Prop := g.name ∈ ns ∧ (g.reason = "faded" ∨ g.reason = "crowded" ∨ g.reason = "dropped")
def OkW (ns : List Str) (s : Th) : Prop := ∀ g ∈ s.went, OkG ns g
theorem okW_gone {ns : List Str} {s : Th} (h : OkW ns s) {n r : Str} (hn : n ∈ ns) (hr : r = "faded" ∨ r = "crowded" ∨ r = "dropped") : OkW ns (Kd.shelf.gone s n r).2 := by
  unfold Kd.gone
  dsimp only
  split
  · intro g hg
    rcases List.mem_append.mp (show g ∈ s.went ++ [_] from hg) with q | q
    · exact h g q
    · rw [List.mem_singleton.mp q]
      exact ⟨hn, hr⟩
  · exact h
theorem okW_spend {ns : List Str} {s : Th} (w : WF .shelf s) (p : Pos1 s) (h : OkW ns s) (hk : ∀ m ∈ s.es.map (·.1), m ∈ ns) {n : Int} (hn : 0 ≤ n) : OkW ns (Kd.shelf.spend s n) := by
  intro g hg
  rw [(spend_shelf w p hn).2] at hg
  rcases List.mem_append.mp hg with q | q
  · exact h g q
  · obtain ⟨m, hm, rfl⟩ := List.mem_map.mp q
    exact ⟨hk m ((byLast_perm s.es).mem_iff.mp (List.mem_filter.mp hm).1), .inl rfl⟩
/-- names that a history may have -/
def KeysIn (ns : List Str) (s : Th) : Prop := ∀ m ∈ s.es.map (·.1), m ∈ ns
theorem keysIn_spend {k : Kd} {ns : List Str} {s : Th} (w : WF k s) (p : Pos1 s) (h : KeysIn ns s) {n : Int} (hn : 0 ≤ n) : KeysIn ns (k.spend s n) := fun m hm => by
  have := look_mem.mpr hm
  rw [look_spend w p hn] at this
  exact h m (look_mem.mp (ag_snd this).2)
theorem keysIn_act {k : Kd} {ns : List Str} {s : Th} (w : WF k s) (p : Pos1 s) (h : KeysIn ns s) {d : Deed} (g : d.Good ns) : KeysIn ns (k.act s d).2 := fun m hm => by
  by_cases hns : m ∈ ns
  · exact hns
  · have h0 : look s.es m = none := by
      cases e : look s.es m with
      | none => rfl
      | some q => exact absurd (h m (look_mem.mp (by rw [e]; rfl))) hns
    have := look_mem.mpr hm
    rw [look_act w p g, h0] at this
    unfold nextO at this
    cases d with
    | ask n x =>
      dsimp only at this
      rw [if_neg (fun q => hns (by rw [q]; exact g.1))] at this
      cases this
    | drop n => cases this
    | rest t => cases this
theorem weak_mem {s : Th} (h : s.st ≠ []) : weakest s ∈ s.st := by
  unfold weakest
  have hp := sortR_perm s.es s.st
  cases e : sortR s.es s.st with
  | nil =>
    rw [e] at hp
    exact absurd hp.symm.eq_nil h
  | cons a r =>
    rw [e] at hp
    exact hp.mem_iff.mp List.mem_cons_self
theorem okW_act {ns : List Str} {s : Th} (w : WF .shelf s) (p : Pos1 s) (h : OkW ns s) (hk : KeysIn ns s) {d : Deed} (g : d.Good ns) : OkW ns (Kd.shelf.act s d).2 := by
  cases d with
  | rest t => exact okW_spend w.next p h hk g.1
  | drop n => exact okW_gone (s := s.next) h g (.inr (.inr rfl))
  | ask n x =>
    have h1 : OkW ns (Kd.shelf.spend s.next 1) := okW_spend w.next p h hk (show (0 : Int) ≤ 1 by decide)
    have w1 := w.next.spend 1
    have k1 : KeysIn ns (Kd.shelf.spend s.next 1) := keysIn_spend w.next p hk (show (0 : Int) ≤ 1 by decide)
    show OkW ns { (Kd.shelf.came (Kd.shelf.spend s.next 1) n).2 with es := _ }
    show ∀ g ∈ (Kd.shelf.came (Kd.shelf.spend s.next 1) n).2.went, OkG ns g
    unfold Kd.came
    dsimp only
    split
    · exact h1
    · split
      · rename_i hf
        have hne : (Kd.shelf.spend s.next 1).st ≠ [] := fun q => by
          rw [q] at hf
          have := w1.pl rfl
          simp at hf
          omega
        exact okW_gone h1 (k1 _ (w1.sin _ (weak_mem hne))) (.inr (.inl rfl))
      · exact h1
/-- what holds of a shelf in a history -/
structure Hist (ns : List Str) (s : Th) : Prop where
  wf : WF .shelf s
  pos : Pos1 s
  keys : KeysIn ns s
  log : OkW ns s
theorem Hist.act {ns : List Str} {s : Th} (h : Hist ns s) {d : Deed} (g : d.Good ns) : Hist ns (Kd.shelf.act s d).2 := ⟨h.wf.act g, h.pos.act h.wf g, keysIn_act h.wf h.pos h.keys g, okW_act h.wf h.pos h.log h.keys g⟩
end Own

/-! ### tuples sorted, told apart by their parts; plain Lean -/
namespace Own
open PySem L2
theorem sort_perm_eq {l m : List PyData} (h : l.Perm m) (inj : ∀ x ∈ l, ∀ y ∈ l, PySem.W.keyToks x = PySem.W.keyToks y → x = y) : l.mergeSort (PySem.W.dataLe false id) = m.mergeSort (PySem.W.dataLe false id) := by
  have p1 : (l.mergeSort (PySem.W.dataLe false id)).Perm l := List.mergeSort_perm _ _
  have p2 : (m.mergeSort (PySem.W.dataLe false id)).Perm m := List.mergeSort_perm _ _
  refine sorted_uniq (lt := PySem.W.dataLt) (f := id) (p1.trans (h.trans p2.symm)) (le_sorted _) (le_sorted _) fun x hx y hy a b => ?_
  exact inj x (p1.mem_iff.mp hx) y (p1.mem_iff.mp hy) (PyProof.Rows.lex_total (O := PyProof.Rows.itemOrd) _ _ a b)
def triD (g : Str × Str × Int) : PyData := .tuple [.str g.1, .str g.2.1, .int g.2.2]
theorem triD_inj (a b : Str × Str × Int) (h : PySem.W.keyToks (triD a) = PySem.W.keyToks (triD b)) : triD a = triD b := by
  unfold triD at h ⊢
  simp only [PySem.W.keyToks, PySem.W.keyToksAll] at h
  obtain ⟨a1, a2, a3⟩ := a
  obtain ⟨b1, b2, b3⟩ := b
  simp only [List.cons_append, List.nil_append, List.cons.injEq, Sum.inr.injEq, Sum.inl.injEq, true_and, and_true] at h
  obtain ⟨h1, h2, h3⟩ := h
  have e : ∀ {x y : Str}, x.cps.toList = y.cps.toList → x = y := fun {x y} h => by
    cases x
    cases y
    congr 1
    exact Array.toList_inj.mp h
  rw [show a1 = b1 from e h1, show a2 = b2 from e h2, show a3 = b3 from h3]
theorem tri_sorted {l m : List (Str × Str × Int)} (h : l.Perm m) : (l.map triD).mergeSort (PySem.W.dataLe false id) = (m.map triD).mergeSort (PySem.W.dataLe false id) := sort_perm_eq (h.map _) fun x hx y hy e => by
  obtain ⟨a, _, rfl⟩ := List.mem_map.mp hx
  obtain ⟨b, _, rfl⟩ := List.mem_map.mp hy
  exact triD_inj a b e
end Own

/-! ### a small shelf within a great one; plain Lean -/
namespace Own
open PySem L2
structure Inc (k : Nat) (s t : Th) : Prop where
  es : s.es = t.es
  span : s.span = t.span
  part : s.part = t.part
  time : s.time = t.time
  deed : s.deed = t.deed
  pl : t.places = s.places + (k : Int)
  sub : ∀ n ∈ s.st, n ∈ t.st
  ls : (s.st.length : Int) ≤ s.places
  lt : (t.st.length : Int) ≤ t.places
  gap : t.st.length ≤ s.st.length + k
theorem filter_split {s t : List Str} (hs : s.Nodup) (ht : t.Nodup) (h : ∀ n ∈ s, n ∈ t) : t.Perm (s ++ t.filter fun n => decide (n ∉ s)) := by
  refine (List.perm_ext_iff_of_nodup ht ?_).mpr fun n => ?_
  · rw [List.nodup_append]
    refine ⟨hs, nodup_filter _ ht, fun a ha b hb q => ?_⟩
    have := (List.mem_filter.mp hb).2
    rw [decide_eq_true_eq] at this
    exact this (q ▸ ha)
  · rw [List.mem_append, List.mem_filter, decide_eq_true_eq]
    by_cases q : n ∈ s
    · exact ⟨fun _ => .inl q, fun _ => h n q⟩
    · exact ⟨fun m => .inr ⟨m, q⟩, fun m => m.elim (h n) (·.1)⟩
theorem gap_filter {s t : List Str} (hs : s.Nodup) (ht : t.Nodup) (h : ∀ n ∈ s, n ∈ t) (p : Str → Bool) : (t.filter p).length + s.length ≤ t.length + (s.filter p).length := by
  have h1 := filter_split hs ht h
  have h2 := (h1.filter p).length_eq
  have h3 := h1.length_eq
  rw [List.filter_append, List.length_append] at h2
  rw [List.length_append] at h3
  have := List.length_filter_le p (t.filter fun n => decide (n ∉ s))
  omega
theorem len_sub {s t : List Str} (hs : s.Nodup) (ht : t.Nodup) (h : ∀ n ∈ s, n ∈ t) : s.length ≤ t.length := by
  have h3 := (filter_split hs ht h).length_eq
  rw [List.length_append] at h3
  omega
theorem remove_len {l : List Str} (hd : l.Nodup) {n : Str} (h : n ∈ l) : (l.filter fun m => decide (m ≠ n)).length + 1 = l.length := by
  have p : l.Perm (n :: l.filter fun m => decide (m ≠ n)) := by
    refine (List.perm_ext_iff_of_nodup hd (List.nodup_cons.mpr ⟨by simp, nodup_filter _ hd⟩)).mpr fun m => ?_
    rw [List.mem_cons, List.mem_filter, decide_eq_true_eq]
    by_cases q : m = n
    · exact ⟨fun _ => .inl q, fun _ => q ▸ h⟩
    · exact ⟨fun a => .inr ⟨a, q⟩, fun a => a.elim (fun e => absurd e q) (·.1)⟩
  have := p.length_eq
  rw [List.length_cons] at this
  omega
/-- the entries do not hang on what stands -/
theorem es_step {s t : Th} (h : s.es = t.es) (hp : s.part = t.part) (x : Int) (n : Str) : (Kd.shelf.ageStep x s n).es = (Kd.shelf.ageStep x t n).es := by
  unfold Kd.ageStep
  rw [h, hp]
  split
  · rfl
  · rfl
theorem es_fold (x : Int) : ∀ (ns : List Str) {s t : Th}, s.es = t.es → s.part = t.part → (ns.foldl (Kd.shelf.ageStep x) s).es = (ns.foldl (Kd.shelf.ageStep x) t).es
  | [], _, _, h, _ => h
  | n :: r, s, t, h, hp => es_fold x r (es_step h hp x n) (by rw [(ageStep_core .shelf x s n).2.1, (ageStep_core .shelf x t n).2.1, hp])
theorem Inc.next {k : Nat} {s t : Th} (i : Inc k s t) : Inc k s.next t.next := ⟨i.es, i.span, i.part, i.time, by show s.deed + 1 = t.deed + 1; rw [i.deed], i.pl, i.sub, i.ls, i.lt, i.gap⟩
theorem Inc.spend {k : Nat} {s t : Th} (i : Inc k s t) (w : WF .shelf s) (v : WF .shelf t) (p : Pos1 s) (q : Pos1 t) {n : Int} (hn : 0 ≤ n) : Inc k (Kd.shelf.spend s n) (Kd.shelf.spend t n) := by
  have c1 := spend_core .shelf s n
  have c2 := spend_core .shelf t n
  have ht : s.times n = t.times n := by unfold Th.times; rw [i.span, i.time]
  have s1 := (spend_shelf w p hn).1
  have s2 := (spend_shelf v q hn).1
  have fe : ∀ m, fadesB s (s.times n) m = fadesB t (t.times n) m := fun m => by unfold fadesB; rw [i.es, i.part, ht]
  have s2' : (Kd.shelf.spend t n).st = t.st.filter fun m => !fadesB s (s.times n) m := by
    rw [s2]
    apply List.filter_congr
    intro m _
    rw [fe]
  have l1 := List.length_filter_le (fun m => !fadesB s (s.times n) m) s.st
  have l2 := List.length_filter_le (fun m => !fadesB s (s.times n) m) t.st
  have l3 := gap_filter w.snd v.snd i.sub fun m => !fadesB s (s.times n) m
  have g := i.gap
  have a1 := i.ls
  have a2 := i.lt
  refine ⟨?_, c1.1.trans (i.span.trans c2.1.symm), c1.2.1.trans (i.part.trans c2.2.1.symm), by rw [c1.2.2.1, c2.2.2.1, i.time], c1.2.2.2.1.trans (i.deed.trans c2.2.2.2.1.symm), by rw [c1.2.2.2.2, c2.2.2.2.2]; exact i.pl, fun m hm => ?_, ?_, ?_, ?_⟩
  · unfold Kd.spend
    rw [ht]
    split
    · rw [show byLast s.es = byLast t.es from by rw [i.es]]
      exact es_fold _ _ (s := { s with time := s.time + n }) (t := { t with time := t.time + n }) i.es i.part
    · exact i.es
  · rw [s1] at hm
    rw [s2']
    obtain ⟨h1, h2⟩ := List.mem_filter.mp hm
    exact List.mem_filter.mpr ⟨i.sub m h1, h2⟩
  · rw [s1, c1.2.2.2.2]; omega
  · rw [s2', c2.2.2.2.2]; omega
  · rw [s1, s2']; omega
theorem Inc.gone {k : Nat} {s t : Th} (i : Inc k s t) (w : WF .shelf s) (v : WF .shelf t) (n r : Str) : Inc k (Kd.shelf.gone s n r).2 (Kd.shelf.gone t n r).2 ∧ ((Kd.shelf.gone s n r).1 = true → (Kd.shelf.gone t n r).1 = true) := by
  have g := i.gap
  have a1 := i.ls
  have a2 := i.lt
  unfold Kd.gone
  dsimp only
  by_cases h1 : n ∈ s.st
  · have h2 := i.sub n h1
    rw [if_pos h1, if_pos h2]
    have l1 := remove_len w.snd h1
    have l2 := remove_len v.snd h2
    refine ⟨⟨i.es, i.span, i.part, i.time, i.deed, i.pl, fun m hm => ?_, ?_, ?_, ?_⟩, fun _ => rfl⟩
    · obtain ⟨x, y⟩ := List.mem_filter.mp hm
      exact List.mem_filter.mpr ⟨i.sub m x, y⟩
    · show (((s.st.filter _).length : Nat) : Int) ≤ s.places; omega
    · show (((t.st.filter _).length : Nat) : Int) ≤ t.places; omega
    · show (t.st.filter _).length ≤ (s.st.filter _).length + k; omega
  · rw [if_neg h1]
    by_cases h2 : n ∈ t.st
    · rw [if_pos h2]
      have l2 := remove_len v.snd h2
      refine ⟨⟨i.es, i.span, i.part, i.time, i.deed, i.pl, fun m hm => ?_, a1, ?_, ?_⟩, fun h => nomatch h⟩
      · exact List.mem_filter.mpr ⟨i.sub m hm, decide_eq_true fun q => h1 (q ▸ hm)⟩
      · show (((t.st.filter _).length : Nat) : Int) ≤ t.places; omega
      · show (t.st.filter _).length ≤ s.st.length + k; omega
    · rw [if_neg h2]
      exact ⟨i, fun h => nomatch h⟩
theorem weak_least {s : Th} {n : Str} (hn : n ∈ s.st) : lexQ (rankE s.es n) (rankE s.es (weakest s)) = false := by
  unfold weakest
  have hp := sortR_perm s.es s.st
  have hs := sortR_sorted s.es s.st
  cases e : sortR s.es s.st with
  | nil =>
    rw [e] at hp
    exact absurd (hp.mem_iff.mpr hn) (by simp)
  | cons a r =>
    rw [e] at hp hs
    show lexQ (rankE s.es n) (rankE s.es a) = false
    rcases List.mem_cons.mp (hp.mem_iff.mpr hn) with q | q
    · rw [q, lexQ_no]; omega
    · exact (List.pairwise_cons.mp hs).1 n q
theorem weak_uniq {s : Th} (w : WF .shelf s) {n : Str} (hn : n ∈ s.st) (h : ∀ m ∈ s.st, lexQ (rankE s.es m) (rankE s.es n) = false) : n = weakest s := by
  have hne : s.st ≠ [] := fun q => by rw [q] at hn; cases hn
  have hw := weak_mem hne
  have h1 := weak_least hn
  have h2 := h _ hw
  rw [lexQ_no] at h1 h2
  have e : (rankE s.es n).2 = (rankE s.es (weakest s)).2 := by omega
  exact lst_one w (w.sin n hn) (w.sin _ hw) e
theorem nil_st {s : Th} (w : WF .shelf s) (h : (s.st.length : Int) = s.places) : s.st ≠ [] := fun q => by
  rw [q] at h
  have := w.pl rfl
  simp at h
  omega
theorem Inc.rank {k : Nat} {s t : Th} (i : Inc k s t) (n : Str) : rankE s.es n = rankE t.es n := by rw [i.es]
/-- what an ask brings -/
theorem Inc.came {k : Nat} {s t : Th} (i : Inc k s t) (w : WF .shelf s) (v : WF .shelf t) (n : Str) : Inc k (Kd.shelf.came s n).2 (Kd.shelf.came t n).2 ∧ n ∈ (Kd.shelf.came s n).2.st ∧
    ∃ a b : Bool, (Kd.shelf.came s n).1 = .bl a ∧ (Kd.shelf.came t n).1 = .bl b ∧ (a = true → b = true) := by
  have g := i.gap
  have a1 := i.ls
  have a2 := i.lt
  have pl := i.pl
  have mem_add : ∀ {l : List Str} {m : Str}, m ∈ l ++ [n] ↔ m ∈ l ∨ m = n := fun {l m} => by rw [List.mem_append, List.mem_singleton]
  have goneE : ∀ {u : Th} {m : Str}, m ∈ u.st → (Kd.shelf.gone u m "crowded").2 = { u with st := u.st.filter (fun x => decide (x ≠ m)), went := u.went ++ [⟨u.deed, m, "crowded", cntE u.es m, lstE u.es m⟩] } := fun {u m} h => by
    unfold Kd.gone
    dsimp only
    rw [if_pos h]
  by_cases h1 : n ∈ s.st
  · have h2 := i.sub n h1
    have e1 : Kd.shelf.came s n = (.bl true, s) := by unfold Kd.came; dsimp only; rw [if_pos h1]
    have e2 : Kd.shelf.came t n = (.bl true, t) := by unfold Kd.came; dsimp only; rw [if_pos h2]
    rw [e1, e2]
    exact ⟨i, h1, true, true, rfl, rfl, fun h => h⟩
  · by_cases fs : (s.st.length : Int) = s.places
    · have hw := weak_mem (nil_st w fs)
      have l1 := remove_len w.snd hw
      have e1 : Kd.shelf.came s n = (.bl false, { s with st := s.st.filter (fun x => decide (x ≠ weakest s)) ++ [n], went := s.went ++ [⟨s.deed, weakest s, "crowded", cntE s.es (weakest s), lstE s.es (weakest s)⟩] }) := by
        unfold Kd.came
        dsimp only
        rw [if_neg h1, if_pos fs, goneE hw]
      by_cases h2 : n ∈ t.st
      · have e2 : Kd.shelf.came t n = (.bl true, t) := by unfold Kd.came; dsimp only; rw [if_pos h2]
        rw [e1, e2]
        refine ⟨⟨i.es, i.span, i.part, i.time, i.deed, i.pl, fun m hm => ?_, ?_, a2, ?_⟩, mem_add.mpr (.inr rfl), false, true, rfl, rfl, fun _ => rfl⟩
        · rcases mem_add.mp hm with h | h
          · exact i.sub m (List.mem_filter.mp h).1
          · rw [h]; exact h2
        · show (((s.st.filter _ ++ [n]).length : Nat) : Int) ≤ s.places
          rw [List.length_append, List.length_singleton]; omega
        · show t.st.length ≤ (s.st.filter _ ++ [n]).length + k
          rw [List.length_append, List.length_singleton]; omega
      · by_cases ft : (t.st.length : Int) = t.places
        · have hv := weak_mem (nil_st v ft)
          have l2 := remove_len v.snd hv
          have e2 : Kd.shelf.came t n = (.bl false, { t with st := t.st.filter (fun x => decide (x ≠ weakest t)) ++ [n], went := t.went ++ [⟨t.deed, weakest t, "crowded", cntE t.es (weakest t), lstE t.es (weakest t)⟩] }) := by
            unfold Kd.came
            dsimp only
            rw [if_neg h2, if_pos ft, goneE hv]
          rw [e1, e2]
          refine ⟨⟨i.es, i.span, i.part, i.time, i.deed, i.pl, fun m hm => ?_, ?_, ?_, ?_⟩, mem_add.mpr (.inr rfl), false, false, rfl, rfl, fun h => h⟩
          · rcases mem_add.mp hm with h | h
            · obtain ⟨x, y⟩ := List.mem_filter.mp h
              refine mem_add.mpr (.inl (List.mem_filter.mpr ⟨i.sub m x, decide_eq_true fun q => ?_⟩))
              have : m = weakest s := weak_uniq w x fun z hz => by
                rw [i.rank, i.rank, q]
                exact weak_least (i.sub z hz)
              rw [decide_eq_true_eq] at y
              exact y this
            · exact mem_add.mpr (.inr h)
          · show (((s.st.filter _ ++ [n]).length : Nat) : Int) ≤ s.places
            rw [List.length_append, List.length_singleton]; omega
          · show (((t.st.filter _ ++ [n]).length : Nat) : Int) ≤ t.places
            rw [List.length_append, List.length_singleton]; omega
          · show (t.st.filter _ ++ [n]).length ≤ (s.st.filter _ ++ [n]).length + k
            rw [List.length_append, List.length_singleton, List.length_append, List.length_singleton]; omega
        · have e2 : Kd.shelf.came t n = (.bl false, { t with st := t.st ++ [n] }) := by
            unfold Kd.came
            dsimp only
            rw [if_neg h2, if_neg ft]
          rw [e1, e2]
          refine ⟨⟨i.es, i.span, i.part, i.time, i.deed, i.pl, fun m hm => ?_, ?_, ?_, ?_⟩, mem_add.mpr (.inr rfl), false, false, rfl, rfl, fun h => h⟩
          · rcases mem_add.mp hm with h | h
            · exact mem_add.mpr (.inl (i.sub m (List.mem_filter.mp h).1))
            · exact mem_add.mpr (.inr h)
          · show (((s.st.filter _ ++ [n]).length : Nat) : Int) ≤ s.places
            rw [List.length_append, List.length_singleton]; omega
          · show (((t.st ++ [n]).length : Nat) : Int) ≤ t.places
            rw [List.length_append, List.length_singleton]; omega
          · show (t.st ++ [n]).length ≤ (s.st.filter _ ++ [n]).length + k
            rw [List.length_append, List.length_singleton, List.length_append, List.length_singleton]; omega
    · have e1 : Kd.shelf.came s n = (.bl false, { s with st := s.st ++ [n] }) := by
        unfold Kd.came
        dsimp only
        rw [if_neg h1, if_neg fs]
      by_cases h2 : n ∈ t.st
      · have e2 : Kd.shelf.came t n = (.bl true, t) := by unfold Kd.came; dsimp only; rw [if_pos h2]
        rw [e1, e2]
        refine ⟨⟨i.es, i.span, i.part, i.time, i.deed, i.pl, fun m hm => ?_, ?_, a2, ?_⟩, mem_add.mpr (.inr rfl), false, true, rfl, rfl, fun _ => rfl⟩
        · rcases mem_add.mp hm with h | h
          · exact i.sub m h
          · rw [h]; exact h2
        · show (((s.st ++ [n]).length : Nat) : Int) ≤ s.places
          rw [List.length_append, List.length_singleton]; omega
        · show t.st.length ≤ (s.st ++ [n]).length + k
          rw [List.length_append, List.length_singleton]; omega
      · by_cases ft : (t.st.length : Int) = t.places
        · exfalso
          omega
        · have e2 : Kd.shelf.came t n = (.bl false, { t with st := t.st ++ [n] }) := by
            unfold Kd.came
            dsimp only
            rw [if_neg h2, if_neg ft]
          rw [e1, e2]
          refine ⟨⟨i.es, i.span, i.part, i.time, i.deed, i.pl, fun m hm => ?_, ?_, ?_, ?_⟩, mem_add.mpr (.inr rfl), false, false, rfl, rfl, fun h => h⟩
          · rcases mem_add.mp hm with h | h
            · exact mem_add.mpr (.inl (i.sub m h))
            · exact mem_add.mpr (.inr h)
          · show (((s.st ++ [n]).length : Nat) : Int) ≤ s.places
            rw [List.length_append, List.length_singleton]; omega
          · show (((t.st ++ [n]).length : Nat) : Int) ≤ t.places
            rw [List.length_append, List.length_singleton]; omega
          · show (t.st ++ [n]).length ≤ (s.st ++ [n]).length + k
            rw [List.length_append, List.length_singleton, List.length_append, List.length_singleton]; omega
theorem Inc.put {k : Nat} {s t : Th} (i : Inc k s t) (n : Str) (c : Int) : Inc k { s with es := putE s.es n (cntE s.es n + c, (s.deed : Int)) } { t with es := putE t.es n (cntE t.es n + c, (t.deed : Int)) } :=
  ⟨by show putE s.es n _ = putE t.es n _; rw [i.es, i.deed], i.span, i.part, i.time, i.deed, i.pl, i.sub, i.ls, i.lt, i.gap⟩
/-- how the answers stand to one another -/
def AnsOk (d : Deed) (x y : V) : Prop := match d with
  | .rest _ => ∃ z : Int, x = .int z ∧ y = .int z
  | _ => ∃ a b : Bool, x = .bl a ∧ y = .bl b ∧ (a = true → b = true)
theorem Inc.act {k : Nat} {s t : Th} (i : Inc k s t) (w : WF .shelf s) (v : WF .shelf t) (p : Pos1 s) (q : Pos1 t) {ns : List Str} {d : Deed} (g : d.Good ns) :
    Inc k (Kd.shelf.act s d).2 (Kd.shelf.act t d).2 ∧ AnsOk d (Kd.shelf.act s d).1 (Kd.shelf.act t d).1 ∧ (∀ n x, d = .ask n x → n ∈ (Kd.shelf.act s d).2.st) := by
  cases d with
  | rest x =>
    refine ⟨i.next.spend w.next v.next p q g.1, ⟨s.next.times x, rfl, ?_⟩, fun n x h => nomatch h⟩
    show V.int (t.next.times x) = V.int (s.next.times x)
    congr 1
    unfold Th.times
    show (t.time + x) / t.span - t.time / t.span = (s.time + x) / s.span - s.time / s.span
    rw [i.span, i.time]
  | drop n =>
    obtain ⟨h1, h2⟩ := i.next.gone w.next v.next n "dropped"
    exact ⟨h1, ⟨_, _, rfl, rfl, h2⟩, fun n x h => nomatch h⟩
  | ask n x =>
    have i1 := i.next.spend w.next v.next p q (show (0 : Int) ≤ 1 by decide)
    obtain ⟨h1, h2, h3⟩ := i1.came (w.next.spend 1) (v.next.spend 1) n
    refine ⟨h1.put n x, h3, fun m y h => ?_⟩
    cases h
    exact h2
/-- the small one's names, in order, are the great one's that stand on the small -/
theorem Inc.names {k : Nat} {s t : Th} (i : Inc k s t) (w : WF .shelf s) (v : WF .shelf t) : Kd.shelf.names s = (Kd.shelf.names t).filter fun n => decide (n ∈ s.st) := by
  show sortR s.es s.st = (sortR t.es t.st).filter _
  rw [i.es]
  have hs : ∀ n ∈ s.st, n ∈ t.es.map (·.1) := fun n hn => v.sin n (i.sub n hn)
  refine sorted_uniq (lt := lexQ) (f := rankE t.es) ?_ (sortR_sorted _ _) ((sortR_sorted t.es t.st).filter _) fun x hx y hy a b => ?_
  · refine (sortR_perm _ _).trans ((List.perm_ext_iff_of_nodup w.snd (nodup_filter _ ((sortR_perm t.es t.st).nodup_iff.mpr v.snd))).mpr fun n => ?_)
    rw [List.mem_filter, decide_eq_true_eq]
    exact ⟨fun h => ⟨(sortR_perm _ _).mem_iff.mpr (i.sub n h), h⟩, fun h => h.2⟩
  · rw [lexQ_no] at a b
    have e : (rankE t.es x).2 = (rankE t.es y).2 := by omega
    exact lst_one v (hs _ ((sortR_perm _ _).mem_iff.mp hx)) (hs _ ((sortR_perm _ _).mem_iff.mp hy)) e
end Own

/-! ### a deed on a shelf, as its goings tell it -/
namespace Own
open PySem L2
/-- behind the step of time -/
def bt (s : Th) : Deed → Th
  | .ask _ _ => Kd.shelf.spend s.next 1
  | .rest t => Kd.shelf.spend s.next t
  | .drop _ => s.next
theorem times_0 (s : Th) : s.times 0 = 0 := by unfold Th.times; rw [Int.add_zero]; omega
theorem bt_look {s : Th} (w : WF .shelf s) (hp : Pos1 s) {ns : List Str} {d : Deed} (g : d.Good ns) (m : Str) : look (bt s d).es m = ag s.part (s.times d.steps) (look s.es m) := by
  cases d with
  | rest t => exact look_spend (s := s.next) w.next hp g.1 m
  | ask n x => exact look_spend (s := s.next) w.next hp (show (0 : Int) ≤ 1 by decide) m
  | drop n =>
    show look s.es m = ag s.part (s.times 0) (look s.es m)
    rw [times_0, ag_0 hp]
theorem bt_wf {s : Th} (w : WF .shelf s) (d : Deed) : WF .shelf (bt s d) := by
  cases d with
  | rest t => exact w.next.spend t
  | ask n x => exact w.next.spend 1
  | drop n => exact w.next
theorem bt_pos {s : Th} (w : WF .shelf s) (hp : Pos1 s) (d : Deed) : Pos1 (bt s d) := by
  cases d with
  | rest t => exact Pos1.spend (s := s.next) hp w.next t
  | ask n x => exact Pos1.spend (s := s.next) hp w.next 1
  | drop n => exact hp
theorem bt_core (s : Th) (d : Deed) : (bt s d).deed = s.deed + 1 ∧ (bt s d).places = s.places := by
  cases d with
  | rest t => exact ⟨(spend_core .shelf s.next t).2.2.2.1, (spend_core .shelf s.next t).2.2.2.2⟩
  | ask n x => exact ⟨(spend_core .shelf s.next 1).2.2.2.1, (spend_core .shelf s.next 1).2.2.2.2⟩
  | drop n => exact ⟨rfl, rfl⟩
theorem bt_cnt {s : Th} (w : WF .shelf s) (hp : Pos1 s) {ns : List Str} {d : Deed} (g : d.Good ns) (m : Str) : cntE (bt s d).es m = beh s d m := by
  unfold cntE
  rw [bt_look w hp g, cnt_ag]
  rfl
theorem bt_lst {s : Th} (w : WF .shelf s) (hp : Pos1 s) {ns : List Str} {d : Deed} (g : d.Good ns) {m : Str} (h : m ∈ (bt s d).es.map (·.1)) : lstE (bt s d).es m = lstE s.es m ∧ m ∈ s.es.map (·.1) := by
  have h1 := look_mem.mpr h
  rw [bt_look w hp g] at h1
  obtain ⟨h2, h3⟩ := ag_snd h1
  refine ⟨?_, look_mem.mp h3⟩
  unfold lstE
  rw [bt_look w hp g]
  exact h2
theorem beh_drop {s : Th} (n m : Str) : beh s (.drop n) m = cntE s.es m := by
  show agedI (cntE s.es m) s.part (s.times 0) = _
  rw [times_0, agedI_0]
theorem stand_pos {s : Th} (w : WF .shelf s) (hp : Pos1 s) {m : Str} (h : m ∈ s.st) : 0 < cntE s.es m := (pos_iff hp m).mpr (w.sin m h)
theorem bt_st {s : Th} (w : WF .shelf s) (hp : Pos1 s) {ns : List Str} {d : Deed} (g : d.Good ns) : (bt s d).st = s.st.filter fun m => decide (beh s d m ≠ 0) := by
  have key : ∀ n : Int, 0 ≤ n → (∀ m, beh s d m = agedI (cntE s.es m) s.part (s.times n)) → (Kd.shelf.spend s.next n).st = s.st.filter fun m => decide (beh s d m ≠ 0) := fun n hn hb => by
    rw [(spend_shelf (s := s.next) w.next hp hn).1]
    apply List.filter_congr
    intro m _
    rw [hb]
    show (!decide (agedI (cntE s.es m) s.part (s.times n) = 0)) = _
    by_cases h : agedI (cntE s.es m) s.part (s.times n) = 0 <;> simp [h]
  cases d with
  | rest t => exact key t g.1 fun _ => rfl
  | ask n x => exact key 1 (by decide) fun _ => rfl
  | drop n =>
    show s.st = _
    symm
    rw [List.filter_eq_self]
    intro m hm
    have := stand_pos w hp hm
    rw [beh_drop]
    exact decide_eq_true (by omega)
/-- what fades in a deed -/
def fadeD (s : Th) (d : Deed) : List Going := ((byLast s.es).filter fun m => decide (beh s d m = 0) && decide (m ∈ s.st)).map (fadeG s.next)
theorem bt_went {s : Th} (w : WF .shelf s) (hp : Pos1 s) {ns : List Str} {d : Deed} (g : d.Good ns) : (bt s d).went = s.went ++ fadeD s d := by
  cases d with
  | rest t => exact (spend_shelf (s := s.next) w.next hp g.1).2
  | ask n x => exact (spend_shelf (s := s.next) w.next hp (show (0 : Int) ≤ 1 by decide)).2
  | drop n =>
    show s.went = _
    have : fadeD s (.drop n) = [] := by
      unfold fadeD
      rw [List.filter_eq_nil_iff.mpr]
      · rfl
      · intro m _
        rw [beh_drop]
        intro h
        rw [Bool.and_eq_true, decide_eq_true_eq, decide_eq_true_eq] at h
        have := stand_pos w hp h.2
        omega
    rw [this, List.append_nil]
/-- what else goes in a deed -/
def restD (s : Th) (d : Deed) : List Going := match d with
  | .rest _ => []
  | .drop n => if n ∈ s.st then [⟨(s.deed : Int) + 1, n, "dropped", cntE s.es n, lstE s.es n⟩] else []
  | .ask n x => if n ∈ (bt s (.ask n x)).st then [] else if ((bt s (.ask n x)).st.length : Int) = s.places then
      [⟨(s.deed : Int) + 1, weakest (bt s (.ask n x)), "crowded", cntE (bt s (.ask n x)).es (weakest (bt s (.ask n x))), lstE (bt s (.ask n x)).es (weakest (bt s (.ask n x)))⟩] else []
def leftD (st : List Str) (gs : List Going) : List Str := st.filter fun m => decide (m ∉ gs.map (·.name))
theorem leftD_nil (st : List Str) : leftD st [] = st := by
  unfold leftD
  rw [List.filter_eq_self]
  intro m _
  simp
theorem leftD_one (st : List Str) (g : Going) : leftD st [g] = st.filter fun m => decide (m ≠ g.name) := by
  unfold leftD
  apply List.filter_congr
  intro m _
  simp
def addD (s : Th) (d : Deed) : List Str := match d with
  | .ask n x => if n ∈ (bt s (.ask n x)).st then [] else [n]
  | _ => []
theorem act_two {s : Th} (w : WF .shelf s) (d : Deed) : (Kd.shelf.act s d).2.went = (bt s d).went ++ restD s d ∧ (Kd.shelf.act s d).2.st = leftD (bt s d).st (restD s d) ++ addD s d := by
  cases d with
  | rest t =>
    refine ⟨(List.append_nil _).symm, ?_⟩
    show _ = leftD _ [] ++ []
    rw [leftD_nil, List.append_nil]
    rfl
  | drop n =>
    unfold restD
    show (Kd.shelf.gone s.next n "dropped").2.went = _ ∧ (Kd.shelf.gone s.next n "dropped").2.st = _ ++ []
    rw [List.append_nil]
    unfold Kd.gone
    dsimp only
    by_cases h : n ∈ s.st
    · rw [if_pos (show n ∈ s.next.st from h), if_pos h, leftD_one]
      exact ⟨rfl, rfl⟩
    · rw [if_neg (show n ∉ s.next.st from h), if_neg h, leftD_nil]
      exact ⟨(List.append_nil _).symm, rfl⟩
  | ask n x =>
    have bc := bt_core s (.ask n x)
    have bw := bt_wf w (.ask n x)
    unfold restD addD
    show (Kd.shelf.came (bt s (.ask n x)) n).2.went = _ ∧ (Kd.shelf.came (bt s (.ask n x)) n).2.st = _
    dsimp only
    generalize bt s (.ask n x) = b at *
    unfold Kd.came
    dsimp only
    by_cases h : n ∈ b.st
    · rw [if_pos h, if_pos h, if_pos h, leftD_nil, List.append_nil, List.append_nil]
      exact ⟨rfl, rfl⟩
    · rw [if_neg h, if_neg h, if_neg h, bc.2]
      by_cases hf : (b.st.length : Int) = s.places
      · rw [if_pos hf, if_pos hf, leftD_one]
        have hm : weakest b ∈ b.st := weak_mem (nil_st bw (by rw [bc.2]; exact hf))
        unfold Kd.gone
        dsimp only
        rw [if_pos hm]
        refine ⟨?_, rfl⟩
        show b.went ++ _ = _
        congr 2
        rw [bc.1]
        rfl
      · rw [if_neg hf, if_neg hf, leftD_nil, List.append_nil]
        exact ⟨rfl, rfl⟩
/-- as the law looks at what faded -/
structure FadeOk (num : Int) (gs : List Going) (c l : Str → Int) (st : List Str) : Prop where
  row : ∀ g ∈ gs, g.deed = num ∧ g.reason = "faded" ∧ g.name ∈ st ∧ c g.name = 0 ∧ g.count = 0 ∧ g.last = l g.name ∧ 1 ≤ l g.name
  ord : gs.Pairwise fun a b => l a.name < l b.name
  all : ∀ n ∈ st, c n = 0 → n ∈ gs.map (·.name)
  nd : st.Nodup
def LastP (s : Th) : Prop := ∀ n ∈ s.es.map (·.1), 1 ≤ lstE s.es n
theorem fade_ok {s : Th} (w : WF .shelf s) (hp : Pos1 s) (lp : LastP s) {l : Str → Int} (hl : ∀ n ∈ s.es.map (·.1), l n = lstE s.es n) (d : Deed) : FadeOk ((s.deed : Int) + 1) (fadeD s d) (beh s d) l s.st where
  row := fun g hg => by
    obtain ⟨m, hm, rfl⟩ := List.mem_map.mp hg
    obtain ⟨h1, h2⟩ := List.mem_filter.mp hm
    rw [Bool.and_eq_true, decide_eq_true_eq, decide_eq_true_eq] at h2
    have hk := w.sin m h2.2
    refine ⟨?_, rfl, h2.2, h2.1, rfl, (hl m hk).symm, ?_⟩
    · show ((s.deed + 1 : Nat) : Int) = _
      omega
    · show 1 ≤ l m
      rw [hl m hk]
      exact lp m hk
  ord := by
    unfold fadeD
    rw [List.pairwise_map]
    have h1 : (byLast s.es).Pairwise fun x y => lstE s.es x < lstE s.es y := by
      have h2 := byLast_sorted s.es
      have h3 : (byLast s.es).Nodup := (byLast_perm s.es).nodup_iff.mpr w.nd
      refine (h2.and h3).imp_of_mem fun {x y} hx hy h => ?_
      have h4 := of_decide_eq_false h.1
      have kx := (byLast_perm s.es).mem_iff.mp hx
      have ky := (byLast_perm s.es).mem_iff.mp hy
      by_cases e : lstE s.es x = lstE s.es y
      · exact absurd (lst_one w kx ky e) h.2
      · omega
    refine (h1.filter _).imp_of_mem fun {x y} hx hy h => ?_
    show l x < l y
    rw [hl x ((byLast_perm s.es).mem_iff.mp (List.mem_filter.mp hx).1), hl y ((byLast_perm s.es).mem_iff.mp (List.mem_filter.mp hy).1)]
    exact h
  all := fun n hn hc => by
    refine List.mem_map.mpr ⟨fadeG s.next n, List.mem_map.mpr ⟨n, List.mem_filter.mpr ⟨(byLast_perm s.es).mem_iff.mpr (w.sin n hn), ?_⟩, rfl⟩, rfl⟩
    rw [decide_eq_true hc, decide_eq_true hn]
    rfl
  nd := w.snd
def RestOk (num : Int) (d : Deed) (gs : List Going) (c l : Str → Int) (st1 : List Str) (pl : Int) : Prop := match d with
  | .rest _ => gs = []
  | .drop n => (n ∉ st1 ∧ gs = []) ∨ (n ∈ st1 ∧ gs = [⟨num, n, "dropped", c n, l n⟩])
  | .ask n _ => (n ∈ st1 ∧ gs = []) ∨ (n ∉ st1 ∧ (st1.length : Int) ≠ pl ∧ gs = []) ∨ (n ∉ st1 ∧ (st1.length : Int) = pl ∧ ∃ v, v ∈ st1 ∧ gs = [⟨num, v, "crowded", c v, l v⟩] ∧ ∀ m ∈ st1, lexQ (c m, l m) (c v, l v) = false)
theorem rest_ok {s : Th} (w : WF .shelf s) (hp : Pos1 s) {ns : List Str} {l : Str → Int} (hl : ∀ n ∈ s.es.map (·.1), l n = lstE s.es n) {d : Deed} (g : d.Good ns) : RestOk ((s.deed : Int) + 1) d (restD s d) (beh s d) l (bt s d).st s.places := by
  have bw := bt_wf w d
  have rk : ∀ m ∈ (bt s d).st, (beh s d m, l m) = rankE (bt s d).es m := fun m hm => by
    obtain ⟨h1, h2⟩ := bt_lst w hp g (bw.sin m hm)
    unfold rankE
    rw [bt_cnt w hp g, h1, hl m h2]
  cases d with
  | rest t => rfl
  | drop n =>
    show (n ∉ s.st ∧ _) ∨ (n ∈ s.st ∧ _)
    by_cases h : n ∈ s.st
    · right
      refine ⟨h, ?_⟩
      unfold restD
      dsimp only
      rw [if_pos h, beh_drop, hl n (w.sin n h)]
    · left
      refine ⟨h, ?_⟩
      unfold restD
      dsimp only
      rw [if_neg h]
  | ask n x =>
    have bc := bt_core s (.ask n x)
    unfold restD
    dsimp only [RestOk]
    by_cases h : n ∈ (bt s (.ask n x)).st
    · left
      exact ⟨h, by rw [if_pos h]⟩
    · right
      by_cases hf : ((bt s (.ask n x)).st.length : Int) = s.places
      · right
        have hm : weakest (bt s (.ask n x)) ∈ (bt s (.ask n x)).st := weak_mem (nil_st bw (by rw [bc.2]; exact hf))
        refine ⟨h, hf, weakest (bt s (.ask n x)), hm, ?_, fun m hm2 => ?_⟩
        · rw [if_neg h, if_pos hf]
          have := rk _ hm
          unfold rankE at this
          have e1 := congrArg Prod.fst this
          have e2 := congrArg Prod.snd this
          dsimp only at e1 e2
          rw [e1, e2]
        · rw [rk m hm2, rk _ hm]
          exact weak_least hm2
      · left
        exact ⟨h, hf, by rw [if_neg h, if_neg hf]⟩
/-- the last askings behind a deed -/
theorem lastP_act {s : Th} (w : WF .shelf s) (hp : Pos1 s) (lp : LastP s) {ns : List Str} {d : Deed} (g : d.Good ns) : LastP (Kd.shelf.act s d).2 := fun n hn => by
  have h1 := look_mem.mpr hn
  unfold lstE
  rw [look_act w hp g] at h1 ⊢
  have key : (ag s.part (s.times d.steps) (look s.es n)).isSome = true → 1 ≤ ((ag s.part (s.times d.steps) (look s.es n)).map (·.2)).getD 0 := fun h => by
    obtain ⟨h2, h3⟩ := ag_snd h
    rw [h2]
    exact lp n (look_mem.mp h3)
  unfold nextO at h1 ⊢
  cases d with
  | rest t => exact key h1
  | drop m => exact key h1
  | ask m x =>
    dsimp only at h1 ⊢
    by_cases e : n = m
    · rw [if_pos e]
      show 1 ≤ (s.deed : Int) + 1
      omega
    · rw [if_neg e] at h1 ⊢
      exact key h1
/-- .. as the law keeps them -/
theorem lasts_act {s : Th} (w : WF .shelf s) (hp : Pos1 s) {ns : List Str} {l : Str → Int} (hl : ∀ n ∈ s.es.map (·.1), l n = lstE s.es n) {d : Deed} (g : d.Good ns) : ∀ n ∈ (Kd.shelf.act s d).2.es.map (·.1),
    (match d with | .ask m _ => if n = m then (s.deed : Int) + 1 else l n | _ => l n) = lstE (Kd.shelf.act s d).2.es n := fun n hn => by
  have h1 := look_mem.mpr hn
  unfold lstE
  rw [look_act w hp g] at h1 ⊢
  have key : (ag s.part (s.times d.steps) (look s.es n)).isSome = true → l n = ((ag s.part (s.times d.steps) (look s.es n)).map (·.2)).getD 0 := fun h => by
    obtain ⟨h2, h3⟩ := ag_snd h
    rw [h2]
    exact hl n (look_mem.mp h3)
  unfold nextO at h1 ⊢
  cases d with
  | rest t => exact key h1
  | drop m => exact key h1
  | ask m x =>
    dsimp only at h1 ⊢
    by_cases e : n = m
    · rw [if_pos e, if_pos e]
      rfl
    · rw [if_neg e] at h1 ⊢
      rw [if_neg e]
      exact key h1
/-- the answer -/
theorem ans_ask (s : Th) (n : Str) (x : Int) : (Kd.shelf.act s (.ask n x)).1 = .bl (decide (n ∈ (bt s (.ask n x)).st)) := by
  show (Kd.shelf.came (bt s (.ask n x)) n).1 = _
  unfold Kd.came
  dsimp only
  by_cases h : n ∈ (bt s (.ask n x)).st
  · rw [if_pos h, decide_eq_true h]
  · rw [if_neg h, decide_eq_false h]
theorem ans_drop (s : Th) (n : Str) : (Kd.shelf.act s (.drop n)).1 = .bl (decide (n ∈ (bt s (.drop n)).st)) := by
  show V.bl (Kd.shelf.gone s.next n "dropped").1 = .bl (decide (n ∈ s.st))
  unfold Kd.gone
  dsimp only
  by_cases h : n ∈ s.st
  · rw [if_pos (show n ∈ s.next.st from h), decide_eq_true h]
  · rw [if_neg (show n ∉ s.next.st from h), decide_eq_false h]
end Own

/-! ### own rule: xs.remove(t), xs a list of texts that has t -/
namespace OwnS
open PySem PySem.Spec PyProof.Rows L2
def eqs (k : Str) (v : Value) : Bool := match v with
  | .str n _ => n.cps.toList == k.cps.toList
  | _ => false
theorem erase_mapS : ∀ (l : List Str) (j : Nat), (l.map V.str).eraseIdx j = (l.eraseIdx j).map V.str
  | [], j => by simp
  | a :: r, 0 => by simp
  | a :: r, j + 1 => by
    have ih := erase_mapS r j
    simp [ih]
theorem eqs_gives {k : Str} {t : Tok} {us : List Value} {ns : List Str} (r : Vals (ns.map V.str) us) : ∀ y ∈ us, MeetsSeq.EqGives y (.str k t) (eqs k y) := fun y hy => by
  obtain ⟨i, hi, e⟩ := List.mem_iff_getElem.mp hy
  have hl := r.length
  rw [List.length_map] at hl
  obtain ⟨u, hu, ru⟩ := r.get (i := i) (x := V.str ns[i]) (by rw [List.getElem?_map, List.getElem?_eq_getElem (by omega)]; rfl)
  rw [List.getElem?_eq_getElem hi] at hu
  have : u = y := by rw [← e]; exact (Option.some.inj hu).symm
  subst this
  obtain ⟨tk, rfl⟩ := ru
  exact PySem.SeqRoads2.EqGives.str ns[i] k tk t
section
variable {X : Cx}
def rRemT : V → List V → Hp → VK → Prop := fun x xs H Q => ∃ (l : Addr) (ns : List Str) (k : Str) (j : Nat), x = .ref l ∧ xs = [.str k] ∧ H l = some (.lst (ns.map V.str)) ∧ ns[j]? = some k ∧ (∀ m : Nat, m < j → ns[m]? ≠ some k) ∧ Q .non (upd H l (.lst ((ns.eraseIdx j).map V.str)))
theorem cps_inj {x y : Str} (h : x.cps.toList = y.cps.toList) : x = y := by
  cases x
  cases y
  congr 1
  exact Array.toList_inj.mp h
theorem mt_removeT : MtM X "list.remove" rRemT := by
  intro pins s σ H x xs v us Q I rx rxs h
  obtain ⟨l, ns, k, j, rfl, rfl, hH, hj, hno, q⟩ := h
  cases rx
  obtain ⟨u, rfl, ru⟩ := rxs.one
  obtain ⟨t, rfl⟩ := ru
  obtain ⟨z, its, n, r, hl, e⟩ := I.lstM hH
  rw [List.length_map] at hl z
  have hjn : j < ns.length := (List.getElem?_eq_some_iff.mp hj).1
  have hjl : j < its.toArray.size := by rw [List.size_toArray]; omega
  refine call_meets PySem.F.slot_list_remove ⟨_, e, rfl⟩ PySem.F.entry_list_remove (PySem.F.args_list_remove_2 _ _)
    (MeetsSeq.list_remove l its.toArray n (.str k t) (eqs k) (fun y hy => eqs_gives r y (by simpa using hy)) j hjl ?_ ?_ (by rw [List.size_toArray]; omega)) ⟨e, ?_⟩
  · obtain ⟨tj, hjt, rt⟩ := r.get (i := j) (x := V.str k) (by rw [List.getElem?_map, hj]; rfl)
    obtain ⟨tk, rfl⟩ := rt
    obtain ⟨h1, h2⟩ := List.getElem?_eq_some_iff.mp hjt
    have e1 : its.toArray[j] = .str k tk := by simpa using h2
    rw [e1]
    exact beq_self_eq_true k.cps.toList
  · intro m hm hmj
    have hmn : m < ns.length := by omega
    obtain ⟨tm, hmt, rt⟩ := r.get (i := m) (x := V.str ns[m]) (by rw [List.getElem?_map, List.getElem?_eq_getElem hmn]; rfl)
    obtain ⟨tk, rfl⟩ := rt
    obtain ⟨h1, h2⟩ := List.getElem?_eq_some_iff.mp hmt
    have e1 : its.toArray[m] = .str ns[m] tk := by simpa using h2
    rw [e1]
    refine beq_eq_false_iff_ne.mpr fun e2 => hno m hmj ?_
    rw [List.getElem?_eq_getElem hmn, cps_inj e2]
  · have rr := r.eraseIdx j
    rw [erase_mapS] at rr
    refine ⟨.non, _, I.lset (its' := its.eraseIdx j) (t' := s.toks) hH e ?_ rr ?_, rfl, q⟩
    · show its.toArray.eraseIdxIfInBounds j = (its.eraseIdx j).toArray
      rw [List.eraseIdxIfInBounds_toArray]
    · have z2 : (ns.eraseIdx j).length ≤ ns.length := List.length_eraseIdx_le _ _
      rw [List.length_map]
      omega
end
end OwnS
namespace Own
open PySem L2 PyProof.Rows Evl OwnS
section
variable {K : PySem.W.Frag} {σ : L2.St} {H : Hp} {te tv : TE} {D : Ends}
theorem filter_erase {ns : List Str} (nd : ns.Nodup) : ∀ {j : Nat} {k : Str}, ns[j]? = some k → ns.eraseIdx j = ns.filter fun m => decide (m ≠ k) := by
  induction ns with
  | nil => intro j k h; cases h
  | cons a r ih =>
    intro j k h
    have nd2 := List.nodup_cons.mp nd
    cases j with
    | zero =>
      cases h
      show r = _
      rw [List.filter_cons, if_neg (by simp), List.filter_eq_self.mpr]
      intro m hm
      exact decide_eq_true fun q => nd2.1 (by rw [← q]; exact hm)
    | succ j =>
      have h : r[j]? = some k := h
      show a :: r.eraseIdx j = _
      rw [ih nd2.2 h, List.filter_cons, if_pos]
      exact decide_eq_true fun q => nd2.1 (by rw [q]; exact List.mem_of_getElem? h)
/-- xs.remove(k) -/
theorem s_removeT {p : Addr} {ns : List Str} {k : Str} (ho : Ev te σ H (.ref p)) (h : H p = some (.lst (ns.map V.str))) (hv : Ev tv σ H (.str k)) (nd : ns.Nodup) (hk : k ∈ ns) (kk : ∀ H1, Ex H H1 → D.nx σ (upd H1 p (.lst ((ns.filter fun m => decide (m ≠ k)).map V.str)))) : tDrop (tBM K "list" rRemT te (tCons tv tNil)) D σ H :=
  ho H (Ex.refl H) _ fun H1 e1 => ⟨.inl ⟨rfl, _, SqL.of (e1 _ _ h)⟩, hv H1 e1 _ fun H2 e2 => by
    obtain ⟨j, hj, e⟩ := List.mem_iff_getElem.mp hk
    have hjk : ns[j]? = some k := by rw [List.getElem?_eq_getElem hj, e]
    refine ⟨p, ns, k, j, rfl, rfl, e2 _ _ (e1 _ _ h), hjk, fun m hm q => ?_, ?_⟩
    · obtain ⟨hm2, e3⟩ := List.getElem?_eq_some_iff.mp q
      have := (List.getElem_inj (h₀ := hm2) (h₁ := hj) nd).mp (e3.trans e.symm)
      omega
    · rw [filter_erase nd hjk]
      exact kk H2 (e1.trans e2)⟩
end
end Own

/-! ### statements for laws with two things; appended deeds -/
namespace Own
open PySem L2 PyProof.Rows Evl OwnS
section
variable {K : PySem.W.Frag} {σ : L2.St} {H H' : Hp} {ta tb te tx tv : TE} {D : Ends} {tz tu : TS}
theorem q_notCall3 {t1 t2 t3 : TE} {sp : Sp} {E : XK} {x y : V} {R : V → Hp → Prop} (h1 : Ev t1 σ H x) (h2 : Ev t2 σ H y) (h3 : ∀ H1, Ex H H1 → ∀ Q : VK, (∀ z H2, R z H2 → Q z H2) → t3 σ H1 Q) (h4 : ∀ z H2, R z H2 → SpV sp [x, y, z] H2 (.bl true) ∧ ∀ H3, Ex H2 H3 → tz D σ H3) :
    tSeq (tIfS (tNot (tB (tCall sp [] E (tCons t1 (tCons t2 (tCons t3 tNil)))))) tu tNext) tz D σ H :=
  h1 H (Ex.refl H) _ fun H1 e1 => h2 H1 e1 _ fun H2 e2 => h3 H2 (e1.trans e2) _ fun z H3 r => by
    obtain ⟨h5, h6⟩ := h4 z H3 r
    exact h5 H3 (Ex.refl _) _ (fun H4 e4 => ⟨true, rfl, h6 H4 e4⟩) E
theorem s_appP {p : Addr} {xs : List V} {P : V → Hp → Prop} (ho : Ev ta σ H (.ref p)) (h : H p = some (.lst xs)) (hv : EvP tv σ H P) (hz : xs.length < 100000) (k : ∀ v H1, Ex H H1 → P v H1 → H1 p = some (.lst xs) → D.nx σ (upd H1 p (.lst (xs ++ [v])))) : tDrop (tBM K "list" rAppend ta (tCons tv tNil)) D σ H :=
  ho H (Ex.refl H) _ fun H1 e1 => ⟨.inl ⟨rfl, _, SqL.of (e1 _ _ h)⟩, hv H1 e1 _ fun v H2 e2 p2 => ⟨p, xs, v, rfl, rfl, e2 _ _ (e1 _ _ h), sz_lt hz, k v H2 (e1.trans e2) p2 (e2 _ _ (e1 _ _ h))⟩⟩
/-- if c: i = .., j = .. (ints) -/
theorem q_ifZ2 {t : TT} {te1 te2 : TE} {b : Bool} {i j : Nat} {n1 n2 m1 m2 : Int} (hold : (σ.set i (some (.int n1))).set j (some (.int n2)) = σ) (h : EvT t σ H b) (h1 : Ev te1 σ H (.int m1)) (h2 : ∀ H1, Ex H H1 → Ev te2 (σ.set i (some (.int m1))) H1 (.int m2))
    (k : ∀ x y H1, Ex H H1 → ((b = true ∧ x = m1 ∧ y = m2) ∨ (b = false ∧ x = n1 ∧ y = n2)) → tz D ((σ.set i (some (.int x))).set j (some (.int y))) H1) : tSeq (tIfS t (tSeq (tAsg te1 (gName i)) (tAsg te2 (gName j))) tNext) tz D σ H :=
  q_when h (fun hb H1 e1 => q_asg (h1.mono e1) fun H2 e2 => s_asg (D := { D with nx := tz D }) (h2 H2 (e1.trans e2)) fun H3 e3 => k m1 m2 H3 ((e1.trans e2).trans e3) (.inl ⟨hb, rfl, rfl⟩)) (fun hb H1 e1 => by
    have g := k n1 n2 H1 e1 (.inr ⟨hb, rfl, rfl⟩)
    rw [hold] at g
    exact g)
end
end Own

/-! ### lists with None among the items; an if whose end is told once -/
namespace Own
open PySem L2 PyProof.Rows Evl OwnS
section
variable {K : PySem.W.Frag} {σ : L2.St} {H H' : Hp} {t u : TT} {ta tb te tx tv : TE} {D : Ends} {tz tu : TS}
theorem q_whenM {b : Bool} {M : L2.St → Hp → Prop} (h : EvT t σ H b) (h1 : b = true → ∀ H1, Ex H H1 → ∀ D' : Ends, (∀ σ' H', M σ' H' → D'.nx σ' H') → tu D' σ H1) (h2 : b = false → ∀ H1, Ex H H1 → M σ H1) (k : ∀ σ' H', M σ' H' → tz D σ' H') : tSeq (tIfS t tu tNext) tz D σ H :=
  q_when h (fun hb H1 e1 => h1 hb H1 e1 { D with nx := tz D } k) (fun hb H1 e1 => k σ H1 (h2 hb H1 e1))
theorem eqV_strs (a b : Str) : eqV (.str a) (.str b) = decide (a = b) := by
  first
  | rfl
  | (unfold eqV; by_cases h : a = b <;> simp [h])
theorem eqV_o (o : Option Str) (n : Str) : eqV (oV o) (.str n) = decide (o = some n) := by
  cases o with
  | none => rfl
  | some m =>
    show eqV (.str m) (.str n) = _
    rw [eqV_strs]
    by_cases h : m = n
    · rw [decide_eq_true h, decide_eq_true (by rw [h])]
    · rw [decide_eq_false h, decide_eq_false (fun q => h (Option.some.inj q))]
theorem inV_o {n : Str} {l : List (Option Str)} : inV (.str n) (l.map oV) = decide (some n ∈ l) := by
  unfold inV
  rw [List.any_map, Bool.eq_iff_iff, List.any_eq_true, decide_eq_true_eq]
  constructor
  · rintro ⟨m, hm, h⟩
    have h : eqV (oV m) (.str n) = true := h
    rw [eqV_o, decide_eq_true_eq] at h
    exact h ▸ hm
  · intro h
    refine ⟨some n, h, ?_⟩
    show eqV (oV (some n)) (.str n) = true
    rw [eqV_o]
    exact decide_eq_true rfl
theorem flat_o (l : List (Option Str)) : (l.map oV).all flatV = true := by
  rw [List.all_map, List.all_eq_true]
  intro x _
  cases x <;> rfl
/-- l.index(n) -/
theorem ev_indexO {p : Addr} {l : List (Option Str)} {n : Str} (ha : Ev ta σ H (.ref p)) (hb : Ev tb σ H (.str n)) (h : H p = some (.lst (l.map oV))) (hn : some n ∈ l) : Ev (tBM K "list" (rIndex K) ta (tCons tb tNil)) σ H (.int (idx l n : Int)) := fun H1 e Q q =>
  ha H1 e _ fun H2 e2 => ⟨.inl ⟨rfl, _, SqL.of (e2 _ _ (e _ _ h))⟩, hb H2 (e.trans e2) _ fun H3 e3 => by
    have at1 := idx_at hn
    refine ⟨p, l.map oV, .str n, idx l n, .str n, rfl, rfl, SqL.of (((e.trans e2).trans e3) _ _ h), rfl, flat_o l, by rw [List.getElem?_map, at1]; rfl, by rw [eqV_strs]; exact decide_eq_true rfl, fun m z hm hz => ?_, q H3 (e2.trans e3)⟩
    rw [List.getElem?_map] at hz
    obtain ⟨o, ho, rfl⟩ := Option.map_eq_some_iff.mp hz
    rw [eqV_o, decide_eq_false_iff_not]
    intro q2
    obtain ⟨hl, e2⟩ := List.getElem?_eq_some_iff.mp ho
    have := List.not_of_lt_findIdx (p := fun o => decide (o = some n)) (xs := l) hm
    simp [e2, q2] at this⟩
theorem s_popL {p : Addr} {xs : List V} (ho : Ev te σ H (.ref p)) (h : H p = some (.lst xs)) (hx : xs ≠ []) (k : ∀ H1, Ex H H1 → D.nx σ (upd H1 p (.lst xs.dropLast))) : tDrop (tBM0 K "list" rPop te) D σ H :=
  ho H (Ex.refl H) _ fun H1 e1 => ⟨.inl ⟨rfl, _, SqL.of (e1 _ _ h)⟩, p, xs, xs.getLast hx, rfl, rfl, e1 _ _ h, by rw [← List.getLast?_eq_getElem?, List.getLast?_eq_some_getLast hx], k H1 e1⟩
theorem atI_last {xs : List V} {v : V} (h : xs.getLast? = some v) : atI xs (-1) = some v := by
  have hl : 0 < xs.length := by
    cases xs with
    | nil => cases h
    | cons a r => exact Nat.succ_pos _
  unfold atI ixN
  rw [if_neg (by decide), if_pos (by omega)]
  show xs[((-1 : Int) + xs.length).toNat]? = some v
  rw [show ((-1 : Int) + xs.length).toNat = xs.length - 1 by omega, ← List.getLast?_eq_getElem?, h]
/-- what of a list of names and None is a name -/
theorem range_getDO {α : Type} (l : List α) (d : α) : (List.range l.length).map (fun j => l.getD j d) = l := by
  apply List.ext_getElem?
  intro i
  rw [List.getElem?_map]
  by_cases h : i < l.length
  · rw [List.getElem?_range h, List.getElem?_eq_getElem h]
    show some (l.getD i d) = _
    rw [List.getD_eq_getElem?_getD, List.getElem?_eq_getElem h]
    rfl
  · rw [List.getElem?_eq_none (by rw [List.length_range]; omega), List.getElem?_eq_none (by omega)]
    rfl
theorem given_o (l : List (Option Str)) : given l.length (fun i => (l.getD i none).isSome) (fun i => oV (l.getD i none)) = (l.filterMap id).map V.str := by
  unfold given
  have h1 : ∀ m : List (Option Str), (m.filterMap id).map V.str = (m.filter (·.isSome)).map oV := by
    intro m
    induction m with
    | nil => rfl
    | cons o r ih =>
      cases o with
      | none => exact ih
      | some n =>
        show V.str n :: _ = oV (some n) :: _
        rw [ih]
        rfl
  rw [h1]
  conv => rhs; rw [← range_getDO l none]
  rw [List.filter_map, List.map_map]
  rfl
end
end Own

/-! ### rows of tuples: slices, walks; is True of a bool or an int -/
namespace Own
open PySem L2 PyProof.Rows Evl OwnS
def rIsBI : R2 := fun x y H Q => ∃ b : Bool, y = .bl b ∧ ((∃ a : Bool, x = .bl a ∧ Q (.bl (decide (a = b))) H) ∨ ∃ i : Int, x = .int i ∧ Q (.bl false) H)
section
variable {X : Cx}
theorem op_isBI : OpR X (compareOp .Is) rIsBI := by
  intro pins s σ H x y v u Q I rx ry h
  obtain ⟨b, rfl, ⟨a, rfl, q⟩ | ⟨i, rfl, q⟩⟩ := h
  · exact op_isBl pins s σ H _ _ v u Q I rx ry ⟨a, b, rfl, rfl, q⟩
  · cases (show u = Value.bool b from ry)
    obtain ⟨t, rfl⟩ := rx
    exact wpAny_is_other rfl (fun z => nomatch z) ⟨.bl false, H, I, rfl, q⟩
end
/-- the items are tuples, these -/
def RowsV (H : Hp) (vs : List V) (rows : List (List V)) : Prop := vs.length = rows.length ∧ ∀ (i : Nat) (r : List V), rows[i]? = some r → ∃ q, vs[i]? = some (.ref q) ∧ H q = some (.tup r)
theorem RowsV.ex {H H' : Hp} {vs : List V} {rows : List (List V)} (h : RowsV H vs rows) (e : Ex H H') : RowsV H' vs rows := ⟨h.1, fun i r hr => by
  obtain ⟨q, a, b⟩ := h.2 i r hr
  exact ⟨q, a, e _ _ b⟩⟩
theorem notOwn {k : Kd} {C : Addr} {ad : Ad} {H : Hp} {s : Th} (A : At k C ad H s) {q : Addr} {r : List V} (h : H q = some (.tup r)) : q ∉ own k ad := fun hq => by
  obtain ⟨o, h1, h2⟩ := A.noTup hq
  rw [h] at h1
  exact h2 _ (Option.some.inj h1).symm
theorem RowsV.kp {k : Kd} {C : Addr} {ad : Ad} {H H' : Hp} {s : Th} {vs : List V} {rows : List (List V)} (h : RowsV H vs rows) (A : At k C ad H s) (K : Kp k ad H H') : RowsV H' vs rows := ⟨h.1, fun i r hr => by
  obtain ⟨q, a, b⟩ := h.2 i r hr
  exact ⟨q, a, K _ _ b (notOwn A b)⟩⟩
theorem TupsAt.kp {k : Kd} {C : Addr} {ad : Ad} {H H' : Hp} {s : Th} {p : Addr} {rows : List (List V)} (h : TupsAt H p rows) (A : At k C ad H s) (K : Kp k ad H H') (hp : p ∉ own k ad) : TupsAt H' p rows := by
  obtain ⟨vs, h1, h2, h3⟩ := h
  refine ⟨vs, K _ _ h1 hp, h2, fun i r hr => ?_⟩
  obtain ⟨q, a, b⟩ := h3 i r hr
  exact ⟨q, a, K _ _ b (notOwn A b)⟩
/-- a new list of such tuples -/
def EvRows (te : TE) (σ : L2.St) (H : Hp) (rows : List (List V)) : Prop := ∀ H1, Ex H H1 → ∀ Q : VK, (∀ p H2, H1 p = none → Ex H1 H2 → TupsAt H2 p rows → Q (.ref p) H2) → te σ H1 Q
theorem cutV_to (xs : List V) (k : Nat) : cutV xs none (some (k : Int)) = xs.take k := by
  unfold cutV
  rw [HT.sIx_none, HT.sIx_nat, List.drop_zero, Nat.sub_zero]
  by_cases h : k ≤ xs.length
  · rw [Nat.min_eq_left h]
  · rw [Nat.min_eq_right (by omega), List.take_of_length_le (Nat.le_refl _), List.take_of_length_le (by omega)]
theorem cutV_from (xs : List V) (k : Nat) (h : k ≤ xs.length) : cutV xs (some (k : Int)) none = xs.drop k := by
  unfold cutV
  rw [HT.sIx_none, HT.sIx_nat, Nat.min_eq_left h, List.take_of_length_le (by rw [List.length_drop]; omega)]
section
variable {K : PySem.W.Frag} {σ : L2.St} {H H' : Hp} {t u : TT} {ta tb te tx tv : TE} {D : Ends} {tz tu : TS}
theorem er_take {p : Addr} {rows : List (List V)} {k : Nat} (h : Ev te σ H (.ref p)) (hT : TupsAt H p rows) (hb : Ev tb σ H (.int (k : Int))) : EvRows (tSl (rSlL K) te tNoPart (tPart tb)) σ H (rows.take k) := fun H1 e Q q =>
  h H1 e _ fun H2 e2 => hb H2 (e.trans e2) _ fun H3 e3 => ⟨_, rfl, by
    obtain ⟨vs, g1, g2, g3⟩ := hT.ex ((e.trans e2).trans e3)
    refine ⟨p, vs, rfl, SqL.of g1, fun q' hq' => q q' _ (fresh_back (e2.trans e3) hq') ((e2.trans e3).trans (Ex.new hq')) ?_⟩
    refine ⟨vs.take k, by rw [upd_same, cutV_to], by rw [List.length_take, List.length_take, g2], fun i r hr => ?_⟩
    have hi : i < k := by
      by_cases q : i < k
      · exact q
      · rw [List.getElem?_eq_none (by rw [List.length_take]; omega)] at hr
        cases hr
    rw [List.getElem?_take_of_lt hi] at hr
    obtain ⟨t, t1, t2⟩ := g3 _ r hr
    exact ⟨t, by rw [List.getElem?_take_of_lt hi]; exact t1, Ex.new hq' _ _ t2⟩⟩
theorem er_drop {p : Addr} {rows : List (List V)} {k : Nat} (h : Ev te σ H (.ref p)) (hT : TupsAt H p rows) (hb : Ev tb σ H (.int (k : Int))) (hk : k ≤ rows.length) : EvRows (tSl (rSlL K) te (tPart tb) tNoPart) σ H (rows.drop k) := fun H1 e Q q =>
  h H1 e _ fun H2 e2 => hb H2 (e.trans e2) _ fun H3 e3 => ⟨_, rfl, by
    obtain ⟨vs, g1, g2, g3⟩ := hT.ex ((e.trans e2).trans e3)
    refine ⟨p, vs, rfl, SqL.of g1, fun q' hq' => q q' _ (fresh_back (e2.trans e3) hq') ((e2.trans e3).trans (Ex.new hq')) ?_⟩
    refine ⟨vs.drop k, by rw [upd_same, cutV_from _ _ (by omega)], by rw [List.length_drop, List.length_drop, g2], fun i r hr => ?_⟩
    rw [List.getElem?_drop] at hr
    obtain ⟨t, t1, t2⟩ := g3 _ r hr
    exact ⟨t, by rw [List.getElem?_drop]; exact t1, Ex.new hq' _ _ t2⟩⟩
/-- for row in a new list of tuples -/
theorem q_forRows {rows : List (List V)} {j : Nat} (h : EvRows te σ H rows) (Pv : Addr → List V → Nat → L2.St → Hp → Prop) (h0 : ∀ p vs H1, H p = none → Ex H H1 → H1 p = some (.lst vs) → RowsV H1 vs rows → Pv p vs 0 σ H1)
    (hl : ∀ p vs i σ' H', Pv p vs i σ' H' → H' p = some (.lst vs))
    (hs : ∀ p vs i r q σ' H', rows[i]? = some r → vs[i]? = some (.ref q) → Pv p vs i σ' H' → tu { D with nx := Pv p vs (i + 1), ct := Pv p vs (i + 1), bk := tz D } (σ'.set j (some (.ref q))) H') (hd : ∀ p vs σ' H', Pv p vs rows.length σ' H' → tz D σ' H') :
    tSeq (tFor (iList K te) (gName j) tu) tz D σ H := h H (Ex.refl H) _ fun p H1 hp e hT => by
  obtain ⟨vs, g1, g2, g3⟩ := hT
  refine ⟨p, rfl, ⟨vs, SqL.of g1⟩, for_it (D := { D with nx := tz D }) (walk_list (K := K) (a := p) (xs := vs)) (Pv p vs) (h0 p vs H1 hp e g1 ⟨g2, g3⟩) (fun i σ' H' _ h => SqL.of (hl p vs i σ' H' h)) (fun i x σ' G G' hi hP hy => ?_) (fun σ' H' hP => ?_)⟩
  · obtain ⟨rfl, hx⟩ := hy
    obtain ⟨r, hr⟩ : ∃ r, rows[i]? = some r := ⟨_, List.getElem?_eq_getElem (by omega)⟩
    obtain ⟨q, q1, _⟩ := g3 i r hr
    rw [hx] at q1
    cases q1
    exact hs p vs i r q σ' _ hr hx hP
  · rw [g2] at hP
    exact hd p vs σ' H' hP
/-- f(.., a call that changes things, ..) is True and ..: an if -/
def isTrueV : V → Option Bool
  | .bl a => some a
  | .int _ => some false
  | _ => none
theorem s_ifIsAnd {t1 : TE} {R : V → Hp → Prop} (h1 : ∀ Q : VK, (∀ v H1, R v H1 → Q v H1) → t1 σ H Q) (h2 : ∀ v H1, R v H1 → ∃ a b : Bool, isTrueV v = some a ∧ (a = true → EvT u σ H1 b) ∧ ∀ H2, Ex H1 H2 → ((a && b) = true → tu D σ H2) ∧ ((a && b) = false → D.nx σ H2)) :
    tIfS (tAnd (tTest (tOp rIsBI t1 (tC (.bl true)))) u) tu tNext D σ H := h1 _ fun v H1 r => by
  obtain ⟨a, b, ha, hu, k⟩ := h2 v H1 r
  have fin : ∀ c : Bool, c = a → (if c = true then u σ H1 else fun Q => Q false H1) (fun b H2 => if b = true then tu D σ H2 else tNext D σ H2) := by
    rintro c rfl
    cases c with
    | false =>
      show tNext D σ H1
      exact (k H1 (Ex.refl _)).2 rfl
    | true =>
      show u σ H1 _
      refine hu rfl H1 (Ex.refl _) _ fun H2 e2 => ?_
      cases b with
      | true => exact (k H2 e2).1 rfl
      | false => exact (k H2 e2).2 rfl
  refine ⟨true, rfl, ?_⟩
  cases v with
  | bl x =>
    refine .inl ⟨x, rfl, ⟨_, rfl, ?_⟩⟩
    have hx : decide (x = true) = a := by
      have := Option.some.inj (show some x = some a from ha)
      rw [← this]
      cases x <;> rfl
    have := fin _ hx
    cases hd : decide (x = true) <;> (rw [hd] at this; exact this)
  | int x =>
    refine .inr ⟨x, rfl, ⟨_, rfl, ?_⟩⟩
    exact fin false (Option.some.inj (show some false = some a from ha))
  | _ => cases ha
end
end Own

/-! ### many shelves: comprehensions that change the heap, walks over two lists -/
namespace Own
open PySem L2 PyProof.Rows Evl OwnS
section
variable {K : PySem.W.Frag} {σ : L2.St} {H H' : Hp} {t u : TT} {ta tb te tx tv : TE} {D : Ends} {tz tu : TS}
/-- [e for x in xs], where e may change what stands -/
theorem lc_mut {a : Addr} {xs : List V} {tl : TE} {j : Nat} {vs : List Nat} {Q : VK} (h : Ev tl σ H (.ref a)) (hx : SqL K H a xs) (hz : xs.length ≤ 40000) (Inv : Addr → Nat → List V → Hp → Prop) (hw : ∀ x, wipe ((wipe σ vs).set j (some x)) vs = wipe σ vs)
    (h0 : ∀ D H1, Ex H H1 → H1 D = none → Inv D 0 [] (upd H1 D (.lst [])))
    (hl : ∀ D i ys H', Inv D i ys H' → SqL K H' a xs ∧ ys.length = i)
    (ht : ∀ D i x ys H', xs[i]? = some x → Inv D i ys H' → ∀ Q' : VK, (∀ y H4, H4 D = some (.lst ys) → Inv D (i + 1) (ys ++ [y]) (upd H4 D (.lst (ys ++ [y]))) → Q' y H4) → te ((wipe σ vs).set j (some x)) H' Q')
    (hd : ∀ D ys H', H D = none → Inv D xs.length ys H' → Q (.ref D) H') : tLc (iList K tl) (gName j) tYes te vs σ H Q :=
  h H (Ex.refl H) _ fun H1 e1 => ⟨a, rfl, ⟨xs, ex_l e1 hx⟩, fun D hD => lc_list (xs := xs) (fun i H' => ∃ ys, Inv D i ys H') ⟨[], h0 D H1 e1 hD⟩ (fun i H' _ p => by
    obtain ⟨ys, p⟩ := p
    exact (hl D i ys H' p).1) (fun i x H' hi p => by
    obtain ⟨ys, p⟩ := p
    have hlen := (hl D i ys H' p).2
    have hi' := (List.getElem?_eq_some_iff.mp hi).1
    exact ⟨hw x, ht D i x ys H' hi p _ fun y H4 h4 p4 => ⟨ys, h4, sz_lt (by omega), ys ++ [y], p4⟩⟩) (fun H' p => by
    obtain ⟨ys, p⟩ := p
    exact hd D ys H' (fresh_back e1 hD) p)⟩
theorem q_asgR {i : Nat} {R : V → Hp → Prop} (h : ∀ Q : VK, (∀ v H1, R v H1 → Q v H1) → te σ H Q) (k : ∀ v H1, R v H1 → tz D (σ.set i (some v)) H1) : tSeq (tAsg te (gName i)) tz D σ H := h _ fun v H1 r => k v H1 r
/-- if not f(x, a call that changes things, z, u): .. -/
theorem q_notCall4 {t1 t2 t3 t4 : TE} {sp : Sp} {E : XK} {x : V} {R : V → Hp → Prop} (h1 : Ev t1 σ H x) (h2 : ∀ H1, Ex H H1 → ∀ Q : VK, (∀ y H2, R y H2 → Q y H2) → t2 σ H1 Q)
    (h3 : ∀ y H2, R y H2 → ∃ z u, Ev t3 σ H2 z ∧ Ev t4 σ H2 u ∧ SpV sp [x, y, z, u] H2 (.bl true) ∧ ∀ H3, Ex H2 H3 → tz D σ H3) :
    tSeq (tIfS (tNot (tB (tCall sp [] E (tCons t1 (tCons t2 (tCons t3 (tCons t4 tNil))))))) tu tNext) tz D σ H :=
  h1 H (Ex.refl H) _ fun H1 e1 => h2 H1 e1 _ fun y H2 r => by
    obtain ⟨z, u, g1, g2, g3, k⟩ := h3 y H2 r
    exact g1 H2 (Ex.refl _) _ fun H3 e3 => g2 H3 e3 _ fun H4 e4 => g3 H4 (e3.trans e4) _ (fun H5 e5 => ⟨true, rfl, k H5 ((e3.trans e4).trans e5)⟩) E
/-- for x, y in zip(xs, ys) -/
theorem s_forZ {a b : Addr} {xs ys : List V} {tr : TA} {i j : Nat} (h : EvA tr σ H [.ref a, .ref b]) (hx : SqL K H a xs) (hy : SqL K H b ys) (hl : xs.length = ys.length) (Pv : Nat → L2.St → Hp → Prop) (h0 : ∀ H1, Ex H H1 → Pv 0 σ H1) (hq : ∀ i σ' H', i ≤ xs.length → Pv i σ' H' → SqL K H' a xs ∧ SqL K H' b ys)
    (hs : ∀ (t : Nat) x y σ' H' H2, xs[t]? = some x → ys[t]? = some y → Pv t σ' H' → Ex H' H2 → tu { D with nx := Pv (t + 1), ct := Pv (t + 1), bk := D.nx } ((σ'.set i (some x)).set j (some y)) H2) (hd : ∀ σ' H', Pv xs.length σ' H' → D.nx σ' H') :
    tFor (iZip K tr) (gTup K 2 (gCons (gName i) (gCons (gName j) gNil))) tu D σ H :=
  h H (Ex.refl H) _ fun H1 e => ⟨a, b, xs, ys, rfl, ex_l e hx, ex_l e hy, for_it (walk_zip (n := xs.length) (by omega)) Pv (h0 H1 e) hq (fun t x σ' H' H2 ht hp hy => by
    obtain ⟨T, u, v, rfl, hT, rfl, g1, g2⟩ := hy
    exact got_pair (SqT.of upd_same) _ (hs t u v σ' H' _ g1 g2 hp (Ex.new hT))) hd⟩
theorem q_forZ {a b : Addr} {xs ys : List V} {tr : TA} {i j : Nat} (h : EvA tr σ H [.ref a, .ref b]) (hx : SqL K H a xs) (hy : SqL K H b ys) (hl : xs.length = ys.length) (Pv : Nat → L2.St → Hp → Prop) (h0 : ∀ H1, Ex H H1 → Pv 0 σ H1) (hq : ∀ i σ' H', i ≤ xs.length → Pv i σ' H' → SqL K H' a xs ∧ SqL K H' b ys)
    (hs : ∀ (t : Nat) x y σ' H' H2, xs[t]? = some x → ys[t]? = some y → Pv t σ' H' → Ex H' H2 → tu { D with nx := Pv (t + 1), ct := Pv (t + 1), bk := tz D } ((σ'.set i (some x)).set j (some y)) H2) (hd : ∀ σ' H', Pv xs.length σ' H' → tz D σ' H') :
    tSeq (tFor (iZip K tr) (gTup K 2 (gCons (gName i) (gCons (gName j) gNil))) tu) tz D σ H := s_forZ (D := { D with nx := tz D }) h hx hy hl Pv h0 hq hs hd
/-- xs.clear() of a list that stands -/
theorem q_clearV {p : Addr} {xs : List V} (ho : Ev te σ H (.ref p)) (h : H p = some (.lst xs)) (k : ∀ H1, Ex H H1 → H1 p = some (.lst xs) → tz D σ (upd H1 p (.lst []))) : tSeq (tDrop (tBM0 K "list" rClear te)) tz D σ H :=
  ho H (Ex.refl H) _ fun H1 e1 => ⟨.inl ⟨rfl, _, SqL.of (e1 _ _ h)⟩, p, xs, rfl, rfl, e1 _ _ h, k H1 e1 (e1 _ _ h)⟩
theorem q_clearN {xs : List V} (h : EvL te σ H xs) (k : ∀ H1, Ex H H1 → tz D σ H1) : tSeq (tDrop (tBM0 K "list" rClear te)) tz D σ H := s_clearN (D := { D with nx := tz D }) h k
theorem el_cat2 {l : Addr} {xs zs : List V} (ha : Ev ta σ H (.ref l)) (h : H l = some (.lst xs)) (hb : EvL tb σ H zs) (hz : xs.length + zs.length ≤ 100000) : EvL (tOp rCat ta tb) σ H (xs ++ zs) := fun H1 e Q q =>
  ha H1 e _ fun H2 e2 => hb H2 (e.trans e2) _ fun b H3 hb0 e3 h3 => ⟨l, b, xs, zs, rfl, rfl, e3 _ _ (e2 _ _ (e _ _ h)), h3, sz_of hz, fun p hp => q p _ (fresh_back (e2.trans e3) hp) ((e2.trans e3).trans (Ex.new hp)) upd_same⟩
theorem el_listRg {a b : Int} (ha : Ev ta σ H (.int a)) (hb : Ev tb σ H (.int b)) (ok : RgOk a b) : EvL (tLstRg (tRg2 ta tb)) σ H (rgV a b) := fun H1 e Q q =>
  ha H1 e _ fun H2 e2 => hb H2 (e.trans e2) _ fun H3 e3 => ⟨a, b, rfl, rfl, ok, fun p hp => q p _ (fresh_back (e2.trans e3) hp) ((e2.trans e3).trans (Ex.new hp)) upd_same⟩
/-- held.append((x, list(..))) -/
theorem q_appPair {t1 t2 : TE} {p : Addr} {xs l1 : List V} {x : V} (ho : Ev ta σ H (.ref p)) (h : H p = some (.lst xs)) (hz : xs.length < 100000) (h1 : Ev t1 σ H x) (h2 : EvL t2 σ H l1)
    (k : ∀ a q H1, H a = none → H q = none → Ex H H1 → H1 a = some (.lst l1) → H1 q = some (.tup [x, .ref a]) → H1 p = some (.lst xs) → tz D σ (upd H1 p (.lst (xs ++ [.ref q])))) :
    tSeq (tDrop (tBM K "list" rAppend ta (tCons (tTup (tCons t1 (tCons t2 tNil))) tNil))) tz D σ H :=
  ho H (Ex.refl H) _ fun H1 e1 => ⟨.inl ⟨rfl, _, SqL.of (e1 _ _ h)⟩, h1 H1 e1 _ fun H2 e2 => h2 H2 (e1.trans e2) _ fun a H3 ha e3 ha3 => ⟨sz_of (by simp), fun q hq => by
    have E5 := (e1.trans e2).trans e3
    have E6 : Ex H3 (upd H3 q (.tup [x, .ref a])) := Ex.new hq
    exact ⟨p, xs, _, rfl, rfl, E6 _ _ (E5 _ _ h), sz_lt hz, k a q _ (fresh_back (e1.trans e2) ha) (fresh_back E5 hq) (E5.trans E6) (E6 _ _ ha3) upd_same (E6 _ _ (E5 _ _ h))⟩⟩⟩
theorem shaped_all {ds : List PyData} (h : ∀ d ∈ ds, d.canLay0 = true ∧ d.depth ≤ 10) : SeqAt.shaped (.list ds) = true := by
  have h1 : ∀ ds : List PyData, (∀ d ∈ ds, d.canLay0 = true ∧ d.depth ≤ 10) → PyData.canLayAll0 ds = true ∧ PyData.depthAll ds ≤ 10 := by
    intro ds
    induction ds with
    | nil => intro _; exact ⟨rfl, Nat.zero_le _⟩
    | cons d ds ih =>
      intro h
      obtain ⟨a, b⟩ := ih fun x hx => h x (List.mem_cons_of_mem _ hx)
      obtain ⟨c, e⟩ := h d List.mem_cons_self
      refine ⟨by rw [PyData.canLayAll0, c, a]; rfl, ?_⟩
      rw [PyData.depthAll]
      exact Nat.max_le.mpr ⟨e, b⟩
  obtain ⟨a, b⟩ := h1 ds h
  unfold SeqAt.shaped
  rw [Bool.and_eq_true]
  refine ⟨a, decide_eq_true ?_⟩
  rw [PyData.depth]
  omega
/-- sorted texts: two lists with the same items -/
theorem ev_sortEq {x y : List Str} (hx : EvL ta σ H (x.map V.str)) (hy : EvL tb σ H (y.map V.str)) (hp : x.Perm y) (gx : ∀ n ∈ x, PyData.strOk n = true) : Ev (tOp (rEqD K) (tCB (rSortD K) (tCons ta tNil)) (tCB (rSortD K) (tCons tb tNil))) σ H (.bl true) := by
  have key : ∀ {te : TE} {z : List Str}, EvL te σ H (z.map V.str) → EvLP (tCB (rSortD K) (tCons te tNil)) σ H (fun ys H' => DpAll K H' ys ((z.map PyData.str).mergeSort (PySem.W.dataLe false id))) := fun {te z} h =>
    elp_sortD (ds := z.map PyData.str) (EvLP.of h) (fun ys H' e => by
      rw [e]
      clear h e
      induction z with
      | nil => exact .nil
      | cons n r ih => exact .cons (.str n) ih) (by
      intro d hd e he
      obtain ⟨n, _, rfl⟩ := List.mem_map.mp hd
      obtain ⟨m, _, rfl⟩ := List.mem_map.mp he
      simp only [PySem.W.alike]) (PySem.W.Sortable.others fun b => ⟨(fun h => nomatch h), fun xs h => nomatch h⟩) (by
      intro d hd
      obtain ⟨n, _, rfl⟩ := List.mem_map.mp hd
      simp [PyData.depth])
  have e : (x.map PyData.str).mergeSort (PySem.W.dataLe false id) = (y.map PyData.str).mergeSort (PySem.W.dataLe false id) := by
    refine sort_perm_eq (hp.map _) fun a ha b hb h => ?_
    obtain ⟨n, _, rfl⟩ := List.mem_map.mp ha
    obtain ⟨m, _, rfl⟩ := List.mem_map.mp hb
    simp only [PySem.W.keyToks, List.cons.injEq, Sum.inr.injEq, true_and, and_true] at h
    congr 1
    cases n
    cases m
    congr 1
    exact Array.toList_inj.mp h
  have hx2 := key hx
  have hy2 := key hy
  rw [← e] at hy2
  refine ev_eqD (d := .list ((x.map PyData.str).mergeSort (PySem.W.dataLe false id))) (fun H1 e Q q => hx2 H1 e Q fun p ys H2 _ e2 h2 hD => q _ H2 e2 (.lst (sq_of h2) hD)) (fun H1 e Q q => hy2 H1 e Q fun p ys H2 _ e2 h2 hD => q _ H2 e2 (.lst (sq_of h2) hD)) ?_
  refine shaped_all fun d hd => ?_
  obtain ⟨n, hn, rfl⟩ := List.mem_map.mp ((List.mergeSort_perm _ _).mem_iff.mp hd)
  exact ⟨gx n hn, Nat.zero_le _⟩
end
end Own

namespace Own
open PySem L2 PyProof.Rows Evl OwnS
def topS (i : Nat) : Stmt := PySem.Challenge.pw_leastasked_k06_whole_goings_walked.main.body.getD i (.Pass ⟨0, 0, 0, 0⟩)
abbrev s_within : Stmt := topS 10
abbrev N_within : List Str := ["thing", "least", "most"]
abbrev P_within : List Str := ["thing", "least", "most"]
theorem sc_within : FnScope N_within P_within (defScope s_within) := ⟨rfl, rfl, rfl, by decide +kernel, rfl, by decide +kernel, by decide +kernel⟩

abbrev s_want_number : Stmt := topS 11
abbrev N_want_number : List Str := ["thing", "least", "most"]
abbrev P_want_number : List Str := ["thing", "least", "most"]
theorem sc_want_number : FnScope N_want_number P_want_number (defScope s_want_number) := ⟨rfl, rfl, rfl, by decide +kernel, rfl, by decide +kernel, by decide +kernel⟩

abbrev s_want_name : Stmt := topS 12
abbrev N_want_name : List Str := ["thing", "sign"]
abbrev P_want_name : List Str := ["thing"]
theorem sc_want_name : FnScope N_want_name P_want_name (defScope s_want_name) := ⟨rfl, rfl, rfl, by decide +kernel, rfl, by decide +kernel, by decide +kernel⟩

abbrev s_want_rule : Stmt := topS 13
abbrev N_want_rule : List Str := ["span", "part"]
abbrev P_want_rule : List Str := ["span", "part"]
theorem sc_want_rule : FnScope N_want_rule P_want_rule (defScope s_want_rule) := ⟨rfl, rfl, rfl, by decide +kernel, rfl, by decide +kernel, by decide +kernel⟩

abbrev s_ageings : Stmt := topS 14
abbrev N_ageings : List Str := ["span", "since", "upto"]
abbrev P_ageings : List Str := ["span", "since", "upto"]
theorem sc_ageings : FnScope N_ageings P_ageings (defScope s_ageings) := ⟨rfl, rfl, rfl, by decide +kernel, rfl, by decide +kernel, by decide +kernel⟩

abbrev s_aged : Stmt := topS 15
abbrev N_aged : List Str := ["count", "part", "times"]
abbrev P_aged : List Str := ["count", "part", "times"]
theorem sc_aged : FnScope N_aged P_aged (defScope s_aged) := ⟨rfl, rfl, rfl, by decide +kernel, rfl, by decide +kernel, by decide +kernel⟩

abbrev s_Book_init : Stmt := inClass (topS 17) 0
abbrev N_Book_init : List Str := ["self", "span", "part"]
abbrev P_Book_init : List Str := ["self", "span", "part"]
theorem sc_Book_init : FnScope N_Book_init P_Book_init (defScope s_Book_init) := ⟨rfl, rfl, rfl, by decide +kernel, rfl, by decide +kernel, by decide +kernel⟩

abbrev s_Book_ask : Stmt := inClass (topS 17) 1
abbrev N_Book_ask : List Str := ["self", "name", "weight", "answer"]
abbrev P_Book_ask : List Str := ["self", "name", "weight"]
theorem sc_Book_ask : FnScope N_Book_ask P_Book_ask (defScope s_Book_ask) := ⟨rfl, rfl, rfl, by decide +kernel, rfl, by decide +kernel, by decide +kernel⟩

abbrev s_Book_rest : Stmt := inClass (topS 17) 2
abbrev N_Book_rest : List Str := ["self", "steps"]
abbrev P_Book_rest : List Str := ["self", "steps"]
theorem sc_Book_rest : FnScope N_Book_rest P_Book_rest (defScope s_Book_rest) := ⟨rfl, rfl, rfl, by decide +kernel, rfl, by decide +kernel, by decide +kernel⟩

abbrev s_Book_drop : Stmt := inClass (topS 17) 3
abbrev N_Book_drop : List Str := ["self", "name"]
abbrev P_Book_drop : List Str := ["self", "name"]
theorem sc_Book_drop : FnScope N_Book_drop P_Book_drop (defScope s_Book_drop) := ⟨rfl, rfl, rfl, by decide +kernel, rfl, by decide +kernel, by decide +kernel⟩

abbrev s_Book_spend : Stmt := inClass (topS 17) 4
abbrev N_Book_spend : List Str := ["self", "steps", "times", "name"]
abbrev P_Book_spend : List Str := ["self", "steps"]
theorem sc_Book_spend : FnScope N_Book_spend P_Book_spend (defScope s_Book_spend) := ⟨rfl, rfl, rfl, by decide +kernel, rfl, by decide +kernel, by decide +kernel⟩

abbrev s_Book_asked_at : Stmt := inClass (topS 17) 5
abbrev N_Book_asked_at : List Str := ["self", "name"]
abbrev P_Book_asked_at : List Str := ["self", "name"]
theorem sc_Book_asked_at : FnScope N_Book_asked_at P_Book_asked_at (defScope s_Book_asked_at) := ⟨rfl, rfl, rfl, by decide +kernel, rfl, by decide +kernel, by decide +kernel⟩

abbrev s_Book_came : Stmt := inClass (topS 17) 6
abbrev N_Book_came : List Str := ["self", "name"]
abbrev P_Book_came : List Str := ["self", "name"]
theorem sc_Book_came : FnScope N_Book_came P_Book_came (defScope s_Book_came) := ⟨rfl, rfl, rfl, by decide +kernel, rfl, by decide +kernel, by decide +kernel⟩

abbrev s_Book_gone : Stmt := inClass (topS 17) 7
abbrev N_Book_gone : List Str := ["self", "name", "reason"]
abbrev P_Book_gone : List Str := ["self", "name", "reason"]
theorem sc_Book_gone : FnScope N_Book_gone P_Book_gone (defScope s_Book_gone) := ⟨rfl, rfl, rfl, by decide +kernel, rfl, by decide +kernel, by decide +kernel⟩

abbrev s_Book_inside : Stmt := inClass (topS 17) 8
abbrev N_Book_inside : List Str := ["self"]
abbrev P_Book_inside : List Str := ["self"]
theorem sc_Book_inside : FnScope N_Book_inside P_Book_inside (defScope s_Book_inside) := ⟨rfl, rfl, rfl, by decide +kernel, rfl, by decide +kernel, by decide +kernel⟩

abbrev s_Book_rank : Stmt := inClass (topS 17) 9
abbrev N_Book_rank : List Str := ["self", "name"]
abbrev P_Book_rank : List Str := ["self", "name"]
theorem sc_Book_rank : FnScope N_Book_rank P_Book_rank (defScope s_Book_rank) := ⟨rfl, rfl, rfl, by decide +kernel, rfl, by decide +kernel, by decide +kernel⟩

abbrev s_Book_names : Stmt := inClass (topS 17) 10
abbrev N_Book_names : List Str := ["self"]
abbrev P_Book_names : List Str := ["self"]
theorem sc_Book_names : FnScope N_Book_names P_Book_names (defScope s_Book_names) := ⟨rfl, rfl, rfl, by decide +kernel, rfl, by decide +kernel, by decide +kernel⟩

abbrev s_Book_time_now : Stmt := inClass (topS 17) 11
abbrev N_Book_time_now : List Str := ["self"]
abbrev P_Book_time_now : List Str := ["self"]
theorem sc_Book_time_now : FnScope N_Book_time_now P_Book_time_now (defScope s_Book_time_now) := ⟨rfl, rfl, rfl, by decide +kernel, rfl, by decide +kernel, by decide +kernel⟩

abbrev s_Book_deeds_done : Stmt := inClass (topS 17) 12
abbrev N_Book_deeds_done : List Str := ["self"]
abbrev P_Book_deeds_done : List Str := ["self"]
theorem sc_Book_deeds_done : FnScope N_Book_deeds_done P_Book_deeds_done (defScope s_Book_deeds_done) := ⟨rfl, rfl, rfl, by decide +kernel, rfl, by decide +kernel, by decide +kernel⟩

abbrev s_Book_count_of : Stmt := inClass (topS 17) 13
abbrev N_Book_count_of : List Str := ["self", "name"]
abbrev P_Book_count_of : List Str := ["self", "name"]
theorem sc_Book_count_of : FnScope N_Book_count_of P_Book_count_of (defScope s_Book_count_of) := ⟨rfl, rfl, rfl, by decide +kernel, rfl, by decide +kernel, by decide +kernel⟩

abbrev s_Book_last_of : Stmt := inClass (topS 17) 14
abbrev N_Book_last_of : List Str := ["self", "name"]
abbrev P_Book_last_of : List Str := ["self", "name"]
theorem sc_Book_last_of : FnScope N_Book_last_of P_Book_last_of (defScope s_Book_last_of) := ⟨rfl, rfl, rfl, by decide +kernel, rfl, by decide +kernel, by decide +kernel⟩

abbrev s_Shelf_init : Stmt := inClass (topS 19) 0
abbrev N_Shelf_init : List Str := ["self", "places", "span", "part"]
abbrev P_Shelf_init : List Str := ["self", "places", "span", "part"]
theorem sc_Shelf_init : FnScope N_Shelf_init P_Shelf_init (defScope s_Shelf_init) := ⟨rfl, rfl, rfl, by decide +kernel, rfl, by decide +kernel, by decide +kernel⟩

abbrev s_Shelf_came : Stmt := inClass (topS 19) 1
abbrev N_Shelf_came : List Str := ["self", "name", "weakest"]
abbrev P_Shelf_came : List Str := ["self", "name"]
theorem sc_Shelf_came : FnScope N_Shelf_came P_Shelf_came (defScope s_Shelf_came) := ⟨rfl, rfl, rfl, by decide +kernel, rfl, by decide +kernel, by decide +kernel⟩

abbrev s_Shelf_gone : Stmt := inClass (topS 19) 2
abbrev N_Shelf_gone : List Str := ["self", "name", "reason"]
abbrev P_Shelf_gone : List Str := ["self", "name", "reason"]
theorem sc_Shelf_gone : FnScope N_Shelf_gone P_Shelf_gone (defScope s_Shelf_gone) := ⟨rfl, rfl, rfl, by decide +kernel, rfl, by decide +kernel, by decide +kernel⟩

abbrev s_Shelf_inside : Stmt := inClass (topS 19) 3
abbrev N_Shelf_inside : List Str := ["self"]
abbrev P_Shelf_inside : List Str := ["self"]
theorem sc_Shelf_inside : FnScope N_Shelf_inside P_Shelf_inside (defScope s_Shelf_inside) := ⟨rfl, rfl, rfl, by decide +kernel, rfl, by decide +kernel, by decide +kernel⟩

abbrev s_Shelf_has : Stmt := inClass (topS 19) 4
abbrev N_Shelf_has : List Str := ["self", "name"]
abbrev P_Shelf_has : List Str := ["self", "name"]
theorem sc_Shelf_has : FnScope N_Shelf_has P_Shelf_has (defScope s_Shelf_has) := ⟨rfl, rfl, rfl, by decide +kernel, rfl, by decide +kernel, by decide +kernel⟩

abbrev s_Shelf_goings : Stmt := inClass (topS 19) 5
abbrev N_Shelf_goings : List Str := ["self"]
abbrev P_Shelf_goings : List Str := ["self"]
theorem sc_Shelf_goings : FnScope N_Shelf_goings P_Shelf_goings (defScope s_Shelf_goings) := ⟨rfl, rfl, rfl, by decide +kernel, rfl, by decide +kernel, by decide +kernel⟩

abbrev s_l_cell_at : Stmt := topS 21
abbrev N_l_cell_at : List Str := ["_law_script", "_law_k"]
abbrev P_l_cell_at : List Str := ["_law_script", "_law_k"]
theorem sc_l_cell_at : FnScope N_l_cell_at P_l_cell_at (defScope s_l_cell_at) := ⟨rfl, rfl, rfl, by decide +kernel, rfl, by decide +kernel, by decide +kernel⟩

abbrev s_l_whole : Stmt := topS 22
abbrev N_l_whole : List Str := ["_law_found"]
abbrev P_l_whole : List Str := ["_law_found"]
theorem sc_l_whole : FnScope N_l_whole P_l_whole (defScope s_l_whole) := ⟨rfl, rfl, rfl, by decide +kernel, rfl, by decide +kernel, by decide +kernel⟩

abbrev s_l_sign : Stmt := topS 23
abbrev N_l_sign : List Str := ["_law_number", "_law_some"]
abbrev P_l_sign : List Str := ["_law_number"]
theorem sc_l_sign : FnScope N_l_sign P_l_sign (defScope s_l_sign) := ⟨rfl, rfl, rfl, by decide +kernel, rfl, by decide +kernel, by decide +kernel⟩

abbrev s_l_names : Stmt := topS 24
abbrev N_l_names : List Str := ["_law_cell", "_law_many_here", "_law_size", "_law_j", "_law_base", "_law_k", "_law_at", "_law_step"]
abbrev P_l_names : List Str := ["_law_cell", "_law_many_here"]
theorem sc_l_names : FnScope N_l_names P_l_names (defScope s_l_names) := ⟨rfl, rfl, rfl, by decide +kernel, rfl, by decide +kernel, by decide +kernel⟩

abbrev s_l_many : Stmt := topS 25
abbrev N_l_many : List Str := ["_law_cell"]
abbrev P_l_many : List Str := ["_law_cell"]
theorem sc_l_many : FnScope N_l_many P_l_many (defScope s_l_many) := ⟨rfl, rfl, rfl, by decide +kernel, rfl, by decide +kernel, by decide +kernel⟩

abbrev s_l_span : Stmt := topS 26
abbrev N_l_span : List Str := ["_law_cell"]
abbrev P_l_span : List Str := ["_law_cell"]
theorem sc_l_span : FnScope N_l_span P_l_span (defScope s_l_span) := ⟨rfl, rfl, rfl, by decide +kernel, rfl, by decide +kernel, by decide +kernel⟩

abbrev s_l_part : Stmt := topS 27
abbrev N_l_part : List Str := ["_law_cell"]
abbrev P_l_part : List Str := ["_law_cell"]
theorem sc_l_part : FnScope N_l_part P_l_part (defScope s_l_part) := ⟨rfl, rfl, rfl, by decide +kernel, rfl, by decide +kernel, by decide +kernel⟩

abbrev s_l_places : Stmt := topS 28
abbrev N_l_places : List Str := ["_law_cell"]
abbrev P_l_places : List Str := ["_law_cell"]
theorem sc_l_places : FnScope N_l_places P_l_places (defScope s_l_places) := ⟨rfl, rfl, rfl, by decide +kernel, rfl, by decide +kernel, by decide +kernel⟩

abbrev s_l_deed : Stmt := topS 29
abbrev N_l_deed : List Str := ["_law_cell", "_law_k", "_law_names_here", "_law_span_here", "_law_light", "_law_mixed", "_law_name"]
abbrev P_l_deed : List Str := ["_law_cell", "_law_k", "_law_names_here", "_law_span_here", "_law_light"]
theorem sc_l_deed : FnScope N_l_deed P_l_deed (defScope s_l_deed) := ⟨rfl, rfl, rfl, by decide +kernel, rfl, by decide +kernel, by decide +kernel⟩

abbrev s_l_steps : Stmt := topS 30
abbrev N_l_steps : List Str := ["_law_deed_here"]
abbrev P_l_steps : List Str := ["_law_deed_here"]
theorem sc_l_steps : FnScope N_l_steps P_l_steps (defScope s_l_steps) := ⟨rfl, rfl, rfl, by decide +kernel, rfl, by decide +kernel, by decide +kernel⟩

abbrev s_l_do : Stmt := topS 31
abbrev N_l_do : List Str := ["_law_thing", "_law_deed_here"]
abbrev P_l_do : List Str := ["_law_thing", "_law_deed_here"]
theorem sc_l_do : FnScope N_l_do P_l_do (defScope s_l_do) := ⟨rfl, rfl, rfl, by decide +kernel, rfl, by decide +kernel, by decide +kernel⟩

abbrev s_l_aged : Stmt := topS 32
abbrev N_l_aged : List Str := ["_law_count", "_law_part_here", "_law_times"]
abbrev P_l_aged : List Str := ["_law_count", "_law_part_here", "_law_times"]
theorem sc_l_aged : FnScope N_l_aged P_l_aged (defScope s_l_aged) := ⟨rfl, rfl, rfl, by decide +kernel, rfl, by decide +kernel, by decide +kernel⟩

abbrev s_l_rested : Stmt := topS 33
abbrev N_l_rested : List Str := ["_law_deed_here", "_law_found", "_law_times"]
abbrev P_l_rested : List Str := ["_law_deed_here", "_law_found", "_law_times"]
theorem sc_l_rested : FnScope N_l_rested P_l_rested (defScope s_l_rested) := ⟨rfl, rfl, rfl, by decide +kernel, rfl, by decide +kernel, by decide +kernel⟩

abbrev s_l_kinds : Stmt := topS 34
abbrev N_l_kinds : List Str := ["_law_row"]
abbrev P_l_kinds : List Str := ["_law_row"]
theorem sc_l_kinds : FnScope N_l_kinds P_l_kinds (defScope s_l_kinds) := ⟨rfl, rfl, rfl, by decide +kernel, rfl, by decide +kernel, by decide +kernel⟩

abbrev s_l_is_going : Stmt := topS 35
abbrev N_l_is_going : List Str := ["_law_row", "_law_number", "_law_reason", "_law_counts", "_law_lasts", "_law_standing"]
abbrev P_l_is_going : List Str := ["_law_row", "_law_number", "_law_reason", "_law_counts", "_law_lasts", "_law_standing"]
theorem sc_l_is_going : FnScope N_l_is_going P_l_is_going (defScope s_l_is_going) := ⟨rfl, rfl, rfl, by decide +kernel, rfl, by decide +kernel, by decide +kernel⟩

abbrev s_l_left_by_faded : Stmt := topS 36
abbrev N_l_left_by_faded : List Str := ["_law_number", "_law_told", "_law_counts", "_law_lasts", "_law_standing", "_law_left", "_law_last", "_law_row", "_law_name"]
abbrev P_l_left_by_faded : List Str := ["_law_number", "_law_told", "_law_counts", "_law_lasts", "_law_standing"]
theorem sc_l_left_by_faded : FnScope N_l_left_by_faded P_l_left_by_faded (defScope s_l_left_by_faded) := ⟨rfl, rfl, rfl, by decide +kernel, rfl, by decide +kernel, by decide +kernel⟩

abbrev s_l_left_by_rest : Stmt := topS 37
abbrev N_l_left_by_rest : List Str := ["_law_number", "_law_deed_here", "_law_told", "_law_counts", "_law_lasts", "_law_standing", "_law_places_here", "_law_reason", "_law_went", "_law_name", "_law_left", "_law_rank"]
abbrev P_l_left_by_rest : List Str := ["_law_number", "_law_deed_here", "_law_told", "_law_counts", "_law_lasts", "_law_standing", "_law_places_here"]
theorem sc_l_left_by_rest : FnScope N_l_left_by_rest P_l_left_by_rest (defScope s_l_left_by_rest) := ⟨rfl, rfl, rfl, by decide +kernel, rfl, by decide +kernel, by decide +kernel⟩

abbrev s_l_listed : Stmt := topS 38
abbrev N_l_listed : List Str := ["_law_found", "_law_standing", "_law_counts", "_law_lasts", "_law_name", "_law_due", "_law_count", "_law_last"]
abbrev P_l_listed : List Str := ["_law_found", "_law_standing", "_law_counts", "_law_lasts"]
theorem sc_l_listed : FnScope N_l_listed P_l_listed (defScope s_l_listed) := ⟨rfl, rfl, rfl, by decide +kernel, rfl, by decide +kernel, by decide +kernel⟩

abbrev s_l_walked : Stmt := topS 39
abbrev N_l_walked : List Str := ["_law_number", "_law_deed_here", "_law_told", "_law_found", "_law_counts", "_law_lasts", "_law_standing", "_law_places_here", "_law_row", "_law_faded", "_law_left", "_law_stood"]
abbrev P_l_walked : List Str := ["_law_number", "_law_deed_here", "_law_told", "_law_found", "_law_counts", "_law_lasts", "_law_standing", "_law_places_here"]
theorem sc_l_walked : FnScope N_l_walked P_l_walked (defScope s_l_walked) := ⟨rfl, rfl, rfl, by decide +kernel, rfl, by decide +kernel, by decide +kernel⟩

abbrev s_l_known : Stmt := topS 40
abbrev N_l_known : List Str := ["_law_shelf", "_law_name", "_law_standing", "_law_counts", "_law_lasts", "_law_stands", "_law_count", "_law_last"]
abbrev P_l_known : List Str := ["_law_shelf", "_law_name", "_law_standing", "_law_counts", "_law_lasts"]
theorem sc_l_known : FnScope N_l_known P_l_known (defScope s_l_known) := ⟨rfl, rfl, rfl, by decide +kernel, rfl, by decide +kernel, by decide +kernel⟩

abbrev s_l_seen : Stmt := topS 41
abbrev N_l_seen : List Str := ["_law_shelf", "_law_name", "_law_standing", "_law_counts", "_law_lasts", "_law_time", "_law_number", "_law_found"]
abbrev P_l_seen : List Str := ["_law_shelf", "_law_name", "_law_standing", "_law_counts", "_law_lasts", "_law_time", "_law_number"]
theorem sc_l_seen : FnScope N_l_seen P_l_seen (defScope s_l_seen) := ⟨rfl, rfl, rfl, by decide +kernel, rfl, by decide +kernel, by decide +kernel⟩

abbrev s_law : Stmt := topS 42
abbrev N_law : List Str := ["_law_script", "_law_names_here", "_law_span_here", "_law_part_here", "_law_places_here", "_law_name", "_law_deeds", "_law_k", "_law_cell", "_law_shelf", "_law_counts", "_law_lasts", "_law_standing", "_law_walked_here", "_law_held", "_law_time", "_law_deed_here", "_law_found", "_law_times", "_law_log"]
abbrev P_law : List Str := ["_law_script"]
theorem sc_law : FnScope N_law P_law (defScope s_law) := ⟨rfl, rfl, rfl, by decide +kernel, rfl, by decide +kernel, by decide +kernel⟩

def spLaw (K : PySem.W.Frag) : Sp := fun vs H Q _ => ∃ (a : Addr) (ns : List Int), vs = [.ref a] ∧ SqL K H a (ns.map V.int) ∧ ns.length ≤ 63 ∧ ∀ H', Q (.bl true) H'
structure Tx (K : PySem.W.Frag) (mg : Str → Option Value) where
  f_within : Addr
  fd_within : FuncData
  F_within : Fun K "within" "within" s_within f_within fd_within
  b_within : Binds K fd_within P_within []
  mg_within : mg "within" = some (.ref f_within)
  f_want_number : Addr
  fd_want_number : FuncData
  F_want_number : Fun K "want_number" "want_number" s_want_number f_want_number fd_want_number
  b_want_number : Binds K fd_want_number P_want_number []
  mg_want_number : mg "want_number" = some (.ref f_want_number)
  f_want_name : Addr
  fd_want_name : FuncData
  F_want_name : Fun K "want_name" "want_name" s_want_name f_want_name fd_want_name
  b_want_name : Binds K fd_want_name P_want_name []
  mg_want_name : mg "want_name" = some (.ref f_want_name)
  f_want_rule : Addr
  fd_want_rule : FuncData
  F_want_rule : Fun K "want_rule" "want_rule" s_want_rule f_want_rule fd_want_rule
  b_want_rule : Binds K fd_want_rule P_want_rule []
  mg_want_rule : mg "want_rule" = some (.ref f_want_rule)
  f_ageings : Addr
  fd_ageings : FuncData
  F_ageings : Fun K "ageings" "ageings" s_ageings f_ageings fd_ageings
  b_ageings : Binds K fd_ageings P_ageings []
  mg_ageings : mg "ageings" = some (.ref f_ageings)
  f_aged : Addr
  fd_aged : FuncData
  F_aged : Fun K "aged" "aged" s_aged f_aged fd_aged
  b_aged : Binds K fd_aged P_aged []
  mg_aged : mg "aged" = some (.ref f_aged)
  f_Book_init : Addr
  fd_Book_init : FuncData
  F_Book_init : Fun K "__init__" "Book.__init__" s_Book_init f_Book_init fd_Book_init
  b_Book_init : Binds K fd_Book_init P_Book_init []
  f_Book_ask : Addr
  fd_Book_ask : FuncData
  F_Book_ask : FunD K "ask" "Book.ask" (defArgs s_Book_ask) (defBody s_Book_ask) (defScope s_Book_ask) [V.int 1] [] f_Book_ask fd_Book_ask
  b_Book_ask : Binds K fd_Book_ask P_Book_ask []
  bd_Book_ask : ∃ ds, Vals [V.int 1] ds ∧ Binds K fd_Book_ask P_Book_ask ds
  f_Book_rest : Addr
  fd_Book_rest : FuncData
  F_Book_rest : Fun K "rest" "Book.rest" s_Book_rest f_Book_rest fd_Book_rest
  b_Book_rest : Binds K fd_Book_rest P_Book_rest []
  f_Book_drop : Addr
  fd_Book_drop : FuncData
  F_Book_drop : Fun K "drop" "Book.drop" s_Book_drop f_Book_drop fd_Book_drop
  b_Book_drop : Binds K fd_Book_drop P_Book_drop []
  f_Book_spend : Addr
  fd_Book_spend : FuncData
  F_Book_spend : Fun K "spend" "Book.spend" s_Book_spend f_Book_spend fd_Book_spend
  b_Book_spend : Binds K fd_Book_spend P_Book_spend []
  f_Book_asked_at : Addr
  fd_Book_asked_at : FuncData
  F_Book_asked_at : Fun K "asked_at" "Book.asked_at" s_Book_asked_at f_Book_asked_at fd_Book_asked_at
  b_Book_asked_at : Binds K fd_Book_asked_at P_Book_asked_at []
  f_Book_came : Addr
  fd_Book_came : FuncData
  F_Book_came : Fun K "came" "Book.came" s_Book_came f_Book_came fd_Book_came
  b_Book_came : Binds K fd_Book_came P_Book_came []
  f_Book_gone : Addr
  fd_Book_gone : FuncData
  F_Book_gone : Fun K "gone" "Book.gone" s_Book_gone f_Book_gone fd_Book_gone
  b_Book_gone : Binds K fd_Book_gone P_Book_gone []
  f_Book_inside : Addr
  fd_Book_inside : FuncData
  F_Book_inside : Fun K "inside" "Book.inside" s_Book_inside f_Book_inside fd_Book_inside
  b_Book_inside : Binds K fd_Book_inside P_Book_inside []
  f_Book_rank : Addr
  fd_Book_rank : FuncData
  F_Book_rank : Fun K "rank" "Book.rank" s_Book_rank f_Book_rank fd_Book_rank
  b_Book_rank : Binds K fd_Book_rank P_Book_rank []
  f_Book_names : Addr
  fd_Book_names : FuncData
  F_Book_names : Fun K "names" "Book.names" s_Book_names f_Book_names fd_Book_names
  b_Book_names : Binds K fd_Book_names P_Book_names []
  f_Book_time_now : Addr
  fd_Book_time_now : FuncData
  F_Book_time_now : Fun K "time_now" "Book.time_now" s_Book_time_now f_Book_time_now fd_Book_time_now
  b_Book_time_now : Binds K fd_Book_time_now P_Book_time_now []
  f_Book_deeds_done : Addr
  fd_Book_deeds_done : FuncData
  F_Book_deeds_done : Fun K "deeds_done" "Book.deeds_done" s_Book_deeds_done f_Book_deeds_done fd_Book_deeds_done
  b_Book_deeds_done : Binds K fd_Book_deeds_done P_Book_deeds_done []
  f_Book_count_of : Addr
  fd_Book_count_of : FuncData
  F_Book_count_of : Fun K "count_of" "Book.count_of" s_Book_count_of f_Book_count_of fd_Book_count_of
  b_Book_count_of : Binds K fd_Book_count_of P_Book_count_of []
  f_Book_last_of : Addr
  fd_Book_last_of : FuncData
  F_Book_last_of : Fun K "last_of" "Book.last_of" s_Book_last_of f_Book_last_of fd_Book_last_of
  b_Book_last_of : Binds K fd_Book_last_of P_Book_last_of []
  f_Shelf_init : Addr
  fd_Shelf_init : FuncData
  F_Shelf_init : Fun K "__init__" "Shelf.__init__" s_Shelf_init f_Shelf_init fd_Shelf_init
  b_Shelf_init : Binds K fd_Shelf_init P_Shelf_init []
  f_Shelf_came : Addr
  fd_Shelf_came : FuncData
  F_Shelf_came : Fun K "came" "Shelf.came" s_Shelf_came f_Shelf_came fd_Shelf_came
  b_Shelf_came : Binds K fd_Shelf_came P_Shelf_came []
  f_Shelf_gone : Addr
  fd_Shelf_gone : FuncData
  F_Shelf_gone : Fun K "gone" "Shelf.gone" s_Shelf_gone f_Shelf_gone fd_Shelf_gone
  b_Shelf_gone : Binds K fd_Shelf_gone P_Shelf_gone []
  f_Shelf_inside : Addr
  fd_Shelf_inside : FuncData
  F_Shelf_inside : Fun K "inside" "Shelf.inside" s_Shelf_inside f_Shelf_inside fd_Shelf_inside
  b_Shelf_inside : Binds K fd_Shelf_inside P_Shelf_inside []
  f_Shelf_has : Addr
  fd_Shelf_has : FuncData
  F_Shelf_has : Fun K "has" "Shelf.has" s_Shelf_has f_Shelf_has fd_Shelf_has
  b_Shelf_has : Binds K fd_Shelf_has P_Shelf_has []
  f_Shelf_goings : Addr
  fd_Shelf_goings : FuncData
  F_Shelf_goings : Fun K "goings" "Shelf.goings" s_Shelf_goings f_Shelf_goings fd_Shelf_goings
  b_Shelf_goings : Binds K fd_Shelf_goings P_Shelf_goings []
  f_l_cell_at : Addr
  fd_l_cell_at : FuncData
  F_l_cell_at : Fun K "_law_cell_at" "_law_cell_at" s_l_cell_at f_l_cell_at fd_l_cell_at
  b_l_cell_at : Binds K fd_l_cell_at P_l_cell_at []
  mg_l_cell_at : mg "_law_cell_at" = some (.ref f_l_cell_at)
  f_l_whole : Addr
  fd_l_whole : FuncData
  F_l_whole : Fun K "_law_whole" "_law_whole" s_l_whole f_l_whole fd_l_whole
  b_l_whole : Binds K fd_l_whole P_l_whole []
  mg_l_whole : mg "_law_whole" = some (.ref f_l_whole)
  f_l_sign : Addr
  fd_l_sign : FuncData
  F_l_sign : Fun K "_law_sign" "_law_sign" s_l_sign f_l_sign fd_l_sign
  b_l_sign : Binds K fd_l_sign P_l_sign []
  mg_l_sign : mg "_law_sign" = some (.ref f_l_sign)
  f_l_names : Addr
  fd_l_names : FuncData
  F_l_names : Fun K "_law_names" "_law_names" s_l_names f_l_names fd_l_names
  b_l_names : Binds K fd_l_names P_l_names []
  mg_l_names : mg "_law_names" = some (.ref f_l_names)
  f_l_many : Addr
  fd_l_many : FuncData
  F_l_many : Fun K "_law_many" "_law_many" s_l_many f_l_many fd_l_many
  b_l_many : Binds K fd_l_many P_l_many []
  mg_l_many : mg "_law_many" = some (.ref f_l_many)
  f_l_span : Addr
  fd_l_span : FuncData
  F_l_span : Fun K "_law_span" "_law_span" s_l_span f_l_span fd_l_span
  b_l_span : Binds K fd_l_span P_l_span []
  mg_l_span : mg "_law_span" = some (.ref f_l_span)
  f_l_part : Addr
  fd_l_part : FuncData
  F_l_part : Fun K "_law_part" "_law_part" s_l_part f_l_part fd_l_part
  b_l_part : Binds K fd_l_part P_l_part []
  mg_l_part : mg "_law_part" = some (.ref f_l_part)
  f_l_places : Addr
  fd_l_places : FuncData
  F_l_places : Fun K "_law_places" "_law_places" s_l_places f_l_places fd_l_places
  b_l_places : Binds K fd_l_places P_l_places []
  mg_l_places : mg "_law_places" = some (.ref f_l_places)
  f_l_deed : Addr
  fd_l_deed : FuncData
  F_l_deed : Fun K "_law_deed" "_law_deed" s_l_deed f_l_deed fd_l_deed
  b_l_deed : Binds K fd_l_deed P_l_deed []
  mg_l_deed : mg "_law_deed" = some (.ref f_l_deed)
  f_l_steps : Addr
  fd_l_steps : FuncData
  F_l_steps : Fun K "_law_steps" "_law_steps" s_l_steps f_l_steps fd_l_steps
  b_l_steps : Binds K fd_l_steps P_l_steps []
  mg_l_steps : mg "_law_steps" = some (.ref f_l_steps)
  f_l_do : Addr
  fd_l_do : FuncData
  F_l_do : Fun K "_law_do" "_law_do" s_l_do f_l_do fd_l_do
  b_l_do : Binds K fd_l_do P_l_do []
  mg_l_do : mg "_law_do" = some (.ref f_l_do)
  f_l_aged : Addr
  fd_l_aged : FuncData
  F_l_aged : Fun K "_law_aged" "_law_aged" s_l_aged f_l_aged fd_l_aged
  b_l_aged : Binds K fd_l_aged P_l_aged []
  mg_l_aged : mg "_law_aged" = some (.ref f_l_aged)
  f_l_rested : Addr
  fd_l_rested : FuncData
  F_l_rested : Fun K "_law_rested" "_law_rested" s_l_rested f_l_rested fd_l_rested
  b_l_rested : Binds K fd_l_rested P_l_rested []
  mg_l_rested : mg "_law_rested" = some (.ref f_l_rested)
  f_l_kinds : Addr
  fd_l_kinds : FuncData
  F_l_kinds : Fun K "_law_kinds" "_law_kinds" s_l_kinds f_l_kinds fd_l_kinds
  b_l_kinds : Binds K fd_l_kinds P_l_kinds []
  mg_l_kinds : mg "_law_kinds" = some (.ref f_l_kinds)
  f_l_is_going : Addr
  fd_l_is_going : FuncData
  F_l_is_going : Fun K "_law_is_going" "_law_is_going" s_l_is_going f_l_is_going fd_l_is_going
  b_l_is_going : Binds K fd_l_is_going P_l_is_going []
  mg_l_is_going : mg "_law_is_going" = some (.ref f_l_is_going)
  f_l_left_by_faded : Addr
  fd_l_left_by_faded : FuncData
  F_l_left_by_faded : Fun K "_law_left_by_faded" "_law_left_by_faded" s_l_left_by_faded f_l_left_by_faded fd_l_left_by_faded
  b_l_left_by_faded : Binds K fd_l_left_by_faded P_l_left_by_faded []
  mg_l_left_by_faded : mg "_law_left_by_faded" = some (.ref f_l_left_by_faded)
  f_l_left_by_rest : Addr
  fd_l_left_by_rest : FuncData
  F_l_left_by_rest : Fun K "_law_left_by_rest" "_law_left_by_rest" s_l_left_by_rest f_l_left_by_rest fd_l_left_by_rest
  b_l_left_by_rest : Binds K fd_l_left_by_rest P_l_left_by_rest []
  mg_l_left_by_rest : mg "_law_left_by_rest" = some (.ref f_l_left_by_rest)
  f_l_listed : Addr
  fd_l_listed : FuncData
  F_l_listed : Fun K "_law_listed" "_law_listed" s_l_listed f_l_listed fd_l_listed
  b_l_listed : Binds K fd_l_listed P_l_listed []
  mg_l_listed : mg "_law_listed" = some (.ref f_l_listed)
  f_l_walked : Addr
  fd_l_walked : FuncData
  F_l_walked : Fun K "_law_walked" "_law_walked" s_l_walked f_l_walked fd_l_walked
  b_l_walked : Binds K fd_l_walked P_l_walked []
  mg_l_walked : mg "_law_walked" = some (.ref f_l_walked)
  f_l_known : Addr
  fd_l_known : FuncData
  F_l_known : Fun K "_law_known" "_law_known" s_l_known f_l_known fd_l_known
  b_l_known : Binds K fd_l_known P_l_known []
  mg_l_known : mg "_law_known" = some (.ref f_l_known)
  f_l_seen : Addr
  fd_l_seen : FuncData
  F_l_seen : Fun K "_law_seen" "_law_seen" s_l_seen f_l_seen fd_l_seen
  b_l_seen : Binds K fd_l_seen P_l_seen []
  mg_l_seen : mg "_law_seen" = some (.ref f_l_seen)
  f_law : Addr
  fd_law : FuncData
  F_law : Fun K "law" "law" s_law f_law fd_law
  b_law : Binds K fd_law P_law []
  mg_law : mg "law" = some (.ref f_law)
  n_any : mg "any" = none
  n_bool : mg "bool" = none
  n_dict : mg "dict" = none
  n_enumerate : mg "enumerate" = none
  n_int : mg "int" = none
  n_isinstance : mg "isinstance" = none
  n_len : mg "len" = none
  n_list : mg "list" = none
  n_min : mg "min" = none
  n_range : mg "range" = none
  n_sorted : mg "sorted" = none
  n_str : mg "str" = none
  n_tuple : mg "tuple" = none
  c_MOST_SIGNS : {t : Tok // mg "MOST_SIGNS" = some (.int 40 t)}
  c_MOST_PLACES : {t : Tok // mg "MOST_PLACES" = some (.int 1000 t)}
  c_MOST_SPAN : {t : Tok // mg "MOST_SPAN" = some (.int 100000000000000000000 t)}
  c_MOST_NUMBER : {t : Tok // mg "MOST_NUMBER" = some (.int 1000000000000000000000000000000 t)}
  C_Book : Addr
  mgC_Book : mg "Book" = some (.ref C_Book)
  cls_Book : Cls K C_Book
  M_Book : Mk K C_Book f_Book_init
  na_Book_span : NoAttr K C_Book "span"
  na_Book_part : NoAttr K C_Book "part"
  na_Book_time : NoAttr K C_Book "time"
  na_Book_deed : NoAttr K C_Book "deed"
  na_Book_counts : NoAttr K C_Book "counts"
  na_Book_lasts : NoAttr K C_Book "lasts"
  m_Book_ask : Meth K C_Book "ask" f_Book_ask
  m_Book_rest : Meth K C_Book "rest" f_Book_rest
  m_Book_drop : Meth K C_Book "drop" f_Book_drop
  m_Book_spend : Meth K C_Book "spend" f_Book_spend
  m_Book_asked_at : Meth K C_Book "asked_at" f_Book_asked_at
  m_Book_came : Meth K C_Book "came" f_Book_came
  m_Book_gone : Meth K C_Book "gone" f_Book_gone
  m_Book_inside : Meth K C_Book "inside" f_Book_inside
  m_Book_rank : Meth K C_Book "rank" f_Book_rank
  m_Book_names : Meth K C_Book "names" f_Book_names
  m_Book_time_now : Meth K C_Book "time_now" f_Book_time_now
  m_Book_deeds_done : Meth K C_Book "deeds_done" f_Book_deeds_done
  m_Book_count_of : Meth K C_Book "count_of" f_Book_count_of
  m_Book_last_of : Meth K C_Book "last_of" f_Book_last_of
  bm_Book_rank : BMeth K C_Book "rank" f_Book_rank
  bm_Book_asked_at : BMeth K C_Book "asked_at" f_Book_asked_at
  C_Shelf : Addr
  mgC_Shelf : mg "Shelf" = some (.ref C_Shelf)
  cls_Shelf : Cls K C_Shelf
  M_Shelf : Mk K C_Shelf f_Shelf_init
  na_Shelf_span : NoAttr K C_Shelf "span"
  na_Shelf_part : NoAttr K C_Shelf "part"
  na_Shelf_time : NoAttr K C_Shelf "time"
  na_Shelf_deed : NoAttr K C_Shelf "deed"
  na_Shelf_counts : NoAttr K C_Shelf "counts"
  na_Shelf_lasts : NoAttr K C_Shelf "lasts"
  na_Shelf_places : NoAttr K C_Shelf "places"
  na_Shelf_standing : NoAttr K C_Shelf "standing"
  na_Shelf_went : NoAttr K C_Shelf "went"
  m_Shelf_ask : Meth K C_Shelf "ask" f_Book_ask
  m_Shelf_rest : Meth K C_Shelf "rest" f_Book_rest
  m_Shelf_drop : Meth K C_Shelf "drop" f_Book_drop
  m_Shelf_spend : Meth K C_Shelf "spend" f_Book_spend
  m_Shelf_asked_at : Meth K C_Shelf "asked_at" f_Book_asked_at
  m_Shelf_came : Meth K C_Shelf "came" f_Shelf_came
  m_Shelf_gone : Meth K C_Shelf "gone" f_Shelf_gone
  m_Shelf_inside : Meth K C_Shelf "inside" f_Shelf_inside
  m_Shelf_rank : Meth K C_Shelf "rank" f_Book_rank
  m_Shelf_names : Meth K C_Shelf "names" f_Book_names
  m_Shelf_time_now : Meth K C_Shelf "time_now" f_Book_time_now
  m_Shelf_deeds_done : Meth K C_Shelf "deeds_done" f_Book_deeds_done
  m_Shelf_count_of : Meth K C_Shelf "count_of" f_Book_count_of
  m_Shelf_last_of : Meth K C_Shelf "last_of" f_Book_last_of
  m_Shelf_has : Meth K C_Shelf "has" f_Shelf_has
  m_Shelf_goings : Meth K C_Shelf "goings" f_Shelf_goings
  bm_Shelf_rank : BMeth K C_Shelf "rank" f_Book_rank
  bm_Shelf_asked_at : BMeth K C_Shelf "asked_at" f_Book_asked_at
  cdf : CDef K C_Book (.type "type") "__init__" f_Book_init
end Own
namespace Own
open PySem L2 PyProof.Rows Evl OwnS
/-- a condition of arithmetic -/
local macro_rules | `(tactic| walk_at "side") => `(tactic| first
  | assumption
  | (show _ ∧ _; omega)
  | (apply pos9 <;> omega)
  | (show (0 : Int) < _; omega)
  | (show _ ∨ _; omega)
  | decide
  | omega)
local macro_rules | `(tactic| walk_at "fn") => `(tactic| fail "no fn")
local macro_rules | `(tactic| walk_at "ev") => `(tactic| first
  | ((with_reducible apply ev_var) ; exact rfl)
  | with_reducible exact ev_c
  | ((with_reducible apply ev_op) <;> walk_at "ev")
  | with_reducible exact rv_I0
  | ((with_reducible apply rv_I) ; walk_at "side")
  | ((with_reducible apply rv_eq) ; rfl)
  | ((with_reducible apply rv_ne) ; rfl)
  | ((with_reducible apply ev_isInt) ; walk_at "ev")
  | ((with_reducible apply ev_isBoolI) ; walk_at "ev")
  | ((with_reducible apply ev_isIntB) ; walk_at "ev")
  | ((with_reducible apply ev_isBoolB) ; walk_at "ev")
  | ((with_reducible apply ev_notV) ; walk_at "ev")
  | ((with_reducible apply et_test) ; walk_at "ev")
  | ((with_reducible apply et_B) ; walk_at "ev")
  | ((with_reducible apply et_not) ; walk_at "ev")
  | with_reducible exact ea_nil
  | ((with_reducible apply ea_cons) <;> walk_at "ev")
  | ((with_reducible apply ev_call0) <;> walk_at "ev")
  | ((with_reducible show SpV _ _ _ _); walk_at "fn"))

theorem pow_pos' {p : Int} (hp : 2 ≤ p) (n : Nat) : 0 < p ^ n := Int.pow_pos (by omega)
theorem ediv_pow_succ {c p : Int} (hp : 2 ≤ p) (n : Nat) : c / p / p ^ n = c / p ^ (n + 1) := by
  rw [Int.ediv_ediv_of_nonneg (by omega), Int.pow_succ, Int.mul_comm]
theorem ediv_lt_self' {c p : Int} (hc : 0 < c) (hp : 2 ≤ p) : c / p < c := by
  apply Int.ediv_lt_of_lt_mul (by omega)
  have : c * 2 ≤ c * p := Int.mul_le_mul_of_nonneg_left hp (by omega)
  omega
theorem agedI_step {c p t : Int} (hp : 2 ≤ p) (ht : 0 < t) : agedI (c / p) p (t - 1) = agedI c p t := by
  unfold agedI
  obtain ⟨n, rfl⟩ : ∃ n : Nat, t = (n : Int) + 1 := ⟨(t - 1).toNat, by omega⟩
  have e1 : ((n : Int) + 1 - 1).toNat = n := by omega
  have e2 : ((n : Int) + 1).toNat = n + 1 := by omega
  rw [e1, e2]
  exact ediv_pow_succ hp n
theorem agedI_zero {c p : Int} : agedI c p 0 = c := by
  unfold agedI
  show c / p ^ 0 = c
  rw [Int.pow_zero, Int.ediv_one]
theorem agedI_nil {p t : Int} : agedI 0 p t = 0 := by
  unfold agedI
  exact Int.zero_ediv _
section
variable {P : Program} {w : World} {K : PySem.W.Frag} {mg : Str → Option Value} {base : Heap}
def spAged : Sp := fun vs H Q _ => ∃ c p t : Int, vs = [.int c, .int p, .int t] ∧ 0 ≤ c ∧ 2 ≤ p ∧ p < 10 ^ 80 ∧ 0 ≤ t ∧ RetV (.int (agedI c p t)) H Q
theorem sv_aged {H : Hp} {c p t : Int} (h1 : 0 ≤ c) (h2 : 2 ≤ p) (h3 : p < 10 ^ 80) (h4 : 0 ≤ t) : SpV spAged [.int c, .int p, .int t] H (.int (agedI c p t)) := spv_of fun H1 Q E e q => ⟨_, _, _, rfl, h1, h2, h3, h4, q⟩
theorem ok_aged (T : Tx K mg) : FnOk P w K mg base CX0 1 T.f_aged T.fd_aged P_aged spAged := by
  refine T.F_aged.ok sc_aged (fun vs H Q E h => ?_) (fun cdv A outer s H vs Q E hr h => ?_)
  · obtain ⟨a, b, c, rfl, _⟩ := h
    rfl
  · obtain ⟨c, p, t, rfl, hc, hp, hp9, ht, k⟩ := h
    refine ⟨_, (pss_cons (ps_while PassesOwn.never (PW.pt (pw_and (pt_cmpR op_gt (pv 2) pe_int (nomark _)) (pw_and1 (pt_cmpR op_gt (pv 0) pe_int (nomark _))))) (pss_cons (ps_set (i := 0) sc_aged.nd rfl (Or.inl rfl) (pe_op op_fdivW (pv 0) (pv 1)))
      (pss_one (ps_aug (i := 2) sc_aged.nd rfl (Or.inl rfl) pe_int ip_sub))))
      (pss_one (ps_ret (pv 0)))), ?_⟩
    rw [show L2.start N_aged [V.int c, V.int p, V.int t] = [some (V.int c), some (V.int p), some (V.int t)] from rfl]
    refine q_while (fun m σ' H' => Ex H H' ∧ ∃ c' t' : Int, σ' = [some (.int c'), some (.int p), some (.int t')] ∧ 0 ≤ c' ∧ 0 ≤ t' ∧ agedI c' p t' = agedI c p t ∧ m = c'.toNat) c.toNat ⟨Ex.refl _, c, t, rfl, hc, ht, rfl, rfl⟩ ?_
    rintro m σ' H' ⟨e, c', t', rfl, hc', ht', he, rfl⟩
    refine ⟨decide (0 < t') && decide (0 < c'), et_and (by walk_at "ev") (fun _ => by walk_at "ev"), fun hb H1 e1 => ?_, fun hb H1 e1 => ?_⟩
    · rw [Bool.and_eq_true, decide_eq_true_eq, decide_eq_true_eq] at hb
      refine ⟨_, fun σ2 H2 h => h, ?_⟩
      have hd : CDivW c' p := pos9 (by omega) hp9
      refine q_asg (v := .int (c' / p)) (by walk_at "ev") fun H2 e2 => ?_
      dsimp only [List.set]
      refine s_aug (f := fun i j => i - j) (a := t') (b := 1) rfl (by walk_at "ev") fun H3 e3 => ?_
      dsimp only [List.set]
      refine ⟨(c' / p).toNat, ?_, ((e.trans e1).trans e2).trans e3, c' / p, t' - 1, rfl, Int.ediv_nonneg hc' (by omega), by omega, ?_, rfl⟩
      · have := ediv_lt_self' hb.2 hp
        have : 0 ≤ c' / p := Int.ediv_nonneg hc' (by omega)
        omega
      · rw [agedI_step hp hb.1]
        exact he
    · refine s_ret (ev_var rfl) fun H2 e2 => ?_
      have : c' = agedI c p t := by
        rw [Bool.and_eq_false_iff, decide_eq_false_iff_not, decide_eq_false_iff_not] at hb
        rw [← he]
        rcases hb with hb | hb
        · have : t' = 0 := by omega
          rw [this, agedI_zero]
        · have : c' = 0 := by omega
          rw [this, agedI_nil]
      rw [this]
      exact k _ ((e.trans e1).trans e2)
end

/-! ### rules.py, with good arguments -/
section
variable {K : PySem.W.Frag} {σ : L2.St} {H : Hp} {ta tb tc te : TE} {D : Ends}
theorem ev_lenS {z : Str} (h : Ev ta σ H (.str z)) (hz : z.length ≤ 100000) : Ev (tCB (fun xs H Q => ∃ x, xs = [.str x] ∧ x.length ≤ sizeLine ∧ Q (.int x.length) H) (tCons ta tNil)) σ H (.int z.length) := fun H1 e Q q =>
  h H1 e _ fun H2 e2 => ⟨z, rfl, sz_of hz, q H2 e2⟩
/-- a op1 b op2 c of ints -/
theorem ev_chain {p q : Int → Int → Bool} {i j l : Int} (ha : Ev ta σ H (.int i)) (hb : Ev tb σ H (.int j)) (hc : Ev tc σ H (.int l)) : Ev (tChain (rI0 fun i j => .bl (p i j)) (rI0 fun i j => .bl (q i j)) ta tb tc) σ H (.bl (p i j && q j l)) := fun H1 e Q k =>
  ha H1 e _ fun H2 e2 => hb H2 (e.trans e2) _ fun H3 e3 => ⟨i, j, rfl, rfl, p i j, rfl, by
    cases h : p i j with
    | true =>
      rw [h, Bool.true_and] at k
      refine iteT (hc H3 ((e.trans e2).trans e3) _ fun H4 e4 => ?_)
      exact ⟨j, l, rfl, rfl, k H4 ((e2.trans e3).trans e4)⟩
    | false =>
      rw [h, Bool.false_and] at k
      exact iteF (k H3 (e2.trans e3))⟩
theorem et_tst {b : Bool} {t : TE} (h : Ev t σ H (.bl b)) : EvT (fun σ H Q => t σ H fun x H' => ∃ k, x = .bl k ∧ Q k H') σ H b := fun H1 e Q q => h H1 e _ fun H2 e2 => ⟨b, rfl, q H2 e2⟩
end
section
variable {P : Program} {w : World} {K : PySem.W.Frag} {mg : Str → Option Value} {base : Heap}
def spWithin : Sp := fun vs H Q _ => ∃ i a b : Int, vs = [.int i, .int a, .int b] ∧ RetV (.bl (decide (a ≤ i) && decide (i ≤ b))) H Q
theorem sv_within {H : Hp} {i a b : Int} : SpV spWithin [.int i, .int a, .int b] H (.bl (decide (a ≤ i) && decide (i ≤ b))) := spv_of fun H1 Q E e q => ⟨_, _, _, rfl, q⟩
theorem ok_within (T : Tx K mg) : FnOk P w K mg base CX0 1 T.f_within T.fd_within P_within spWithin := by
  refine T.F_within.ok sc_within (fun vs H Q E h => ?_) (fun cdv A outer s H vs Q E hr h => ?_)
  · obtain ⟨a, b, c, rfl, _⟩ := h
    rfl
  · obtain ⟨i, a, b, rfl, k⟩ := h
    refine ⟨_, (pss_cons (ps_if (PW.pt (pw_or (pt_not (pt_val (pe_callB call_isi (by rfl) T.n_isinstance (by decide +kernel) (pa_cons (pv 0) (pa_cons (pe_bltn (v := .ty "int") (u := .type "int") rfl T.n_int (by decide +kernel) rfl) pa_nil))))) (pw_or1 (pt_val (pe_callB call_isi (by rfl) T.n_isinstance (by decide +kernel) (pa_cons (pv 0) (pa_cons (pe_bltn (v := .ty "bool") (u := .type "bool") rfl T.n_bool (by decide +kernel) rfl) pa_nil))))))) (pss_one (ps_ret pe_bl)) pss_nil)
      (pss_one (ps_ret (pe_chain op_le op_le (pv 1) (pv 0) (pv 2))))), ?_⟩
    refine q_when (b := false) (et_is (et_or (et_not (et_B (ev_isInt (ev_var rfl)))) fun _ => et_B (ev_isBoolI (ev_var rfl))) rfl) (fun hb => nomatch hb) (fun _ H1 e1 => ?_)
    exact s_ret (ev_chain (ev_var rfl) (ev_var rfl) (ev_var rfl)) fun H2 e2 => k H2 (e1.trans e2)
def spWantNumber : Sp := fun vs H Q _ => ∃ i a b : Int, vs = [.int i, .int a, .int b] ∧ a ≤ i ∧ i ≤ b ∧ RetV .non H Q
theorem sv_wantNumber {H : Hp} {i a b : Int} (h1 : a ≤ i) (h2 : i ≤ b) : SpV spWantNumber [.int i, .int a, .int b] H .non := spv_of fun H1 Q E e q => ⟨_, _, _, rfl, h1, h2, q⟩
theorem ok_want_number (T : Tx K mg) : FnOk P w K mg base CX0 2 T.f_want_number T.fd_want_number P_want_number spWantNumber := by
  refine T.F_want_number.ok sc_want_number (fun vs H Q E h => ?_) (fun cdv A outer s H vs Q E hr h => ?_)
  · obtain ⟨a, b, c, rfl, _⟩ := h
    rfl
  · obtain ⟨i, a, b, rfl, h1, h2, k⟩ := h
    refine ⟨_, (pss_one (ps_if (pt_not (pt_val (pe_call (ok_within T) (hr.mono (by decide)) rfl T.mg_within T.F_within.kp T.b_within .nil pass0 (pa_cons (pv 0) (pa_cons (pv 1) (pa_cons (pv 2) pa_nil)))))) (pss_one ps_never) pss_nil)), ?_⟩
    refine s_when (b := false) (et_is (et_not (et_B (ev_call0 (ea_cons (ev_var rfl) (ea_cons (ev_var rfl) (ea_cons (ev_var rfl) ea_nil))) sv_within))) (by rw [decide_eq_true h1, decide_eq_true h2]; rfl)) (fun hb => nomatch hb) (fun _ H1 e1 => ?_)
    exact k H1 e1
theorem lt_sign {c : Nat} : decide ((⟨#[c]⟩ : Str).cps.toList < (Str.ofString " ").cps.toList) = decide (c < 32) := by
  rw [decide_eq_decide]
  show [c] < [32] ↔ c < 32
  constructor
  · intro h
    cases h with
    | rel h => exact h
    | cons h => cases h
  · intro h
    exact .rel h
theorem gt_sign {c : Nat} : decide ((Str.ofString "~").cps.toList < (⟨#[c]⟩ : Str).cps.toList) = decide (126 < c) := by
  rw [decide_eq_decide]
  show [126] < [c] ↔ 126 < c
  constructor
  · intro h
    cases h with
    | rel h => exact h
    | cons h => cases h
  · intro h
    exact .rel h
def spWantName : Sp := fun vs H Q _ => ∃ n : Str, vs = [.str n] ∧ GoodName n ∧ RetV .non H Q
theorem sv_wantName {H : Hp} {n : Str} (h : GoodName n) : SpV spWantName [.str n] H .non := spv_of fun H1 Q E e q => ⟨_, rfl, h, q⟩
theorem ev_isStr {σ : L2.St} {H : Hp} {ta : TE} {z : Str} (ha : Ev ta σ H (.str z)) : Ev (tCB (rIsi K) (tCons ta (tCons (tC (.ty "str")) tNil))) σ H (.bl true) := ev_isi ha ev_c (.ty _) (fun _ _ => .base (.str _)) (kit_ty (by decide +kernel))
theorem ok_want_name (T : Tx K mg) : FnOk P w K mg base CX0 2 T.f_want_name T.fd_want_name P_want_name spWantName := by
  refine T.F_want_name.ok sc_want_name (fun vs H Q E h => ?_) (fun cdv A outer s H vs Q E hr h => ?_)
  · obtain ⟨n, rfl, _⟩ := h
    rfl
  · obtain ⟨n, rfl, ⟨h1, h2, h3⟩, k⟩ := h
    refine ⟨_, (pss_cons (ps_if (PW.pt (pw_or (pt_not (pt_val (pe_callB call_isi (by rfl) T.n_isinstance (by decide +kernel) (pa_cons (pv 0) (pa_cons (pe_bltn (v := .ty "str") (u := .type "str") rfl T.n_str (by decide +kernel) rfl) pa_nil))))) (pw_or1 (pt_not (pt_chain op_le op_le pe_int (pe_callB call_len_str (by rfl) T.n_len PySem.boot_len (pa_cons (pv 0) pa_nil)) (pe_glob (v := .int 40) rfl T.c_MOST_SIGNS.2 ⟨_, rfl⟩)))))) (pss_one ps_never) pss_nil)
      (pss_one (ps_if (pt_val (pe_callB (cr_any rfl) (by rfl) T.n_any (by decide +kernel) (pa_cons (pe_lc (own := [("sign", 1)]) (g := (gName 1)) (by rfl) sc_want_name.nd (pi_str (pv 0)) (blkOk_by (own := [("sign", 1)]) (N := N_want_name) (sc := defScope s_want_name) (by decide +kernel)) (fun _ _ _ _ _ => (pg_name (i := 1) sc_want_name.nd rfl (Or.inl rfl))) (fun _ _ _ _ _ => pts_nil) (fun _ _ _ _ _ => (pe_or (pe_cmpR op_lt_str (pv 1) pe_str (nomark _)) (pe_one (pe_cmpR op_gt_str (pv 1) pe_str (nomark _)))))) pa_nil))) (pss_one ps_never) pss_nil))), ?_⟩
    rw [show L2.start N_want_name [V.str n] = [some (V.str n), none] from rfl]
    refine q_when (b := false) (et_is (et_or (et_not (et_B (ev_isStr (ev_var rfl)))) fun _ => et_not (et_tst (ev_chain ev_c (ev_lenS (ev_var rfl) (by omega)) ev_c))) (by rw [decide_eq_true (by omega), decide_eq_true (by omega)]; rfl)) (fun hb => nomatch hb) (fun _ H1 e1 => ?_)
    refine s_when (b := false) ?_ (fun hb => nomatch hb) (fun _ H2 e2 => k H2 (e1.trans e2))
    refine et_B (ev_is (ev_any (el_lcB (fun _ => false) (ei_str (ev_var rfl)) ?_ ?_)) ?_)
    · show n.cps.size ≤ 40000
      have : n.cps.size = n.length := rfl
      omega
    · rintro i H3 x H4 hi e3 ⟨rfl, c, hc, rfl⟩
      have hm : c ∈ n.cps.toList := by
        rw [Array.getElem?_toList.symm] at hc
        exact List.mem_of_getElem? hc
      have hc2 := h3 c hm
      refine ⟨Ex.refl _, _, got_name, rfl, ?_⟩
      refine ev_is (ev_orV (a := false) (b := false) (ev_is (ev_op (ev_var rfl) ev_c (fun H5 _ Q5 q5 => ⟨_, _, rfl, rfl, q5 H5 (Ex.refl _)⟩)) ?_) fun _ => ev_is (ev_op (ev_var rfl) ev_c (fun H5 _ Q5 q5 => ⟨_, _, rfl, rfl, q5 H5 (Ex.refl _)⟩)) ?_) rfl
      · rw [lt_sign, decide_eq_false (by omega)]
      · rw [gt_sign, decide_eq_false (by omega)]
    · have : ((List.range n.cps.size).map fun _ => false).any id = false := by
        rw [List.any_eq_false]
        intro x hx
        obtain ⟨_, _, rfl⟩ := List.mem_map.mp hx
        simp
      rw [this]
def spWantRule : Sp := fun vs H Q _ => ∃ a b : Int, vs = [.int a, .int b] ∧ 1 ≤ a ∧ a ≤ 100000000000000000000 ∧ 2 ≤ b ∧ b ≤ 1000000000000000000000000000000 ∧ RetV .non H Q
theorem sv_wantRule {H : Hp} {a b : Int} (h1 : 1 ≤ a) (h2 : a ≤ 100000000000000000000) (h3 : 2 ≤ b) (h4 : b ≤ 1000000000000000000000000000000) : SpV spWantRule [.int a, .int b] H .non := spv_of fun H1 Q E e q => ⟨_, _, rfl, h1, h2, h3, h4, q⟩
theorem ok_want_rule (T : Tx K mg) : FnOk P w K mg base CX0 2 T.f_want_rule T.fd_want_rule P_want_rule spWantRule := by
  refine T.F_want_rule.ok sc_want_rule (fun vs H Q E h => ?_) (fun cdv A outer s H vs Q E hr h => ?_)
  · obtain ⟨a, b, rfl, _⟩ := h
    rfl
  · obtain ⟨a, b, rfl, h1, h2, h3, h4, k⟩ := h
    refine ⟨_, (pss_one (ps_if (PW.pt (pw_or (pt_not (pt_val (pe_call (ok_within T) (hr.mono (by decide)) rfl T.mg_within T.F_within.kp T.b_within .nil pass0 (pa_cons (pv 0) (pa_cons pe_int (pa_cons (pe_glob (v := .int 100000000000000000000) rfl T.c_MOST_SPAN.2 ⟨_, rfl⟩) pa_nil)))))) (pw_or1 (pt_not (pt_val (pe_call (ok_within T) (hr.mono (by decide)) rfl T.mg_within T.F_within.kp T.b_within .nil pass0 (pa_cons (pv 1) (pa_cons pe_int (pa_cons (pe_glob (v := .int 1000000000000000000000000000000) rfl T.c_MOST_NUMBER.2 ⟨_, rfl⟩) pa_nil))))))))) (pss_one ps_never) pss_nil)), ?_⟩
    refine s_when (b := false) (et_is (et_or (et_not (et_B (ev_call0 (ea_cons (ev_var rfl) (ea_cons ev_c (ea_cons ev_c ea_nil))) sv_within))) fun _ => et_not (et_B (ev_call0 (ea_cons (ev_var rfl) (ea_cons ev_c (ea_cons ev_c ea_nil))) sv_within)))
      (by rw [decide_eq_true h1, decide_eq_true h2, decide_eq_true h3, decide_eq_true h4]; rfl)) (fun hb => nomatch hb) (fun _ H1 e1 => ?_)
    exact k H1 e1
def spAgeings : Sp := fun vs H Q _ => ∃ span since upto : Int, vs = [.int span, .int since, .int upto] ∧ 0 < span ∧ span < 10 ^ 80 ∧ RetV (.int (upto / span - since / span)) H Q
theorem sv_ageings {H : Hp} {span since upto : Int} (h : 0 < span) (h2 : span < 10 ^ 80) : SpV spAgeings [.int span, .int since, .int upto] H (.int (upto / span - since / span)) := spv_of fun H1 Q E e k => ⟨_, _, _, rfl, h, h2, k⟩
theorem ok_ageings (T : Tx K mg) : FnOk P w K mg base CX0 1 T.f_ageings T.fd_ageings P_ageings spAgeings := by
  refine T.F_ageings.ok sc_ageings (fun vs H Q E h => ?_) (fun cdv A outer s H vs Q E hr h => ?_)
  · obtain ⟨a, b, c, rfl, _⟩ := h
    rfl
  · obtain ⟨a, b, c, rfl, h1, h2, k⟩ := h
    refine ⟨_, (pss_one (ps_ret (pe_op op_sub (pe_op op_fdivW (pv 2) (pv 0)) (pe_op op_fdivW (pv 1) (pv 0))))), ?_⟩
    have d1 : CDivW c a := pos9 h1 h2
    have d2 : CDivW b a := pos9 h1 h2
    refine s_ret ?_ k
    walk_at "ev"
end

end Own
namespace Own
open PySem L2 PyProof.Rows Evl OwnS
/-- a condition of arithmetic -/
local macro_rules | `(tactic| walk_at "side") => `(tactic| first
  | assumption
  | (show _ ∧ _; omega)
  | (apply pos9 <;> omega)
  | (show (0 : Int) < _; omega)
  | (show _ ∨ _; omega)
  | decide
  | omega)
local macro_rules | `(tactic| walk_at "fn") => `(tactic| fail "no fn")
local macro_rules | `(tactic| walk_at "ev") => `(tactic| first
  | ((with_reducible apply ev_var) ; exact rfl)
  | with_reducible exact ev_c
  | ((with_reducible apply ev_op) <;> walk_at "ev")
  | with_reducible exact rv_I0
  | ((with_reducible apply rv_I) ; walk_at "side")
  | ((with_reducible apply rv_eq) ; rfl)
  | ((with_reducible apply rv_ne) ; rfl)
  | ((with_reducible apply ev_isInt) ; walk_at "ev")
  | ((with_reducible apply ev_isBoolI) ; walk_at "ev")
  | ((with_reducible apply ev_isIntB) ; walk_at "ev")
  | ((with_reducible apply ev_isBoolB) ; walk_at "ev")
  | ((with_reducible apply ev_notV) ; walk_at "ev")
  | ((with_reducible apply et_test) ; walk_at "ev")
  | ((with_reducible apply et_B) ; walk_at "ev")
  | ((with_reducible apply et_not) ; walk_at "ev")
  | with_reducible exact ea_nil
  | ((with_reducible apply ea_cons) <;> walk_at "ev")
  | ((with_reducible apply ev_call0) <;> walk_at "ev")
  | ((with_reducible show SpV _ _ _ _); walk_at "fn"))

/-! ### book.py, for every kind -/
section
variable {P : Program} {w : World} {K : PySem.W.Frag} {mg : Str → Option Value} {base : Heap}
def spGone (k : Kd) (C : Addr) : Sp := fun vs H Q _ => ∃ (ad : Ad) (s : Th) (n r : Str), vs = [.ref ad.p, .str n, .str r] ∧ At k C ad H s ∧ WF k s ∧ s.deed ≤ 1000 ∧ ∀ H', At k C ad H' (k.gone s n r).2 → Kp k ad H H' → Q (.bl (k.gone s n r).1) H'
def spCame (k : Kd) (C : Addr) : Sp := fun vs H Q _ => ∃ (ad : Ad) (s : Th) (n : Str), vs = [.ref ad.p, .str n] ∧ At k C ad H s ∧ WF k s ∧ s.deed ≤ 1000 ∧ ∀ H', At k C ad H' (k.came s n).2 → Kp k ad H H' → Q (k.came s n).1 H'
def spInside (k : Kd) (C : Addr) : Sp := fun vs H Q _ => ∃ (ad : Ad) (s : Th), vs = [.ref ad.p] ∧ At k C ad H s ∧ WF k s ∧ s.deed ≤ 1000 ∧ RetL ((k.inside s).map V.str) H Q
/-- what a class must have: its attributes, the methods of Book -/
structure Cl0 (T : Tx K mg) (C : Addr) where
  cl : Cls K C
  nspan : NoAttr K C "span"
  npart : NoAttr K C "part"
  ntime : NoAttr K C "time"
  ndeed : NoAttr K C "deed"
  ncounts : NoAttr K C "counts"
  nlasts : NoAttr K C "lasts"
  m_ask : Meth K C "ask" T.f_Book_ask
  m_rest : Meth K C "rest" T.f_Book_rest
  m_drop : Meth K C "drop" T.f_Book_drop
  m_spend : Meth K C "spend" T.f_Book_spend
  m_names : Meth K C "names" T.f_Book_names
  m_rank : Meth K C "rank" T.f_Book_rank
  m_time_now : Meth K C "time_now" T.f_Book_time_now
  m_deeds_done : Meth K C "deeds_done" T.f_Book_deeds_done
  m_count_of : Meth K C "count_of" T.f_Book_count_of
  m_last_of : Meth K C "last_of" T.f_Book_last_of
  bm_rank : BMeth K C "rank" T.f_Book_rank
  bm_asked_at : BMeth K C "asked_at" T.f_Book_asked_at
/-- and what its kind may have of its own -/
structure Vt (P : Program) (w : World) (base : Heap) (T : Tx K mg) (k : Kd) (C : Addr) extends Cl0 T C where
  f_came : Addr
  fd_came : FuncData
  m_came : Meth K C "came" f_came
  b_came : Binds K fd_came ["self", "name"] []
  ok_came : FnOk P w K mg base CX0 8 f_came fd_came ["self", "name"] (spCame k C)
  f_gone : Addr
  fd_gone : FuncData
  m_gone : Meth K C "gone" f_gone
  b_gone : Binds K fd_gone ["self", "name", "reason"] []
  ok_gone : FnOk P w K mg base CX0 4 f_gone fd_gone ["self", "name", "reason"] (spGone k C)
  f_inside : Addr
  fd_inside : FuncData
  m_inside : Meth K C "inside" f_inside
  b_inside : Binds K fd_inside ["self"] []
  ok_inside : FnOk P w K mg base CX0 2 f_inside fd_inside ["self"] (spInside k C)
variable {k : Kd} {C : Addr}
theorem nm_asked {ad : Ad} {s : Th} : (flds k ad s).lookup ("asked_at" : Str) = none := by cases k <;> kernel_rfl
theorem nm_rank {ad : Ad} {s : Th} : (flds k ad s).lookup ("rank" : Str) = none := by cases k <;> kernel_rfl
theorem nm_spend {ad : Ad} {s : Th} : (flds k ad s).lookup ("spend" : Str) = none := by cases k <;> kernel_rfl
theorem nm_came {ad : Ad} {s : Th} : (flds k ad s).lookup ("came" : Str) = none := by cases k <;> kernel_rfl
theorem nm_gone {ad : Ad} {s : Th} : (flds k ad s).lookup ("gone" : Str) = none := by cases k <;> kernel_rfl
theorem nm_inside {ad : Ad} {s : Th} : (flds k ad s).lookup ("inside" : Str) = none := by cases k <;> kernel_rfl
theorem val_c {es : List Ent} {n : Str} (h : n ∈ es.map (·.1)) : valV (dOf cV es) (Sum.inr n : Key) = some (.int (cntE es n)) := by
  rw [valV_dOf]
  have := look_mem.mpr h
  unfold cntE
  cases e : look es n with
  | none => rw [e] at this; cases this
  | some p => rfl
theorem val_l {es : List Ent} {n : Str} (h : n ∈ es.map (·.1)) : valV (dOf lV es) (Sum.inr n : Key) = some (.int (lstE es n)) := by
  rw [valV_dOf]
  have := look_mem.mpr h
  unfold lstE
  cases e : look es n with
  | none => rw [e] at this; cases this
  | some p => rfl
def spAskedAt (k : Kd) (C : Addr) : Sp := fun vs H Q _ => ∃ (ad : Ad) (s : Th) (n : Str), vs = [.ref ad.p, .str n] ∧ At k C ad H s ∧ n ∈ s.es.map (·.1) ∧ RetV (.int (lstE s.es n)) H Q
theorem ok_Book_asked_at (T : Tx K mg) (U : Cl0 T C) : FnOk P w K mg base CX0 1 T.f_Book_asked_at T.fd_Book_asked_at P_Book_asked_at (spAskedAt k C) := by
  refine T.F_Book_asked_at.ok sc_Book_asked_at (fun vs H Q E h => ?_) (fun cdv A outer s H vs Q E hr h => ?_)
  · obtain ⟨a, b, c, rfl, _⟩ := h
    rfl
  · obtain ⟨ad, s, n, rfl, A, hn, kk⟩ := h
    have hu := hu_of hr
    refine ⟨_, (pss_one (ps_ret (pe_dget hu (pe_fld (pv 0) rfl) (pv 1) (fun _ _ => rfl)))), ?_⟩
    exact s_ret (ev_dget (ev_fld (ev_var rfl) A.ob U.cl U.nlasts fl_lasts) (ev_var rfl) A.ls (val_l hn)) kk
def spRank (k : Kd) (C : Addr) : Sp := fun vs H Q _ => ∃ (ad : Ad) (s : Th) (n : Str), vs = [.ref ad.p, .str n] ∧ At k C ad H s ∧ n ∈ s.es.map (·.1) ∧ RetP (fun v H' => ∃ t, v = .ref t ∧ H' t = some (.tup [.int (cntE s.es n), .int (lstE s.es n)])) H Q
theorem ok_Book_rank (T : Tx K mg) (U : Cl0 T C) : FnOk P w K mg base CX0 1 T.f_Book_rank T.fd_Book_rank P_Book_rank (spRank k C) := by
  refine T.F_Book_rank.ok sc_Book_rank (fun vs H Q E h => ?_) (fun cdv A outer s H vs Q E hr h => ?_)
  · obtain ⟨a, b, c, rfl, _⟩ := h
    rfl
  · obtain ⟨ad, s, n, rfl, A, hn, kk⟩ := h
    have hu := hu_of hr
    refine ⟨_, (pss_one (ps_ret (pe_tup (pa_cons (pe_dget hu (pe_fld (pv 0) rfl) (pv 1) (fun _ _ => rfl)) (pa_cons (pe_dget hu (pe_fld (pv 0) rfl) (pv 1) (fun _ _ => rfl)) pa_nil))))), ?_⟩
    exact s_retU (eu_tup (ea_cons (ev_dget (ev_fld (ev_var rfl) A.ob U.cl U.ncounts fl_counts) (ev_var rfl) A.ct (val_c hn)) (ea_cons (ev_dget (ev_fld (ev_var rfl) A.ob U.cl U.nlasts fl_lasts) (ev_var rfl) A.ls (val_l hn)) ea_nil)) (by simp)) fun p H1 _ e1 h1 => kk _ H1 e1 ⟨p, rfl, h1⟩
def strOf : V → Str
  | .str n => n
  | _ => ""
/-- the keys' calls, as the sorts ask them -/
theorem asked_calls {ad : Ad} {s : Th} {H : Hp} (A : At k C ad H s) {ns : List Str} (hn : ∀ n ∈ ns, n ∈ s.es.map (·.1)) {X : Cx} : ∀ x ∈ ns.map V.str, SpP (spAskedAt k C) [.ref ad.p, x] H (fun v H2 => (kdInt X).KV (lstE s.es (strOf x)) v H2) := by
  intro x hx
  obtain ⟨n, h1, rfl⟩ := List.mem_map.mp hx
  exact fun H1 e Q q E => ⟨ad, s, n, rfl, A.ex e, hn n h1, fun H2 e2 => q _ H2 e2 rfl⟩
theorem rank_calls {ad : Ad} {s : Th} {H : Hp} (A : At k C ad H s) {ns : List Str} (hn : ∀ n ∈ ns, n ∈ s.es.map (·.1)) {X : Cx} : ∀ x ∈ ns.map V.str, SpP (spRank k C) [.ref ad.p, x] H (fun v H2 => (kdPair X).KV (rankE s.es (strOf x)) v H2) := by
  intro x hx
  obtain ⟨n, h1, rfl⟩ := List.mem_map.mp hx
  exact fun H1 e Q q E => ⟨ad, s, n, rfl, A.ex e, hn n h1, fun v H2 e2 h => q v H2 e2 h⟩
theorem map_str {ys : List V} {ns : List Str} (h : ys.Perm (ns.map V.str)) : ∃ ms : List Str, ys = ms.map V.str ∧ ms.Perm ns := by
  refine ⟨ys.map strOf, ?_, ?_⟩
  · rw [List.map_map]
    have : ∀ y ∈ ys, (V.str ∘ strOf) y = y := fun y hy => by
      obtain ⟨n, _, rfl⟩ := List.mem_map.mp (h.mem_iff.mp hy)
      rfl
    symm
    calc ys.map (V.str ∘ strOf) = ys.map id := List.map_congr_left this
      _ = ys := List.map_id ys
  · have := h.map strOf
    rw [List.map_map] at this
    have e : ns.map (strOf ∘ V.str) = ns := by
      calc ns.map (strOf ∘ V.str) = ns.map id := List.map_congr_left fun _ _ => rfl
        _ = ns := List.map_id ns
    rwa [e] at this
/-- distinct lasts: by them the names are one -/
theorem lst_inj {es : List Ent} (nd : (es.map (·.1)).Nodup) (ls : (es.map fun e => e.2.2).Nodup) {m n : Str} (hm : m ∈ es.map (·.1)) (hn : n ∈ es.map (·.1)) (h : lstE es m = lstE es n) : m = n := by
  obtain ⟨a, ha, rfl⟩ := List.mem_map.mp hm
  obtain ⟨b, hb, rfl⟩ := List.mem_map.mp hn
  have e1 : lstE es a.1 = a.2.2 := by unfold lstE; rw [look_of_mem nd ha]; rfl
  have e2 : lstE es b.1 = b.2.2 := by unfold lstE; rw [look_of_mem nd hb]; rfl
  rw [e1, e2] at h
  have : ∀ {l : List Ent}, (l.map fun e => e.2.2).Nodup → ∀ {a b : Ent}, a ∈ l → b ∈ l → a.2.2 = b.2.2 → a = b := by
    intro l
    induction l with
    | nil => intro _ a b ha; cases ha
    | cons c l ih =>
      intro hd a b ha' hb' he
      rw [List.map_cons, List.nodup_cons] at hd
      rcases List.mem_cons.mp ha' with q1 | q1
      · rcases List.mem_cons.mp hb' with q2 | q2
        · rw [q1, q2]
        · rw [q1] at he
          exact absurd (List.mem_map.mpr ⟨b, q2, he.symm⟩) hd.1
      · rcases List.mem_cons.mp hb' with q2 | q2
        · rw [q2] at he
          exact absurd (List.mem_map.mpr ⟨a, q1, he⟩) hd.1
        · exact ih hd.2 q1 q2 he
  rw [this ls ha hb h]
theorem byLast_of {es : List Ent} (nd : (es.map (·.1)).Nodup) (ls : (es.map fun e => e.2.2).Nodup) {ys : List V} (h1 : ys.Perm ((es.map (·.1)).map V.str)) (h2 : ys.Pairwise fun x y => decide (lstE es (strOf y) < lstE es (strOf x)) = false) : ys = (byLast es).map V.str := by
  obtain ⟨ms, rfl, hp⟩ := map_str h1
  congr 1
  have h3 : ms.Pairwise fun x y => decide (lstE es y < lstE es x) = false := by
    rw [List.pairwise_map] at h2
    exact h2
  refine sorted_uniq (lt := fun i j => decide (i < j)) (f := lstE es) (hp.trans (byLast_perm es).symm) h3 (byLast_sorted es) fun x hx y hy a b => ?_
  have a := of_decide_eq_false a
  have b := of_decide_eq_false b
  exact lst_inj nd ls (hp.mem_iff.mp hx) (hp.mem_iff.mp hy) (by omega)
theorem sortR_of {es : List Ent} (nd : (es.map (·.1)).Nodup) (ls : (es.map fun e => e.2.2).Nodup) {ys : List V} {ns : List Str} (hn : ∀ n ∈ ns, n ∈ es.map (·.1)) (h1 : ys.Perm (ns.map V.str)) (h2 : ys.Pairwise fun x y => SrtO.lexB (rankE es (strOf y)) (rankE es (strOf x)) = false) : ys = (sortR es ns).map V.str := by
  obtain ⟨ms, rfl, hp⟩ := map_str h1
  congr 1
  have h3 : ms.Pairwise fun x y => lexQ (rankE es y) (rankE es x) = false := by
    rw [List.pairwise_map] at h2
    exact h2
  refine sorted_uniq (lt := lexQ) (f := rankE es) (hp.trans (sortR_perm es ns).symm) h3 (sortR_sorted es ns) fun x hx y hy a b => ?_
  rw [lexQ_no] at a b
  have e : (rankE es x).2 = (rankE es y).2 := by omega
  exact lst_inj nd ls (hn _ (hp.mem_iff.mp hx)) (hn _ (hp.mem_iff.mp hy)) e
theorem own_tracked {ad : Ad} {s : Th} {H : Hp} (A : At k C ad H s) {p : Addr} (hp : H p = none) : p ∉ own k ad := fun q => by
  obtain ⟨o, h, _⟩ := A.noTup q
  rw [hp] at h
  cases h
def spSpend (k : Kd) (C : Addr) : Sp := fun vs H Q _ => ∃ (ad : Ad) (s : Th) (steps : Int), vs = [.ref ad.p, .int steps] ∧ At k C ad H s ∧ WF k s ∧ s.deed ≤ 1000 ∧ ∀ H', At k C ad H' (k.spend s steps) → Kp k ad H H' → Q (.int (s.times steps)) H'
theorem ok_Book_spend (T : Tx K mg) (U : Vt P w base T k C) : FnOk P w K mg base CX0 6 T.f_Book_spend T.fd_Book_spend P_Book_spend (spSpend k C) := by
  refine T.F_Book_spend.ok sc_Book_spend (fun vs H Q E h => ?_) (fun cdv A outer s H vs Q E hr h => ?_)
  · obtain ⟨a, b, c, rfl, _⟩ := h
    rfl
  · obtain ⟨ad, s, steps, rfl, A, W, hd, kk⟩ := h
    have hu := hu_of hr
    have G_gone := U.ok_gone
    have b_gone := U.b_gone
    have G_asked_at := ok_Book_asked_at (P := P) (w := w) (base := base) (k := k) T U.toCl0
    have b_asked_at := T.b_Book_asked_at
    refine ⟨_, (pss_cons (ps_set (i := 2) sc_Book_spend.nd rfl (Or.inl rfl) (pe_call (ok_ageings T) (hr.mono (by decide)) rfl T.mg_ageings T.F_ageings.kp T.b_ageings .nil pass0 (pa_cons (pe_fld (pv 0) rfl) (pa_cons (pe_fld (pv 0) rfl) (pa_cons (pe_op op_add (pe_fld (pv 0) rfl) (pv 1)) pa_nil)))))
      (pss_cons (ps_fldaug (pv 0) (pv 1) in_add)
      (pss_cons (ps_if (pt_cmpR op_gt (pv 2) pe_int (nomark _)) (pss_one (ps_for PassesOwn.never rfl (pi_list (pe_callBK (cr_sortedF (kdInt _) rfl G_asked_at (hr.mono (by decide)) b_asked_at) (by rfl) T.n_sorted (by decide +kernel) (pa_cons (pe_fld (pv 0) rfl) pa_nil) (pk_cons (pe_bound (pv 0) U.cl U.bm_asked_at) pk_nil))) (pg_name (i := 3) sc_Book_spend.nd rfl (Or.inl rfl)) (pss_cons (ps_dput hu (pe_fld (pv 0) rfl) (pv 3) (pe_call (ok_aged T) (hr.mono (by decide)) rfl T.mg_aged T.F_aged.kp T.b_aged .nil pass0 (pa_cons (pe_dget hu (pe_fld (pv 0) rfl) (pv 3) (fun _ _ => rfl)) (pa_cons (pe_fld (pv 0) rfl) (pa_cons (pv 2) pa_nil)))) rfl)
      (pss_one (ps_if (pt_cmpR op_eq (pe_dget hu (pe_fld (pv 0) rfl) (pv 3) (fun _ _ => rfl)) pe_int (nomark _)) (pss_cons (ps_expr (pe_meth (pv 0) U.cl U.m_gone G_gone (hr.mono (by decide)) b_gone .nil pass0 (pa_cons (pv 3) (pa_cons pe_str pa_nil))))
      (pss_cons (ps_expr (pe_dpop1 (pe_fld (pv 0) rfl) (pv 3) ⟨rfl, rfl, rfl, rfl⟩))
      (pss_one (ps_expr (pe_dpop1 (pe_fld (pv 0) rfl) (pv 3) ⟨rfl, rfl, rfl, rfl⟩))))) pss_nil))))) pss_nil)
      (pss_one (ps_ret (pv 2)))))), ?_⟩
    rw [show L2.start N_Book_spend [V.ref ad.p, V.int steps] = [some (V.ref ad.p), some (V.int steps), none, none] from rfl]
    have self : ∀ {σ : L2.St} {H' : Hp}, σ[0]? = some (some (V.ref ad.p)) → Ev (tVar 0) σ H' (.ref ad.p) := fun h => ev_var h
    refine q_asg (v := .int (s.times steps)) (ev_call0 (ea_cons (ev_fld (self rfl) A.ob U.cl U.nspan fl_span) (ea_cons (ev_fld (self rfl) A.ob U.cl U.ntime fl_time) (ea_cons (ev_op (ev_fld (self rfl) A.ob U.cl U.ntime fl_time) (ev_var rfl) rv_I0) ea_nil))) (sv_ageings W.sp W.sp2)) fun H1 e1 => ?_
    dsimp only [List.set]
    have A1 := A.ex e1
    refine q_fldaug (w := .int (s.time + steps)) (self rfl) A1.ob U.cl U.ntime fl_time (ev_var rfl) add_rd fl_len fun H2 e2 => ?_
    have A2 := (A1.ex e2).upP (s2 := { s with time := s.time + steps }) (fl_putTime _) rfl rfl rfl rfl rfl
    have K2 : Kp k ad H _ := (Kp.ex (e1.trans e2)).trans (Kp.upd (o := .ins C ad.dx (putF "time" (.int (s.time + steps)) (flds k ad s))) (own_p (k := k)))
    generalize upd H2 ad.p (.ins C ad.dx (putF "time" (.int (s.time + steps)) (flds k ad s))) = H3 at A2 K2 ⊢
    have W2 := W.time (s.time + steps)
    refine q_when (b := decide (0 < s.times steps)) (et_test (ev_op (ev_var rfl) ev_c rv_I0)) (fun hb H4 e4 => ?_) (fun hb H4 e4 => ?_)
    · have hb := of_decide_eq_true hb
      have A4 := A2.ex e4
      have K4 := K2.trans (Kp.ex e4)
      have es : k.spend s steps = (byLast s.es).foldl (k.ageStep (s.times steps)) { s with time := s.time + steps } := by
        unfold Kd.spend
        rw [if_pos hb]
      rw [es] at kk
      refine s_forNLn (xs := (byLast s.es).map V.str) (EvLP.toL (elp_sortF (xs := (s.es.map (·.1)).map V.str) (kf := fun x => lstE s.es (strOf x)) (ev_fld (self rfl) A4.ob U.cl U.nlasts fl_lasts) (.inr ⟨_, A4.ls, ?_⟩) (self rfl) A4.ob nm_asked (asked_calls A4 fun n hn => hn)) fun ys H' h => byLast_of W.nd W.ls h.1 h.2)
        (fun p i σ' H' => ∃ v, σ' = [some (V.ref ad.p), some (V.int steps), some (V.int (s.times steps)), v] ∧ H' p = some (.lst ((byLast s.es).map V.str)) ∧ p ∉ own k ad ∧ At k C ad H' (((byLast s.es).take i).foldl (k.ageStep (s.times steps)) { s with time := s.time + steps }) ∧ Kp k ad H H')
        (fun p H5 hp e5 h5 => ⟨_, rfl, h5, own_tracked A4 hp, A4.ex e5, K4.trans (Kp.ex e5)⟩) (fun p i σ' H' _ h => by obtain ⟨_, _, h, _⟩ := h; exact sq_of h) ?_ ?_
      · rw [dOf, List.map_map, List.map_map]
        rfl
      · rintro p i x σ' H' hx ⟨v, rfl, hl, hpo, Ai, Ki⟩
        dsimp only [List.set]
        obtain ⟨n, hn, rfl⟩ : ∃ n, (byLast s.es)[i]? = some n ∧ x = V.str n := by
          rw [List.getElem?_map] at hx
          cases e : (byLast s.es)[i]? with
          | none => rw [e] at hx; cases hx
          | some n => rw [e] at hx; exact ⟨n, rfl, (Option.some.inj hx).symm⟩
        have tk : (byLast s.es).take (i + 1) = (byLast s.es).take i ++ [n] := by rw [List.take_add_one, hn]; rfl
        have hf : ((byLast s.es).take (i + 1)).foldl (k.ageStep (s.times steps)) { s with time := s.time + steps } = k.ageStep (s.times steps) (((byLast s.es).take i).foldl (k.ageStep (s.times steps)) { s with time := s.time + steps }) n := by
          rw [tk, List.foldl_append]
          rfl
        have Wi : WF k (((byLast s.es).take i).foldl (k.ageStep (s.times steps)) { s with time := s.time + steps }) := WF.fold _ _ W2
        have ci := fold_core k (s.times steps) ((byLast s.es).take i) { s with time := s.time + steps }
        have hni : n ∈ (((byLast s.es).take i).foldl (k.ageStep (s.times steps)) { s with time := s.time + steps }).es.map (·.1) := by
          refine keys_fold _ _ ((byLast_perm s.es).mem_iff.mp (List.mem_of_getElem? hn)) fun q => ?_
          have ndl : (byLast s.es).Nodup := (byLast_perm s.es).nodup_iff.mpr W.nd
          obtain ⟨j, hj, ej⟩ := List.mem_iff_getElem.mp q
          rw [List.getElem_take] at ej
          have hi := (List.getElem?_eq_some_iff.mp hn).1
          rw [List.length_take] at hj
          have := (List.getElem_inj (h₀ := (by omega : j < (byLast s.es).length)) (h₁ := hi) ndl).mp (ej.trans (List.getElem?_eq_some_iff.mp hn).2.symm)
          omega
        generalize hsi : ((byLast s.es).take i).foldl (k.ageStep (s.times steps)) { s with time := s.time + steps } = si at Ai Wi ci hni hf
        have hdi : si.deed ≤ 1000 := by rw [ci.2.2.2.1]; exact hd
        have hc0 := cntE_nn Wi.cn n
        have hag : SpV spAged [.int (cntE si.es n), .int si.part, .int (s.times steps)] H' (.int (agedI (cntE si.es n) si.part (s.times steps))) := sv_aged hc0 Wi.pt Wi.pt2 (by omega)
        have szc : (dOf cV si.es).length < 100000 := by
          have := Wi.sz
          unfold dOf
          rw [List.length_map]
          omega
        refine q_dput (ev_call0 (ea_cons (ev_dget (ev_fld (self rfl) Ai.ob U.cl U.ncounts fl_counts) (ev_var rfl) Ai.ct (val_c hni)) (ea_cons (ev_fld (self rfl) Ai.ob U.cl U.npart fl_part) (ea_cons (ev_var rfl) ea_nil))) hag) (ev_fld (self rfl) Ai.ob U.cl U.ncounts fl_counts) (ev_var rfl) Ai.ct szc fun H5 e5 => ?_
        rw [setC_put _ (look_mem.mpr hni)]
        have A5 := (Ai.ex e5).upC (es := setC si.es n (agedI (cntE si.es n) si.part (s.times steps))) (setC_lasts _ _ _)
        have K5 : Kp k ad H _ := (Ki.trans (Kp.ex e5)).trans (Kp.upd (o := .dK (dOf cV (setC si.es n (agedI (cntE si.es n) si.part (s.times steps))))) (own_c (k := k)))
        have hl5 : (upd H5 ad.c (.dK (dOf cV (setC si.es n (agedI (cntE si.es n) si.part (s.times steps)))))) p = some (.lst ((byLast s.es).map V.str)) := by
          rw [upd_ne (fun q => hpo (by rw [q]; exact own_c))]
          exact e5 p _ hl
        generalize upd H5 ad.c (.dK (dOf cV (setC si.es n (agedI (cntE si.es n) si.part (s.times steps))))) = H6 at A5 K5 hl5 ⊢
        have hag0 : 0 ≤ agedI (cntE si.es n) si.part (s.times steps) := agedI_nn hc0 Wi.pt
        have W5 := Wi.setC n hag0
        have hn5 : n ∈ (setC si.es n (agedI (cntE si.es n) si.part (s.times steps))).map (·.1) := by rw [setC_keys]; exact hni
        have hcc : cntE (setC si.es n (agedI (cntE si.es n) si.part (s.times steps))) n = agedI (cntE si.es n) si.part (s.times steps) := by
          unfold cntE
          rw [look_setC, if_pos rfl]
          have := look_mem.mpr hni
          cases e : look si.es n with
          | none => rw [e] at this; cases this
          | some q => rfl
        have hval := val_c hn5
        rw [hcc] at hval
        rw [hf]
        unfold Kd.ageStep
        refine s_when (b := decide (agedI (cntE si.es n) si.part (s.times steps) = 0)) (et_is (et_test (ev_op (ev_dget (ev_fld (self rfl) A5.ob U.cl U.ncounts fl_counts) (ev_var rfl) A5.ct hval) ev_c (rv_eq rfl))) dec_i) (fun hb2 H7 e7 => ?_) (fun hb2 H7 e7 => ?_)
        · rw [if_pos (of_decide_eq_true hb2)]
          have A7 := A5.ex e7
          refine q_dropM (self rfl) A7.ob nm_gone (ea_cons (ev_var rfl) (ea_cons ev_c ea_nil)) fun H8 e8 => ⟨ad, _, n, "faded", rfl, A7.ex e8, W5, hdi, fun H9 A9 K9 => ?_⟩
          have cg := gone_core k { si with es := setC si.es n (agedI (cntE si.es n) si.part (s.times steps)) } n "faded"
          have hes : (k.gone { si with es := setC si.es n (agedI (cntE si.es n) si.part (s.times steps)) } n "faded").2.es = setC si.es n (agedI (cntE si.es n) si.part (s.times steps)) := cg.1
          have hn9 : n ∈ (k.gone { si with es := setC si.es n (agedI (cntE si.es n) si.part (s.times steps)) } n "faded").2.es.map (·.1) := by rw [hes]; exact hn5
          have hl9 := K9 p _ (e8 p _ (e7 p _ hl5)) hpo
          refine q_dpop (ev_fld (self rfl) A9.ob U.cl U.ncounts fl_counts) (ev_var rfl) A9.ct (val_c hn9) fun H10 e10 => ?_
          have ob10 : (upd H10 ad.c (.dK (dropK (dOf cV (k.gone { si with es := setC si.es n (agedI (cntE si.es n) si.part (s.times steps)) } n "faded").2.es) (Sum.inr n)))) ad.p = _ := (upd_ne A9.pc).trans (e10 _ _ A9.ob)
          have ls10 : (upd H10 ad.c (.dK (dropK (dOf cV (k.gone { si with es := setC si.es n (agedI (cntE si.es n) si.part (s.times steps)) } n "faded").2.es) (Sum.inr n)))) ad.l = _ := (upd_ne A9.cl.symm).trans (e10 _ _ A9.ls)
          refine s_dpop (ev_fld (self rfl) ob10 U.cl U.nlasts fl_lasts) (ev_var rfl) ls10 (val_l hn9) fun H11 e11 => ?_
          have ed : dropE (k.gone { si with es := setC si.es n (agedI (cntE si.es n) si.part (s.times steps)) } n "faded").2.es n = dropE si.es n := by rw [hes, dropE_setC]
          have A11 := (A9.ex e10).upE3 (es := dropE si.es n) (c := dropK (dOf cV (k.gone { si with es := setC si.es n (agedI (cntE si.es n) si.part (s.times steps)) } n "faded").2.es) (Sum.inr n)) (l := dropK (dOf lV (k.gone { si with es := setC si.es n (agedI (cntE si.es n) si.part (s.times steps)) } n "faded").2.es) (Sum.inr n)) e11 (by rw [dropK_dOf, ed]) (by rw [dropK_dOf, ed])
          refine ⟨_, rfl, ?_, hpo, A11, (((K5.trans (Kp.ex (e7.trans e8))).trans K9).trans ((Kp.ex e10).trans ((Kp.upd own_c).trans (Kp.ex e11)))).trans (Kp.upd own_l)⟩
          rw [upd_ne (fun q => hpo (by rw [q]; exact own_l))]
          refine e11 p _ ?_
          rw [upd_ne (fun q => hpo (by rw [q]; exact own_c))]
          exact e10 p _ hl9
        · rw [if_neg (of_decide_eq_false hb2)]
          exact ⟨_, rfl, e7 p _ hl5, hpo, A5.ex e7, K5.trans (Kp.ex e7)⟩
      · rintro p σ' H' ⟨v, rfl, hl, hpo, Ai, Ki⟩
        rw [List.length_map, List.take_length] at Ai
        exact s_ret (ev_var rfl) fun H5 e5 => kk _ (Ai.ex e5) (Ki.trans (Kp.ex e5))
    · have hb := of_decide_eq_false hb
      refine s_ret (ev_var rfl) fun H5 e5 => kk _ ?_ ((K2.trans (Kp.ex e4)).trans (Kp.ex e5))
      have es : k.spend s steps = { s with time := s.time + steps } := by
        unfold Kd.spend
        rw [if_neg hb]
      rw [es]
      exact (A2.ex e4).ex e5
/-! the other methods -/
def spNames (k : Kd) (C : Addr) : Sp := fun vs H Q _ => ∃ (ad : Ad) (s : Th), vs = [.ref ad.p] ∧ At k C ad H s ∧ WF k s ∧ s.deed ≤ 1000 ∧ RetL ((k.names s).map V.str) H Q
theorem ok_Book_names (T : Tx K mg) (U : Vt P w base T k C) : FnOk P w K mg base CX0 4 T.f_Book_names T.fd_Book_names P_Book_names (spNames k C) := by
  refine T.F_Book_names.ok sc_Book_names (fun vs H Q E h => ?_) (fun cdv A outer s H vs Q E hr h => ?_)
  · obtain ⟨a, b, rfl, _⟩ := h
    rfl
  · obtain ⟨ad, s, rfl, A, W, hd, kk⟩ := h
    have G_inside := U.ok_inside
    have b_inside := U.b_inside
    have G_rank := ok_Book_rank (P := P) (w := w) (base := base) (k := k) T U.toCl0
    have b_rank := T.b_Book_rank
    refine ⟨_, (pss_one (ps_ret (pe_callBK (cr_sortedF (kdPair _) rfl G_rank (hr.mono (by decide)) b_rank) (by rfl) T.n_sorted (by decide +kernel) (pa_cons (pe_meth0 (pv 0) U.cl U.m_inside G_inside (hr.mono (by decide)) b_inside .nil pass0) pa_nil) (pk_cons (pe_bound (pv 0) U.cl U.bm_rank) pk_nil)))), ?_⟩
    rw [show L2.start N_Book_names [V.ref ad.p] = [some (V.ref ad.p)] from rfl]
    have hin : SpL (spInside k C) [.ref ad.p] H ((k.inside s).map V.str) := fun H1 e Q q E => ⟨ad, s, rfl, A.ex e, W, hd, q⟩
    exact s_retL (EvLP.toL (elp_sortFN (xs := (k.inside s).map V.str) (kf := fun x => rankE s.es (strOf x)) (el_meth (ev_var rfl) A.ob nm_inside ea_nil hin) (ev_var rfl) A.ob nm_rank (rank_calls A W.inside)) fun ys H' h => sortR_of W.nd W.ls W.inside h.1 h.2) kk
def spRest (k : Kd) (C : Addr) : Sp := fun vs H Q _ => ∃ (ad : Ad) (s : Th) (n : Int), vs = [.ref ad.p, .int n] ∧ At k C ad H s ∧ WF k s ∧ s.deed < 1000 ∧ 0 ≤ n ∧ n ≤ 1000000000000000000000000000000 ∧ ∀ H', At k C ad H' (k.rest s n).2 → Kp k ad H H' → Q (.int (k.rest s n).1) H'
theorem ok_Book_rest (T : Tx K mg) (U : Vt P w base T k C) : FnOk P w K mg base CX0 7 T.f_Book_rest T.fd_Book_rest P_Book_rest (spRest k C) := by
  refine T.F_Book_rest.ok sc_Book_rest (fun vs H Q E h => ?_) (fun cdv A outer s H vs Q E hr h => ?_)
  · obtain ⟨a, b, c, rfl, _⟩ := h
    rfl
  · obtain ⟨ad, s, n, rfl, A, W, hd, h1, h2, kk⟩ := h
    have G_spend := ok_Book_spend T U
    have b_spend := T.b_Book_spend
    refine ⟨_, (pss_cons (ps_expr (pe_call (ok_want_number T) (hr.mono (by decide)) rfl T.mg_want_number T.F_want_number.kp T.b_want_number .nil pass0 (pa_cons (pv 1) (pa_cons pe_int (pa_cons (pe_glob (v := .int 1000000000000000000000000000000) rfl T.c_MOST_NUMBER.2 ⟨_, rfl⟩) pa_nil)))))
      (pss_cons (ps_fldaug (pv 0) pe_int in_add)
      (pss_one (ps_ret (pe_meth (pv 0) U.cl U.m_spend G_spend (hr.mono (by decide)) b_spend .nil pass0 (pa_cons (pv 1) pa_nil)))))), ?_⟩
    rw [show L2.start N_Book_rest [V.ref ad.p, V.int n] = [some (V.ref ad.p), some (V.int n)] from rfl]
    have self : ∀ {σ : L2.St} {H' : Hp}, σ[0]? = some (some (V.ref ad.p)) → Ev (tVar 0) σ H' (.ref ad.p) := fun h => ev_var h
    refine s_drop0 (ev_call0 (ea_cons (ev_var rfl) (ea_cons ev_c (ea_cons ev_c ea_nil))) (sv_wantNumber h1 h2)) fun H1 e1 => ?_
    have A1 := A.ex e1
    refine q_fldaug (w := .int ((s.deed : Int) + 1)) (self rfl) A1.ob U.cl U.ndeed fl_deed ev_c add_rd fl_len fun H2 e2 => ?_
    have A2 := (A1.ex e2).upP (s2 := s.next) (fl_putDeed (s.deed + 1)) rfl rfl rfl rfl rfl
    have K2 : Kp k ad H _ := (Kp.ex (e1.trans e2)).trans (Kp.upd (o := .ins C ad.dx (putF "deed" (.int ((s.deed + 1 : Nat) : Int)) (flds k ad s))) (own_p (k := k)))
    show tRet _ _ _ (upd H2 ad.p (.ins C ad.dx (putF "deed" (.int ((s.deed + 1 : Nat) : Int)) (flds k ad s))))
    generalize upd H2 ad.p (.ins C ad.dx (putF "deed" (.int ((s.deed + 1 : Nat) : Int)) (flds k ad s))) = H3 at A2 K2 ⊢
    exact s_retM (self rfl) A2.ob nm_spend (ea_cons (ev_var rfl) ea_nil) fun H4 e4 => ⟨ad, s.next, n, rfl, A2.ex e4, W.next, hd, fun H5 A5 K5 => kk H5 A5 ((K2.trans (Kp.ex e4)).trans K5)⟩
def spDrop (k : Kd) (C : Addr) : Sp := fun vs H Q _ => ∃ (ad : Ad) (s : Th) (n : Str), vs = [.ref ad.p, .str n] ∧ At k C ad H s ∧ WF k s ∧ s.deed < 1000 ∧ GoodName n ∧ ∀ H', At k C ad H' (k.drop s n).2 → Kp k ad H H' → Q (.bl (k.drop s n).1) H'
theorem ok_Book_drop (T : Tx K mg) (U : Vt P w base T k C) : FnOk P w K mg base CX0 7 T.f_Book_drop T.fd_Book_drop P_Book_drop (spDrop k C) := by
  refine T.F_Book_drop.ok sc_Book_drop (fun vs H Q E h => ?_) (fun cdv A outer s H vs Q E hr h => ?_)
  · obtain ⟨a, b, c, rfl, _⟩ := h
    rfl
  · obtain ⟨ad, s, n, rfl, A, W, hd, h1, kk⟩ := h
    have G_gone := U.ok_gone
    have b_gone := U.b_gone
    refine ⟨_, (pss_cons (ps_expr (pe_call (ok_want_name T) (hr.mono (by decide)) rfl T.mg_want_name T.F_want_name.kp T.b_want_name .nil pass0 (pa_cons (pv 1) pa_nil)))
      (pss_cons (ps_fldaug (pv 0) pe_int in_add)
      (pss_one (ps_ret (pe_meth (pv 0) U.cl U.m_gone G_gone (hr.mono (by decide)) b_gone .nil pass0 (pa_cons (pv 1) (pa_cons pe_str pa_nil))))))), ?_⟩
    rw [show L2.start N_Book_drop [V.ref ad.p, V.str n] = [some (V.ref ad.p), some (V.str n)] from rfl]
    have self : ∀ {σ : L2.St} {H' : Hp}, σ[0]? = some (some (V.ref ad.p)) → Ev (tVar 0) σ H' (.ref ad.p) := fun h => ev_var h
    refine s_drop0 (ev_call0 (ea_cons (ev_var rfl) ea_nil) (sv_wantName h1)) fun H1 e1 => ?_
    have A1 := A.ex e1
    refine q_fldaug (w := .int ((s.deed : Int) + 1)) (self rfl) A1.ob U.cl U.ndeed fl_deed ev_c add_rd fl_len fun H2 e2 => ?_
    have A2 := (A1.ex e2).upP (s2 := s.next) (fl_putDeed (s.deed + 1)) rfl rfl rfl rfl rfl
    have K2 : Kp k ad H _ := (Kp.ex (e1.trans e2)).trans (Kp.upd (o := .ins C ad.dx (putF "deed" (.int ((s.deed + 1 : Nat) : Int)) (flds k ad s))) (own_p (k := k)))
    show tRet _ _ _ (upd H2 ad.p (.ins C ad.dx (putF "deed" (.int ((s.deed + 1 : Nat) : Int)) (flds k ad s))))
    generalize upd H2 ad.p (.ins C ad.dx (putF "deed" (.int ((s.deed + 1 : Nat) : Int)) (flds k ad s))) = H3 at A2 K2 ⊢
    exact s_retM (self rfl) A2.ob nm_gone (ea_cons (ev_var rfl) (ea_cons ev_c ea_nil)) fun H4 e4 => ⟨ad, s.next, n, "dropped", rfl, A2.ex e4, W.next, hd, fun H5 A5 K5 => kk H5 A5 ((K2.trans (Kp.ex e4)).trans K5)⟩
def spAsk (k : Kd) (C : Addr) : Sp := fun vs H Q _ => ∃ (ad : Ad) (s : Th) (n : Str) (c : Int), vs = [.ref ad.p, .str n, .int c] ∧ At k C ad H s ∧ WF k s ∧ s.deed < 1000 ∧ GoodName n ∧ 1 ≤ c ∧ c ≤ 1000000000000000000000000000000 ∧ ∀ H', At k C ad H' (k.ask s n c).2 → Kp k ad H H' → Q (k.ask s n c).1 H'
theorem dget_cnt (es : List Ent) (n : Str) : (valV (dOf cV es) (Sum.inr n : Key)).getD (.int 0) = .int (cntE es n) := by
  rw [valV_dOf]
  unfold cntE
  cases look es n <;> rfl
theorem ok_Book_ask (T : Tx K mg) (U : Vt P w base T k C) : FnOk P w K mg base CX0 9 T.f_Book_ask T.fd_Book_ask P_Book_ask (spAsk k C) := by
  refine okN T.F_Book_ask sc_Book_ask (fun vs H Q E h => ?_) (fun cdv A outer s H vs Q E hr h => ?_)
  · obtain ⟨a, b, c, d, rfl, _⟩ := h
    rfl
  · obtain ⟨ad, s, n, c, rfl, A, W, hd, hg, h1, h2, kk⟩ := h
    have hu := hu_of hr
    have G_spend := ok_Book_spend T U
    have b_spend := T.b_Book_spend
    have G_came := U.ok_came
    have b_came := U.b_came
    refine ⟨_, (pss_cons (ps_expr (pe_call (ok_want_name T) (hr.mono (by decide)) rfl T.mg_want_name T.F_want_name.kp T.b_want_name .nil pass0 (pa_cons (pv 1) pa_nil)))
      (pss_cons (ps_expr (pe_call (ok_want_number T) (hr.mono (by decide)) rfl T.mg_want_number T.F_want_number.kp T.b_want_number .nil pass0 (pa_cons (pv 2) (pa_cons pe_int (pa_cons (pe_glob (v := .int 1000000000000000000000000000000) rfl T.c_MOST_NUMBER.2 ⟨_, rfl⟩) pa_nil)))))
      (pss_cons (ps_fldaug (pv 0) pe_int in_add)
      (pss_cons (ps_expr (pe_meth (pv 0) U.cl U.m_spend G_spend (hr.mono (by decide)) b_spend .nil pass0 (pa_cons pe_int pa_nil)))
      (pss_cons (ps_set (i := 3) sc_Book_ask.nd rfl (Or.inl rfl) (pe_meth (pv 0) U.cl U.m_came G_came (hr.mono (by decide)) b_came .nil pass0 (pa_cons (pv 1) pa_nil)))
      (pss_cons (ps_dput hu (pe_fld (pv 0) rfl) (pv 1) (pe_op op_add (pe_dget2 hu (pe_fld (pv 0) rfl) (pv 1) pe_int ⟨rfl, rfl, rfl, rfl⟩) (pv 2)) rfl)
      (pss_cons (ps_dput hu (pe_fld (pv 0) rfl) (pv 1) (pe_fld (pv 0) rfl) rfl)
      (pss_one (ps_ret (pv 3)))))))))), ?_⟩
    rw [show L2.start N_Book_ask [V.ref ad.p, V.str n, V.int c] = [some (V.ref ad.p), some (V.str n), some (V.int c), none] from rfl]
    have self : ∀ {σ : L2.St} {H' : Hp}, σ[0]? = some (some (V.ref ad.p)) → Ev (tVar 0) σ H' (.ref ad.p) := fun h => ev_var h
    refine s_drop0 (ev_call0 (ea_cons (ev_var rfl) ea_nil) (sv_wantName hg)) fun H1 e1 => ?_
    refine s_drop0 (ev_call0 (ea_cons (ev_var rfl) (ea_cons ev_c (ea_cons ev_c ea_nil))) (sv_wantNumber h1 h2)) fun H1' e1' => ?_
    have A1 := A.ex (e1.trans e1')
    refine q_fldaug (w := .int ((s.deed : Int) + 1)) (self rfl) A1.ob U.cl U.ndeed fl_deed ev_c add_rd fl_len fun H2 e2 => ?_
    have A2 := (A1.ex e2).upP (s2 := s.next) (fl_putDeed (s.deed + 1)) rfl rfl rfl rfl rfl
    have K2 : Kp k ad H _ := (Kp.ex ((e1.trans e1').trans e2)).trans (Kp.upd (o := .ins C ad.dx (putF "deed" (.int ((s.deed + 1 : Nat) : Int)) (flds k ad s))) (own_p (k := k)))
    rw [show V.int ((s.deed : Int) + 1) = V.int ((s.deed + 1 : Nat) : Int) from rfl]
    generalize upd H2 ad.p (.ins C ad.dx (putF "deed" (.int ((s.deed + 1 : Nat) : Int)) (flds k ad s))) = H3 at A2 K2 ⊢
    refine q_dropM (self rfl) A2.ob nm_spend (ea_cons ev_c ea_nil) fun H4 e4 => ⟨ad, s.next, 1, rfl, A2.ex e4, W.next, hd, fun H5 A5 K5 => ?_⟩
    have sc := spend_core k s.next 1
    have W5 : WF k (k.spend s.next 1) := W.next.spend 1
    have hd5 : (k.spend s.next 1).deed ≤ 1000 := by rw [sc.2.2.2.1]; exact hd
    have sz5 := W5.sz
    have K5' := (K2.trans (Kp.ex e4)).trans K5
    have cc := came_core k (k.spend s.next 1) n
    unfold Kd.ask at kk
    dsimp only at kk
    generalize k.spend s.next 1 = s5 at A5 W5 hd5 sz5 cc kk sc
    refine q_asgM (self rfl) A5.ob nm_came (ea_cons (ev_var rfl) ea_nil) fun H6 e6 => ⟨ad, s5, n, rfl, A5.ex e6, W5, hd5, fun H7 A7 K7 => ?_⟩
    dsimp only [List.set]
    have hl : (dOf cV (k.came s5 n).2.es).length < 100000 := by
      rw [cc.1]
      unfold dOf
      rw [List.length_map]
      omega
    have hl2 : (dOf lV (k.came s5 n).2.es).length < 100000 := by
      rw [cc.1]
      unfold dOf
      rw [List.length_map]
      omega
    have K7' := (K5'.trans (Kp.ex e6)).trans K7
    generalize hans : (k.came s5 n).1 = ans at kk ⊢
    generalize (k.came s5 n).2 = s7 at A7 cc kk hl hl2
    refine q_dput (v := .int (cntE s7.es n + c)) (ev_op (ev_is (ev_dget2 (ev_fld (self rfl) A7.ob U.cl U.ncounts fl_counts) (ev_var rfl) ev_c A7.ct) (dget_cnt _ _)) (ev_var rfl) rv_I0) (ev_fld (self rfl) A7.ob U.cl U.ncounts fl_counts) (ev_var rfl) A7.ct hl fun H8 e8 => ?_
    have ob8 : (upd H8 ad.c (.dK (putK (dOf cV s7.es) (Sum.inr n) (.int (cntE s7.es n + c))))) ad.p = _ := (upd_ne A7.pc).trans (e8 _ _ A7.ob)
    have ls8 : (upd H8 ad.c (.dK (putK (dOf cV s7.es) (Sum.inr n) (.int (cntE s7.es n + c))))) ad.l = _ := (upd_ne A7.cl.symm).trans (e8 _ _ A7.ls)
    refine q_dput (v := .int (s7.deed : Int)) (ev_fld (self rfl) ob8 U.cl U.ndeed fl_deed) (ev_fld (self rfl) ob8 U.cl U.nlasts fl_lasts) (ev_var rfl) ls8 hl2 fun H9 e9 => ?_
    have A9 := (A7.ex e8).upE3 (es := putE s7.es n (cntE s7.es n + c, (s7.deed : Int))) e9 (putK_dOf cV _ _ (cntE s7.es n + c, (s7.deed : Int))) (putK_dOf lV _ _ (cntE s7.es n + c, (s7.deed : Int)))
    exact s_ret (ev_var rfl) fun H10 e10 => kk H10 (A9.ex e10) (((((K7'.trans (Kp.ex e8)).trans (Kp.upd (own_c (k := k)))).trans (Kp.ex e9)).trans (Kp.upd (own_l (k := k)))).trans (Kp.ex e10))
/-! a new book's own part -/
def six (a b : Int) (c l : Addr) : List (Str × V) := [("span", .int a), ("part", .int b), ("time", .int 0), ("deed", .int 0), ("counts", .ref c), ("lasts", .ref l)]
def spInit (C : Addr) : Sp := fun vs H Q _ => ∃ (p dx : Addr) (a b : Int), vs = [.ref p, .int a, .int b] ∧ 1 ≤ a ∧ a ≤ 100000000000000000000 ∧ 2 ≤ b ∧ b ≤ 1000000000000000000000000000000 ∧ H p = some (.ins C dx []) ∧
  ∀ H' c l, H c = none → H l = none → c ≠ l → H' p = some (.ins C dx (six a b c l)) → H' c = some (.dK []) → H' l = some (.dK []) → (∀ x o, H x = some o → x ≠ p → H' x = some o) → Q .non H'
theorem lenlt {l : List (Str × V)} (n : Nat) (h : l.length = n) (hn : n < 1000 := by decide) : l.length < 1000 := by rw [h]; exact hn
theorem ok_Book_init (T : Tx K mg) (U : Cl0 T C) : FnOk P w K mg base CX0 3 T.f_Book_init T.fd_Book_init P_Book_init (spInit C) := by
  refine T.F_Book_init.ok sc_Book_init (fun vs H Q E h => ?_) (fun cdv A outer s H vs Q E hr h => ?_)
  · obtain ⟨_, _, _, _, rfl, _⟩ := h
    rfl
  · obtain ⟨p, dx, a, b, rfl, h1, h2, h3, h4, hp, kk⟩ := h
    refine ⟨_, (pss_cons (ps_expr (pe_call (ok_want_rule T) (hr.mono (by decide)) rfl T.mg_want_rule T.F_want_rule.kp T.b_want_rule .nil pass0 (pa_cons (pv 1) (pa_cons (pv 2) pa_nil))))
      (pss_cons (ps_fld (pv 0) (pv 1) rfl)
      (pss_cons (ps_fld (pv 0) (pv 2) rfl)
      (pss_cons (ps_fld (pv 0) pe_int rfl)
      (pss_cons (ps_fld (pv 0) pe_int rfl)
      (pss_cons (ps_fld (pv 0) pe_dnewK rfl)
      (pss_one (ps_fld (pv 0) pe_dnewK rfl)))))))), ?_⟩
    rw [show L2.start N_Book_init [V.ref p, V.int a, V.int b] = [some (V.ref p), some (V.int a), some (V.int b)] from rfl]
    have self : ∀ {H' : Hp}, Ev (tVar 0) [some (V.ref p), some (V.int a), some (V.int b)] H' (.ref p) := ev_var rfl
    refine s_drop0 (ev_call0 (ea_cons (ev_var rfl) (ea_cons (ev_var rfl) ea_nil)) (sv_wantRule h1 h2 h3 h4)) fun H1 e1 => ?_
    have hp1 := e1 _ _ hp
    refine q_fld (w := .int a) (ev_var rfl) self hp1 U.cl U.nspan (lenlt 0 (by kernel_rfl)) fun H2 e2 => ?_
    refine q_fld (w := .int b) (ev_var rfl) self upd_same U.cl U.npart (lenlt 1 (by kernel_rfl)) fun H3 e3 => ?_
    refine q_fld (w := .int 0) ev_c self upd_same U.cl U.ntime (lenlt 2 (by kernel_rfl)) fun H4 e4 => ?_
    refine q_fld (w := .int 0) ev_c self upd_same U.cl U.ndeed (lenlt 3 (by kernel_rfl)) fun H5 e5 => ?_
    refine q_fldNew self upd_same U.cl U.ncounts (lenlt 4 (by kernel_rfl)) fun c H6 hc e6 h6 => ?_
    refine s_fldNew self upd_same U.cl U.nlasts (lenlt 5 (by kernel_rfl)) fun l H7 hl e7 h7 => ?_
    have back : ∀ {X Y : Hp} {o : HO} {z : Addr}, Ex X Y → (upd Y p o) z = none → X z = none := fun {X Y o z} e h => by
      by_cases q : z = p
      · rw [q, upd_same] at h; cases h
      · rw [upd_ne q] at h; exact fresh_back e h
    have hc0 : H c = none := fresh_back e1 (back e2 (back e3 (back e4 (back e5 hc))))
    have hl0 : H l = none := fresh_back e1 (back e2 (back e3 (back e4 (back e5 (back e6 hl)))))
    have hcp : c ≠ p := fun q => by rw [q, hp] at hc0; cases hc0
    have hlp : l ≠ p := fun q => by rw [q, hp] at hl0; cases hl0
    have hcl : c ≠ l := fun q => by
      rw [q] at h6
      rw [upd_ne hlp, h6] at hl
      cases hl
    refine kk _ c l hc0 hl0 hcl upd_same ?_ ?_ ?_
    · rw [upd_ne hcp]
      exact e7 _ _ ((upd_ne hcp).trans h6)
    · rw [upd_ne hlp]; exact h7
    · intro x o hx hne
      have f : ∀ {X Y : Hp} {u : HO}, Ex X Y → X x = some o → (upd Y p u) x = some o := fun e h => (upd_ne hne).trans (e _ _ h)
      exact f e7 (f e6 (f e5 (f e4 (f e3 (f e2 (e1 _ _ hx))))))
end

end Own
namespace Own
open PySem L2 PyProof.Rows Evl OwnS
/-- a condition of arithmetic -/
local macro_rules | `(tactic| walk_at "side") => `(tactic| first
  | assumption
  | (show _ ∧ _; omega)
  | (apply pos9 <;> omega)
  | (show (0 : Int) < _; omega)
  | (show _ ∨ _; omega)
  | decide
  | omega)
local macro_rules | `(tactic| walk_at "fn") => `(tactic| fail "no fn")
local macro_rules | `(tactic| walk_at "ev") => `(tactic| first
  | ((with_reducible apply ev_var) ; exact rfl)
  | with_reducible exact ev_c
  | ((with_reducible apply ev_op) <;> walk_at "ev")
  | with_reducible exact rv_I0
  | ((with_reducible apply rv_I) ; walk_at "side")
  | ((with_reducible apply rv_eq) ; rfl)
  | ((with_reducible apply rv_ne) ; rfl)
  | ((with_reducible apply ev_isInt) ; walk_at "ev")
  | ((with_reducible apply ev_isBoolI) ; walk_at "ev")
  | ((with_reducible apply ev_isIntB) ; walk_at "ev")
  | ((with_reducible apply ev_isBoolB) ; walk_at "ev")
  | ((with_reducible apply ev_notV) ; walk_at "ev")
  | ((with_reducible apply et_test) ; walk_at "ev")
  | ((with_reducible apply et_B) ; walk_at "ev")
  | ((with_reducible apply et_not) ; walk_at "ev")
  | with_reducible exact ea_nil
  | ((with_reducible apply ea_cons) <;> walk_at "ev")
  | ((with_reducible apply ev_call0) <;> walk_at "ev")
  | ((with_reducible show SpV _ _ _ _); walk_at "fn"))

/-! ### the law's names and rules -/
section
variable {K : PySem.W.Frag} {σ : L2.St} {H H' : Hp} {ta tb te tx tv : TE} {D : Ends} {tz : TS}
theorem rv_addS {a b : Str} (h : a.length + b.length ≤ 100000) : RV (fun x y H Q => ∃ i j, x = .str i ∧ y = .str j ∧ i.length + j.length ≤ sizeLine ∧ Q (.str (i ++ j)) H) (.str a) (.str b) H (.str (a ++ b)) := fun H1 _ _ q => ⟨a, b, rfl, rfl, sz_of h, q H1 (Ex.refl H1)⟩
theorem ev_slS {tl th : TO} {z : Str} {lo hi : Option Int} (h : Ev te σ H (.str z)) (h1 : EvO tl σ H lo) (h2 : EvO th σ H hi) (hs : z.length ≤ 100000) : Ev (tSl rSlS te tl th) σ H (.str (cutS z lo hi)) := fun H1 e Q q =>
  h H1 e _ fun H2 e2 => h1 H2 (e.trans e2) _ fun H3 e3 => h2 H3 ((e.trans e2).trans e3) _ fun H4 e4 => ⟨z, rfl, sz_of hs, q H4 ((e2.trans e3).trans e4)⟩
theorem atN {α : Type} {xs : List α} {z : Int} {j : Nat} {v : α} (e : z = (j : Int)) (h : xs[j]? = some v) : atI xs z = some v := by
  rw [e]
  exact atI_nat h
theorem ev_join {ws : List Str} {a : Str} (h : Ev ta σ H (.str a)) (hl : EvL te σ H (ws.map V.str)) (hz : (ws.map (·.length)).sum + ws.length * a.length ≤ 16777216) :
    Ev (tM1 (fun x xs H Q => ∃ a p, ∃ ys : List Str, x = .str a ∧ xs = [.ref p] ∧ (SqL K H p (ys.map V.str) ∨ SqT K H p (ys.map V.str)) ∧ (ys.map (·.length)).sum + ys.length * a.length ≤ 16777216 ∧ Q (.str (Txt.join a ys)) H) ta te) σ H (.str (Txt.join a ws)) := fun H1 e Q q =>
  h H1 e _ fun H2 e2 => ⟨⟨a, rfl⟩, hl H2 (e.trans e2) _ fun p H3 hp e3 h3 => ⟨a, p, ws, rfl, rfl, .inl (sq_of h3), hz, q H3 (e2.trans e3)⟩⟩
end
section
variable {P : Program} {w : World} {K : PySem.W.Frag} {mg : Str → Option Value} {base : Heap}
def spSign : Sp := fun vs H Q _ => ∃ n : Int, vs = [.int n] ∧ RetV (.str (mkS [sg n])) H Q
theorem sv_sign {H : Hp} {n : Int} : SpV spSign [.int n] H (.str (mkS [sg n])) := spv_of fun H1 Q E e q => ⟨_, rfl, q⟩
theorem ok_l_sign (T : Tx K mg) : FnOk P w K mg base CX0 1 T.f_l_sign T.fd_l_sign P_l_sign spSign := by
  refine T.F_l_sign.ok sc_l_sign (fun vs H Q E h => ?_) (fun cdv A outer s H vs Q E hr h => ?_)
  · obtain ⟨a, rfl, _⟩ := h
    rfl
  · obtain ⟨n, rfl, k⟩ := h
    refine ⟨_, (pss_cons (ps_set (i := 1) sc_l_sign.nd rfl (Or.inl rfl) pe_str)
      (pss_cons (ps_set (i := 1) sc_l_sign.nd rfl (Or.inl rfl) (pe_op op_add_str (pv 1) pe_str))
      (pss_one (ps_ret (pe_ix ix_str (pv 1) (pe_op op_mod (pv 0) pe_int) (fun _ _ => rfl)))))), ?_⟩
    rw [show L2.start N_l_sign [V.int n] = [some (V.int n), none] from rfl]
    refine q_asg (v := .str someA) ev_c fun H1 e1 => ?_
    dsimp only [List.set]
    refine q_asg (v := .str (someA ++ someB)) (ev_op (ev_var rfl) ev_c (rv_addS (b := someB) (by decide +kernel))) fun H2 e2 => ?_
    dsimp only [List.set]
    refine s_ret (v := .str (mkS [sg n])) (ev_op (ev_var rfl) (ev_op (ev_var rfl) ev_c (rv_I (by decide))) (rv_ixS (by rw [someS_len]; decide) (atN (j := (n % 94).toNat) ?_ ?_))) fun H3 e3 => k H3 ((e1.trans e2).trans e3)
    · have := Int.emod_nonneg n (show (94 : Int) ≠ 0 by decide)
      omega
    · rw [someS_list]
      exact sg_at n
def spNamesL : Sp := fun vs H Q _ => ∃ c m : Int, vs = [.int c, .int m] ∧ 1 ≤ m ∧ m ≤ 30 ∧ ∀ ns, Names ns m.toNat → RetL (ns.map V.str) H Q
theorem sum_ones (f : Nat → Nat) : ∀ l : List Nat, (l.map fun j => (mkS [f j]).length).sum = l.length
  | [] => rfl
  | a :: l => by
    rw [List.map_cons, List.sum_cons, sum_ones f l, mkS_len]
    show 1 + l.length = l.length + 1
    omega
theorem ok_l_names (T : Tx K mg) : FnOk P w K mg base CX0 2 T.f_l_names T.fd_l_names P_l_names spNamesL := by
  refine T.F_l_names.ok sc_l_names (fun vs H Q E h => ?_) (fun cdv A outer s H vs Q E hr h => ?_)
  · obtain ⟨a, b, rfl, _⟩ := h
    rfl
  · obtain ⟨c, m, rfl, hm1, hm2, k⟩ := h
    refine ⟨_, (pss_cons (ps_set (i := 0) sc_l_names.nd rfl (Or.inr rfl) (pe_op op_mod (pv 0) pe_int))
      (pss_cons (ps_set (i := 2) sc_l_names.nd rfl (Or.inl rfl) (pe_op op_add pe_int (pe_op op_mod (pe_op op_fdivW (pv 0) pe_int) pe_int)))
      (pss_cons (ps_if (pt_cmpR op_eq (pe_op op_mod (pe_op op_fdivW (pv 0) pe_int) pe_int) pe_int (nomark _)) (pss_one (ps_set (i := 2) sc_l_names.nd rfl (Or.inl rfl) (pe_op op_add pe_int (pe_op op_mod (pe_op op_fdivW (pv 0) pe_int) pe_int)))) pss_nil)
      (pss_cons (ps_if (pt_cmpR op_eq (pe_op op_mod (pv 0) pe_int) pe_int (nomark _)) (pss_cons (ps_set (i := 4) sc_l_names.nd rfl (Or.inr rfl) (pe_join pe_str (pe_lc (own := [("_law_j", 3)]) (g := (gName 3)) (by rfl) sc_l_names.nd (pi_range1 rfl T.n_range (pa_cons pe_int pa_nil)) (blkOk_by (own := [("_law_j", 3)]) (N := N_l_names) (sc := defScope s_l_names) (by decide +kernel)) (fun _ _ _ _ _ => (pg_name (i := 3) sc_l_names.nd rfl (Or.inl rfl))) (fun _ _ _ _ _ => pts_nil) (fun _ _ _ _ _ => (pe_call (ok_l_sign T) (hr.mono (by decide)) rfl T.mg_l_sign T.F_l_sign.kp T.b_l_sign .nil pass0 (pa_cons (pe_op op_add (pe_op op_mul (pv 0) (pe_op op_add (pv 3) pe_int)) (pe_op op_mul (pe_op op_mul pe_int (pv 3)) (pv 3))) pa_nil))))))
      (pss_one (ps_ret (pe_lc (own := [("_law_k", 5)]) (g := (gName 5)) (by rfl) sc_l_names.nd (pi_range1 rfl T.n_range (pa_cons (pv 1) pa_nil)) (blkOk_by (own := [("_law_k", 5)]) (N := N_l_names) (sc := defScope s_l_names) (by decide +kernel)) (fun _ _ _ _ _ => (pg_name (i := 5) sc_l_names.nd rfl (Or.inl rfl))) (fun _ _ _ _ _ => pts_nil) (fun _ _ _ _ _ => (pe_slice sl_str (pv 4) po_none (po_some (pe_op op_add pe_int (pv 5))))))))) pss_nil)
      (pss_cons (ps_set (i := 6) sc_l_names.nd rfl (Or.inr rfl) (pe_op op_mod (pe_op op_fdivW (pv 0) pe_int) (pv 2)))
      (pss_cons (ps_set (i := 7) sc_l_names.nd rfl (Or.inr rfl) (pe_op op_add pe_int (pe_op op_mul pe_int (pe_op op_mod (pe_op op_fdivW (pv 0) pe_int) pe_int))))
      (pss_cons (ps_set (i := 4) sc_l_names.nd rfl (Or.inr rfl) (pe_join pe_str (pe_lc (own := [("_law_j", 3)]) (g := (gName 3)) (by rfl) sc_l_names.nd (pi_range1 rfl T.n_range (pa_cons (pv 2) pa_nil)) (blkOk_by (own := [("_law_j", 3)]) (N := N_l_names) (sc := defScope s_l_names) (by decide +kernel)) (fun _ _ _ _ _ => (pg_name (i := 3) sc_l_names.nd rfl (Or.inl rfl))) (fun _ _ _ _ _ => pts_nil) (fun _ _ _ _ _ => (pe_call (ok_l_sign T) (hr.mono (by decide)) rfl T.mg_l_sign T.F_l_sign.kp T.b_l_sign .nil pass0 (pa_cons (pe_op op_add (pe_op op_mul (pv 0) (pe_op op_add (pe_op op_fdivW (pv 3) pe_int) pe_int)) (pe_op op_mul pe_int (pv 3))) pa_nil))))))
      (pss_one (ps_ret (pe_lc (own := [("_law_k", 5)]) (g := (gName 5)) (by rfl) sc_l_names.nd (pi_range1 rfl T.n_range (pa_cons (pv 1) pa_nil)) (blkOk_by (own := [("_law_k", 5)]) (N := N_l_names) (sc := defScope s_l_names) (by decide +kernel)) (fun _ _ _ _ _ => (pg_name (i := 5) sc_l_names.nd rfl (Or.inl rfl))) (fun _ _ _ _ _ => pts_nil) (fun _ _ _ _ _ => (pe_op op_add_str (pe_op op_add_str (pe_slice sl_str (pv 4) po_none (po_some (pv 6))) (pe_call (ok_l_sign T) (hr.mono (by decide)) rfl T.mg_l_sign T.F_l_sign.kp T.b_l_sign .nil pass0 (pa_cons (pe_op op_add (pv 0) (pe_op op_mul (pv 7) (pv 5))) pa_nil))) (pe_slice sl_str (pv 4) (po_some (pe_op op_add (pv 6) pe_int)) po_none))))))))))))), ?_⟩
    rw [show L2.start N_l_names [V.int c, V.int m] = [some (V.int c), some (V.int m), none, none, none, none, none, none] from rfl]
    refine q_asgZ (n := c % 1000003) (by walk_at "ev") fun H1 e1 c1 hc1 => ?_
    dsimp only [List.set]
    have c10 : 0 ≤ c1 := by rw [hc1]; exact Int.emod_nonneg _ (by decide)
    have c11 : c1 < 1000003 := by rw [hc1]; exact Int.emod_lt_of_pos _ (by decide)
    refine q_asgZ (n := 1 + c1 / 12 % 6) (by walk_at "ev") fun H2 e2 z0 hz0 => ?_
    dsimp only [List.set]
    refine q_ifZ (b := decide (V.int (c1 / 3 % 4) = V.int 1)) (n := z0) (m := 1 + c1 / 12 % 40) rfl (by walk_at "ev") (by walk_at "ev") fun H3 e3 z h1 h2 => ?_
    dsimp only [List.set]
    have hz : 1 ≤ z ∧ z ≤ 40 := by
      cases hb : decide (V.int (c1 / 3 % 4) = V.int 1) with
      | true => have := h1 hb; omega
      | false => have := h2 hb; omega
    clear h1 h2 hz0 z0 hc1
    have E3 := (e1.trans e2).trans e3
    have mm : ∀ {i j : Int}, 0 ≤ i → i < 2 ^ 64 → CMul i j := fun a b => .inl ⟨by omega, b⟩
    refine q_when (b := decide (V.int (c1 % 3) = V.int 0)) (by walk_at "ev") (fun hb H4 e4 => ?_) (fun hb H4 e4 => ?_)
    · obtain ⟨f, hf⟩ : ∃ f : Nat → Nat, ∀ j : Nat, sg (c1 * ((j : Int) + 3) + 7 * (j : Int) * (j : Int)) = f j := ⟨fun j => _, fun _ => rfl⟩
      obtain ⟨b, hb⟩ : ∃ b : List Nat, b = (List.range 40).map f := ⟨_, rfl⟩
      have hb0 : b.length = 40 := by rw [hb, List.length_map, List.length_range]
      have hbg : ∀ x ∈ b, 32 ≤ x ∧ x ≤ 126 := fun x hx => by
        rw [hb] at hx
        obtain ⟨j, _, rfl⟩ := List.mem_map.mp hx
        rw [← hf]
        exact sg_good _
      have hjoin : Txt.join (Str.ofString "") ((List.range 40).map fun j => mkS [f j]) = mkS b := by
        rw [hb, ← join_ones, List.map_map]
        rfl
      have hsum : (((List.range 40).map fun j => mkS [f j]).map (·.length)).sum + ((List.range 40).map fun j => mkS [f j]).length * (Str.ofString "").length ≤ 16777216 := by
        rw [List.map_map, List.length_map, List.length_range]
        have := sum_ones f (List.range 40)
        rw [List.length_range] at this
        rw [show (List.range 40).map ((fun x : Str => x.length) ∘ fun j => mkS [f j]) = (List.range 40).map fun j => (mkS [f j]).length from rfl, this]
        have : (Str.ofString "").length = 0 := by decide +kernel
        rw [this]
        decide
      refine q_asg (v := .str (mkS b)) (ev_is (ev_join (ws := (List.range 40).map fun j => mkS [f j]) ev_c ?_ hsum) (congrArg V.str hjoin)) fun H5 e5 => ?_
      · rw [List.map_map]
        refine el_lc (fun j => V.str (mkS [f j])) (ei_range (n := 40) (ea_cons ev_c ea_nil) (by decide)) (by decide) ?_
        rintro i H6 x H7 hi e6 ⟨rfl, rfl⟩
        refine ⟨Ex.refl _, _, got_name, rfl, ?_⟩
        have hi' : i < 40 := hi
        rw [← hf]
        exact ev_call0 (vs := [.int (c1 * ((i : Int) + 3) + 7 * (i : Int) * (i : Int))]) (ea_cons (ev_op (ev_op (ev_var rfl) (ev_op (ev_var rfl) ev_c rv_I0) (rv_I (mm c10 (by omega)))) (ev_op (ev_op ev_c (ev_var rfl) (rv_I (mm (by decide) (by decide)))) (ev_var rfl) (rv_I (mm (by omega) (by omega)))) rv_I0) ea_nil) sv_sign
      · dsimp only [List.set]
        have hN : Names (namesA b m.toNat) m.toNat := names_a hb0 (by omega) hbg
        have E5 := (E3.trans e4).trans e5
        refine s_retL (xs := (namesA b m.toNat).map V.str) ?_ fun p H6 hp e6 h6 => k _ hN p H6 (fresh_back E5 hp) (E5.trans e6) h6
        unfold namesA
        rw [List.map_map]
        refine el_lc (fun j => V.str (mkS (b.take (1 + j)))) (ei_range (n := m) (ea_cons (ev_var rfl) ea_nil) (by omega)) (by omega) ?_
        rintro i H6 x H7 hi e6 ⟨rfl, rfl⟩
        refine ⟨Ex.refl _, _, got_name, rfl, ?_⟩
        have hi' : i < m.toNat := hi
        refine ev_is (ev_slS (lo := none) (hi := some ((1 + i : Nat) : Int)) (ev_var rfl) eo_none (eo_some (ev_is (ev_op ev_c (ev_var rfl) rv_I0) (by congr 1))) (by rw [mkS_len]; omega)) ?_
        rw [cut_take _ _ (by rw [hb0]; omega)]
    · have E4 := E3.trans e4
      refine q_asgZ (n := c1 / 17 % z) (ev_op (ev_op (ev_var rfl) ev_c (rv_I (by walk_at "side"))) (ev_var rfl) (rv_I (by omega))) fun H5 e5 at_ hat => ?_
      dsimp only [List.set]
      have at0 : 0 ≤ at_ := by rw [hat]; exact Int.emod_nonneg _ (by omega)
      have at1 : at_ < z := by rw [hat]; exact Int.emod_lt_of_pos _ (by omega)
      clear hat
      refine q_asgZ (n := 1 + 31 * (c1 / 5 % 2)) (ev_op ev_c (ev_op ev_c (ev_op (ev_op (ev_var rfl) ev_c (rv_I (by walk_at "side"))) ev_c (rv_I (by decide))) (rv_I (mm (by decide) (by decide)))) rv_I0) fun H6 e6 st hst => ?_
      dsimp only [List.set]
      have hst' : st = 1 ∨ st = 32 := by omega
      clear hst
      obtain ⟨f, hf⟩ : ∃ f : Nat → Nat, ∀ j : Nat, sg (c1 * ((j : Int) / 2 + 1) + 5 * (j : Int)) = f j := ⟨fun j => _, fun _ => rfl⟩
      obtain ⟨b, hb⟩ : ∃ b : List Nat, b = (List.range z.toNat).map f := ⟨_, rfl⟩
      have hb0 : b.length = z.toNat := by rw [hb, List.length_map, List.length_range]
      have hbg : ∀ x ∈ b, 32 ≤ x ∧ x ≤ 126 := fun x hx => by
        rw [hb] at hx
        obtain ⟨j, _, rfl⟩ := List.mem_map.mp hx
        rw [← hf]
        exact sg_good _
      have hjoin : Txt.join (Str.ofString "") ((List.range z.toNat).map fun j => mkS [f j]) = mkS b := by
        rw [hb, ← join_ones, List.map_map]
        rfl
      have hsum : (((List.range z.toNat).map fun j => mkS [f j]).map (·.length)).sum + ((List.range z.toNat).map fun j => mkS [f j]).length * (Str.ofString "").length ≤ 16777216 := by
        rw [List.map_map, List.length_map, List.length_range]
        have := sum_ones f (List.range z.toNat)
        rw [List.length_range] at this
        rw [show (List.range z.toNat).map ((fun x : Str => x.length) ∘ fun j => mkS [f j]) = (List.range z.toNat).map fun j => (mkS [f j]).length from rfl, this]
        have : (Str.ofString "").length = 0 := by decide +kernel
        rw [this]
        omega
      refine q_asg (v := .str (mkS b)) (ev_is (ev_join (ws := (List.range z.toNat).map fun j => mkS [f j]) ev_c ?_ hsum) (congrArg V.str hjoin)) fun H7 e7 => ?_
      · rw [List.map_map]
        refine el_lc (fun j => V.str (mkS [f j])) (ei_range (n := z) (ea_cons (ev_var rfl) ea_nil) (by omega)) (by omega) ?_
        rintro i H8 x H9 hi e8 ⟨rfl, rfl⟩
        refine ⟨Ex.refl _, _, got_name, rfl, ?_⟩
        have hi' : i < z.toNat := hi
        rw [← hf]
        exact ev_call0 (vs := [.int (c1 * ((i : Int) / 2 + 1) + 5 * (i : Int))]) (ea_cons (ev_op (ev_op (ev_var rfl) (ev_op (ev_op (ev_var rfl) ev_c (rv_I (by walk_at "side"))) ev_c rv_I0) (rv_I (mm c10 (by omega)))) (ev_op ev_c (ev_var rfl) (rv_I (mm (by decide) (by decide)))) rv_I0) ea_nil) sv_sign
      · dsimp only [List.set]
        have E7 := ((E4.trans e5).trans e6).trans e7
        have hN : Names (namesB b at_.toNat (fun k => sg (c1 + st * (k : Int))) m.toNat) m.toNat := names_b (by rw [hb0]; omega) (by rw [hb0]; omega) hbg (fun k => sg_good _) fun i j hi hj h => by
            have := sg_inj h
            rcases hst' with rfl | rfl <;> omega
        refine s_retL (xs := (namesB b at_.toNat (fun k => sg (c1 + st * (k : Int))) m.toNat).map V.str) ?_ fun p H8 hp e8 h8 => k _ hN p H8 (fresh_back E7 hp) (E7.trans e8) h8
        unfold namesB
        rw [List.map_map]
        refine el_lc (fun j => V.str (mkS (b.take at_.toNat ++ [sg (c1 + st * (j : Int))] ++ b.drop (at_.toNat + 1)))) (ei_range (n := m) (ea_cons (ev_var rfl) ea_nil) (by omega)) (by omega) ?_
        rintro i H8 x H9 hi e8 ⟨rfl, rfl⟩
        refine ⟨Ex.refl _, _, got_name, rfl, ?_⟩
        have hi' : i < m.toNat := hi
        have sl1 : cutS (mkS b) none (some at_) = mkS (b.take at_.toNat) := by
          have := cut_take b at_.toNat (by rw [hb0]; omega)
          rwa [show ((at_.toNat : Nat) : Int) = at_ by omega] at this
        have sl2 : cutS (mkS b) (some (at_ + 1)) none = mkS (b.drop (at_.toNat + 1)) := by
          have := cut_drop b (at_.toNat + 1) (by rw [hb0]; omega)
          rwa [show ((at_.toNat + 1 : Nat) : Int) = at_ + 1 by omega] at this
        have lb : (mkS b).length ≤ 100000 := by rw [mkS_len, hb0]; omega
        refine ev_is (ev_op (ev_op (ev_is (ev_slS (lo := none) (hi := some at_) (ev_var rfl) eo_none (eo_some (ev_var rfl)) lb) (congrArg V.str sl1)) (ev_call0 (vs := [.int (c1 + st * (i : Int))]) (ea_cons (ev_op (ev_var rfl) (ev_op (ev_var rfl) (ev_var rfl) (rv_I (mm (by omega) (by omega)))) rv_I0) ea_nil) sv_sign) (rv_addS ?_)) (ev_is (ev_slS (lo := some (at_ + 1)) (hi := none) (ev_var rfl) (eo_some (ev_op (ev_var rfl) ev_c rv_I0)) eo_none lb) (congrArg V.str sl2)) (rv_addS ?_)) ?_
        · rw [mkS_len, mkS_len, List.length_take, hb0, List.length_singleton]; omega
        · rw [mkS_app, mkS_len, mkS_len, List.length_append, List.length_take, List.length_drop, hb0, List.length_singleton]; omega
        · rw [mkS_app, mkS_app]
end

end Own
namespace Own
open PySem L2 PyProof.Rows Evl OwnS
/-- a condition of arithmetic -/
local macro_rules | `(tactic| walk_at "side") => `(tactic| first
  | assumption
  | (show _ ∧ _; omega)
  | (apply pos9 <;> omega)
  | (show (0 : Int) < _; omega)
  | (show _ ∨ _; omega)
  | decide
  | omega)
local macro_rules | `(tactic| walk_at "fn") => `(tactic| fail "no fn")
local macro_rules | `(tactic| walk_at "ev") => `(tactic| first
  | ((with_reducible apply ev_var) ; exact rfl)
  | with_reducible exact ev_c
  | ((with_reducible apply ev_op) <;> walk_at "ev")
  | with_reducible exact rv_I0
  | ((with_reducible apply rv_I) ; walk_at "side")
  | ((with_reducible apply rv_eq) ; rfl)
  | ((with_reducible apply rv_ne) ; rfl)
  | ((with_reducible apply ev_isInt) ; walk_at "ev")
  | ((with_reducible apply ev_isBoolI) ; walk_at "ev")
  | ((with_reducible apply ev_isIntB) ; walk_at "ev")
  | ((with_reducible apply ev_isBoolB) ; walk_at "ev")
  | ((with_reducible apply ev_notV) ; walk_at "ev")
  | ((with_reducible apply et_test) ; walk_at "ev")
  | ((with_reducible apply et_B) ; walk_at "ev")
  | ((with_reducible apply et_not) ; walk_at "ev")
  | with_reducible exact ea_nil
  | ((with_reducible apply ea_cons) <;> walk_at "ev")
  | ((with_reducible apply ev_call0) <;> walk_at "ev")
  | ((with_reducible show SpV _ _ _ _); walk_at "fn"))

/-! ### rules that are good; names as data -/
theorem range_getD {α : Type} (l : List α) (d : α) : (List.range l.length).map (fun i => l.getD i d) = l := by
  apply List.ext_getElem?
  intro i
  rw [List.getElem?_map]
  by_cases h : i < l.length
  · rw [List.getElem?_range h, Option.map_some, List.getD_eq_getElem?_getD, List.getElem?_eq_getElem h]
    rfl
  · rw [List.getElem?_eq_none (by rw [List.length_range]; omega), List.getElem?_eq_none (by omega)]
    rfl
theorem strOk_good {n : Str} (h : GoodName n) : PyData.strOk n = true := by
  unfold PyData.strOk
  rw [Array.all_eq_true']
  intro c hc
  have := h.2.2 c (Array.mem_toList_iff.mpr hc)
  exact decide_eq_true (by omega)
theorem flat_names {ns : List Str} (h : ∀ n ∈ ns, GoodName n) : ∀ x ∈ ns.map V.str, FlatV x := by
  intro x hx
  obtain ⟨n, hn, rfl⟩ := List.mem_map.mp hx
  exact .str n (strOk_good (h n hn))
structure Rule (span part : Int) : Prop where
  s1 : 1 ≤ span
  s2 : span ≤ 100000000000000000000
  p1 : 2 ≤ part
  p2 : part ≤ 1000000000000000000000000000000
theorem Rule.wfS {span part places : Int} (r : Rule span part) (h : 1 ≤ places) : WF .shelf (th0 span part places) := wf0 (by have := r.s1; omega) (by have := r.s2; omega) r.p1 (by have := r.p2; omega) (fun _ => h)
theorem Rule.wfR {span part places : Int} (r : Rule span part) : WF .row (th0 span part places) := wf0 (by have := r.s1; omega) (by have := r.s2; omega) r.p1 (by have := r.p2; omega) (fun h => nomatch h)

/-! ### numbers drawn; deeds -/
theorem q20 : (10 : Int) ^ (20 : Int).toNat = 100000000000000000000 := by decide
theorem q30 : (10 : Int) ^ (30 : Int).toNat = 1000000000000000000000000000000 := by decide
theorem ev_q20 {H : Hp} {σ : L2.St} : Ev (tOp (rI CPow fun i j => .int (i ^ j.toNat)) (tC (.int 10)) (tC (.int 20))) σ H (.int 100000000000000000000) := ev_is (ev_op ev_c ev_c (rv_I (by unfold CPow; decide))) (by rw [q20])
theorem ev_q30 {H : Hp} {σ : L2.St} : Ev (tOp (rI CPow fun i j => .int (i ^ j.toNat)) (tC (.int 10)) (tC (.int 30))) σ H (.int 1000000000000000000000000000000) := ev_is (ev_op ev_c ev_c (rv_I (by unfold CPow; decide))) (by rw [q30])
local macro_rules | `(tactic| walk_at "ev") => `(tactic| first | with_reducible exact ev_q20 | with_reducible exact ev_q30)
theorem mul_s {i j : Int} (h : -(2 ^ 64) < j) (h2 : j < 2 ^ 64) : CMul i j := .inr ⟨h, h2⟩
theorem mul_l {i j : Int} (h : -(2 ^ 64) < i) (h2 : i < 2 ^ 64) : CMul i j := .inl ⟨h, h2⟩
local macro_rules | `(tactic| walk_at "side") => `(tactic| first | (apply mul_l <;> omega) | (apply mul_s <;> omega))
section
variable {P : Program} {w : World} {K : PySem.W.Frag} {mg : Str → Option Value} {base : Heap}
/-- a number of a range -/
def spIn (lo hi : Int) : Sp := fun vs H Q _ => ∃ c : Int, vs = [.int c] ∧ ∀ r, lo ≤ r → r ≤ hi → RetV (.int r) H Q
theorem sp_in {lo hi c : Int} {H : Hp} : SpP (spIn lo hi) [.int c] H (fun v _ => ∃ r, v = .int r ∧ lo ≤ r ∧ r ≤ hi) := fun H1 e Q q E => ⟨c, rfl, fun r h1 h2 H2 e2 => q _ H2 e2 ⟨r, rfl, h1, h2⟩⟩

theorem ok_l_many (T : Tx K mg) : FnOk P w K mg base CX0 1 T.f_l_many T.fd_l_many P_l_many (spIn 1 30) := by
  refine T.F_l_many.ok sc_l_many (fun vs H Q E h => ?_) (fun cdv A outer s H vs Q E hr h => ?_)
  · obtain ⟨a, rfl, _⟩ := h
    rfl
  · obtain ⟨c, rfl, k⟩ := h
    refine ⟨_, (pss_cons (ps_if (pt_cmpR op_eq (pe_op op_mod (pv 0) pe_int) pe_int (nomark _)) (pss_one (ps_ret (pe_op op_add pe_int (pe_op op_mod (pe_op op_fdivW (pv 0) pe_int) pe_int)))) pss_nil)
      (pss_one (ps_ret (pe_op op_add pe_int (pe_op op_mod (pe_op op_fdivW (pv 0) pe_int) pe_int))))), ?_⟩
    refine q_when (b := decide (V.int (c % 4) = V.int 3)) (by walk_at "ev") (fun hb H1 e1 => ?_) (fun hb H1 e1 => ?_)
    · exact s_ret (v := .int (1 + c / 4 % 30)) (by walk_at "ev") (fun H2 e2 => k _ (by omega) (by omega) H2 (e1.trans e2))
    · exact s_ret (v := .int (1 + c / 4 % 8)) (by walk_at "ev") (fun H2 e2 => k _ (by omega) (by omega) H2 (e1.trans e2))

theorem ok_l_places (T : Tx K mg) : FnOk P w K mg base CX0 1 T.f_l_places T.fd_l_places P_l_places (spIn 1 1000) := by
  refine T.F_l_places.ok sc_l_places (fun vs H Q E h => ?_) (fun cdv A outer s H vs Q E hr h => ?_)
  · obtain ⟨a, rfl, _⟩ := h
    rfl
  · obtain ⟨c, rfl, k⟩ := h
    refine ⟨_, (pss_cons (ps_if (pt_cmpR op_eq (pe_op op_mod (pv 0) pe_int) pe_int (nomark _)) (pss_one (ps_ret (pe_op op_add pe_int (pe_op op_mod (pe_op op_fdivW (pv 0) pe_int) pe_int)))) pss_nil)
      (pss_one (ps_ret (pe_op op_add pe_int (pe_op op_mod (pe_op op_fdivW (pv 0) pe_int) pe_int))))), ?_⟩
    refine q_when (b := decide (V.int (c % 4) = V.int 3)) (by walk_at "ev") (fun hb H1 e1 => ?_) (fun hb H1 e1 => ?_)
    · exact s_ret (v := .int (1 + c / 4 % 40)) (by walk_at "ev") (fun H2 e2 => k _ (by omega) (by omega) H2 (e1.trans e2))
    · exact s_ret (v := .int (1 + c / 4 % 6)) (by walk_at "ev") (fun H2 e2 => k _ (by omega) (by omega) H2 (e1.trans e2))

theorem ok_l_span (T : Tx K mg) : FnOk P w K mg base CX0 1 T.f_l_span T.fd_l_span P_l_span (spIn 1 100000000000000000000) := by
  refine T.F_l_span.ok sc_l_span (fun vs H Q E h => ?_) (fun cdv A outer s H vs Q E hr h => ?_)
  · obtain ⟨a, rfl, _⟩ := h
    rfl
  · obtain ⟨c, rfl, k⟩ := h
    refine ⟨_, (pss_cons (ps_if (pt_cmpR op_eq (pe_op op_mod (pv 0) pe_int) pe_int (nomark _)) (pss_one (ps_ret (pe_op op_add pe_int (pe_op op_mod (pe_op op_fdivW (pv 0) pe_int) (pe_op op_pow pe_int pe_int))))) pss_nil)
      (pss_one (ps_ret (pe_op op_add pe_int (pe_op op_mod (pe_op op_fdivW (pv 0) pe_int) pe_int))))), ?_⟩
    refine q_when (b := decide (V.int (c % 4) = V.int 3)) (by walk_at "ev") (fun hb H1 e1 => ?_) (fun hb H1 e1 => ?_)
    · exact s_ret (v := .int (1 + c / 4 % 100000000000000000000)) (by walk_at "ev") (fun H2 e2 => k _ (by omega) (by omega) H2 (e1.trans e2))
    · exact s_ret (v := .int (1 + c / 4 % 12)) (by walk_at "ev") (fun H2 e2 => k _ (by omega) (by omega) H2 (e1.trans e2))
theorem ok_l_part (T : Tx K mg) : FnOk P w K mg base CX0 1 T.f_l_part T.fd_l_part P_l_part (spIn 2 1000000000000000000000000000000) := by
  refine T.F_l_part.ok sc_l_part (fun vs H Q E h => ?_) (fun cdv A outer s H vs Q E hr h => ?_)
  · obtain ⟨a, rfl, _⟩ := h
    rfl
  · obtain ⟨c, rfl, k⟩ := h
    refine ⟨_, (pss_cons (ps_if (pt_cmpR op_eq (pe_op op_mod (pv 0) pe_int) pe_int (nomark _)) (pss_one (ps_ret (pe_op op_add pe_int (pe_op op_mod (pe_op op_fdivW (pv 0) pe_int) (pe_op op_sub (pe_op op_pow pe_int pe_int) pe_int))))) pss_nil)
      (pss_one (ps_ret (pe_op op_add pe_int (pe_op op_mod (pe_op op_fdivW (pv 0) pe_int) pe_int))))), ?_⟩
    refine q_when (b := decide (V.int (c % 5) = V.int 4)) (by walk_at "ev") (fun hb H1 e1 => ?_) (fun hb H1 e1 => ?_)
    · exact s_ret (v := .int (2 + c / 5 % (1000000000000000000000000000000 - 1))) (by walk_at "ev") (fun H2 e2 => k _ (by omega) (by omega) H2 (e1.trans e2))
    · exact s_ret (v := .int (2 + c / 5 % 3)) (by walk_at "ev") (fun H2 e2 => k _ (by omega) (by omega) H2 (e1.trans e2))
def RetU (xs : List V) (H : Hp) (Q : VK) : Prop := ∀ p H2, H p = none → Ex H H2 → H2 p = some (.tup xs) → Q (.ref p) H2
theorem RetU.go {xs : List V} {H : Hp} {Q : VK} (k : RetU xs H Q) {H1 : Hp} (e : Ex H H1) : RetU xs H1 Q := fun p H2 hp e2 h2 => k p H2 (fresh_back e hp) (e.trans e2) h2
theorem ev_ixN {σ : L2.St} {H : Hp} {ta tb : TE} {xs : List V} {i : Int} {v : V} (h : EvL ta σ H xs) (hb : Ev tb σ H (.int i)) (ha : atI xs i = some v) : Ev (tOp (rIxL K) ta tb) σ H v := fun H1 e Q q =>
  h H1 e _ fun p H2 hp e2 h2 => hb H2 (e.trans e2) _ fun H3 e3 => ⟨p, xs, i, v, rfl, rfl, sq_of (e3 p _ h2), ha, q H3 (e2.trans e3)⟩
def spDeed (K : PySem.W.Frag) : Sp := fun vs H Q _ => ∃ (c : Int) (j : Nat) (a : Addr) (ns : List Str) (span light : Int), vs = [.int c, .int j, .ref a, .int span, .int light] ∧ SqL K H a (ns.map V.str) ∧ 1 ≤ ns.length ∧ ns.length ≤ 30 ∧ j ≤ 1000 ∧ 1 ≤ span ∧ span ≤ 100000000000000000000 ∧ 0 ≤ light ∧ light < 3 ∧
  ∀ d : Deed, d.Good ns → RetU d.V H Q
theorem ok_l_deed (T : Tx K mg) : FnOk P w K mg base CX0 1 T.f_l_deed T.fd_l_deed P_l_deed (spDeed K) := by
  refine T.F_l_deed.ok sc_l_deed (fun vs H Q E h => ?_) (fun cdv A outer s H vs Q E hr h => ?_)
  · obtain ⟨_, _, _, _, _, _, rfl, _⟩ := h
    rfl
  · obtain ⟨c, j, a, ns, span, light, rfl, hN, n1, n2, hj, s1, s2, l1, l2, k⟩ := h
    refine ⟨_, (pss_cons (ps_set (i := 5) sc_l_deed.nd rfl (Or.inl rfl) (pe_op op_mod (pe_op op_add (pe_op op_add (pe_op op_mul (pv 0) pe_int) (pe_op op_mul (pe_op op_mul (pv 1) (pv 1)) pe_int)) pe_int) pe_int))
      (pss_cons (ps_set (i := 6) sc_l_deed.nd rfl (Or.inl rfl) (pe_ix ix_list (pv 2) (pe_op op_mod (pe_op op_fdivW (pv 5) pe_int) (pe_callB call_len_seq (by rfl) T.n_len PySem.boot_len (pa_cons (pv 2) pa_nil))) (fun _ _ => rfl)))
      (pss_cons (ps_if (pt_cmpR op_eq (pe_op op_mod (pv 5) pe_int) pe_int (nomark _)) (pss_one (ps_ret (pe_tup (pa_cons pe_str (pa_cons (pv 6) (pa_cons pe_int pa_nil)))))) pss_nil)
      (pss_cons (ps_if (PW.pt (pw_and (pt_cmpR op_eq (pe_op op_mod (pv 5) pe_int) pe_int (nomark _)) (pw_and1 (pt_cmpR op_eq (pe_op op_mod (pv 0) pe_int) pe_int (nomark _))))) (pss_one (ps_ret (pe_tup (pa_cons pe_str (pa_cons pe_str (pa_cons (pe_op op_mod (pe_op op_fdivW (pv 0) pe_int) (pe_op op_add (pe_op op_pow pe_int pe_int) pe_int)) pa_nil)))))) pss_nil)
      (pss_cons (ps_if (pt_cmpR op_eq (pe_op op_mod (pv 5) pe_int) pe_int (nomark _)) (pss_one (ps_ret (pe_tup (pa_cons pe_str (pa_cons pe_str (pa_cons (pe_op op_mod (pe_op op_fdivW (pv 0) pe_int) (pe_op op_add (pe_op op_mul pe_int (pv 3)) pe_int)) pa_nil)))))) pss_nil)
      (pss_one (ps_ret (pe_tup (pa_cons pe_str (pa_cons (pv 6) (pa_cons (pe_ix ix_list (pe_lst (pa_cons pe_int (pa_cons (pe_op op_add pe_int (pe_op op_mod (pv 0) pe_int)) (pa_cons (pe_op op_add pe_int (pe_op op_mod (pv 0) (pe_op op_pow pe_int pe_int))) pa_nil)))) (pv 4) (fun _ _ => rfl)) pa_nil))))))))))), ?_⟩
    rw [show L2.start N_l_deed [V.int c, V.int j, V.ref a, V.int span, V.int light] = [some (V.int c), some (V.int j), some (V.ref a), some (V.int span), some (V.int light), none, none] from rfl]
    refine q_asgZ (n := (c * 48271 + j * j * 69621 + 3) % 2147483647) (by walk_at "ev") fun H1 e1 m hm => ?_
    dsimp only [List.set]
    have m0 : 0 ≤ m := by rw [hm]; exact Int.emod_nonneg _ (by decide)
    clear hm
    have hi : m / 8 % (ns.length : Int) < ns.length := Int.emod_lt_of_pos _ (by omega)
    have hi0 : 0 ≤ m / 8 % (ns.length : Int) := Int.emod_nonneg _ (by omega)
    obtain ⟨n, hn⟩ : ∃ n, ns[(m / 8 % (ns.length : Int)).toNat]? = some n := ⟨_, List.getElem?_eq_getElem (by omega)⟩
    have hmem : n ∈ ns := List.mem_of_getElem? hn
    have hN1 := ex_l e1 hN
    have hlen : ((ns.map V.str).length : Int) = ns.length := by rw [List.length_map]
    refine q_asg (v := .str n) (ev_op (ev_var rfl) (ev_op (ev_op (ev_var rfl) ev_c (rv_I (by walk_at "side"))) (ev_len (ev_var rfl) hN1) (rv_I (by omega))) (rv_ixL hN1 (atN (j := (m / 8 % (ns.length : Int)).toNat) (by rw [hlen]; omega) (by rw [List.getElem?_map, hn]; rfl)))) fun H2 e2 => ?_
    dsimp only [List.set]
    have E2 := e1.trans e2
    refine q_when (b := decide (V.int (m % 8) = V.int 6)) (by walk_at "ev") (fun hb H3 e3 => ?_) (fun hb H3 e3 => ?_)
    · exact s_retU (xs := (Deed.drop n).V) (eu_tup (ea_cons ev_c (ea_cons (ev_var rfl) (ea_cons ev_c ea_nil))) (by simp [Deed.V])) ((k (.drop n) hmem).go (E2.trans e3))
    have E3 := E2.trans e3
    refine q_when (b := decide (V.int (m % 8) = V.int 7) && decide (V.int (c % 3) = V.int 0)) (et_and (by walk_at "ev") (fun _ => by walk_at "ev")) (fun hb H4 e4 => ?_) (fun hb H4 e4 => ?_)
    · have g0 : 0 ≤ c / 3 % (1000000000000000000000000000000 + 1) := Int.emod_nonneg _ (by decide)
      have g1 : c / 3 % (1000000000000000000000000000000 + 1) < 1000000000000000000000000000000 + 1 := Int.emod_lt_of_pos _ (by decide)
      exact s_retU (xs := (Deed.rest (c / 3 % (1000000000000000000000000000000 + 1))).V) (eu_tup (ea_cons ev_c (ea_cons ev_c (ea_cons (by walk_at "ev") ea_nil))) (by simp [Deed.V])) ((k (.rest _) ⟨g0, by omega⟩).go (E3.trans e4))
    have E4 := E3.trans e4
    refine q_when (b := decide (V.int (m % 8) = V.int 7)) (by walk_at "ev") (fun hb H5 e5 => ?_) (fun hb H5 e5 => ?_)
    · have g0 : 0 ≤ c / 3 % (2 * span + 2) := Int.emod_nonneg _ (by omega)
      have g1 : c / 3 % (2 * span + 2) < 2 * span + 2 := Int.emod_lt_of_pos _ (by omega)
      exact s_retU (xs := (Deed.rest (c / 3 % (2 * span + 2))).V) (eu_tup (ea_cons ev_c (ea_cons ev_c (ea_cons (by walk_at "ev") ea_nil))) (by simp [Deed.V])) ((k (.rest _) ⟨g0, by omega⟩).go (E4.trans e5))
    have E5 := E4.trans e5
    obtain ⟨x, hx, x1, x2⟩ : ∃ x, atI [V.int 1, V.int (1 + c % 4), V.int (1 + c % 1000000000000000000000000000000)] light = some (V.int x) ∧ 1 ≤ x ∧ x ≤ 1000000000000000000000000000000 := by
      have : light = 0 ∨ light = 1 ∨ light = 2 := by omega
      rcases this with rfl | rfl | rfl
      · exact ⟨1, rfl, by decide, by decide⟩
      · exact ⟨1 + c % 4, rfl, by omega, by omega⟩
      · exact ⟨1 + c % 1000000000000000000000000000000, rfl, by omega, by omega⟩
    exact s_retU (xs := (Deed.ask n x).V) (eu_tup (ea_cons ev_c (ea_cons (ev_var rfl) (ea_cons (ev_ixN (el_lst (ea_cons ev_c (ea_cons (by walk_at "ev") (ea_cons (by walk_at "ev") ea_nil))) (by simp)) (ev_var rfl) hx) ea_nil))) (by simp [Deed.V])) ((k (.ask n x) ⟨hmem, x1, x2⟩).go E5)

section
variable {k : Kd}
theorem nm_rest {ad : Ad} {s : Th} : (flds k ad s).lookup ("rest" : Str) = none := by cases k <;> kernel_rfl
theorem nm_drop {ad : Ad} {s : Th} : (flds k ad s).lookup ("drop" : Str) = none := by cases k <;> kernel_rfl
theorem nm_ask {ad : Ad} {s : Th} : (flds k ad s).lookup ("ask" : Str) = none := by cases k <;> kernel_rfl
theorem nm_names {ad : Ad} {s : Th} : (flds k ad s).lookup ("names" : Str) = none := by cases k <;> kernel_rfl
theorem nm_time_now {ad : Ad} {s : Th} : (flds k ad s).lookup ("time_now" : Str) = none := by cases k <;> kernel_rfl
theorem nm_deeds_done {ad : Ad} {s : Th} : (flds k ad s).lookup ("deeds_done" : Str) = none := by cases k <;> kernel_rfl
theorem nm_count_of {ad : Ad} {s : Th} : (flds k ad s).lookup ("count_of" : Str) = none := by cases k <;> kernel_rfl
theorem nm_last_of {ad : Ad} {s : Th} : (flds k ad s).lookup ("last_of" : Str) = none := by cases k <;> kernel_rfl
end

/-- a deed done to a thing of a kind -/
def spDo (k : Kd) (C : Addr) (K : PySem.W.Frag) : Sp := fun vs H Q _ => ∃ (ad : Ad) (s : Th) (d : Deed) (a : Addr) (ns : List Str), vs = [.ref ad.p, .ref a] ∧ At k C ad H s ∧ WF k s ∧ s.deed < 1000 ∧ SqT K H a d.V ∧ d.Good ns ∧ (∀ n ∈ ns, GoodName n) ∧
  ∀ H', At k C ad H' (k.act s d).2 → Kp k ad H H' → Q (k.act s d).1 H'
theorem ok_l_do {k : Kd} {C : Addr} (T : Tx K mg) (U : Vt P w base T k C) : FnOk P w K mg base CX0 10 T.f_l_do T.fd_l_do P_l_do (spDo k C K) := by
  refine T.F_l_do.ok sc_l_do (fun vs H Q E h => ?_) (fun cdv A outer s H vs Q E hr h => ?_)
  · obtain ⟨_, _, _, _, _, rfl, _⟩ := h
    rfl
  · obtain ⟨ad, s, d, a, ns, rfl, A, W, hd, hD, hg, hn, kk⟩ := h
    have G_rest := ok_Book_rest T U
    have b_rest := T.b_Book_rest
    have G_drop := ok_Book_drop T U
    have b_drop := T.b_Book_drop
    have G_ask := ok_Book_ask T U
    have b_ask := T.b_Book_ask
    obtain ⟨ds, hv, hb1⟩ := T.bd_Book_ask
    refine ⟨_, (pss_cons (ps_if (pt_cmpR op_eq (pe_ix ix_tup (pv 1) pe_int (fun _ _ => rfl)) pe_str (nomark _)) (pss_one (ps_ret (pe_meth (pv 0) U.cl U.m_rest G_rest (hr.mono (by decide)) b_rest .nil pass0 (pa_cons (pe_ix ix_tup (pv 1) pe_int (fun _ _ => rfl)) pa_nil)))) pss_nil)
      (pss_cons (ps_if (pt_cmpR op_eq (pe_ix ix_tup (pv 1) pe_int (fun _ _ => rfl)) pe_str (nomark _)) (pss_one (ps_ret (pe_meth (pv 0) U.cl U.m_drop G_drop (hr.mono (by decide)) b_drop .nil pass0 (pa_cons (pe_ix ix_tup (pv 1) pe_int (fun _ _ => rfl)) pa_nil)))) pss_nil)
      (pss_cons (ps_if (pt_cmpR op_eq (pe_ix ix_tup (pv 1) pe_int (fun _ _ => rfl)) pe_int (nomark _)) (pss_one (ps_ret (pe_meth (pv 0) U.cl U.m_ask G_ask (hr.mono (by decide)) hb1 hv pass0 (pa_cons (pe_ix ix_tup (pv 1) pe_int (fun _ _ => rfl)) pa_nil)))) pss_nil)
      (pss_one (ps_ret (pe_meth (pv 0) U.cl U.m_ask G_ask (hr.mono (by decide)) b_ask .nil pass0 (pa_cons (pe_ix ix_tup (pv 1) pe_int (fun _ _ => rfl)) (pa_cons (pe_ix ix_tup (pv 1) pe_int (fun _ _ => rfl)) pa_nil)))))))), ?_⟩
    rw [show L2.start N_l_do [V.ref ad.p, V.ref a] = [some (V.ref ad.p), some (V.ref a)] from rfl]
    have tg : ∀ {H' : Hp} (i : Nat) {v : V}, Ex H H' → d.V[i]? = some v → Ev (tOp (rIxT K) (tVar 1) (tC (.int (i : Int)))) [some (V.ref ad.p), some (V.ref a)] H' v := fun i _ e h => ev_op (ev_var rfl) ev_c (rv_ixT (ex_t e hD) (atN rfl h))
    cases d with
    | rest t =>
      refine q_when (b := true) (et_is (et_test (ev_op (tg 0 (Ex.refl _) rfl) ev_c (rv_eq rfl))) (by decide +kernel)) (fun _ H1 e1 => ?_) (fun hb => nomatch hb)
      exact s_retM (ev_var rfl) (A.ex e1).ob nm_rest (ea_cons (tg 2 e1 rfl) ea_nil) fun H2 e2 => ⟨ad, s, t, rfl, A.ex (e1.trans e2), W, hd, hg.1, hg.2, fun H3 A3 K3 => kk H3 A3 ((Kp.ex (e1.trans e2)).trans K3)⟩
    | drop n =>
      refine q_when (b := false) (et_is (et_test (ev_op (tg 0 (Ex.refl _) rfl) ev_c (rv_eq rfl))) (by decide +kernel)) (fun hb => nomatch hb) (fun _ H1 e1 => ?_)
      refine q_when (b := true) (et_is (et_test (ev_op (tg 0 e1 rfl) ev_c (rv_eq rfl))) (by decide +kernel)) (fun _ H2 e2 => ?_) (fun hb => nomatch hb)
      have E2 := e1.trans e2
      exact s_retM (ev_var rfl) (A.ex E2).ob nm_drop (ea_cons (tg 1 E2 rfl) ea_nil) fun H3 e3 => ⟨ad, s, n, rfl, A.ex (E2.trans e3), W, hd, hn n hg, fun H4 A4 K4 => kk H4 A4 ((Kp.ex (E2.trans e3)).trans K4)⟩
    | ask n x =>
      refine q_when (b := false) (et_is (et_test (ev_op (tg 0 (Ex.refl _) rfl) ev_c (rv_eq rfl))) (by decide +kernel)) (fun hb => nomatch hb) (fun _ H1 e1 => ?_)
      refine q_when (b := false) (et_is (et_test (ev_op (tg 0 e1 rfl) ev_c (rv_eq rfl))) (by decide +kernel)) (fun hb => nomatch hb) (fun _ H2 e2 => ?_)
      have E2 := e1.trans e2
      refine q_when (b := decide (V.int x = V.int 1)) (et_test (ev_op (tg 2 E2 rfl) ev_c (rv_eq rfl))) (fun hb H3 e3 => ?_) (fun hb H3 e3 => ?_)
      · have E3 := E2.trans e3
        have hx : x = 1 := by rw [dec_i] at hb; exact of_decide_eq_true hb
        refine ev_methR (Q := Q) (dvs := [.int 1]) (ev_var rfl) (A.ex E3).ob nm_ask (ea_cons (tg 1 E3 rfl) ea_nil) fun H4 e4 => ?_
        refine ⟨ad, s, n, 1, rfl, A.ex (E3.trans e4), W, hd, hn n hg.1, by decide, by decide, fun H5 A5 K5 => ?_⟩
        rw [hx] at kk
        exact kk H5 A5 ((Kp.ex (E3.trans e4)).trans K5)
      · have E3 := E2.trans e3
        exact s_retM (ev_var rfl) (A.ex E3).ob nm_ask (ea_cons (tg 1 E3 rfl) (ea_cons (tg 2 E3 rfl) ea_nil)) fun H4 e4 => ⟨ad, s, n, x, rfl, A.ex (E3.trans e4), W, hd, hn n hg.1, hg.2.1, hg.2.2, fun H5 A5 K5 => kk H5 A5 ((Kp.ex (E3.trans e4)).trans K5)⟩
end

end Own
namespace Own
open PySem L2 PyProof.Rows Evl OwnS
/-- a condition of arithmetic -/
local macro_rules | `(tactic| walk_at "side") => `(tactic| first
  | assumption
  | (show _ ∧ _; omega)
  | (apply pos9 <;> omega)
  | (show (0 : Int) < _; omega)
  | (show _ ∨ _; omega)
  | decide
  | omega)
local macro_rules | `(tactic| walk_at "fn") => `(tactic| fail "no fn")
local macro_rules | `(tactic| walk_at "ev") => `(tactic| first
  | ((with_reducible apply ev_var) ; exact rfl)
  | with_reducible exact ev_c
  | ((with_reducible apply ev_op) <;> walk_at "ev")
  | with_reducible exact rv_I0
  | ((with_reducible apply rv_I) ; walk_at "side")
  | ((with_reducible apply rv_eq) ; rfl)
  | ((with_reducible apply rv_ne) ; rfl)
  | ((with_reducible apply ev_isInt) ; walk_at "ev")
  | ((with_reducible apply ev_isBoolI) ; walk_at "ev")
  | ((with_reducible apply ev_isIntB) ; walk_at "ev")
  | ((with_reducible apply ev_isBoolB) ; walk_at "ev")
  | ((with_reducible apply ev_notV) ; walk_at "ev")
  | ((with_reducible apply et_test) ; walk_at "ev")
  | ((with_reducible apply et_B) ; walk_at "ev")
  | ((with_reducible apply et_not) ; walk_at "ev")
  | with_reducible exact ea_nil
  | ((with_reducible apply ea_cons) <;> walk_at "ev")
  | ((with_reducible apply ev_call0) <;> walk_at "ev")
  | ((with_reducible show SpV _ _ _ _); walk_at "fn"))

section
variable {P : Program} {w : World} {K : PySem.W.Frag} {mg : Str → Option Value} {base : Heap} {k : Kd} {C : Addr}
theorem el_names {ad : Ad} {s : Th} {H : Hp} {σ : L2.St} {ta : TE} {E : XK} (A : At k C ad H s) (W : WF k s) (hd : s.deed ≤ 1000) (h : Ev ta σ H (.ref ad.p)) : EvL (tMeth C "names" (spNames k C) [] E ta tNil) σ H ((k.names s).map V.str) :=
  el_meth h A.ob nm_names ea_nil fun H1 e Q q E => ⟨ad, s, rfl, A.ex e, W, hd, q⟩
end

section
variable {P : Program} {w : World} {K : PySem.W.Frag} {mg : Str → Option Value} {base : Heap} {k : Kd} {C : Addr}
def spTime (k : Kd) (C : Addr) : Sp := fun vs H Q _ => ∃ (ad : Ad) (s : Th), vs = [.ref ad.p] ∧ At k C ad H s ∧ RetV (.int s.time) H Q
theorem ok_Book_time_now (T : Tx K mg) (U : Cl0 T C) : FnOk P w K mg base CX0 1 T.f_Book_time_now T.fd_Book_time_now P_Book_time_now (spTime k C) := by
  refine T.F_Book_time_now.ok sc_Book_time_now (fun vs H Q E h => ?_) (fun cdv A outer s H vs Q E hr h => ?_)
  · obtain ⟨_, _, rfl, _⟩ := h
    rfl
  · obtain ⟨ad, s, rfl, A, kk⟩ := h
    refine ⟨_, (pss_one (ps_ret (pe_fld (pv 0) rfl))), ?_⟩
    exact s_ret (ev_fld (ev_var rfl) A.ob U.cl U.ntime fl_time) kk
theorem sv_time {ad : Ad} {s : Th} {H : Hp} (A : At k C ad H s) : SpV (spTime k C) [.ref ad.p] H (.int s.time) := fun H1 e Q q E => ⟨ad, s, rfl, A.ex e, q⟩
theorem ev_time {ad : Ad} {s : Th} {H : Hp} {σ : L2.St} {ta : TE} {E : XK} (A : At k C ad H s) (h : Ev ta σ H (.ref ad.p)) : Ev (tMeth C "time_now" (spTime k C) [] E ta tNil) σ H (.int s.time) := ev_meth h A.ob nm_time_now ea_nil (sv_time A)
end

section
variable {P : Program} {w : World} {K : PySem.W.Frag} {mg : Str → Option Value} {base : Heap} {k : Kd} {C : Addr}
def spDeeds (k : Kd) (C : Addr) : Sp := fun vs H Q _ => ∃ (ad : Ad) (s : Th), vs = [.ref ad.p] ∧ At k C ad H s ∧ RetV (.int (s.deed : Int)) H Q
theorem ok_Book_deeds_done (T : Tx K mg) (U : Cl0 T C) : FnOk P w K mg base CX0 1 T.f_Book_deeds_done T.fd_Book_deeds_done P_Book_deeds_done (spDeeds k C) := by
  refine T.F_Book_deeds_done.ok sc_Book_deeds_done (fun vs H Q E h => ?_) (fun cdv A outer s H vs Q E hr h => ?_)
  · obtain ⟨_, _, rfl, _⟩ := h
    rfl
  · obtain ⟨ad, s, rfl, A, kk⟩ := h
    refine ⟨_, (pss_one (ps_ret (pe_fld (pv 0) rfl))), ?_⟩
    exact s_ret (ev_fld (ev_var rfl) A.ob U.cl U.ndeed fl_deed) kk
theorem sv_deeds {ad : Ad} {s : Th} {H : Hp} (A : At k C ad H s) : SpV (spDeeds k C) [.ref ad.p] H (.int (s.deed : Int)) := fun H1 e Q q E => ⟨ad, s, rfl, A.ex e, q⟩
theorem ev_deeds {ad : Ad} {s : Th} {H : Hp} {σ : L2.St} {ta : TE} {E : XK} (A : At k C ad H s) (h : Ev ta σ H (.ref ad.p)) : Ev (tMeth C "deeds_done" (spDeeds k C) [] E ta tNil) σ H (.int (s.deed : Int)) := ev_meth h A.ob nm_deeds_done ea_nil (sv_deeds A)
end

section
variable {P : Program} {w : World} {K : PySem.W.Frag} {mg : Str → Option Value} {base : Heap} {k : Kd} {C : Addr}
def spCount (k : Kd) (C : Addr) : Sp := fun vs H Q _ => ∃ (ad : Ad) (s : Th) (n : Str), vs = [.ref ad.p, .str n] ∧ At k C ad H s ∧ GoodName n ∧ RetV (.int (cntE s.es n)) H Q
theorem ok_Book_count_of (T : Tx K mg) (U : Cl0 T C) : FnOk P w K mg base CX0 3 T.f_Book_count_of T.fd_Book_count_of P_Book_count_of (spCount k C) := by
  refine T.F_Book_count_of.ok sc_Book_count_of (fun vs H Q E h => ?_) (fun cdv A outer s H vs Q E hr h => ?_)
  · obtain ⟨_, _, _, rfl, _⟩ := h
    rfl
  · obtain ⟨ad, s, n, rfl, A, hg, kk⟩ := h
    have hu := hu_of hr
    refine ⟨_, (pss_cons (ps_expr (pe_call (ok_want_name T) (hr.mono (by decide)) rfl T.mg_want_name T.F_want_name.kp T.b_want_name .nil pass0 (pa_cons (pv 1) pa_nil)))
      (pss_one (ps_ret (pe_dget2 hu (pe_fld (pv 0) rfl) (pv 1) pe_int ⟨rfl, rfl, rfl, rfl⟩)))), ?_⟩
    rw [show L2.start N_Book_count_of [V.ref ad.p, V.str n] = [some (V.ref ad.p), some (V.str n)] from rfl]
    refine s_drop0 (ev_call0 (ea_cons (ev_var rfl) ea_nil) (sv_wantName hg)) fun H1 e1 => ?_
    have A1 := A.ex e1
    exact s_ret (ev_is (ev_dget2 (ev_fld (ev_var rfl) A1.ob U.cl U.ncounts fl_counts) (ev_var rfl) ev_c A1.ct) (dget_cnt _ _)) fun H2 e2 => kk H2 (e1.trans e2)
theorem ev_count {ad : Ad} {s : Th} {H : Hp} {σ : L2.St} {ta tb : TE} {E : XK} {n : Str} (A : At k C ad H s) (hg : GoodName n) (h : Ev ta σ H (.ref ad.p)) (hb : Ev tb σ H (.str n)) : Ev (tMeth C "count_of" (spCount k C) [] E ta (tCons tb tNil)) σ H (.int (cntE s.es n)) :=
  ev_meth h A.ob nm_count_of (ea_cons hb ea_nil) fun H1 e Q q E => ⟨ad, s, n, rfl, A.ex e, hg, q⟩
end

section
variable {P : Program} {w : World} {K : PySem.W.Frag} {mg : Str → Option Value} {base : Heap} {k : Kd} {C : Addr}
def spLast (k : Kd) (C : Addr) : Sp := fun vs H Q _ => ∃ (ad : Ad) (s : Th) (n : Str), vs = [.ref ad.p, .str n] ∧ At k C ad H s ∧ GoodName n ∧ RetV (lastV s.es n) H Q
theorem ok_Book_last_of (T : Tx K mg) (U : Cl0 T C) : FnOk P w K mg base CX0 3 T.f_Book_last_of T.fd_Book_last_of P_Book_last_of (spLast k C) := by
  refine T.F_Book_last_of.ok sc_Book_last_of (fun vs H Q E h => ?_) (fun cdv A outer s H vs Q E hr h => ?_)
  · obtain ⟨_, _, _, rfl, _⟩ := h
    rfl
  · obtain ⟨ad, s, n, rfl, A, hg, kk⟩ := h
    have hu := hu_of hr
    refine ⟨_, (pss_cons (ps_expr (pe_call (ok_want_name T) (hr.mono (by decide)) rfl T.mg_want_name T.F_want_name.kp T.b_want_name .nil pass0 (pa_cons (pv 1) pa_nil)))
      (pss_one (ps_ret (pe_dget1 hu (pe_fld (pv 0) rfl) (pv 1) ⟨rfl, rfl, rfl, rfl⟩)))), ?_⟩
    rw [show L2.start N_Book_last_of [V.ref ad.p, V.str n] = [some (V.ref ad.p), some (V.str n)] from rfl]
    refine s_drop0 (ev_call0 (ea_cons (ev_var rfl) ea_nil) (sv_wantName hg)) fun H1 e1 => ?_
    have A1 := A.ex e1
    refine s_ret (ev_is (ev_dget1 (ev_fld (ev_var rfl) A1.ob U.cl U.nlasts fl_lasts) (ev_var rfl) A1.ls) ?_) fun H2 e2 => kk H2 (e1.trans e2)
    rw [valV_dOf]
    unfold lastV lastO
    cases look s.es n <;> rfl
theorem ev_last {ad : Ad} {s : Th} {H : Hp} {σ : L2.St} {ta tb : TE} {E : XK} {n : Str} (A : At k C ad H s) (hg : GoodName n) (h : Ev ta σ H (.ref ad.p)) (hb : Ev tb σ H (.str n)) : Ev (tMeth C "last_of" (spLast k C) [] E ta (tCons tb tNil)) σ H (lastV s.es n) :=
  ev_meth h A.ob nm_last_of (ea_cons hb ea_nil) fun H1 e Q q E => ⟨ad, s, n, rfl, A.ex e, hg, q⟩
end

end Own
namespace Own
open PySem L2 PyProof.Rows Evl OwnS
/-- a condition of arithmetic -/
local macro_rules | `(tactic| walk_at "side") => `(tactic| first
  | assumption
  | (show _ ∧ _; omega)
  | (apply pos9 <;> omega)
  | (show (0 : Int) < _; omega)
  | (show _ ∨ _; omega)
  | decide
  | omega)
local macro_rules | `(tactic| walk_at "fn") => `(tactic| fail "no fn")
local macro_rules | `(tactic| walk_at "ev") => `(tactic| first
  | ((with_reducible apply ev_var) ; exact rfl)
  | with_reducible exact ev_c
  | ((with_reducible apply ev_op) <;> walk_at "ev")
  | with_reducible exact rv_I0
  | ((with_reducible apply rv_I) ; walk_at "side")
  | ((with_reducible apply rv_eq) ; rfl)
  | ((with_reducible apply rv_ne) ; rfl)
  | ((with_reducible apply ev_isInt) ; walk_at "ev")
  | ((with_reducible apply ev_isBoolI) ; walk_at "ev")
  | ((with_reducible apply ev_isIntB) ; walk_at "ev")
  | ((with_reducible apply ev_isBoolB) ; walk_at "ev")
  | ((with_reducible apply ev_notV) ; walk_at "ev")
  | ((with_reducible apply et_test) ; walk_at "ev")
  | ((with_reducible apply et_B) ; walk_at "ev")
  | ((with_reducible apply et_not) ; walk_at "ev")
  | with_reducible exact ea_nil
  | ((with_reducible apply ea_cons) <;> walk_at "ev")
  | ((with_reducible apply ev_call0) <;> walk_at "ev")
  | ((with_reducible show SpV _ _ _ _); walk_at "fn"))

/-! ### shelf.py -/
section
variable {P : Program} {w : World} {K : PySem.W.Frag} {mg : Str → Option Value} {base : Heap}
theorem weakest_of {s : Th} (W : WF .shelf s) {n : Str} (hn : n ∈ s.st) (h : ∀ m ∈ s.st, lexQ (rankE s.es m) (rankE s.es n) = false) : n = weakest s := by
  unfold weakest
  have hp := sortR_perm s.es s.st
  have hs := sortR_sorted s.es s.st
  cases e : sortR s.es s.st with
  | nil =>
    rw [e] at hp
    exact absurd (hp.mem_iff.mpr hn) (by simp)
  | cons a r =>
    rw [e] at hp hs
    show n = a
    have ha := hp.mem_iff.mp (List.mem_cons_self (a := a) (l := r))
    rcases List.mem_cons.mp (hp.mem_iff.mpr hn) with q | q
    · exact q
    · have h1 := (List.pairwise_cons.mp hs).1 n q
      have h2 := h a ha
      rw [lexQ_no] at h1 h2
      have e2 : (rankE s.es n).2 = (rankE s.es a).2 := by omega
      exact lst_inj W.nd W.ls (W.sin n hn) (W.sin a ha) e2
theorem nm_has {ad : Ad} {s : Th} : (flds .shelf ad s).lookup ("has" : Str) = none := by kernel_rfl
theorem nm_goings {ad : Ad} {s : Th} : (flds .shelf ad s).lookup ("goings" : Str) = none := by kernel_rfl
def clShelf (T : Tx K mg) : Cl0 T T.C_Shelf where
  cl := T.cls_Shelf
  nspan := T.na_Shelf_span
  npart := T.na_Shelf_part
  ntime := T.na_Shelf_time
  ndeed := T.na_Shelf_deed
  ncounts := T.na_Shelf_counts
  nlasts := T.na_Shelf_lasts
  m_ask := T.m_Shelf_ask
  m_rest := T.m_Shelf_rest
  m_drop := T.m_Shelf_drop
  m_spend := T.m_Shelf_spend
  m_names := T.m_Shelf_names
  m_rank := T.m_Shelf_rank
  m_time_now := T.m_Shelf_time_now
  m_deeds_done := T.m_Shelf_deeds_done
  m_count_of := T.m_Shelf_count_of
  m_last_of := T.m_Shelf_last_of
  bm_rank := T.bm_Shelf_rank
  bm_asked_at := T.bm_Shelf_asked_at
theorem ok_Shelf_gone (T : Tx K mg) : FnOk P w K mg base CX0 4 T.f_Shelf_gone T.fd_Shelf_gone P_Shelf_gone (spGone .shelf T.C_Shelf) := by
  refine T.F_Shelf_gone.ok sc_Shelf_gone (fun vs H Q E h => ?_) (fun cdv A outer s H vs Q E hr h => ?_)
  · obtain ⟨_, _, _, _, rfl, _⟩ := h
    rfl
  · obtain ⟨ad, s, n, r, rfl, A, W, hd, kk⟩ := h
    have hu := hu_of hr
    have U := clShelf T
    refine ⟨_, (pss_cons (ps_if (pt_cmp (pc_dnotin hu (pv 1) (pe_fld (pv 0) rfl))) (pss_one (ps_ret pe_bl)) pss_nil)
      (pss_cons (ps_expr (pe_dpop1 (pe_fld (pv 0) rfl) (pv 1) ⟨rfl, rfl, rfl, rfl⟩))
      (pss_cons (ps_expr (pe_bm PySem.F.plainAttrs_list PySem.F.slot_list_append PySem.F.type_list_append mt_append (pe_fld (pv 0) rfl) (pa_cons (pe_tup (pa_cons (pe_fld (pv 0) rfl) (pa_cons (pv 1) (pa_cons (pv 2) (pa_cons (pe_dget hu (pe_fld (pv 0) rfl) (pv 1) (fun _ _ => rfl)) (pa_cons (pe_dget hu (pe_fld (pv 0) rfl) (pv 1) (fun _ _ => rfl)) pa_nil)))))) pa_nil)))
      (pss_one (ps_ret pe_bl))))), ?_⟩
    rw [show L2.start N_Shelf_gone [V.ref ad.p, V.str n, V.str r] = [some (V.ref ad.p), some (V.str n), some (V.str r)] from rfl]
    have self : ∀ {H' : Hp}, Ev (tVar 0) [some (V.ref ad.p), some (V.str n), some (V.str r)] H' (.ref ad.p) := ev_var rfl
    refine q_when (b := !decide (n ∈ s.st)) (et_is (et_test (ev_dnotin (ev_var rfl) (ev_fld self A.ob U.cl T.na_Shelf_standing fl_standing) A.x1.1)) (by rw [val_st_some])) (fun hb H1 e1 => ?_) (fun hb H1 e1 => ?_)
    · have hb : n ∉ s.st := by simpa using hb
      have e : Kd.gone .shelf s n r = (false, s) := by unfold Kd.gone; dsimp only; rw [if_neg hb]
      rw [e] at kk
      exact s_ret ev_c fun H2 e2 => kk H2 ((A.ex e1).ex e2) (Kp.ex (e1.trans e2))
    · have hb : n ∈ s.st := by simpa using hb
      have e : Kd.gone .shelf s n r = (true, { s with st := s.st.filter (fun m => decide (m ≠ n)), went := s.went ++ [⟨s.deed, n, r, cntE s.es n, lstE s.es n⟩] }) := by unfold Kd.gone; dsimp only; rw [if_pos hb]
      rw [e] at kk
      have A1 := A.ex e1
      have hin := W.sin n hb
      have sz := W.ssz
      refine q_dpop (v := .bl true) (ev_fld self A1.ob U.cl T.na_Shelf_standing fl_standing) (ev_var rfl) A1.x1.1 (by rw [val_st, if_pos hb]) fun H2 e2 => ?_
      rw [drop_st]
      have A2 := (A1.ex e2).upX1 (st := s.st.filter fun m => decide (m ≠ n))
      have K2 : Kp .shelf ad H _ := (Kp.ex (e1.trans e2)).trans (Kp.upd (o := .dK (stV (s.st.filter fun m => decide (m ≠ n)))) (own_x1 (k := .shelf) (by decide)))
      generalize upd H2 ad.x1 (.dK (stV (s.st.filter fun m => decide (m ≠ n)))) = H3 at A2 K2 ⊢
      obtain ⟨ts, h1, h2⟩ := A2.x2
      have tl : ts.length ≤ 1000 := by
        have := (paired_at h2).1
        have e3 : s.went.length ≤ 1000 := by omega
        exact this ▸ e3
      refine q_appU (vs := gV ⟨s.deed, n, r, cntE s.es n, lstE s.es n⟩) (ev_fld self A2.ob U.cl T.na_Shelf_went fl_went) h1 (eu_tup (ea_cons (ev_fld self A2.ob U.cl U.ndeed fl_deed) (ea_cons (ev_var rfl) (ea_cons (ev_var rfl) (ea_cons (ev_dget (ev_fld self A2.ob U.cl U.ncounts fl_counts) (ev_var rfl) A2.ct (val_c hin)) (ea_cons (ev_dget (ev_fld self A2.ob U.cl U.nlasts fl_lasts) (ev_var rfl) A2.ls (val_l hin)) ea_nil))))) (by simp [gV])) (by rw [List.length_map]; omega) fun q H4 hq e4 h4 h4' => ?_
      have A4 := (A2.ex e4).upX2 (g := ⟨s.deed, n, r, cntE s.es n, lstE s.es n⟩) h4' (L2.Paired.mapP h2 fun t g e => e4 _ _ e) h4
      exact s_ret ev_c fun H5 e5 => kk H5 (A4.ex e5) (((K2.trans (Kp.ex e4)).trans (Kp.upd (own_x2 (k := .shelf) (by decide)))).trans (Kp.ex e5))
theorem ok_Shelf_came (T : Tx K mg) : FnOk P w K mg base CX0 8 T.f_Shelf_came T.fd_Shelf_came P_Shelf_came (spCame .shelf T.C_Shelf) := by
  refine T.F_Shelf_came.ok sc_Shelf_came (fun vs H Q E h => ?_) (fun cdv A outer s H vs Q E hr h => ?_)
  · obtain ⟨_, _, _, rfl, _⟩ := h
    rfl
  · obtain ⟨ad, s, n, rfl, A, W, hd, kk⟩ := h
    have hu := hu_of hr
    have U := clShelf T
    have G_rank := ok_Book_rank (P := P) (w := w) (base := base) (k := .shelf) T U
    have b_rank := T.b_Book_rank
    have G_gone := ok_Shelf_gone (P := P) (w := w) (base := base) T
    have b_gone := T.b_Shelf_gone
    refine ⟨_, (pss_cons (ps_if (pt_cmp (pc_din hu (pv 1) (pe_fld (pv 0) rfl))) (pss_one (ps_ret pe_bl)) pss_nil)
      (pss_cons (ps_if (pt_cmpR op_eq (pe_callB call_lenD (by rfl) T.n_len PySem.boot_len (pa_cons (pe_fld (pv 0) rfl) pa_nil)) (pe_fld (pv 0) rfl) (nomark _)) (pss_cons (ps_set (i := 2) sc_Shelf_came.nd rfl (Or.inl rfl) (pe_callBK (cr_minF rfl G_rank (hr.mono (by decide)) b_rank) (by rfl) T.n_min (by decide +kernel) (pa_cons (pe_callTy (call_list_dK rfl) (by rfl) T.n_list (by decide +kernel) (pa_cons (pe_fld (pv 0) rfl) pa_nil)) pa_nil) (pk_cons (pe_bound (pv 0) U.cl U.bm_rank) pk_nil)))
      (pss_one (ps_expr (pe_meth (pv 0) U.cl T.m_Shelf_gone G_gone (hr.mono (by decide)) b_gone .nil pass0 (pa_cons (pv 2) (pa_cons pe_str pa_nil)))))) pss_nil)
      (pss_cons (ps_dput hu (pe_fld (pv 0) rfl) (pv 1) pe_bl rfl)
      (pss_one (ps_ret pe_bl))))), ?_⟩
    rw [show L2.start N_Shelf_came [V.ref ad.p, V.str n] = [some (V.ref ad.p), some (V.str n), none] from rfl]
    have self : ∀ {x : Option V} {H' : Hp}, Ev (tVar 0) [some (V.ref ad.p), some (V.str n), x] H' (.ref ad.p) := ev_var rfl
    refine q_when (b := decide (n ∈ s.st)) (et_is (et_test (ev_din (ev_var rfl) (ev_fld self A.ob U.cl T.na_Shelf_standing fl_standing) A.x1.1)) (by rw [val_st_some])) (fun hb H1 e1 => ?_) (fun hb H1 e1 => ?_)
    · have hb := of_decide_eq_true hb
      have e : Kd.came .shelf s n = (.bl true, s) := by unfold Kd.came; dsimp only; rw [if_pos hb]
      rw [e] at kk
      exact s_ret ev_c fun H2 e2 => kk H2 ((A.ex e1).ex e2) (Kp.ex (e1.trans e2))
    have hb := of_decide_eq_false hb
    have A1 := A.ex e1
    have sz := W.ssz
    have fin : ∀ {x : Option V} {H' : Hp} {s1 : Th}, At .shelf T.C_Shelf ad H' s1 → Kp .shelf ad H H' → n ∉ s1.st → s1.st.length ≤ 1000 → Kd.came .shelf s n = (.bl false, { s1 with st := s1.st ++ [n] }) →
        tSeq (sDPut (tFld K (tVar 0) "standing") (tVar 1) (tC (.bl true))) (tRet (tC (.bl false))) { nx := fun _ H' => Q .non H', rt := Q } [some (V.ref ad.p), some (V.str n), x] H' := by
      intro x H' s1 A' K' hn1 hl e
      rw [e] at kk
      refine q_dput (v := .bl true) ev_c (ev_fld self A'.ob U.cl T.na_Shelf_standing fl_standing) (ev_var rfl) A'.x1.1 (by unfold stV; rw [List.length_map]; omega) fun H2 e2 => ?_
      rw [put_st hn1]
      exact s_ret ev_c fun H3 e3 => kk H3 ((A'.ex e2).upX1.ex e3) (((K'.trans (Kp.ex e2)).trans (Kp.upd (own_x1 (k := .shelf) (by decide)))).trans (Kp.ex e3))
    refine q_when (b := decide ((s.st.length : Int) = s.places)) (et_is (et_test (ev_op (ev_lenD (ev_fld self A1.ob U.cl T.na_Shelf_standing fl_standing) A1.x1.1) (ev_fld self A1.ob U.cl T.na_Shelf_places fl_places) (rv_eq rfl))) (by rw [dec_i]; unfold stV; rw [List.length_map])) (fun hf H2 e2 => ?_) (fun hf H2 e2 => ?_)
    · have hf := of_decide_eq_true hf
      have A2 := A1.ex e2
      have hne : s.st ≠ [] := fun q => by
        rw [q] at hf
        have := W.pl rfl
        simp at hf
        omega
      have hlist := el_listD (σ := [some (V.ref ad.p), some (V.str n), none]) (ev_fld (te := tVar 0) self A2.ob U.cl T.na_Shelf_standing fl_standing) A2.x1.1
      have e5 : (stV s.st).map (fun kv => kV kv.1) = s.st.map V.str := by
        unfold stV
        rw [List.map_map]
        rfl
      rw [e5] at hlist
      refine q_asgP (evp_minF (kf := fun x => rankE s.es (strOf x)) hlist (by simpa using hne) self A2.ob nm_rank (rank_calls A2 W.sin)) ?_
      rintro v H3 e3 ⟨hv, hmin⟩
      obtain ⟨m, hm, rfl⟩ := List.mem_map.mp hv
      have hw : m = weakest s := weakest_of W hm fun y hy => hmin (.str y) (List.mem_map_of_mem hy)
      dsimp only [List.set]
      have A3 := A2.ex e3
      refine s_dropM self A3.ob nm_gone (ea_cons (ev_var rfl) (ea_cons ev_c ea_nil)) fun H4 e4 => ⟨ad, s, m, "crowded", rfl, A3.ex e4, W, hd, fun H5 A5 K5 => ?_⟩
      have gm := gone_mem (k := .shelf) (s := s) (n := m) (r := "crowded") (m := n) W
      have sl := Slack.gone (k := .shelf) W.slack m "crowded"
      refine fin A5 ((Kp.ex (((e1.trans e2).trans e3).trans e4)).trans K5) (fun q => hb (gm.1 q)) (by have := sl.2.1; omega) ?_
      unfold Kd.came
      dsimp only
      rw [if_neg hb, if_pos hf, ← hw]
    · have hf := of_decide_eq_false hf
      refine fin (A1.ex e2) (Kp.ex (e1.trans e2)) hb (by omega) ?_
      unfold Kd.came
      dsimp only
      rw [if_neg hb, if_neg hf]
theorem ok_Shelf_inside (T : Tx K mg) : FnOk P w K mg base CX0 2 T.f_Shelf_inside T.fd_Shelf_inside P_Shelf_inside (spInside .shelf T.C_Shelf) := by
  refine T.F_Shelf_inside.ok sc_Shelf_inside (fun vs H Q E h => ?_) (fun cdv A outer s H vs Q E hr h => ?_)
  · obtain ⟨_, _, rfl, _⟩ := h
    rfl
  · obtain ⟨ad, s, rfl, A, W, hd, kk⟩ := h
    have U := clShelf T
    refine ⟨_, (pss_one (ps_ret (pe_callTy (call_list_dK rfl) (by rfl) T.n_list (by decide +kernel) (pa_cons (pe_fld (pv 0) rfl) pa_nil)))), ?_⟩
    have e : (stV s.st).map (fun kv => kV kv.1) = ((Kd.shelf).inside s).map V.str := by
      unfold stV Kd.inside
      rw [List.map_map]
      rfl
    have h := el_listD (σ := L2.start N_Shelf_inside [V.ref ad.p]) (ev_fld (te := tVar 0) (ev_var rfl) A.ob U.cl T.na_Shelf_standing fl_standing) A.x1.1
    rw [e] at h
    exact s_retL h kk
def uShelf (T : Tx K mg) : Vt P w base T .shelf T.C_Shelf where
  toCl0 := clShelf T
  f_came := _
  fd_came := _
  m_came := T.m_Shelf_came
  b_came := T.b_Shelf_came
  ok_came := ok_Shelf_came T
  f_gone := _
  fd_gone := _
  m_gone := T.m_Shelf_gone
  b_gone := T.b_Shelf_gone
  ok_gone := ok_Shelf_gone T
  f_inside := _
  fd_inside := _
  m_inside := T.m_Shelf_inside
  b_inside := T.b_Shelf_inside
  ok_inside := ok_Shelf_inside T
/-! a new shelf -/
def spInitS (C : Addr) : Sp := fun vs H Q _ => ∃ (p dx : Addr) (pl a b : Int), vs = [.ref p, .int pl, .int a, .int b] ∧ 1 ≤ pl ∧ pl ≤ 1000 ∧ 1 ≤ a ∧ a ≤ 100000000000000000000 ∧ 2 ≤ b ∧ b ≤ 1000000000000000000000000000000 ∧ H p = some (.ins C dx []) ∧
  ∀ H' (ad : Ad), ad.p = p → (∀ x ∈ own .shelf ad, x ≠ p → H x = none) → At .shelf C ad H' (th0 a b pl) → (∀ x o, H x = some o → x ≠ p → H' x = some o) → Q .non H'
theorem ok_Shelf_init (T : Tx K mg) : FnOk P w K mg base CX0 4 T.f_Shelf_init T.fd_Shelf_init P_Shelf_init (spInitS T.C_Shelf) := by
  refine T.F_Shelf_init.ok sc_Shelf_init (fun vs H Q E h => ?_) (fun cdv A outer s H vs Q E hr h => ?_)
  · obtain ⟨_, _, _, _, _, rfl, _⟩ := h
    rfl
  · obtain ⟨p, dx, pl, a, b, rfl, l1, l2, h1, h2, h3, h4, hp, kk⟩ := h
    have U := clShelf T
    have G_init := ok_Book_init (P := P) (w := w) (base := base) T U
    have b_init := T.b_Book_init
    refine ⟨_, (pss_cons (ps_expr (pe_call (ok_want_number T) (hr.mono (by decide)) rfl T.mg_want_number T.F_want_number.kp T.b_want_number .nil pass0 (pa_cons (pv 1) (pa_cons pe_int (pa_cons (pe_glob (v := .int 1000) rfl T.c_MOST_PLACES.2 ⟨_, rfl⟩) pa_nil)))))
      (pss_cons (ps_expr (pe_clsCall (pe_glob (v := .ref T.C_Book) rfl T.mgC_Book rfl) T.cdf G_init (hr.mono (by decide)) b_init .nil pass0 (pa_cons (pv 0) (pa_cons (pv 2) (pa_cons (pv 3) pa_nil)))))
      (pss_cons (ps_fld (pv 0) (pv 1) rfl)
      (pss_cons (ps_fld (pv 0) pe_dnewK rfl)
      (pss_one (ps_fld (pv 0) (pe_lst pa_nil) rfl)))))), ?_⟩
    rw [show L2.start N_Shelf_init [V.ref p, V.int pl, V.int a, V.int b] = [some (V.ref p), some (V.int pl), some (V.int a), some (V.int b)] from rfl]
    have self : ∀ {H' : Hp}, Ev (tVar 0) [some (V.ref p), some (V.int pl), some (V.int a), some (V.int b)] H' (.ref p) := ev_var rfl
    refine s_drop0 (ev_call0 (ea_cons (ev_var rfl) (ea_cons ev_c (ea_cons ev_c ea_nil))) (sv_wantNumber l1 l2)) fun H1 e1 => ?_
    refine q_dropCls (vs := [.ref p, .int a, .int b]) (ea_cons (ev_var rfl) (ea_cons (ev_var rfl) (ea_cons (ev_var rfl) ea_nil))) fun H2 e2 => ?_
    have hp2 := (e1.trans e2) _ _ hp
    refine ⟨p, dx, a, b, rfl, h1, h2, h3, h4, hp2, fun H3 c l hc hl hcl q1 q2 q3 q4 => ?_⟩
    refine q_fld (w := .int pl) (ev_var rfl) self q1 U.cl T.na_Shelf_places (lenlt 6 rfl) fun H4 e4 => ?_
    refine q_fldNew self upd_same U.cl T.na_Shelf_standing (lenlt 7 (by kernel_rfl)) fun x1 H5 hx1 e5 h5 => ?_
    refine s_fldL (el_lst ea_nil (by decide)) self upd_same U.cl T.na_Shelf_went (lenlt 8 (by kernel_rfl)) fun x2 H6 hx2 e6 h6 => ?_
    have back : ∀ {X Y : Hp} {o : HO} {z : Addr}, Ex X Y → (upd Y p o) z = none → X z = none := fun {X Y o z} e h => by
      by_cases q : z = p
      · rw [q, upd_same] at h; cases h
      · rw [upd_ne q] at h; exact fresh_back e h
    have x1f : H3 x1 = none := back e4 hx1
    have x2f : H3 x2 = none := back e4 (back e5 hx2)
    have fr : ∀ {z : Addr}, H3 z = none → H z = none := fun {z} h => by
      refine fresh_back (e1.trans e2) ?_
      cases e : H2 z with
      | none => rfl
      | some o =>
        have hz : z ≠ p := fun q => by rw [q, q1] at h; cases h
        rw [q4 z o e hz] at h
        cases h
    have ne1 : x1 ≠ p := fun q => by rw [q, q1] at x1f; cases x1f
    have ne2 : x2 ≠ p := fun q => by rw [q, q1] at x2f; cases x2f
    have hc0 : H c = none := fresh_back (e1.trans e2) hc
    have hl0 : H l = none := fresh_back (e1.trans e2) hl
    have nec : c ≠ p := fun q => by rw [q, hp] at hc0; cases hc0
    have nel : l ≠ p := fun q => by rw [q, hp] at hl0; cases hl0
    have f : ∀ {X Y : Hp} {u o : HO} {x : Addr}, x ≠ p → Ex X Y → X x = some o → (upd Y p u) x = some o := fun hne e h => (upd_ne hne).trans (e _ _ h)
    refine kk _ ⟨p, dx, c, l, x1, x2⟩ rfl (fun z hz hzp => ?_) ⟨upd_same, ?_, ?_, hcl, ⟨?_, ?_, ?_⟩, ⟨[], ?_, .nil⟩⟩ (fun x o hx hne => f hne e6 (f hne e5 (f hne e4 (q4 x o ((e1.trans e2) _ _ hx) hne))))
    · simp only [own, List.mem_cons, List.not_mem_nil, or_false] at hz
      rcases hz with rfl | rfl | rfl | rfl | rfl
      · exact absurd rfl hzp
      · exact hc0
      · exact hl0
      · exact fr x1f
      · exact fr x2f
    · exact f nec e6 (f nec e5 (f nec e4 q2))
    · exact f nel e6 (f nel e5 (f nel e4 q3))
    · exact f ne1 e6 ((upd_ne ne1).trans h5)
    · exact fun (q : x1 = c) => by rw [q, q2] at x1f; cases x1f
    · exact fun (q : x1 = l) => by rw [q, q3] at x1f; cases x1f
    · rw [upd_ne ne2]; exact h6
/-- a new shelf: what stands where -/
theorem newShelf {T : Tx K mg} {σ : L2.St} {H : Hp} {ta : TA} {E : XK} {Q : VK} {pl a b : Int} (ha : EvA ta σ H [.int pl, .int a, .int b]) (l1 : 1 ≤ pl) (l2 : pl ≤ 1000) (h1 : 1 ≤ a) (h2 : a ≤ 100000000000000000000) (h3 : 2 ≤ b) (h4 : b ≤ 1000000000000000000000000000000)
    (k : ∀ ad H1, Ex H H1 → (∀ x ∈ own .shelf ad, H x = none) → At .shelf T.C_Shelf ad H1 (th0 a b pl) → Q (.ref ad.p) H1) : tMake T.C_Shelf (spInitS T.C_Shelf) [] E ta σ H Q := by
  refine ha H (Ex.refl H) _ fun H1 e1 => fun x dx hx hdx hne => ?_
  have E1 : Ex H1 (upd (upd H1 dx (.own x)) x (.ins T.C_Shelf dx [])) := (Ex.new hdx).trans (Ex.new (by rw [upd_ne (fun q => hne q.symm)]; exact hx))
  refine ⟨x, dx, pl, a, b, rfl, l1, l2, h1, h2, h3, h4, upd_same, fun H2 ad hp ow A q4 => ⟨rfl, ?_⟩⟩
  rw [← hp]
  refine k ad H2 (e1.trans fun y o hy => ?_) (fun y hy => ?_) A
  · refine q4 y o (E1 y o hy) fun q => ?_
    rw [q, hx] at hy
    cases hy
  · by_cases q : y = x
    · rw [q]; exact fresh_back e1 hx
    · exact fresh_back (e1.trans E1) (ow y hy q)
theorem q_asgShelf {T : Tx K mg} {σ : L2.St} {H : Hp} {ta : TA} {E : XK} {D : Ends} {tz : TS} {i : Nat} {pl a b : Int} (ha : EvA ta σ H [.int pl, .int a, .int b]) (l1 : 1 ≤ pl) (l2 : pl ≤ 1000) (h1 : 1 ≤ a) (h2 : a ≤ 100000000000000000000) (h3 : 2 ≤ b) (h4 : b ≤ 1000000000000000000000000000000)
    (k : ∀ ad H1, Ex H H1 → (∀ x ∈ own .shelf ad, H x = none) → At .shelf T.C_Shelf ad H1 (th0 a b pl) → tz D (σ.set i (some (.ref ad.p))) H1) : tSeq (tAsg (tMake T.C_Shelf (spInitS T.C_Shelf) [] E ta) (gName i)) tz D σ H :=
  newShelf (Q := fun v H1 => tz D (σ.set i (some v)) H1) ha l1 l2 h1 h2 h3 h4 k
end

section
variable {P : Program} {w : World} {K : PySem.W.Frag} {mg : Str → Option Value} {base : Heap}
def spHas (C : Addr) : Sp := fun vs H Q _ => ∃ (ad : Ad) (s : Th) (n : Str), vs = [.ref ad.p, .str n] ∧ At .shelf C ad H s ∧ GoodName n ∧ RetV (.bl (decide (n ∈ s.st))) H Q
theorem ok_Shelf_has (T : Tx K mg) : FnOk P w K mg base CX0 3 T.f_Shelf_has T.fd_Shelf_has P_Shelf_has (spHas T.C_Shelf) := by
  refine T.F_Shelf_has.ok sc_Shelf_has (fun vs H Q E h => ?_) (fun cdv A outer s H vs Q E hr h => ?_)
  · obtain ⟨_, _, _, rfl, _⟩ := h
    rfl
  · obtain ⟨ad, s, n, rfl, A, hg, kk⟩ := h
    have hu := hu_of hr
    have U := clShelf T
    refine ⟨_, (pss_cons (ps_expr (pe_call (ok_want_name T) (hr.mono (by decide)) rfl T.mg_want_name T.F_want_name.kp T.b_want_name .nil pass0 (pa_cons (pv 1) pa_nil)))
      (pss_one (ps_ret (pe_cmp (pc_din hu (pv 1) (pe_fld (pv 0) rfl)))))), ?_⟩
    rw [show L2.start N_Shelf_has [V.ref ad.p, V.str n] = [some (V.ref ad.p), some (V.str n)] from rfl]
    refine s_drop0 (ev_call0 (ea_cons (ev_var rfl) ea_nil) (sv_wantName hg)) fun H1 e1 => ?_
    have A1 := A.ex e1
    exact s_ret (ev_is (ev_din (ev_var rfl) (ev_fld (ev_var rfl) A1.ob U.cl T.na_Shelf_standing fl_standing) A1.x1.1) (by rw [val_st_some])) fun H2 e2 => kk H2 (e1.trans e2)
theorem ev_has {C : Addr} {ad : Ad} {s : Th} {H : Hp} {σ : L2.St} {ta tb : TE} {E : XK} {n : Str} (A : At .shelf C ad H s) (hg : GoodName n) (h : Ev ta σ H (.ref ad.p)) (hb : Ev tb σ H (.str n)) : Ev (tMeth C "has" (spHas C) [] E ta (tCons tb tNil)) σ H (.bl (decide (n ∈ s.st))) :=
  ev_meth h A.ob nm_has (ea_cons hb ea_nil) fun H1 e Q q E => ⟨ad, s, n, rfl, A.ex e, hg, q⟩
end

section
variable {P : Program} {w : World} {K : PySem.W.Frag} {mg : Str → Option Value} {base : Heap}
/-- a new list of the goings told -/
def RetTups (rows : List (List V)) (H : Hp) (Q : VK) : Prop := ∀ p H2, H p = none → Ex H H2 → TupsAt H2 p rows → Q (.ref p) H2
theorem tups_went {H : Hp} {p : Addr} : ∀ {ts : List Addr} {gs : List Going}, Paired (fun t g => H t = some (.tup (gV g))) ts gs → H p = some (.lst (ts.map V.ref)) → TupsAt H p (gs.map gV) := fun {ts gs} h hp => by
  obtain ⟨h1, h2⟩ := paired_at h
  refine ⟨ts.map V.ref, hp, by rw [List.length_map, List.length_map, h1], fun i r hr => ?_⟩
  rw [List.getElem?_map] at hr
  obtain ⟨g, hg, rfl⟩ := Option.map_eq_some_iff.mp hr
  have hi := (List.getElem?_eq_some_iff.mp hg).1
  obtain ⟨g', a, b⟩ := h2 i ts[i] (List.getElem?_eq_getElem (by omega))
  rw [hg] at a
  cases a
  exact ⟨ts[i], by rw [List.getElem?_map, List.getElem?_eq_getElem (by omega)]; rfl, b⟩
def spGoings (C : Addr) : Sp := fun vs H Q _ => ∃ (ad : Ad) (s : Th), vs = [.ref ad.p] ∧ At .shelf C ad H s ∧ RetTups (s.went.map gV) H Q
theorem ok_Shelf_goings (T : Tx K mg) : FnOk P w K mg base CX0 1 T.f_Shelf_goings T.fd_Shelf_goings P_Shelf_goings (spGoings T.C_Shelf) := by
  refine T.F_Shelf_goings.ok sc_Shelf_goings (fun vs H Q E h => ?_) (fun cdv A outer s H vs Q E hr h => ?_)
  · obtain ⟨_, _, rfl, _⟩ := h
    rfl
  · obtain ⟨ad, s, rfl, A, kk⟩ := h
    have U := clShelf T
    refine ⟨_, (pss_one (ps_ret (pe_callTy call_list_of (by rfl) T.n_list (by decide +kernel) (pa_cons (pe_fld (pv 0) rfl) pa_nil)))), ?_⟩
    obtain ⟨ts, h1, h2⟩ := A.x2
    exact s_retL (el_list (ev_fld (te := tVar 0) (ev_var rfl) A.ob U.cl T.na_Shelf_went fl_went) (SqL.of h1)) fun p H1 hp e1 h3 => kk p H1 hp e1 (tups_went (L2.Paired.mapP h2 fun t g e => e1 _ _ e) h3)
/-- what evaluates to a new list of such tuples -/
def EvTups (te : TE) (σ : L2.St) (H : Hp) (rows : List (List V)) : Prop := ∀ H1, Ex H H1 → ∀ Q : VK, (∀ p H2, H1 p = none → Ex H1 H2 → TupsAt H2 p rows → Q (.ref p) H2) → te σ H1 Q
theorem et_goings {C : Addr} {ad : Ad} {s : Th} {H : Hp} {σ : L2.St} {ta : TE} {E : XK} (A : At .shelf C ad H s) (h : Ev ta σ H (.ref ad.p)) : EvTups (tMeth C "goings" (spGoings C) [] E ta tNil) σ H (s.went.map gV) := fun H1 e Q q =>
  ev_methR (h.mono e) (e _ _ A.ob) nm_goings ea_nil fun H2 e2 => ⟨ad, s, rfl, A.ex (e.trans e2), fun p H3 hp e3 h3 => q p H3 (fresh_back e2 hp) (e2.trans e3) h3⟩
end

end Own
namespace Own
open PySem L2 PyProof.Rows Evl OwnS
/-- a condition of arithmetic -/
local macro_rules | `(tactic| walk_at "side") => `(tactic| first
  | assumption
  | (show _ ∧ _; omega)
  | (apply pos9 <;> omega)
  | (show (0 : Int) < _; omega)
  | (show _ ∨ _; omega)
  | decide
  | omega)
local macro_rules | `(tactic| walk_at "fn") => `(tactic| fail "no fn")
local macro_rules | `(tactic| walk_at "ev") => `(tactic| first
  | ((with_reducible apply ev_var) ; exact rfl)
  | with_reducible exact ev_c
  | ((with_reducible apply ev_op) <;> walk_at "ev")
  | with_reducible exact rv_I0
  | ((with_reducible apply rv_I) ; walk_at "side")
  | ((with_reducible apply rv_eq) ; rfl)
  | ((with_reducible apply rv_ne) ; rfl)
  | ((with_reducible apply ev_isInt) ; walk_at "ev")
  | ((with_reducible apply ev_isBoolI) ; walk_at "ev")
  | ((with_reducible apply ev_isIntB) ; walk_at "ev")
  | ((with_reducible apply ev_isBoolB) ; walk_at "ev")
  | ((with_reducible apply ev_notV) ; walk_at "ev")
  | ((with_reducible apply et_test) ; walk_at "ev")
  | ((with_reducible apply et_B) ; walk_at "ev")
  | ((with_reducible apply et_not) ; walk_at "ev")
  | with_reducible exact ea_nil
  | ((with_reducible apply ea_cons) <;> walk_at "ev")
  | ((with_reducible apply ev_call0) <;> walk_at "ev")
  | ((with_reducible show SpV _ _ _ _); walk_at "fn"))

section
variable {P : Program} {w : World} {K : PySem.W.Frag} {mg : Str → Option Value} {base : Heap}
def spWhole : Sp := fun vs H Q _ => ∃ i : Int, vs = [.int i] ∧ RetV (.bl true) H Q
theorem sv_whole {H : Hp} {i : Int} : SpV spWhole [.int i] H (.bl true) := spv_of fun H1 Q E e q => ⟨_, rfl, q⟩
theorem ok_l_whole (T : Tx K mg) : FnOk P w K mg base CX0 1 T.f_l_whole T.fd_l_whole P_l_whole spWhole := by
  refine T.F_l_whole.ok sc_l_whole (fun vs H Q E h => ?_) (fun cdv A outer s H vs Q E hr h => ?_)
  · obtain ⟨a, rfl, _⟩ := h
    rfl
  · obtain ⟨i, rfl, k⟩ := h
    refine ⟨_, (pss_one (ps_ret (pe_and (pe_callB call_isi (by rfl) T.n_isinstance (by decide +kernel) (pa_cons (pv 0) (pa_cons (pe_bltn (v := .ty "int") (u := .type "int") rfl T.n_int (by decide +kernel) rfl) pa_nil))) (pe_one (pe_not (pe_callB call_isi (by rfl) T.n_isinstance (by decide +kernel) (pa_cons (pv 0) (pa_cons (pe_bltn (v := .ty "bool") (u := .type "bool") rfl T.n_bool (by decide +kernel) rfl) pa_nil)))))))), ?_⟩
    refine s_ret (ev_and1 ?_ (ev_is (v := .bl (!false)) ?_ rfl)) k <;> walk_at "ev"
end

def cellAt (ns : List Int) (k : Nat) : Int := ns.getD k 0
section
variable {P : Program} {w : World} {K : PySem.W.Frag} {mg : Str → Option Value} {base : Heap}
def spCell (K : PySem.W.Frag) : Sp := fun vs H Q _ => ∃ (a : Addr) (ns : List Int) (k : Nat), vs = [.ref a, .int k] ∧ SqL K H a (ns.map V.int) ∧ ns.length ≤ 63 ∧ RetV (.int (cellAt ns k)) H Q
theorem sv_cell {H : Hp} {a : Addr} {ns : List Int} {k : Nat} (h : SqL K H a (ns.map V.int)) (hl : ns.length ≤ 63) : SpV (spCell K) [.ref a, .int k] H (.int (cellAt ns k)) := spv_of fun H1 Q E e q => ⟨_, _, _, rfl, ex_l e h, hl, q⟩
theorem ok_l_cell_at (T : Tx K mg) : FnOk P w K mg base CX0 1 T.f_l_cell_at T.fd_l_cell_at P_l_cell_at (spCell K) := by
  refine T.F_l_cell_at.ok sc_l_cell_at (fun vs H Q E h => ?_) (fun cdv A outer s H vs Q E hr h => ?_)
  · obtain ⟨a, b, c, rfl, _⟩ := h
    rfl
  · obtain ⟨a, ns, c, rfl, hS, hl, k⟩ := h
    refine ⟨_, (pss_cons (ps_if (pt_cmpR op_lt (pv 1) (pe_callB call_len_seq (by rfl) T.n_len PySem.boot_len (pa_cons (pv 0) pa_nil)) (nomark _)) (pss_one (ps_ret (pe_ix ix_list (pv 0) (pv 1) (fun _ _ => rfl)))) pss_nil)
      (pss_one (ps_ret pe_int))), ?_⟩
    refine q_when (et_test (ev_op (ev_var rfl) (ev_len (ev_var rfl) hS) rv_I0)) (fun hb H1 e => ?_) (fun hb H1 e => ?_)
    · have hb := of_decide_eq_true hb
      rw [List.length_map] at hb
      refine s_ret (ev_op (ev_var rfl) (ev_var rfl) (rv_ixL (ex_l e hS) (at_of rfl (v := .int (cellAt ns c)) ?_))) fun H2 e2 => k H2 (e.trans e2)
      unfold cellAt
      rw [List.getElem?_map, List.getElem?_eq_getElem (by omega), List.getD_eq_getElem?_getD, List.getElem?_eq_getElem (by omega)]
      rfl
    · have hb := of_decide_eq_false hb
      rw [List.length_map] at hb
      have e0 : cellAt ns c = 0 := by
        unfold cellAt
        rw [List.getD_eq_getElem?_getD, List.getElem?_eq_none (by omega)]
        rfl
      rw [e0] at k
      exact s_ret ev_c fun H2 e2 => k H2 (e.trans e2)
end

section
variable {P : Program} {w : World} {K : PySem.W.Frag} {mg : Str → Option Value} {base : Heap}
def spLAged : Sp := fun vs H Q _ => ∃ c p t : Int, vs = [.int c, .int p, .int t] ∧ 0 ≤ c ∧ 2 ≤ p ∧ p < 10 ^ 80 ∧ 0 ≤ t ∧ RetV (.int (agedI c p t)) H Q
theorem sv_laged {H : Hp} {c p t : Int} (h1 : 0 ≤ c) (h2 : 2 ≤ p) (h3 : p < 10 ^ 80) (h4 : 0 ≤ t) : SpV spLAged [.int c, .int p, .int t] H (.int (agedI c p t)) := spv_of fun H1 Q E e q => ⟨_, _, _, rfl, h1, h2, h3, h4, q⟩
theorem ok_l_aged (T : Tx K mg) : FnOk P w K mg base CX0 1 T.f_l_aged T.fd_l_aged P_l_aged spLAged := by
  refine T.F_l_aged.ok sc_l_aged (fun vs H Q E h => ?_) (fun cdv A outer s H vs Q E hr h => ?_)
  · obtain ⟨a, b, c, rfl, _⟩ := h
    rfl
  · obtain ⟨c, p, t, rfl, hc, hp, hp9, ht, k⟩ := h
    refine ⟨_, (pss_cons (ps_while PassesOwn.never (PW.pt (pw_and (pt_cmpR op_gt (pv 2) pe_int (nomark _)) (pw_and1 (pt_cmpR op_gt (pv 0) pe_int (nomark _))))) (pss_cons (ps_set (i := 0) sc_l_aged.nd rfl (Or.inl rfl) (pe_op op_fdivW (pv 0) (pv 1)))
      (pss_one (ps_set (i := 2) sc_l_aged.nd rfl (Or.inl rfl) (pe_op op_sub (pv 2) pe_int)))))
      (pss_one (ps_ret (pv 0)))), ?_⟩
    rw [show L2.start N_l_aged [V.int c, V.int p, V.int t] = [some (V.int c), some (V.int p), some (V.int t)] from rfl]
    refine q_while (fun m σ' H' => Ex H H' ∧ ∃ c' t' : Int, σ' = [some (.int c'), some (.int p), some (.int t')] ∧ 0 ≤ c' ∧ 0 ≤ t' ∧ agedI c' p t' = agedI c p t ∧ m = c'.toNat) c.toNat ⟨Ex.refl _, c, t, rfl, hc, ht, rfl, rfl⟩ ?_
    rintro m σ' H' ⟨e, c', t', rfl, hc', ht', he, rfl⟩
    refine ⟨decide (0 < t') && decide (0 < c'), et_and (by walk_at "ev") (fun _ => by walk_at "ev"), fun hb H1 e1 => ?_, fun hb H1 e1 => ?_⟩
    · rw [Bool.and_eq_true, decide_eq_true_eq, decide_eq_true_eq] at hb
      refine ⟨_, fun σ2 H2 h => h, ?_⟩
      have hd : CDivW c' p := pos9 (by omega) hp9
      refine q_asg (v := .int (c' / p)) (by walk_at "ev") fun H2 e2 => ?_
      dsimp only [List.set]
      refine s_asg (v := .int (t' - 1)) (by walk_at "ev") fun H3 e3 => ?_
      dsimp only [List.set]
      refine ⟨(c' / p).toNat, ?_, ((e.trans e1).trans e2).trans e3, c' / p, t' - 1, rfl, Int.ediv_nonneg hc' (by omega), by omega, ?_, rfl⟩
      · have := ediv_lt_self' hb.2 hp
        have : 0 ≤ c' / p := Int.ediv_nonneg hc' (by omega)
        omega
      · rw [agedI_step hp hb.1]
        exact he
    · refine s_ret (ev_var rfl) fun H2 e2 => ?_
      have : c' = agedI c p t := by
        rw [Bool.and_eq_false_iff, decide_eq_false_iff_not, decide_eq_false_iff_not] at hb
        rw [← he]
        rcases hb with hb | hb
        · have : t' = 0 := by omega
          rw [this, agedI_zero]
        · have : c' = 0 := by omega
          rw [this, agedI_nil]
      rw [this]
      exact k _ ((e.trans e1).trans e2)
end

section
variable {P : Program} {w : World} {K : PySem.W.Frag} {mg : Str → Option Value} {base : Heap}
def spSteps : Sp := fun vs H Q _ => ∃ (a : Addr) (d : Deed), vs = [.ref a] ∧ H a = some (.tup d.V) ∧ RetV (.int d.steps) H Q
theorem sv_steps {H : Hp} {a : Addr} {d : Deed} (h : H a = some (.tup d.V)) : SpV spSteps [.ref a] H (.int d.steps) := fun H1 e Q q E => ⟨a, d, rfl, e _ _ h, q⟩
theorem ok_l_steps (T : Tx K mg) : FnOk P w K mg base CX0 1 T.f_l_steps T.fd_l_steps P_l_steps spSteps := by
  refine T.F_l_steps.ok sc_l_steps (fun vs H Q E h => ?_) (fun cdv A outer s H vs Q E hr h => ?_)
  · obtain ⟨_, _, rfl, _⟩ := h
    rfl
  · obtain ⟨a, d, rfl, hD, kk⟩ := h
    refine ⟨_, (pss_cons (ps_if (pt_cmpR op_eq (pe_ix ix_tup (pv 0) pe_int (fun _ _ => rfl)) pe_str (nomark _)) (pss_one (ps_ret (pe_ix ix_tup (pv 0) pe_int (fun _ _ => rfl)))) pss_nil)
      (pss_one (ps_ret (pe_callTy call_int1 (by rfl) T.n_int (by decide +kernel) (pa_cons (pe_cmpR op_eq (pe_ix ix_tup (pv 0) pe_int (fun _ _ => rfl)) pe_str (nomark _)) pa_nil))))), ?_⟩
    rw [show L2.start N_l_steps [V.ref a] = [some (V.ref a)] from rfl]
    have tg : ∀ {H' : Hp} (i : Nat) {v : V}, Ex H H' → d.V[i]? = some v → Ev (tOp (rIxT K) (tVar 0) (tC (.int (i : Int)))) [some (V.ref a)] H' v := fun i _ e h => ev_ixT (ev_var rfl) (e _ _ hD) h
    cases d with
    | rest t =>
      refine q_when (b := true) (et_is (et_test (ev_op (tg 0 (Ex.refl _) rfl) ev_c (rv_eq rfl))) (by decide +kernel)) (fun _ H1 e1 => ?_) (fun hb => nomatch hb)
      exact s_ret (tg 2 e1 rfl) fun H2 e2 => kk H2 (e1.trans e2)
    | drop n =>
      refine q_when (b := false) (et_is (et_test (ev_op (tg 0 (Ex.refl _) rfl) ev_c (rv_eq rfl))) (by decide +kernel)) (fun hb => nomatch hb) (fun _ H1 e1 => ?_)
      exact s_ret (ev_intB (ev_is (w := .bl false) (ev_op (tg 0 e1 rfl) ev_c (rv_eq rfl)) (by decide +kernel))) fun H2 e2 => kk H2 (e1.trans e2)
    | ask n x =>
      refine q_when (b := false) (et_is (et_test (ev_op (tg 0 (Ex.refl _) rfl) ev_c (rv_eq rfl))) (by decide +kernel)) (fun hb => nomatch hb) (fun _ H1 e1 => ?_)
      exact s_ret (ev_intB (ev_is (w := .bl true) (ev_op (tg 0 e1 rfl) ev_c (rv_eq rfl)) (by decide +kernel))) fun H2 e2 => kk H2 (e1.trans e2)
end

/-! ### k06: a going looked at; what faded -/
section
variable {P : Program} {w : World} {K : PySem.W.Frag} {mg : Str → Option Value} {base : Heap}
theorem eqV_str (a b : Str) : eqV (.str a) (.str b) = decide (a = b) := by
  first
  | rfl
  | (unfold eqV; by_cases h : a = b <;> simp [h])
theorem inV_str {n : Str} {ns : List Str} : inV (.str n) (ns.map V.str) = decide (n ∈ ns) := by
  unfold inV
  rw [List.any_map, Bool.eq_iff_iff, List.any_eq_true, decide_eq_true_eq]
  constructor
  · rintro ⟨m, hm, h⟩
    have h : eqV (.str m) (.str n) = true := h
    rw [eqV_str, decide_eq_true_eq] at h
    exact h ▸ hm
  · intro h
    refine ⟨n, h, ?_⟩
    show eqV (.str n) (.str n) = true
    rw [eqV_str]
    exact decide_eq_true rfl
theorem flat_strs (ns : List Str) : (ns.map V.str).all flatV = true := by
  rw [List.all_map, List.all_eq_true]
  intro x _
  rfl
/-- a table of names and ints -/
def Cd (ns : List Str) (f : Str → Int) : List (Key × V) := ns.map fun n => ((Sum.inr n : Key), V.int (f n))
theorem val_cd {f : Str → Int} {n : Str} : ∀ {ns : List Str}, n ∈ ns → valV (Cd ns f) (Sum.inr n : Key) = some (.int (f n))
  | [], h => by cases h
  | m :: r, h => by
    by_cases e : m = n
    · rw [show Cd (m :: r) f = ((Sum.inr m : Key), V.int (f m)) :: Cd r f from rfl, valV_pos (p := ((Sum.inr m : Key), V.int (f m))) (by rw [e]), e]
    · rw [show Cd (m :: r) f = ((Sum.inr m : Key), V.int (f m)) :: Cd r f from rfl, valV_neg (p := ((Sum.inr m : Key), V.int (f m))) (fun q => e (Sum.inr.inj q))]
      rcases List.mem_cons.mp h with q | q
      · exact absurd q.symm e
      · exact val_cd q
theorem ev_cd {σ : L2.St} {H : Hp} {td ty : TE} {d : Addr} {ns : List Str} {f : Str → Int} {n : Str} (hd : Ev td σ H (.ref d)) (hy : Ev ty σ H (.str n)) (h : H d = some (.dK (Cd ns f))) (hn : n ∈ ns) : Ev (tDGet td ty) σ H (.int (f n)) := ev_dget hd hy h (val_cd hn)
theorem ev_lenT {σ : L2.St} {H : Hp} {ta : TE} {p : Addr} {xs : List V} (ha : Ev ta σ H (.ref p)) (h : H p = some (.tup xs)) : Ev (tCB (rLenS K) (tCons ta tNil)) σ H (.int (xs.length : Int)) := fun H1 e Q q =>
  ha H1 e _ fun H2 e2 => ⟨p, xs, rfl, Or.inr (SqT.of (e2 _ _ (e _ _ h))), q H2 e2⟩
theorem ed_U {σ : L2.St} {H : Hp} {te : TE} {xs : List V} (h : EvU te σ H xs) (hf : ∀ x ∈ xs, FlatV x) : EvD K te σ H (.tuple (xs.map fdV)) := fun H1 e Q q => h H1 e Q fun p H2 hp e2 h2 => q _ H2 e2 (.tup (SqT.of h2) (dpAll_flat hf))
theorem dp_tuple {H : Hp} {p : Addr} {xs : List V} (h : H p = some (.tup xs)) (hf : ∀ x ∈ xs, FlatV x) : Dp K H (.ref p) (.tuple (xs.map fdV)) := .tup (SqT.of h) (dpAll_flat hf)
def gD (g : Going) : PyData := .tuple ((gV g).map fdV)
structure OkN (g : Going) : Prop where
  name : PyData.strOk g.name = true
  reason : PyData.strOk g.reason = true
theorem flat_g {g : Going} (h : OkN g) : ∀ x ∈ gV g, FlatV x := fun x hx => by
  simp only [gV, List.mem_cons, List.not_mem_nil, or_false] at hx
  rcases hx with rfl | rfl | rfl | rfl | rfl
  · exact .int _
  · exact .str _ h.name
  · exact .str _ h.reason
  · exact .int _
  · exact .int _
theorem okN_of {ns : List Str} (gd : ∀ n ∈ ns, GoodName n) {g : Going} (h : OkG ns g) : OkN g := ⟨strOk_good (gd _ h.1), by rcases h.2 with h | h | h <;> rw [h] <;> decide +kernel⟩
theorem dp_tups {H : Hp} {p : Addr} {gs : List Going} (h : TupsAt H p (gs.map gV)) (ok : ∀ g ∈ gs, OkN g) : Dp K H (.ref p) (.list (gs.map gD)) := by
  obtain ⟨vs, h1, h2, h3⟩ := h
  refine .lst (SqL.of h1) ?_
  rw [List.length_map] at h2
  clear h1
  induction gs generalizing vs with
  | nil =>
    cases vs with
    | nil => exact .nil
    | cons a r => cases h2
  | cons g r ih =>
    cases vs with
    | nil => cases h2
    | cons a vs =>
      obtain ⟨q, q1, q2⟩ := h3 0 (gV g) rfl
      cases q1
      exact .cons (dp_tuple q2 (flat_g (ok g List.mem_cons_self))) (ih (fun x hx => ok x (List.mem_cons_of_mem _ hx)) vs (Nat.succ.inj h2) fun i r hr => h3 (i + 1) r hr)
theorem gD_shaped {gs : List Going} (ok : ∀ g ∈ gs, OkN g) : SeqAt.shaped (.list (gs.map gD)) = true := by
  refine shaped_all fun d hd => ?_
  obtain ⟨g, hg, rfl⟩ := List.mem_map.mp hd
  refine ⟨can_flat (flat_g (ok g hg)), ?_⟩
  unfold gD
  rw [PyData.depth, dep_flat (flat_g (ok g hg))]
  decide
theorem ed_rows {σ : L2.St} {H : Hp} {te : TE} {gs : List Going} (h : EvRows te σ H (gs.map gV)) (ok : ∀ g ∈ gs, OkN g) : EvD K te σ H (.list (gs.map gD)) := fun H1 e Q q => h H1 e Q fun p H2 hp e2 h2 => q _ H2 e2 (dp_tups h2 ok)
/-- len(told) -/
theorem tups_len {H : Hp} {p : Addr} {rows : List (List V)} {σ : L2.St} {te : TE} (h : TupsAt H p rows) (he : Ev te σ H (.ref p)) : Ev (tCB (rLenS K) (tCons te tNil)) σ H (.int (rows.length : Int)) := by
  obtain ⟨vs, h1, h2, _⟩ := h
  rw [← h2]
  exact ev_len he (SqL.of h1)
def spKinds : Sp := fun vs H Q _ => ∃ (a : Addr) (g : Going), vs = [.ref a] ∧ H a = some (.tup (gV g)) ∧ RetV (.bl true) H Q
theorem sv_kinds {H : Hp} {a : Addr} {g : Going} (h : H a = some (.tup (gV g))) : SpV spKinds [.ref a] H (.bl true) := fun H1 e Q q E => ⟨a, g, rfl, e _ _ h, q⟩
theorem ok_l_kinds (T : Tx K mg) : FnOk P w K mg base CX0 2 T.f_l_kinds T.fd_l_kinds P_l_kinds spKinds := by
  refine T.F_l_kinds.ok sc_l_kinds (fun vs H Q E h => ?_) (fun cdv A outer s H vs Q E hr h => ?_)
  · obtain ⟨_, _, rfl, _⟩ := h
    rfl
  · obtain ⟨a, g, rfl, h, kk⟩ := h
    refine ⟨_, (pss_cons (ps_if (PW.pt (pw_or (pt_not (pt_val (pe_callB call_isi (by rfl) T.n_isinstance (by decide +kernel) (pa_cons (pv 0) (pa_cons (pe_bltn (v := .ty "tuple") (u := .type "tuple") rfl T.n_tuple (by decide +kernel) rfl) pa_nil))))) (pw_or (pt_cmpR op_ne (pe_callB call_len_seq (by rfl) T.n_len PySem.boot_len (pa_cons (pv 0) pa_nil)) pe_int (nomark _)) (pw_or (pt_not (pt_val (pe_callB call_isi (by rfl) T.n_isinstance (by decide +kernel) (pa_cons (pe_ix ix_tup (pv 0) pe_int (fun _ _ => rfl)) (pa_cons (pe_bltn (v := .ty "str") (u := .type "str") rfl T.n_str (by decide +kernel) rfl) pa_nil))))) (pw_or1 (pt_not (pt_val (pe_callB call_isi (by rfl) T.n_isinstance (by decide +kernel) (pa_cons (pe_ix ix_tup (pv 0) pe_int (fun _ _ => rfl)) (pa_cons (pe_bltn (v := .ty "str") (u := .type "str") rfl T.n_str (by decide +kernel) rfl) pa_nil)))))))))) (pss_one (ps_ret pe_bl)) pss_nil)
      (pss_one (ps_ret (pe_and (pe_call (ok_l_whole T) (hr.mono (by decide)) rfl T.mg_l_whole T.F_l_whole.kp T.b_l_whole .nil pass0 (pa_cons (pe_ix ix_tup (pv 0) pe_int (fun _ _ => rfl)) pa_nil)) (pe_and (pe_call (ok_l_whole T) (hr.mono (by decide)) rfl T.mg_l_whole T.F_l_whole.kp T.b_l_whole .nil pass0 (pa_cons (pe_ix ix_tup (pv 0) pe_int (fun _ _ => rfl)) pa_nil)) (pe_one (pe_call (ok_l_whole T) (hr.mono (by decide)) rfl T.mg_l_whole T.F_l_whole.kp T.b_l_whole .nil pass0 (pa_cons (pe_ix ix_tup (pv 0) pe_int (fun _ _ => rfl)) pa_nil)))))))), ?_⟩
    rw [show L2.start N_l_kinds [V.ref a] = [some (V.ref a)] from rfl]
    have tg : ∀ {H' : Hp} (i : Nat) {v : V}, Ex H H' → (gV g)[i]? = some v → Ev (tOp (rIxT K) (tVar 0) (tC (.int (i : Int)))) [some (V.ref a)] H' v := fun i _ e hi => ev_ixT (ev_var rfl) (e _ _ h) hi
    refine q_when (b := false) (et_is (et_or (a := false) (b := false) (et_not (et_B (ev_isTup (ev_var rfl) h))) fun _ => et_or (a := false) (b := false) (et_is (et_test (ev_op (ev_lenT (ev_var rfl) h) ev_c (rv_ne rfl))) (by show (!decide (V.int 5 = V.int 5)) = false; rw [decide_eq_true rfl]; rfl)) fun _ => et_or (a := false) (b := false) (et_not (et_B (ev_isStr (tg 1 (Ex.refl _) rfl)))) fun _ => et_not (et_tst (ev_isStr (tg 2 (Ex.refl _) rfl)))) rfl) (fun hb => nomatch hb) (fun _ H1 e1 => ?_)
    exact s_ret (v := .bl true) (ev_and1 (b := true) (ev_call0 (ea_cons (tg 0 e1 rfl) ea_nil) sv_whole) (ev_and1 (b := true) (ev_call0 (ea_cons (tg 3 e1 rfl) ea_nil) sv_whole) (ev_call0 (ea_cons (tg 4 e1 rfl) ea_nil) sv_whole))) fun H2 e2 => kk H2 (e1.trans e2)
/-- the tables, the names that stand -/
structure Tab (H : Hp) (ca la sa : Addr) (ns : List Str) (c l : Str → Int) (st : List Str) : Prop where
  c : H ca = some (.dK (Cd ns c))
  l : H la = some (.dK (Cd ns l))
  s : H sa = some (.lst (st.map V.str))
  sub : ∀ n ∈ st, n ∈ ns
  good : ∀ n ∈ ns, GoodName n
  nd : st.Nodup
  len : st.length ≤ 1000
theorem Tab.ex {H H' : Hp} {ca la sa : Addr} {ns : List Str} {c l : Str → Int} {st : List Str} (h : Tab H ca la sa ns c l st) (e : Ex H H') : Tab H' ca la sa ns c l st := ⟨e _ _ h.c, e _ _ h.l, e _ _ h.s, h.sub, h.good, h.nd, h.len⟩
def spIsGoing : Sp := fun vs H Q _ => ∃ (a : Addr) (g : Going) (num : Int) (reason : Str) (ca la sa : Addr) (ns : List Str) (c l : Str → Int) (st : List Str), vs = [.ref a, .int num, .str reason, .ref ca, .ref la, .ref sa] ∧ H a = some (.tup (gV g)) ∧ Tab H ca la sa ns c l st ∧ g.name ∈ st ∧ g = ⟨num, g.name, reason, c g.name, l g.name⟩ ∧ PyData.strOk reason = true ∧ RetV (.bl true) H Q
theorem sv_isGoing {H : Hp} {a : Addr} {g : Going} {num : Int} {reason : Str} {ca la sa : Addr} {ns : List Str} {c l : Str → Int} {st : List Str} (h : H a = some (.tup (gV g))) (t : Tab H ca la sa ns c l st) (hm : g.name ∈ st) (hg : g = ⟨num, g.name, reason, c g.name, l g.name⟩) (ok : PyData.strOk reason = true) : SpV spIsGoing [.ref a, .int num, .str reason, .ref ca, .ref la, .ref sa] H (.bl true) := fun H1 e Q q E => ⟨a, g, num, reason, ca, la, sa, ns, c, l, st, rfl, e _ _ h, t.ex e, hm, hg, ok, q⟩
theorem ok_l_is_going (T : Tx K mg) : FnOk P w K mg base CX0 3 T.f_l_is_going T.fd_l_is_going P_l_is_going spIsGoing := by
  refine T.F_l_is_going.ok sc_l_is_going (fun vs H Q E h => ?_) (fun cdv A outer s H vs Q E hr h => ?_)
  · obtain ⟨_, _, _, _, _, _, _, _, _, _, _, rfl, _⟩ := h
    rfl
  · obtain ⟨a, g, num, reason, ca, la, sa, ns, c, l, st, rfl, h, t, hm, hg, ok, kk⟩ := h
    have hu := hu_of hr
    refine ⟨_, (pss_cons (ps_if (PW.pt (pw_or (pt_not (pt_val (pe_call (ok_l_kinds T) (hr.mono (by decide)) rfl T.mg_l_kinds T.F_l_kinds.kp T.b_l_kinds .nil pass0 (pa_cons (pv 0) pa_nil)))) (pw_or1 (pt_cmpR op_notIn_seq (pe_ix ix_tup (pv 0) pe_int (fun _ _ => rfl)) (pv 5) (by rfl))))) (pss_one (ps_ret pe_bl)) pss_nil)
      (pss_one (ps_ret (pe_cmpR (op_eqD hr.units) (pv 0) (pe_tup (pa_cons (pv 1) (pa_cons (pe_ix ix_tup (pv 0) pe_int (fun _ _ => rfl)) (pa_cons (pv 2) (pa_cons (pe_dget hu (pv 3) (pe_ix ix_tup (pv 0) pe_int (fun _ _ => rfl)) (fun _ _ => rfl)) (pa_cons (pe_dget hu (pv 4) (pe_ix ix_tup (pv 0) pe_int (fun _ _ => rfl)) (fun _ _ => rfl)) pa_nil)))))) (nomark _))))), ?_⟩
    rw [show L2.start N_l_is_going [V.ref a, V.int num, V.str reason, V.ref ca, V.ref la, V.ref sa] = [some (V.ref a), some (V.int num), some (V.str reason), some (V.ref ca), some (V.ref la), some (V.ref sa)] from rfl]
    have tg : ∀ {H' : Hp}, Ex H H' → Ev (tOp (rIxT K) (tVar 0) (tC (.int 1))) [some (V.ref a), some (V.int num), some (V.str reason), some (V.ref ca), some (V.ref la), some (V.ref sa)] H' (.str g.name) := fun e => ev_ixT (i := 1) (ev_var rfl) (e _ _ h) rfl
    refine q_when (b := false) (et_is (et_or (a := false) (b := false) (et_not (et_B (ev_call0 (ea_cons (ev_var rfl) ea_nil) (sv_kinds h)))) fun _ => et_is (et_test (ev_op (tg (Ex.refl _)) (ev_var rfl) (rv_niL (SqL.of t.s) rfl (flat_strs st)))) (by rw [inV_str, decide_eq_true hm]; rfl)) rfl) (fun hb => nomatch hb) (fun _ H1 e1 => ?_)
    have okn : OkN g := ⟨strOk_good (t.good _ (t.sub _ hm)), by rw [hg]; exact ok⟩
    have hn := t.sub _ hm
    have t1 := t.ex e1
    have hV : gV g = [.int num, .str g.name, .str reason, .int (c g.name), .int (l g.name)] := by
      conv => lhs; rw [hg]
      rfl
    have hU : EvU (tTup (tCons (tVar 1) (tCons (tOp (rIxT K) (tVar 0) (tC (.int 1))) (tCons (tVar 2) (tCons (tDGet (tVar 3) (tOp (rIxT K) (tVar 0) (tC (.int 1)))) (tCons (tDGet (tVar 4) (tOp (rIxT K) (tVar 0) (tC (.int 1)))) tNil)))))) [some (V.ref a), some (V.int num), some (V.str reason), some (V.ref ca), some (V.ref la), some (V.ref sa)] H1 (gV g) := by
      rw [hV]
      exact eu_tup (ea_cons (ev_var rfl) (ea_cons (tg e1) (ea_cons (ev_var rfl) (ea_cons (ev_cd (ev_var rfl) (tg e1) t1.c hn) (ea_cons (ev_cd (ev_var rfl) (tg e1) t1.l hn) ea_nil))))) (by simp)
    exact s_ret (v := .bl true) (ev_eqD (ed_R (ev_var rfl) (dp_tuple (e1 _ _ h) (flat_g okn))) (ed_U hU (flat_g okn)) (shaped_tup (flat_g okn))) fun H2 e2 => kk H2 (e1.trans e2)
/-! what faded -/
theorem fade_left {num : Int} {gs : List Going} {c l : Str → Int} {st : List Str} (F : FadeOk num gs c l st) : leftD st gs = st.filter fun n => decide (c n ≠ 0) := by
  unfold leftD
  apply List.filter_congr
  intro m hm
  rw [decide_eq_decide]
  constructor
  · exact fun h q => h (F.all m hm q)
  · rintro h q
    obtain ⟨g, hg, rfl⟩ := List.mem_map.mp q
    exact h (F.row g hg).2.2.2.1
theorem leftD_snoc {st : List Str} {gs : List Going} {i : Nat} {g : Going} (h : gs[i]? = some g) : leftD st (gs.take (i + 1)) = (leftD st (gs.take i)).filter fun m => decide (m ≠ g.name) := by
  unfold leftD
  rw [List.take_add_one, h, List.filter_filter]
  apply List.filter_congr
  intro m _
  rw [Bool.eq_iff_iff, Bool.and_eq_true, decide_eq_true_eq, decide_eq_true_eq, decide_eq_true_eq, List.map_append, List.mem_append]
  show ¬ (_ ∨ m ∈ [g.name]) ↔ _
  rw [List.mem_singleton]
  constructor
  · exact fun h => ⟨fun q => h (.inr q), fun q => h (.inl q)⟩
  · rintro ⟨h1, h2⟩ (q | q)
    · exact h2 q
    · exact h1 q
theorem fade_in {num : Int} {gs : List Going} {c l : Str → Int} {st : List Str} (F : FadeOk num gs c l st) {i : Nat} {g : Going} (h : gs[i]? = some g) : g.name ∈ leftD st (gs.take i) := by
  obtain ⟨hi, e⟩ := List.getElem?_eq_some_iff.mp h
  refine List.mem_filter.mpr ⟨(F.row g (List.mem_of_getElem? h)).2.2.1, decide_eq_true fun q => ?_⟩
  obtain ⟨g', hg', en⟩ := List.mem_map.mp q
  obtain ⟨j, hj, ej⟩ := List.mem_iff_getElem.mp hg'
  rw [List.getElem_take] at ej
  rw [List.length_take] at hj
  have := (List.pairwise_iff_getElem.mp F.ord) j i (by omega) hi (by omega)
  rw [ej, e, en] at this
  omega
def spFaded : Sp := fun vs H Q _ => ∃ (num : Int) (tl ca la sa : Addr) (ns : List Str) (c l : Str → Int) (st : List Str) (gs : List Going), vs = [.int num, .ref tl, .ref ca, .ref la, .ref sa] ∧ TupsAt H tl (gs.map gV) ∧ Tab H ca la sa ns c l st ∧ FadeOk num gs c l st ∧ RetL ((leftD st gs).map V.str) H Q
theorem ok_l_left_by_faded (T : Tx K mg) : FnOk P w K mg base CX0 4 T.f_l_left_by_faded T.fd_l_left_by_faded P_l_left_by_faded spFaded := by
  refine T.F_l_left_by_faded.ok sc_l_left_by_faded (fun vs H Q E h => ?_) (fun cdv A outer s H vs Q E hr h => ?_)
  · obtain ⟨_, _, _, _, _, _, _, _, _, _, rfl, _⟩ := h
    rfl
  · obtain ⟨num, tl, ca, la, sa, ns, c, l, st, gs, rfl, hT, t, F, kk⟩ := h
    have hu := hu_of hr
    refine ⟨_, (pss_cons (ps_set (i := 5) sc_l_left_by_faded.nd rfl (Or.inl rfl) (pe_callTy call_list_of (by rfl) T.n_list (by decide +kernel) (pa_cons (pv 4) pa_nil)))
      (pss_cons (ps_set (i := 6) sc_l_left_by_faded.nd rfl (Or.inl rfl) pe_int)
      (pss_cons (ps_for PassesOwn.never rfl (pi_list (pv 1)) (pg_name (i := 7) sc_l_left_by_faded.nd rfl (Or.inl rfl)) (pss_cons (ps_if (pt_not (pt_val (pe_call (ok_l_is_going T) (hr.mono (by decide)) rfl T.mg_l_is_going T.F_l_is_going.kp T.b_l_is_going .nil pass0 (pa_cons (pv 7) (pa_cons (pv 0) (pa_cons pe_str (pa_cons (pv 2) (pa_cons (pv 3) (pa_cons (pv 5) pa_nil))))))))) (pss_one (ps_ret pe_non)) pss_nil)
      (pss_cons (ps_if (PW.pt (pw_or (pt_cmpR op_ne (pe_dget hu (pv 2) (pe_ix ix_tup (pv 7) pe_int (fun _ _ => rfl)) (fun _ _ => rfl)) pe_int (nomark _)) (pw_or1 (pt_cmpR op_le (pe_dget hu (pv 3) (pe_ix ix_tup (pv 7) pe_int (fun _ _ => rfl)) (fun _ _ => rfl)) (pv 6) (nomark _))))) (pss_one (ps_ret pe_non)) pss_nil)
      (pss_cons (ps_set (i := 6) sc_l_left_by_faded.nd rfl (Or.inl rfl) (pe_dget hu (pv 3) (pe_ix ix_tup (pv 7) pe_int (fun _ _ => rfl)) (fun _ _ => rfl)))
      (pss_one (ps_expr (pe_bm PySem.F.plainAttrs_list PySem.F.slot_list_remove PySem.F.type_list_remove mt_removeT (pv 5) (pa_cons (pe_ix ix_tup (pv 7) pe_int (fun _ _ => rfl)) pa_nil))))))))
      (pss_cons (ps_if (pt_val (pe_callB (cr_any rfl) (by rfl) T.n_any (by decide +kernel) (pa_cons (pe_lc (own := [("_law_name", 8)]) (g := (gName 8)) (by rfl) sc_l_left_by_faded.nd (pi_list (pv 5)) (blkOk_by (own := [("_law_name", 8)]) (N := N_l_left_by_faded) (sc := defScope s_l_left_by_faded) (by decide +kernel)) (fun _ _ _ _ _ => (pg_name (i := 8) sc_l_left_by_faded.nd rfl (Or.inl rfl))) (fun _ _ _ _ _ => pts_nil) (fun _ _ _ _ _ => (pe_cmpR op_eq (pe_dget hu (pv 2) (pv 8) (fun _ _ => rfl)) pe_int (nomark _)))) pa_nil))) (pss_one (ps_ret pe_non)) pss_nil)
      (pss_one (ps_ret (pv 5))))))), ?_⟩
    rw [show L2.start N_l_left_by_faded [V.int num, V.ref tl, V.ref ca, V.ref la, V.ref sa] = [some (V.int num), some (V.ref tl), some (V.ref ca), some (V.ref la), some (V.ref sa), none, none, none, none] from rfl]
    refine q_asgL (el_list (ev_var rfl) (SqL.of t.s)) fun p H1 hp e1 h1 => ?_
    dsimp only [List.set]
    refine q_asg (v := .int 0) ev_c fun H2 e2 => ?_
    dsimp only [List.set]
    obtain ⟨vs, v1, v2, v3⟩ := hT
    rw [List.length_map] at v2
    have E2 := e1.trans e2
    refine q_forLn (a := tl) (xs := vs) (ev_var rfl) (SqL.of (E2 _ _ v1)) (fun i σ' H' => ∃ (z : Int) (x7 : Option V), σ' = [some (V.int num), some (V.ref tl), some (V.ref ca), some (V.ref la), some (V.ref sa), some (V.ref p), some (V.int z), x7, none] ∧ Ex H H' ∧ H' p = some (.lst ((leftD st (gs.take i)).map V.str)) ∧ ∀ j g, i ≤ j → gs[j]? = some g → z < l g.name)
      (fun H3 e3 => ⟨0, _, rfl, E2.trans e3, by rw [show gs.take 0 = [] from rfl, leftD_nil]; exact e3 _ _ (e2 _ _ h1), fun j g _ hg => by have := (F.row g (List.mem_of_getElem? hg)).2.2.2.2.2.2; omega⟩) (fun i σ' H' _ h => by obtain ⟨_, _, _, e, _⟩ := h; exact SqL.of (e _ _ v1)) ?_ ?_
    · rintro i x σ' H3 hx ⟨z, x7, rfl, e3, hp3, hz⟩
      dsimp only [List.set]
      have hi : i < gs.length := by have := (List.getElem?_eq_some_iff.mp hx).1; omega
      obtain ⟨g, hg⟩ : ∃ g, gs[i]? = some g := ⟨_, List.getElem?_eq_getElem hi⟩
      obtain ⟨q, q1, q2⟩ := v3 i (gV g) (by rw [List.getElem?_map, hg]; rfl)
      rw [hx] at q1
      cases q1
      obtain ⟨r1, r2, r3, r4, r5, r6, r7⟩ := F.row g (List.mem_of_getElem? hg)
      have hin := fade_in F hg
      have hn := t.sub _ r3
      have t3 := t.ex e3
      have sublen : (leftD st (gs.take i)).length ≤ 1000 := Nat.le_trans (List.length_filter_le _ _) t.len
      have ndl : (leftD st (gs.take i)).Nodup := nodup_filter _ t.nd
      have tL : Tab H3 ca la p ns c l (leftD st (gs.take i)) := ⟨t3.c, t3.l, hp3, fun n h => t.sub n (List.mem_filter.mp h).1, t.good, ndl, sublen⟩
      have g3 := e3 _ _ q2
      have hgE : g = ⟨num, g.name, "faded", c g.name, l g.name⟩ := by
        obtain ⟨a1, a2, a3, a4, a5⟩ := g
        dsimp only at r1 r2 r5 r6 r4 ⊢
        rw [r1, r2, r5, r6, r4]
      refine q_when (b := false) (et_not (et_tst (ev_call0 (vs := [.ref q, .int num, .str "faded", .ref ca, .ref la, .ref p]) (ea_cons (ev_var rfl) (ea_cons (ev_var rfl) (ea_cons ev_c (ea_cons (ev_var rfl) (ea_cons (ev_var rfl) (ea_cons (ev_var rfl) ea_nil)))))) (sv_isGoing g3 tL hin hgE (by decide +kernel))))) (fun hb => nomatch hb) (fun _ H4 e4 => ?_)
      have t4 := t3.ex e4
      have g4 := e4 _ _ g3
      have lt := hz i g (Nat.le_refl _) hg
      refine q_when (b := false) (et_is (et_or (a := false) (b := false) (et_is (et_test (ev_op (ev_cd (ev_var rfl) (ev_ixT (i := 1) (ev_var rfl) g4 rfl) t4.c hn) ev_c (rv_ne rfl))) (by rw [r4, decide_eq_true rfl]; rfl)) fun _ => et_is (et_test (ev_op (ev_cd (ev_var rfl) (ev_ixT (i := 1) (ev_var rfl) g4 rfl) t4.l hn) (ev_var rfl) rv_I0)) (decide_eq_false (by omega))) rfl) (fun hb => nomatch hb) (fun _ H5 e5 => ?_)
      have t5 := t4.ex e5
      have g5 := e5 _ _ g4
      refine q_asg (v := .int (l g.name)) (ev_cd (ev_var rfl) (ev_ixT (i := 1) (ev_var rfl) g5 rfl) t5.l hn) fun H6 e6 => ?_
      dsimp only [List.set]
      have E6 := (e4.trans e5).trans e6
      refine s_removeT (ev_var rfl) (E6 _ _ hp3) (ev_ixT (i := 1) (ev_var rfl) (e6 _ _ g5) rfl) ndl hin fun H7 e7 => ?_
      refine ⟨l g.name, _, rfl, (e3.trans (E6.trans e7)).mut hp, by rw [upd_same, leftD_snoc hg], fun j g' hj hg' => ?_⟩
      obtain ⟨hj1, ej⟩ := List.getElem?_eq_some_iff.mp hg'
      have := (List.pairwise_iff_getElem.mp F.ord) i j hi hj1 (by omega)
      rw [(List.getElem?_eq_some_iff.mp hg).2, ej] at this
      exact this
    · rintro σ' H3 ⟨z, x7, rfl, e3, hp3, _⟩
      rw [v2, List.take_length] at hp3
      have t3 := t.ex e3
      have hall : ∀ n ∈ leftD st gs, c n ≠ 0 := fun n hn => by
        rw [fade_left F] at hn
        exact of_decide_eq_true (List.mem_filter.mp hn).2
      have hsub : ∀ n ∈ leftD st gs, n ∈ ns := fun n hn => t.sub n (List.mem_filter.mp hn).1
      refine q_when (b := false) (et_tst (ev_is (ev_any (el_lcB (fun _ => false) (ei_list (ev_var rfl) (SqL.of hp3)) (by rw [List.length_map]; exact Nat.le_trans (Nat.le_trans (List.length_filter_le _ _) t.len) (by decide)) ?_)) ?_)) (fun hb => nomatch hb) (fun _ H4 e4 => ?_)
      · rintro i H4 x H5 hi e4 ⟨rfl, hx⟩
        rw [List.getElem?_map] at hx
        obtain ⟨n, hn, rfl⟩ := Option.map_eq_some_iff.mp hx
        have hm := List.mem_of_getElem? hn
        refine ⟨Ex.refl _, _, got_name, rfl, ?_⟩
        exact ev_is (ev_op (ev_cd (ev_var rfl) (ev_var rfl) (e4 _ _ t3.c) (hsub n hm)) ev_c (rv_eq rfl)) (by rw [dec_i, decide_eq_false (hall n hm)])
      · have : ((List.range ((leftD st gs).map V.str).length).map fun _ => false).any id = false := by
          rw [List.any_eq_false]
          intro x hx
          obtain ⟨_, _, rfl⟩ := List.mem_map.mp hx
          decide
        rw [this]
      exact s_ret (ev_var rfl) fun H5 e5 => kk p H5 hp ((e3.trans e4).trans e5) (e5 _ _ (e4 _ _ hp3))
end

end Own
namespace Own
open PySem L2 PyProof.Rows Evl OwnS
/-- a condition of arithmetic -/
local macro_rules | `(tactic| walk_at "side") => `(tactic| first
  | assumption
  | (show _ ∧ _; omega)
  | (apply pos9 <;> omega)
  | (show (0 : Int) < _; omega)
  | (show _ ∨ _; omega)
  | decide
  | omega)
local macro_rules | `(tactic| walk_at "fn") => `(tactic| fail "no fn")
local macro_rules | `(tactic| walk_at "ev") => `(tactic| first
  | ((with_reducible apply ev_var) ; exact rfl)
  | with_reducible exact ev_c
  | ((with_reducible apply ev_op) <;> walk_at "ev")
  | with_reducible exact rv_I0
  | ((with_reducible apply rv_I) ; walk_at "side")
  | ((with_reducible apply rv_eq) ; rfl)
  | ((with_reducible apply rv_ne) ; rfl)
  | ((with_reducible apply ev_isInt) ; walk_at "ev")
  | ((with_reducible apply ev_isBoolI) ; walk_at "ev")
  | ((with_reducible apply ev_isIntB) ; walk_at "ev")
  | ((with_reducible apply ev_isBoolB) ; walk_at "ev")
  | ((with_reducible apply ev_notV) ; walk_at "ev")
  | ((with_reducible apply et_test) ; walk_at "ev")
  | ((with_reducible apply et_B) ; walk_at "ev")
  | ((with_reducible apply et_not) ; walk_at "ev")
  | with_reducible exact ea_nil
  | ((with_reducible apply ea_cons) <;> walk_at "ev")
  | ((with_reducible apply ev_call0) <;> walk_at "ev")
  | ((with_reducible show SpV _ _ _ _); walk_at "fn"))

/-! ### k06: what else went; the walk -/
section
variable {P : Program} {w : World} {K : PySem.W.Frag} {mg : Str → Option Value} {base : Heap}
def nmD : Deed → Str
  | .ask n _ => n
  | .drop n => n
  | .rest _ => ""
def kdD : Deed → Str
  | .ask _ _ => "ask"
  | .drop _ => "drop"
  | .rest _ => "rest"
theorem V_0 (d : Deed) : d.V[0]? = some (.str (kdD d)) := by cases d <;> rfl
theorem V_1 (d : Deed) : d.V[1]? = some (.str (nmD d)) := by cases d <;> rfl
def bDrop (d : Deed) (st1 : List Str) : Bool := decide (V.str (kdD d) = V.str "drop") && decide (nmD d ∈ st1)
def bFull (d : Deed) (st1 : List Str) (pl : Int) : Bool := decide (V.str (kdD d) = V.str "ask") && (!decide (nmD d ∈ st1) && decide ((st1.length : Int) = pl))
theorem rest_cases {num : Int} {d : Deed} {gs : List Going} {c l : Str → Int} {st1 : List Str} {pl : Int} (R : RestOk num d gs c l st1 pl) {ρ1 ρ : Str} (h1 : bDrop d st1 = true → ρ1 = "dropped") (h2 : bDrop d st1 = false → ρ1 = "") (h3 : bFull d st1 pl = true → ρ = "crowded") (h4 : bFull d st1 pl = false → ρ = ρ1) :
    (ρ = "" ∧ gs = []) ∨ ∃ v, v ∈ st1 ∧ gs = [⟨num, v, ρ, c v, l v⟩] ∧ ((ρ = "dropped" ∧ nmD d = v) ∨ (ρ = "crowded" ∧ ∀ m ∈ st1, lexQ (c m, l m) (c v, l v) = false)) := by
  have ad : decide (V.str "ask" = V.str "drop") = false := by decide +kernel
  have da : decide (V.str "drop" = V.str "ask") = false := by decide +kernel
  have rd : decide (V.str "rest" = V.str "drop") = false := by decide +kernel
  have ra : decide (V.str "rest" = V.str "ask") = false := by decide +kernel
  cases d with
  | rest t =>
    left
    have b1 : bDrop (.rest t) st1 = false := by unfold bDrop kdD; rw [rd]; rfl
    have b2 : bFull (.rest t) st1 pl = false := by unfold bFull kdD; rw [ra]; rfl
    exact ⟨(h4 b2).trans (h2 b1), R⟩
  | drop n =>
    have b2 : bFull (.drop n) st1 pl = false := by unfold bFull kdD; rw [da]; rfl
    rcases R with ⟨a, b⟩ | ⟨a, b⟩
    · have b1 : bDrop (.drop n) st1 = false := by unfold bDrop nmD; rw [decide_eq_false a, Bool.and_false]
      exact .inl ⟨(h4 b2).trans (h2 b1), b⟩
    · have b1 : bDrop (.drop n) st1 = true := by unfold bDrop nmD kdD; rw [decide_eq_true a, decide_eq_true rfl]; rfl
      have e := (h4 b2).trans (h1 b1)
      exact .inr ⟨n, a, by rw [e]; exact b, .inl ⟨e, rfl⟩⟩
  | ask n x =>
    have b1 : bDrop (.ask n x) st1 = false := by unfold bDrop kdD; rw [ad]; rfl
    rcases R with ⟨a, b⟩ | ⟨a, f, b⟩ | ⟨a, f, v, hv, b, hl⟩
    · have b2 : bFull (.ask n x) st1 pl = false := by unfold bFull nmD; rw [decide_eq_true a]; simp
      exact .inl ⟨(h4 b2).trans (h2 b1), b⟩
    · have b2 : bFull (.ask n x) st1 pl = false := by unfold bFull; rw [decide_eq_false f]; simp
      exact .inl ⟨(h4 b2).trans (h2 b1), b⟩
    · have b2 : bFull (.ask n x) st1 pl = true := by unfold bFull nmD kdD; rw [decide_eq_true f, decide_eq_false a, decide_eq_true rfl]; rfl
      have e := h3 b2
      exact .inr ⟨v, hv, by rw [e]; exact b, .inr ⟨e, hl⟩⟩
theorem given_ne (st : List Str) (v : Str) : given st.length (fun i => decide (st.getD i "" ≠ v)) (fun i => V.str (st.getD i "")) = (st.filter fun m => decide (m ≠ v)).map V.str := by
  unfold given
  have e : st = (List.range st.length).map fun j => st.getD j "" := by
    symm
    apply List.ext_getElem?
    intro i
    rw [List.getElem?_map]
    by_cases h : i < st.length
    · rw [List.getElem?_range h, List.getElem?_eq_getElem h]
      show some (st.getD i "") = _
      rw [List.getD_eq_getElem?_getD, List.getElem?_eq_getElem h]
      rfl
    · rw [List.getElem?_eq_none (by rw [List.length_range]; omega), List.getElem?_eq_none (by omega)]
      rfl
  conv => rhs; rw [e]
  rw [List.filter_map, List.map_map]
  rfl
theorem lexLt_two (a b c d : Int) : HT.lexLt [a, b] [c, d] = lexQ (a, b) (c, d) := by
  unfold lexQ
  dsimp only
  rw [HT.lexLt, HT.lexLt, HT.lexLt]
  by_cases h : a = c
  · rw [if_pos h, if_pos h]
    by_cases h2 : b = d
    · rw [if_pos h2, h2, decide_eq_false (by omega)]
    · rw [if_neg h2]
  · rw [if_neg h, if_neg h]
/-- [xs, None][0], xs a new list -/
theorem s_retPick {σ : L2.St} {H : Hp} {D : Ends} {t1 ti : TE} {xs : List V} (h1 : EvL t1 σ H xs) (hi : ∀ H1, Ex H H1 → Ev ti σ H1 (.int 0)) (k : ∀ p H1, H p = none → Ex H H1 → H1 p = some (.lst xs) → D.rt (.ref p) H1) : tRet (tOp (rIxL K) (tLst (tCons t1 (tCons (tC .non) tNil))) ti) D σ H :=
  h1 H (Ex.refl H) _ fun p H2 hp e2 h2 => ⟨sz_of (by simp), fun q hq => by
    have e6 : Ex H2 (upd H2 q (.lst [.ref p, .non])) := Ex.new hq
    refine hi _ (e2.trans e6) _ (Ex.refl _) _ fun H6 e7 => ?_
    exact ⟨q, [.ref p, .non], 0, .ref p, rfl, rfl, SqL.of (e7 _ _ upd_same), rfl, k p H6 hp ((e2.trans e6).trans e7) (e7 _ _ (e6 _ _ h2))⟩⟩
def spRestL : Sp := fun vs H Q _ => ∃ (num : Int) (da : Addr) (d : Deed) (tl ca la sa : Addr) (ns : List Str) (c l : Str → Int) (st1 : List Str) (pl : Int) (gs : List Going), vs = [.int num, .ref da, .ref tl, .ref ca, .ref la, .ref sa, .int pl] ∧ H da = some (.tup d.V) ∧ TupsAt H tl (gs.map gV) ∧ Tab H ca la sa ns c l st1 ∧ RestOk num d gs c l st1 pl ∧ RetL ((leftD st1 gs).map V.str) H Q
theorem ok_l_left_by_rest (T : Tx K mg) : FnOk P w K mg base CX0 4 T.f_l_left_by_rest T.fd_l_left_by_rest P_l_left_by_rest spRestL := by
  refine T.F_l_left_by_rest.ok sc_l_left_by_rest (fun vs H Q E h => ?_) (fun cdv A outer s H vs Q E hr h => ?_)
  · obtain ⟨_, _, _, _, _, _, _, _, _, _, _, _, _, rfl, _⟩ := h
    rfl
  · obtain ⟨num, da, d, tl, ca, la, sa, ns, c, l, st1, pl, gs, rfl, hD, hT, t, R, kk⟩ := h
    have hu := hu_of hr
    refine ⟨_, (pss_cons (ps_set (i := 7) sc_l_left_by_rest.nd rfl (Or.inl rfl) pe_str)
      (pss_cons (ps_if (PW.pt (pw_and (pt_cmpR op_eq (pe_ix ix_tup (pv 1) pe_int (fun _ _ => rfl)) pe_str (nomark _)) (pw_and1 (pt_cmpR op_in_seq (pe_ix ix_tup (pv 1) pe_int (fun _ _ => rfl)) (pv 5) (by rfl))))) (pss_one (ps_set (i := 7) sc_l_left_by_rest.nd rfl (Or.inl rfl) pe_str)) pss_nil)
      (pss_cons (ps_if (PW.pt (pw_and (pt_cmpR op_eq (pe_ix ix_tup (pv 1) pe_int (fun _ _ => rfl)) pe_str (nomark _)) (pw_and (pt_cmpR op_notIn_seq (pe_ix ix_tup (pv 1) pe_int (fun _ _ => rfl)) (pv 5) (by rfl)) (pw_and1 (pt_cmpR op_eq (pe_callB call_len_seq (by rfl) T.n_len PySem.boot_len (pa_cons (pv 5) pa_nil)) (pv 6) (nomark _)))))) (pss_one (ps_set (i := 7) sc_l_left_by_rest.nd rfl (Or.inl rfl) pe_str)) pss_nil)
      (pss_cons (ps_if (pt_cmpR op_eq (pv 7) pe_str (nomark _)) (pss_one (ps_ret (pe_ix ix_list (pe_lst (pa_cons (pe_callTy call_list_of (by rfl) T.n_list (by decide +kernel) (pa_cons (pv 5) pa_nil)) (pa_cons pe_non pa_nil))) (pe_callTy call_int1 (by rfl) T.n_int (by decide +kernel) (pa_cons (pe_cmpR op_gt (pe_callB call_len_seq (by rfl) T.n_len PySem.boot_len (pa_cons (pv 2) pa_nil)) pe_int (nomark _)) pa_nil)) (fun _ _ => rfl)))) pss_nil)
      (pss_cons (ps_if (PW.pt (pw_or (pt_cmpR op_ne (pe_callB call_len_seq (by rfl) T.n_len PySem.boot_len (pa_cons (pv 2) pa_nil)) pe_int (nomark _)) (pw_or1 (pt_not (pt_val (pe_call (ok_l_is_going T) (hr.mono (by decide)) rfl T.mg_l_is_going T.F_l_is_going.kp T.b_l_is_going .nil pass0 (pa_cons (pe_ix ix_list (pv 2) pe_int (fun _ _ => rfl)) (pa_cons (pv 0) (pa_cons (pv 7) (pa_cons (pv 3) (pa_cons (pv 4) (pa_cons (pv 5) pa_nil)))))))))))) (pss_one (ps_ret pe_non)) pss_nil)
      (pss_cons (ps_set (i := 8) sc_l_left_by_rest.nd rfl (Or.inr rfl) (pe_ix ix_tup (pe_ix ix_list (pv 2) pe_int (fun _ _ => rfl)) pe_int (fun _ _ => rfl)))
      (pss_cons (ps_if (PW.pt (pw_and (pt_cmpR op_eq (pv 7) pe_str (nomark _)) (pw_and1 (pt_cmpR op_ne (pv 8) (pe_ix ix_tup (pv 1) pe_int (fun _ _ => rfl)) (nomark _))))) (pss_one (ps_ret pe_non)) pss_nil)
      (pss_cons (ps_setLc (i := 10) (own := [("_law_name", 9)]) (g := (gName 9)) (by rfl) sc_l_left_by_rest.nd rfl rfl (sw_true rfl rfl rfl (by decide +kernel)) (pi_list (pv 5)) (blkOk_by (own := [("_law_name", 9)]) (N := N_l_left_by_rest) (sc := defScope s_l_left_by_rest) (by decide +kernel)) (fun _ _ _ _ _ => (pg_name (i := 9) sc_l_left_by_rest.nd rfl (Or.inl rfl))) (fun _ _ _ _ _ => (pts_one (pt_cmpR op_ne (pv 9) (pv 8) (nomark _)))) (fun _ _ _ _ _ => (pv 9)))
      (pss_cons (ps_set (i := 11) sc_l_left_by_rest.nd rfl (Or.inr rfl) (pe_tup (pa_cons (pe_dget hu (pv 3) (pv 8) (fun _ _ => rfl)) (pa_cons (pe_dget hu (pv 4) (pv 8) (fun _ _ => rfl)) pa_nil))))
      (pss_cons (ps_if (PW.pt (pw_and (pt_cmpR op_eq (pv 7) pe_str (nomark _)) (pw_and1 (pt_val (pe_callB (cr_any rfl) (by rfl) T.n_any (by decide +kernel) (pa_cons (pe_lc (own := [("_law_name", 9)]) (g := (gName 9)) (by rfl) sc_l_left_by_rest.nd (pi_list (pv 10)) (blkOk_by (own := [("_law_name", 9)]) (N := N_l_left_by_rest) (sc := defScope s_l_left_by_rest) (by decide +kernel)) (fun _ _ _ _ _ => (pg_name (i := 9) sc_l_left_by_rest.nd rfl (Or.inl rfl))) (fun _ _ _ _ _ => pts_nil) (fun _ _ _ _ _ => (pe_cmpR (r := rLtT K) (op_ltT hr.units0) (pe_tup (pa_cons (pe_dget hu (pv 3) (pv 9) (fun _ _ => rfl)) (pa_cons (pe_dget hu (pv 4) (pv 9) (fun _ _ => rfl)) pa_nil))) (pv 11) (nomark _)))) pa_nil)))))) (pss_one (ps_ret pe_non)) pss_nil)
      (pss_one (ps_ret (pv 10))))))))))))), ?_⟩
    rw [show L2.start N_l_left_by_rest [V.int num, V.ref da, V.ref tl, V.ref ca, V.ref la, V.ref sa, V.int pl] = [some (V.int num), some (V.ref da), some (V.ref tl), some (V.ref ca), some (V.ref la), some (V.ref sa), some (V.int pl), none, none, none, none, none] from rfl]
    have hlen : ((st1.map V.str).length : Int) = st1.length := by rw [List.length_map]
    refine q_asg (v := .str "") ev_c fun H1 e1 => ?_
    dsimp only [List.set]
    obtain ⟨ρ1, r1, r2⟩ : ∃ ρ1 : Str, (bDrop d st1 = true → ρ1 = "dropped") ∧ (bDrop d st1 = false → ρ1 = "") := by
      cases h : bDrop d st1 with
      | true => exact ⟨"dropped", fun _ => rfl, fun h => nomatch h⟩
      | false => exact ⟨"", (fun h => nomatch h), fun _ => rfl⟩
    obtain ⟨ρ, r3, r4⟩ : ∃ ρ : Str, (bFull d st1 pl = true → ρ = "crowded") ∧ (bFull d st1 pl = false → ρ = ρ1) := by
      cases h : bFull d st1 pl with
      | true => exact ⟨"crowded", fun _ => rfl, fun h => nomatch h⟩
      | false => exact ⟨ρ1, (fun h => nomatch h), fun _ => rfl⟩
    refine q_ifAsg (b := bDrop d st1) (i := 7) (v := .str ρ1) (et_and (et_test (ev_op (ev_ixT (i := 0) (ev_var rfl) (e1 _ _ hD) (V_0 d)) ev_c (rv_eq rfl))) fun _ => et_is (et_test (ev_op (ev_ixT (i := 1) (ev_var rfl) (e1 _ _ hD) (V_1 d)) (ev_var rfl) (rv_isL (SqL.of (e1 _ _ t.s)) rfl (flat_strs st1)))) (by rw [inV_str])) (fun hb => ev_is ev_c (by rw [r1 hb])) (fun hb => by rw [r2 hb]; rfl) fun H2 e2 => ?_
    dsimp only [List.set]
    have E2 := e1.trans e2
    refine q_ifAsg (b := bFull d st1 pl) (i := 7) (v := .str ρ) (et_and (et_test (ev_op (ev_ixT (i := 0) (ev_var rfl) (E2 _ _ hD) (V_0 d)) ev_c (rv_eq rfl))) fun _ => et_and (et_is (et_test (ev_op (ev_ixT (i := 1) (ev_var rfl) (E2 _ _ hD) (V_1 d)) (ev_var rfl) (rv_niL (SqL.of (E2 _ _ t.s)) rfl (flat_strs st1)))) (by rw [inV_str])) fun _ => et_is (et_test (ev_op (ev_len (ev_var rfl) (SqL.of (E2 _ _ t.s))) (ev_var rfl) (rv_eq rfl))) (by rw [dec_i, hlen])) (fun hb => ev_is ev_c (by rw [r3 hb])) (fun hb => by rw [r4 hb]; rfl) fun H3 e3 => ?_
    dsimp only [List.set]
    have E3 := E2.trans e3
    have t3 := t.ex E3
    have hT3 := hT.ex E3
    have hD3 := E3 _ _ hD
    rcases rest_cases R r1 r2 r3 r4 with ⟨rfl, rfl⟩ | ⟨v, hv, rfl, hρ⟩
    · refine q_when (b := true) (et_is (et_test (ev_op (ev_var rfl) ev_c (rv_eq rfl))) (by rw [decide_eq_true rfl])) (fun _ H4 e4 => ?_) (fun hb => nomatch hb)
      rw [leftD_nil] at kk
      have t4 := t3.ex e4
      exact s_retPick (el_list (ev_var rfl) (SqL.of t4.s)) (fun H5 e5 => ev_is (ev_intB (b := false) (ev_is (ev_op (tups_len ((hT3.ex e4).ex e5) (ev_var rfl)) ev_c rv_I0) (by simp))) rfl) fun p H5 hp e5 h5 => kk p H5 (fresh_back (E3.trans e4) hp) ((E3.trans e4).trans e5) h5
    · have ne0 : ρ ≠ "" := by rcases hρ with ⟨h, _⟩ | ⟨h, _⟩ <;> rw [h] <;> decide +kernel
      have okr : PyData.strOk ρ = true := by rcases hρ with ⟨h, _⟩ | ⟨h, _⟩ <;> rw [h] <;> decide +kernel
      refine q_when (b := false) (et_is (et_test (ev_op (ev_var rfl) ev_c (rv_eq rfl))) (decide_eq_false fun h => ne0 (V.str.inj h))) (fun hb => nomatch hb) (fun _ H4 e4 => ?_)
      have t4 := t3.ex e4
      have hT4 := hT3.ex e4
      have hD4 := e4 _ _ hD3
      obtain ⟨vs, v1, v2, v3⟩ := id hT4
      obtain ⟨q, q1, q2⟩ := v3 0 _ rfl
      have told : ∀ {σ' : L2.St} {G : Hp}, Ex H4 G → σ'[2]? = some (some (.ref tl)) → Ev (tOp (rIxL K) (tVar 2) (tC (.int 0))) σ' G (.ref q) := fun e h => ev_ixLn (i := 0) (ev_var h) ev_c rfl (e _ _ v1) q1
      refine q_when (b := false) (et_is (et_or (a := false) (b := false) (et_is (et_test (ev_op (tups_len hT4 (ev_var rfl)) ev_c (rv_ne rfl))) (by show (!decide (V.int 1 = V.int 1)) = false; rw [decide_eq_true rfl]; rfl)) fun _ => et_not (et_tst (ev_call0 (vs := [.ref q, .int num, .str ρ, .ref ca, .ref la, .ref sa]) (ea_cons (told (Ex.refl _) rfl) (ea_cons (ev_var rfl) (ea_cons (ev_var rfl) (ea_cons (ev_var rfl) (ea_cons (ev_var rfl) (ea_cons (ev_var rfl) ea_nil)))))) (sv_isGoing q2 t4 hv rfl okr)))) rfl) (fun hb => nomatch hb) (fun _ H5 e5 => ?_)
      refine q_asg (v := .str v) (ev_ixT (i := 1) (told e5 rfl) (e5 _ _ q2) rfl) fun H6 e6 => ?_
      dsimp only [List.set]
      have E6 := e5.trans e6
      have hD6 := E6 _ _ hD4
      refine q_when (b := false) (by
        rcases hρ with ⟨h, hn⟩ | ⟨h, _⟩
        · subst h
          exact et_is (et_and (a := true) (b := false) (et_is (et_test (ev_op (ev_var rfl) ev_c (rv_eq rfl))) (by decide +kernel)) fun _ => et_is (et_test (ev_op (ev_var rfl) (ev_ixT (i := 1) (ev_var rfl) hD6 (V_1 d)) (rv_ne rfl))) (by rw [hn, decide_eq_true rfl]; rfl)) rfl
        · subst h
          exact et_is (et_and (a := false) (b := false) (et_is (et_test (ev_op (ev_var rfl) ev_c (rv_eq rfl))) (by decide +kernel)) fun hb => nomatch hb) rfl) (fun hb => nomatch hb) (fun _ H7 e7 => ?_)
      have t7 := t4.ex (E6.trans e7)
      have E7 := ((E3.trans e4).trans E6).trans e7
      rw [leftD_one] at kk
      refine q_asgL (el_eq (el_lcL (j := 9) (vs := [9]) (fun i => decide (st1.getD i "" ≠ v)) (fun i => V.str (st1.getD i "")) (ev_var rfl) (SqL.of t7.s) (by rw [List.length_map]; exact Nat.le_trans t.len (by decide)) (fun x => rfl) (fun i x H8 e hx => ?_) (fun i x H8 e hx hf => ?_)) (by rw [List.length_map, given_ne])) fun p H8 hp e8 h8 => ?_
      · rw [List.getElem?_map] at hx
        obtain ⟨n, hn, rfl⟩ := Option.map_eq_some_iff.mp hx
        refine et_is (et_test (ev_op (ev_var rfl) (ev_var rfl) (rv_ne rfl))) ?_
        rw [List.getD_eq_getElem?_getD, hn]
        show (!decide (V.str n = V.str v)) = decide (n ≠ v)
        by_cases q : n = v
        · rw [q, decide_eq_true rfl, decide_eq_false (by simp)]; rfl
        · rw [decide_eq_false (fun z => q (V.str.inj z)), decide_eq_true q]; rfl
      · rw [List.getElem?_map] at hx
        obtain ⟨n, hn, rfl⟩ := Option.map_eq_some_iff.mp hx
        refine ev_is (ev_var rfl) ?_
        rw [List.getD_eq_getElem?_getD, hn]
        rfl
      dsimp only [List.set]
      have t8 := t7.ex e8
      have hvn := t.sub v hv
      refine q_asgU (xs := [.int (c v), .int (l v)]) (eu_tup (ea_cons (ev_cd (ev_var rfl) (ev_var rfl) t8.c hvn) (ea_cons (ev_cd (ev_var rfl) (ev_var rfl) t8.l hvn) ea_nil)) (by simp)) fun rk H9 hrk e9 h9 => ?_
      dsimp only [List.set]
      have t9 := t8.ex e9
      have h89 := e9 _ _ h8
      refine q_when (b := false) (by
        rcases hρ with ⟨h, hn⟩ | ⟨h, hl⟩
        · subst h
          exact et_is (et_and (a := false) (b := false) (et_is (et_test (ev_op (ev_var rfl) ev_c (rv_eq rfl))) (by decide +kernel)) fun hb => nomatch hb) rfl
        · subst h
          refine et_is (et_and (a := true) (b := false) (et_is (et_test (ev_op (ev_var rfl) ev_c (rv_eq rfl))) (by decide +kernel)) fun _ => et_tst (ev_is (ev_any (el_lcB (fun _ => false) (ei_list (ev_var rfl) (SqL.of h89)) (by rw [List.length_map]; exact Nat.le_trans (Nat.le_trans (List.length_filter_le _ _) t.len) (by decide)) ?_)) ?_)) rfl
          · rintro i G x G2 hi eG ⟨rfl, hx⟩
            rw [List.getElem?_map] at hx
            obtain ⟨n, hn, rfl⟩ := Option.map_eq_some_iff.mp hx
            have hm := (List.mem_filter.mp (List.mem_of_getElem? hn)).1
            have hmn := t.sub n hm
            refine ⟨Ex.refl _, _, got_name, rfl, ?_⟩
            intro G3 e10 Q' q'
            have t10 := t9.ex (eG.trans e10)
            refine eu_tup (vs := [.int (c n), .int (l n)]) (ea_cons (ev_cd (ev_var rfl) (ev_var rfl) t10.c hmn) (ea_cons (ev_cd (ev_var rfl) (ev_var rfl) t10.l hmn) ea_nil)) (by simp) G3 (Ex.refl _) _ fun z G4 hz e11 h11 => ?_
            refine (ev_var rfl : Ev (tVar 11) _ G4 (.ref rk)) G4 (Ex.refl _) _ fun G5 e12 => ?_
            refine ⟨z, rk, [c n, l n], [c v, l v], rfl, rfl, SqT.of (e12 _ _ h11), SqT.of ((((eG.trans e10).trans e11).trans e12) _ _ h9), ?_⟩
            rw [lexLt_two, hl n hm]
            exact q' G5 (e11.trans e12)
          · have : ((List.range ((st1.filter fun m => decide (m ≠ v)).map V.str).length).map fun _ => false).any id = false := by
              rw [List.any_eq_false]
              intro x hx
              obtain ⟨_, _, rfl⟩ := List.mem_map.mp hx
              decide
            rw [this]) (fun hb => nomatch hb) (fun _ H10 e10 => ?_)
      exact s_ret (ev_var rfl) fun H11 e11 => kk p H11 (fresh_back E7 hp) (E7.trans (e8.trans (e9.trans (e10.trans e11)))) ((e10.trans e11) _ _ h89)
end

end Own
namespace Own
open PySem L2 PyProof.Rows Evl OwnS
/-- a condition of arithmetic -/
local macro_rules | `(tactic| walk_at "side") => `(tactic| first
  | assumption
  | (show _ ∧ _; omega)
  | (apply pos9 <;> omega)
  | (show (0 : Int) < _; omega)
  | (show _ ∨ _; omega)
  | decide
  | omega)
local macro_rules | `(tactic| walk_at "fn") => `(tactic| fail "no fn")
local macro_rules | `(tactic| walk_at "ev") => `(tactic| first
  | ((with_reducible apply ev_var) ; exact rfl)
  | with_reducible exact ev_c
  | ((with_reducible apply ev_op) <;> walk_at "ev")
  | with_reducible exact rv_I0
  | ((with_reducible apply rv_I) ; walk_at "side")
  | ((with_reducible apply rv_eq) ; rfl)
  | ((with_reducible apply rv_ne) ; rfl)
  | ((with_reducible apply ev_isInt) ; walk_at "ev")
  | ((with_reducible apply ev_isBoolI) ; walk_at "ev")
  | ((with_reducible apply ev_isIntB) ; walk_at "ev")
  | ((with_reducible apply ev_isBoolB) ; walk_at "ev")
  | ((with_reducible apply ev_notV) ; walk_at "ev")
  | ((with_reducible apply et_test) ; walk_at "ev")
  | ((with_reducible apply et_B) ; walk_at "ev")
  | ((with_reducible apply et_not) ; walk_at "ev")
  | with_reducible exact ea_nil
  | ((with_reducible apply ea_cons) <;> walk_at "ev")
  | ((with_reducible apply ev_call0) <;> walk_at "ev")
  | ((with_reducible show SpV _ _ _ _); walk_at "fn"))

/-! ### k06: walked, listed, known, seen -/
section
variable {P : Program} {w : World} {K : PySem.W.Frag} {mg : Str → Option Value} {base : Heap}
theorem given_first (vs : List V) (k : Nat) (h : k ≤ vs.length) : given vs.length (fun i => decide (i < k)) (fun i => vs.getD i .non) = vs.take k := by
  unfold given
  have e : vs = (List.range vs.length).map fun j => vs.getD j .non := by
    symm
    apply List.ext_getElem?
    intro i
    rw [List.getElem?_map]
    by_cases h : i < vs.length
    · rw [List.getElem?_range h, List.getElem?_eq_getElem h]
      show some (vs.getD i .non) = _
      rw [List.getD_eq_getElem?_getD, List.getElem?_eq_getElem h]
      rfl
    · rw [List.getElem?_eq_none (by rw [List.length_range]; omega), List.getElem?_eq_none (by omega)]
      rfl
  have h2 : (List.range vs.length).filter (fun i => decide (i < k)) = List.range k := by
    obtain ⟨m, hm⟩ : ∃ m, vs.length = k + m := ⟨vs.length - k, by omega⟩
    rw [hm, List.range_add, List.filter_append, List.filter_eq_self.mpr, List.filter_eq_nil_iff.mpr, List.append_nil]
    · intro x hx
      obtain ⟨y, _, rfl⟩ := List.mem_map.mp hx
      simp
    · intro x hx
      exact decide_eq_true (List.mem_range.mp hx)
  rw [h2]
  conv => rhs; rw [e]
  rw [← List.map_take, List.take_range, Nat.min_eq_left h]
theorem range_getDS (l : List Str) : (List.range l.length).map (fun j => l.getD j "") = l := by
  apply List.ext_getElem?
  intro i
  rw [List.getElem?_map]
  by_cases h : i < l.length
  · rw [List.getElem?_range h, List.getElem?_eq_getElem h]
    show some (l.getD i "") = _
    rw [List.getD_eq_getElem?_getD, List.getElem?_eq_getElem h]
    rfl
  · rw [List.getElem?_eq_none (by rw [List.length_range]; omega), List.getElem?_eq_none (by omega)]
    rfl
theorem el_call7R {σ : L2.St} {H : Hp} {t1 t2 t3 t4 t5 t6 t7 : TE} {sp : Sp} {E : XK} {x y z u a b : V} {xs : List V} {rows : List (List V)} (h1 : Ev t1 σ H x) (h2 : Ev t2 σ H y) (h3 : EvRows t3 σ H rows) (h4 : Ev t4 σ H z) (h5 : Ev t5 σ H u) (h6 : Ev t6 σ H a) (h7 : Ev t7 σ H b) (hs : ∀ p H1, Ex H H1 → TupsAt H1 p rows → SpL sp [x, y, .ref p, z, u, a, b] H1 xs) : EvL (tCall sp [] E (tCons t1 (tCons t2 (tCons t3 (tCons t4 (tCons t5 (tCons t6 (tCons t7 tNil)))))))) σ H xs := fun H1 e Q q =>
  h1 H1 e _ fun H2 e2 => h2 H2 (e.trans e2) _ fun H3 e3 => h3 H3 ((e.trans e2).trans e3) _ fun p H4 _ e4 hT => h4 H4 (((e.trans e2).trans e3).trans e4) _ fun H5 e5 => h5 H5 ((((e.trans e2).trans e3).trans e4).trans e5) _ fun H6 e6 => h6 H6 (((((e.trans e2).trans e3).trans e4).trans e5).trans e6) _ fun H7 e7 => h7 H7 ((((((e.trans e2).trans e3).trans e4).trans e5).trans e6).trans e7) _ fun H8 e8 => by
    have E8 := ((((((e2.trans e3).trans e4).trans e5).trans e6).trans e7).trans e8)
    exact hs p H8 (e.trans E8) (hT.ex (((e5.trans e6).trans e7).trans e8)) H8 (Ex.refl _) Q (fun r H9 hr e9 h9 => q r H9 (fresh_back E8 hr) (E8.trans e9) h9) E
def addD' (d : Deed) (st1 : List Str) : List Str := match d with
  | .ask n _ => if n ∈ st1 then [] else [n]
  | _ => []
def FoundOk (d : Deed) (x : V) (st1 : List Str) : Prop := match d with
  | .rest _ => True
  | d => x = .bl (decide (nmD d ∈ st1))
def spWalked : Sp := fun vs H Q _ => ∃ (num : Int) (da : Addr) (d : Deed) (x : V) (tl ca la sa : Addr) (ns : List Str) (c l : Str → Int) (st : List Str) (pl : Int) (F G : List Going), vs = [.int num, .ref da, .ref tl, x, .ref ca, .ref la, .ref sa, .int pl] ∧ H da = some (.tup d.V) ∧ TupsAt H tl ((F ++ G).map gV) ∧ Tab H ca la sa ns c l st ∧ (∀ g ∈ F ++ G, OkN g) ∧ (F ++ G).length ≤ 1000 ∧ FadeOk num F c l st ∧ RestOk num d G c l (leftD st F) pl ∧ (∀ g ∈ G, g.reason ≠ "faded") ∧ FoundOk d x (leftD st F) ∧ RetL ((leftD (leftD st F) G ++ addD' d (leftD st F)).map V.str) H Q
theorem ok_l_walked (T : Tx K mg) : FnOk P w K mg base CX0 5 T.f_l_walked T.fd_l_walked P_l_walked spWalked := by
  refine T.F_l_walked.ok sc_l_walked (fun vs H Q E h => ?_) (fun cdv A outer s H vs Q E hr h => ?_)
  · obtain ⟨_, _, _, _, _, _, _, _, _, _, _, _, _, _, _, rfl, _⟩ := h
    rfl
  · obtain ⟨num, da, d, x, tl, ca, la, sa, ns, c, l, st, pl, F, G, rfl, hD, hT, t, okn, hlen, FO, RO, gr, fo, kk⟩ := h
    have hu := hu_of hr
    refine ⟨_, (pss_cons (ps_if (pt_val (pe_callB (cr_any rfl) (by rfl) T.n_any (by decide +kernel) (pa_cons (pe_lc (own := [("_law_row", 8)]) (g := (gName 8)) (by rfl) sc_l_walked.nd (pi_list (pv 2)) (blkOk_by (own := [("_law_row", 8)]) (N := N_l_walked) (sc := defScope s_l_walked) (by decide +kernel)) (fun _ _ _ _ _ => (pg_name (i := 8) sc_l_walked.nd rfl (Or.inl rfl))) (fun _ _ _ _ _ => pts_nil) (fun _ _ _ _ _ => (pe_not (pe_call (ok_l_kinds T) (hr.mono (by decide)) rfl T.mg_l_kinds T.F_l_kinds.kp T.b_l_kinds .nil pass0 (pa_cons (pv 8) pa_nil))))) pa_nil))) (pss_one (ps_ret pe_non)) pss_nil)
      (pss_cons (ps_setLc (i := 9) (own := [("_law_row", 8)]) (g := (gName 8)) (by rfl) sc_l_walked.nd rfl rfl (sw_true rfl rfl rfl (by decide +kernel)) (pi_list (pv 2)) (blkOk_by (own := [("_law_row", 8)]) (N := N_l_walked) (sc := defScope s_l_walked) (by decide +kernel)) (fun _ _ _ _ _ => (pg_name (i := 8) sc_l_walked.nd rfl (Or.inl rfl))) (fun _ _ _ _ _ => (pts_one (pt_cmpR op_eq (pe_ix (r := rIxT K) ix_tup (pv 8) pe_int (fun _ _ => rfl)) pe_str (nomark _)))) (fun _ _ _ _ _ => (pv 8)))
      (pss_cons (ps_if (pt_cmpR (op_neD hr.units) (pe_slice sl_list (pv 2) po_none (po_some (pe_callB call_len_seq (by rfl) T.n_len PySem.boot_len (pa_cons (pv 9) pa_nil)))) (pv 9) (nomark _)) (pss_one (ps_ret pe_non)) pss_nil)
      (pss_cons (ps_set (i := 10) sc_l_walked.nd rfl (Or.inl rfl) (pe_call (ok_l_left_by_faded T) (hr.mono (by decide)) rfl T.mg_l_left_by_faded T.F_l_left_by_faded.kp T.b_l_left_by_faded .nil pass0 (pa_cons (pv 0) (pa_cons (pv 9) (pa_cons (pv 4) (pa_cons (pv 5) (pa_cons (pv 6) pa_nil)))))))
      (pss_cons (ps_if (pt_cmpR op_isN (pv 10) pe_non (nomark _)) (pss_one (ps_ret pe_non)) pss_nil)
      (pss_cons (ps_set (i := 11) sc_l_walked.nd rfl (Or.inl rfl) (pe_cmpR op_in_seq (pe_ix ix_tup (pv 1) pe_int (fun _ _ => rfl)) (pv 10) (by rfl)))
      (pss_cons (ps_if (PW.pt (pw_and (pt_cmpR op_ne (pe_ix ix_tup (pv 1) pe_int (fun _ _ => rfl)) pe_str (nomark _)) (pw_and1 (PW.pt (pw_or (pt_not (pt_val (pe_callB call_isi (by rfl) T.n_isinstance (by decide +kernel) (pa_cons (pv 3) (pa_cons (pe_bltn (v := .ty "bool") (u := .type "bool") rfl T.n_bool (by decide +kernel) rfl) pa_nil))))) (pw_or1 (pt_cmpR op_ne (pv 3) (pv 11) (nomark _)))))))) (pss_one (ps_ret pe_non)) pss_nil)
      (pss_cons (ps_set (i := 10) sc_l_walked.nd rfl (Or.inl rfl) (pe_call (ok_l_left_by_rest T) (hr.mono (by decide)) rfl T.mg_l_left_by_rest T.F_l_left_by_rest.kp T.b_l_left_by_rest .nil pass0 (pa_cons (pv 0) (pa_cons (pv 1) (pa_cons (pe_slice sl_list (pv 2) (po_some (pe_callB call_len_seq (by rfl) T.n_len PySem.boot_len (pa_cons (pv 9) pa_nil))) po_none) (pa_cons (pv 4) (pa_cons (pv 5) (pa_cons (pv 10) (pa_cons (pv 7) pa_nil)))))))))
      (pss_cons (ps_if (PW.pt (pw_and (pt_cmpR op_notN (pv 10) pe_non (nomark _)) (pw_and (pt_cmpR op_eq (pe_ix ix_tup (pv 1) pe_int (fun _ _ => rfl)) pe_str (nomark _)) (pw_and1 (pt_not (pt_val (pv 11))))))) (pss_one (ps_expr (pe_bm PySem.F.plainAttrs_list PySem.F.slot_list_append PySem.F.type_list_append mt_append (pv 10) (pa_cons (pe_ix ix_tup (pv 1) pe_int (fun _ _ => rfl)) pa_nil)))) pss_nil)
      (pss_one (ps_ret (pv 10)))))))))))), ?_⟩
    rw [show L2.start N_l_walked [V.int num, V.ref da, V.ref tl, x, V.ref ca, V.ref la, V.ref sa, V.int pl] = [some (V.int num), some (V.ref da), some (V.ref tl), some x, some (V.ref ca), some (V.ref la), some (V.ref sa), some (V.int pl), none, none, none, none] from rfl]
    obtain ⟨vs, v1, v2, v3⟩ := id hT
    rw [List.length_map] at v2
    have row : ∀ {i : Nat} {y : V}, vs[i]? = some y → ∃ g q, (F ++ G)[i]? = some g ∧ y = .ref q ∧ H q = some (.tup (gV g)) := fun {i y} hy => by
      have hi : i < (F ++ G).length := by have := (List.getElem?_eq_some_iff.mp hy).1; omega
      obtain ⟨q, q1, q2⟩ := v3 i (gV (F ++ G)[i]) (by rw [List.getElem?_map, List.getElem?_eq_getElem hi]; rfl)
      rw [hy] at q1
      cases q1
      exact ⟨_, q, List.getElem?_eq_getElem hi, rfl, q2⟩
    refine q_when (b := false) (et_tst (ev_is (ev_any (el_lcB (fun _ => false) (ei_list (ev_var rfl) (SqL.of v1)) (by omega) ?_)) ?_)) (fun hb => nomatch hb) (fun _ H1 e1 => ?_)
    · rintro i H1 y H2 hi e1 ⟨rfl, hy⟩
      obtain ⟨g, q, hg, rfl, hq⟩ := row hy
      refine ⟨Ex.refl _, _, got_name, rfl, ?_⟩
      exact ev_notV (a := true) (ev_call0 (ea_cons (ev_var rfl) ea_nil) (sv_kinds (e1 _ _ hq)))
    · have : ((List.range vs.length).map fun _ => false).any id = false := by
        rw [List.any_eq_false]
        intro x hx
        obtain ⟨_, _, rfl⟩ := List.mem_map.mp hx
        decide
      rw [this]
    have fl : F.length ≤ vs.length := by rw [v2, List.length_append]; omega
    refine q_asgL (el_eq (el_lcL (j := 8) (vs := [8]) (fun i => decide (i < F.length)) (fun i => vs.getD i .non) (ev_var rfl) (SqL.of (e1 _ _ v1)) (by omega) (fun x => rfl) (fun i y H2 e hy => ?_) (fun i y H2 e hy hf => ?_)) (given_first vs F.length fl)) fun fa H2 hfa e2 h2 => ?_
    · obtain ⟨g, q, hg, rfl, hq⟩ := row hy
      refine et_is (et_test (ev_op (ev_ixT (i := 2) (ev_var rfl) ((e1.trans e) _ _ hq) rfl) ev_c (rv_eq rfl))) ?_
      show decide (V.str g.reason = V.str "faded") = _
      by_cases hi : i < F.length
      · rw [List.getElem?_append_left hi] at hg
        rw [(FO.row g (List.mem_of_getElem? hg)).2.1, decide_eq_true rfl, decide_eq_true hi]
      · rw [List.getElem?_append_right (by omega)] at hg
        rw [decide_eq_false hi, decide_eq_false fun z => gr g (List.mem_of_getElem? hg) (V.str.inj z)]
    · refine ev_is (ev_var rfl) ?_
      rw [List.getD_eq_getElem?_getD, hy]
      rfl
    dsimp only [List.set]
    have E2 := e1.trans e2
    have hT2 := hT.ex E2
    have tF : TupsAt H2 fa (F.map gV) := ⟨vs.take F.length, h2, by rw [List.length_take, List.length_map]; omega, fun i r hr => by
      have hi : i < F.length := by have := (List.getElem?_eq_some_iff.mp hr).1; rwa [List.length_map] at this
      obtain ⟨q, q1, q2⟩ := v3 i r (by rw [List.map_append, List.getElem?_append_left (by rw [List.length_map]; exact hi)]; exact hr)
      exact ⟨q, by rw [List.getElem?_take_of_lt hi]; exact q1, E2 _ _ q2⟩⟩
    have okF : ∀ g ∈ F, OkN g := fun g hg => okn g (List.mem_append_left _ hg)
    have takeF : ((F ++ G).map gV).take F.length = F.map gV := by rw [List.map_append, List.take_left' (by rw [List.length_map])]
    have dropF : ((F ++ G).map gV).drop F.length = G.map gV := by rw [List.map_append, List.drop_left' (by rw [List.length_map])]
    have lenF : ∀ {σ' : L2.St} {H' : Hp}, Ex H2 H' → σ'[9]? = some (some (.ref fa)) → Ev (tCB (rLenS K) (tCons (tVar 9) tNil)) σ' H' (.int (F.length : Int)) := fun e h => by
      have := tups_len (K := K) (tF.ex e) (ev_var h)
      rw [List.length_map] at this
      exact this
    refine q_when (b := false) (et_test (ev_neD (by
      have h := er_take (K := K) (te := tVar 2) (tb := tCB (rLenS K) (tCons (tVar 9) tNil)) (σ := [some (V.int num), some (V.ref da), some (V.ref tl), some x, some (V.ref ca), some (V.ref la), some (V.ref sa), some (V.int pl), none, some (V.ref fa), none, none]) (ev_var rfl) hT2 (lenF (Ex.refl _) rfl)
      rw [takeF] at h
      exact ed_rows h okF) (ed_R (ev_var rfl) (dp_tups tF okF)) (gD_shaped okF))) (fun hb => nomatch hb) (fun _ H3 e3 => ?_)
    have E3 := E2.trans e3
    have t3 := t.ex E3
    refine q_asgL (el_call0 (vs := [.int num, .ref fa, .ref ca, .ref la, .ref sa]) (xs := (leftD st F).map V.str) (ea_cons (ev_var rfl) (ea_cons (ev_var rfl) (ea_cons (ev_var rfl) (ea_cons (ev_var rfl) (ea_cons (ev_var rfl) ea_nil))))) (fun G1 e Q' q' E' => ⟨num, fa, ca, la, sa, ns, c, l, st, F, rfl, (tF.ex e3).ex e, t3.ex e, FO, q'⟩)) fun lf H4 hlf e4 h4 => ?_
    dsimp only [List.set]
    refine q_when (b := false) (et_is (et_test (ev_op (ev_var rfl) ev_c rv_isN)) (decide_eq_false fun h => nomatch h)) (fun hb => nomatch hb) (fun _ H5 e5 => ?_)
    have E5 := (E3.trans e4).trans e5
    have h5 := e5 _ _ h4
    have hD5 := E5 _ _ hD
    refine q_asg (v := .bl (decide (nmD d ∈ leftD st F))) (ev_is (ev_op (ev_ixT (i := 1) (ev_var rfl) hD5 (V_1 d)) (ev_var rfl) (rv_isL (SqL.of h5) rfl (flat_strs _))) (by rw [inV_str])) fun H6 e6 => ?_
    dsimp only [List.set]
    have E6 := E5.trans e6
    have hD6 := E6 _ _ hD
    refine q_when (b := false) (by
      cases d with
      | rest n => exact et_is (et_and (a := false) (b := false) (et_is (et_test (ev_op (ev_ixT (i := 0) (ev_var rfl) hD6 rfl) ev_c (rv_ne rfl))) (by decide +kernel)) fun hb => nomatch hb) rfl
      | drop n =>
        have fo : x = .bl (decide (n ∈ leftD st F)) := fo
        exact et_is (et_and (a := true) (b := false) (et_is (et_test (ev_op (ev_ixT (i := 0) (ev_var rfl) hD6 rfl) ev_c (rv_ne rfl))) (by decide +kernel)) fun _ => et_is (et_or (a := false) (b := false) (et_not (et_B (ev_isBoolV (ev_var (by rw [fo]; rfl))))) fun _ => et_is (et_test (ev_op (x := .bl (decide (n ∈ leftD st F))) (y := .bl (decide (n ∈ leftD st F))) (ev_var (by rw [fo]; rfl)) (ev_var rfl) (rv_ne rfl))) (by rw [decide_eq_true rfl]; rfl)) rfl) rfl
      | ask n z =>
        have fo : x = .bl (decide (n ∈ leftD st F)) := fo
        exact et_is (et_and (a := true) (b := false) (et_is (et_test (ev_op (ev_ixT (i := 0) (ev_var rfl) hD6 rfl) ev_c (rv_ne rfl))) (by decide +kernel)) fun _ => et_is (et_or (a := false) (b := false) (et_not (et_B (ev_isBoolV (ev_var (by rw [fo]; rfl))))) fun _ => et_is (et_test (ev_op (x := .bl (decide (n ∈ leftD st F))) (y := .bl (decide (n ∈ leftD st F))) (ev_var (by rw [fo]; rfl)) (ev_var rfl) (rv_ne rfl))) (by rw [decide_eq_true rfl]; rfl)) rfl) rfl) (fun hb => nomatch hb) (fun _ H7 e7 => ?_)
    have E7 := E6.trans e7
    have t7 := t.ex E7
    have h7 := e7 _ _ (e6 _ _ h5)
    have tl7 : Tab H7 ca la lf ns c l (leftD st F) := ⟨t7.c, t7.l, h7, fun n h => t.sub n (List.mem_filter.mp h).1, t.good, nodup_filter _ t.nd, Nat.le_trans (List.length_filter_le _ _) t.len⟩
    have e37 := ((((e3.trans e4).trans e5).trans e6).trans e7)
    refine q_asgL (xs := (leftD (leftD st F) G).map V.str) (el_call7R (rows := G.map gV) (x := .int num) (y := .ref da) (z := .ref ca) (u := .ref la) (a := .ref lf) (b := .int pl) (ev_var rfl) (ev_var rfl) (by
      have h := er_drop (K := K) (te := tVar 2) (tb := tCB (rLenS K) (tCons (tVar 9) tNil)) (σ := [some (V.int num), some (V.ref da), some (V.ref tl), some x, some (V.ref ca), some (V.ref la), some (V.ref sa), some (V.int pl), none, some (V.ref fa), some (V.ref lf), some (V.bl (decide (nmD d ∈ leftD st F)))]) (ev_var rfl) (hT.ex E7) (lenF e37 rfl) (by rw [List.length_map, List.length_append]; omega)
      rw [dropF] at h
      exact h) (ev_var rfl) (ev_var rfl) (ev_var rfl) (ev_var rfl) fun p G1 eG hTG G2 eG2 Q' q' E' => ⟨num, da, d, p, ca, la, lf, ns, c, l, leftD st F, pl, G, rfl, (E7.trans (eG.trans eG2)) _ _ hD, hTG.ex eG2, tl7.ex (eG.trans eG2), RO, q'⟩) fun l2 H8 hl2 e8 h8 => ?_
    dsimp only [List.set]
    have E8 := E7.trans e8
    have hD8 := E8 _ _ hD
    have fin : ∀ {H' : Hp}, Ex H H' → H' l2 = some (.lst ((leftD (leftD st F) G ++ addD' d (leftD st F)).map V.str)) → tRet (tVar 10) { nx := fun _ H' => Q .non H', rt := Q } [some (V.int num), some (V.ref da), some (V.ref tl), some x, some (V.ref ca), some (V.ref la), some (V.ref sa), some (V.int pl), none, some (V.ref fa), some (V.ref l2), some (V.bl (decide (nmD d ∈ leftD st F)))] H' := fun e h => s_ret (ev_var rfl) fun H9 e9 => kk l2 H9 (fresh_back E7 hl2) (e.trans e9) (e9 _ _ h)
    have noadd : addD' d (leftD st F) = [] → ∀ H', Ex H8 H' → tRet (tVar 10) { nx := fun _ H' => Q .non H', rt := Q } [some (V.int num), some (V.ref da), some (V.ref tl), some x, some (V.ref ca), some (V.ref la), some (V.ref sa), some (V.int pl), none, some (V.ref fa), some (V.ref l2), some (V.bl (decide (nmD d ∈ leftD st F)))] H' := fun h H' e => fin (E8.trans e) (by rw [h, List.append_nil]; exact e _ _ h8)
    have notN : ∀ {H' : Hp}, EvT (tTest (tOp (fun x y H Q => y = .non ∧ Q (.bl (!decide (x = .non))) H) (tVar 10) (tC .non))) [some (V.int num), some (V.ref da), some (V.ref tl), some x, some (V.ref ca), some (V.ref la), some (V.ref sa), some (V.int pl), none, some (V.ref fa), some (V.ref l2), some (V.bl (decide (nmD d ∈ leftD st F)))] H' true := et_is (et_test (ev_op (ev_var rfl) ev_c rv_notN)) (by rw [decide_eq_false fun h => nomatch h]; rfl)
    cases d with
    | rest n => exact q_when (b := false) (et_is (et_and (a := true) (b := false) notN fun _ => et_is (et_and (a := false) (b := false) (et_is (et_test (ev_op (ev_ixT (i := 0) (ev_var rfl) hD8 rfl) ev_c (rv_eq rfl))) (by decide +kernel)) fun hb => nomatch hb) rfl) rfl) (fun hb => nomatch hb) fun _ H9 e9 => noadd rfl H9 e9
    | drop n => exact q_when (b := false) (et_is (et_and (a := true) (b := false) notN fun _ => et_is (et_and (a := false) (b := false) (et_is (et_test (ev_op (ev_ixT (i := 0) (ev_var rfl) hD8 rfl) ev_c (rv_eq rfl))) (by decide +kernel)) fun hb => nomatch hb) rfl) rfl) (fun hb => nomatch hb) fun _ H9 e9 => noadd rfl H9 e9
    | ask n z =>
      refine q_when (b := !decide (n ∈ leftD st F)) (et_is (et_and (a := true) (b := !decide (n ∈ leftD st F)) notN fun _ => et_is (et_and (a := true) (b := !decide (n ∈ leftD st F)) (et_is (et_test (ev_op (ev_ixT (i := 0) (ev_var rfl) hD8 rfl) ev_c (rv_eq rfl))) (by decide +kernel)) fun _ => et_not (et_tst (ev_var rfl))) rfl) rfl) (fun hb H9 e9 => ?_) fun hb H9 e9 => ?_
      · have hn : n ∉ leftD st F := by simpa using hb
        have hadd : addD' (.ask n z) (leftD st F) = [n] := if_neg hn
        have lenle : ((leftD (leftD st F) G).map V.str).length < 100000 := by
          rw [List.length_map]
          have h1 : (leftD (leftD st F) G).length ≤ (leftD st F).length := List.length_filter_le _ _
          have h2 : (leftD st F).length ≤ st.length := List.length_filter_le _ _
          have := t.len
          omega
        refine s_app (ev_var rfl) (e9 _ _ h8) (v := .str n) (ev_ixT (i := 1) (ev_var rfl) (e9 _ _ hD8) rfl) lenle fun H10 e10 h10 => ?_
        exact fin ((E7.trans ((e8.trans e9).trans e10 |>.mut hl2))) (by rw [upd_same, hadd, List.map_append]; rfl)
      · have hn : n ∈ leftD st F := by simpa using hb
        exact noadd (if_pos hn) H9 e9
theorem dp_trip {H : Hp} {v : V} {c l : Int} {n : Str} (h : Dp K H v (.tuple [.int c, .int l, .str n])) : ∃ T, v = .ref T ∧ SqT K H T [.int c, .int l, .str n] := by
  cases h with
  | tup h1 h2 =>
    cases h2 with
    | cons a r =>
      cases a
      cases r with
      | cons b r =>
        cases b
        cases r with
        | cons c r =>
          cases c
          cases r
          exact ⟨_, rfl, h1⟩
/-- the tables tell what the shelf keeps -/
structure TabE (s : Th) (ns : List Str) (c l : Str → Int) : Prop where
  c : ∀ n ∈ ns, c n = cntE s.es n
  l : ∀ n ∈ s.es.map (·.1), l n = lstE s.es n
  wf : WF .shelf s
  pos : Pos1 s
  keys : KeysIn ns s
def spListed6 : Sp := fun vs H Q _ => ∃ (p ca la sa : Addr) (ns : List Str) (c l : Str → Int) (s : Th), vs = [.ref p, .ref sa, .ref ca, .ref la] ∧ H p = some (.lst ((Kd.shelf.names s).map V.str)) ∧ Tab H ca la sa ns c l s.st ∧ TabE s ns c l ∧ RetV (.bl true) H Q
theorem sv_listed6 {H : Hp} {p ca la sa : Addr} {ns : List Str} {c l : Str → Int} {s : Th} (h : H p = some (.lst ((Kd.shelf.names s).map V.str))) (t : Tab H ca la sa ns c l s.st) (te : TabE s ns c l) : SpV spListed6 [.ref p, .ref sa, .ref ca, .ref la] H (.bl true) := fun H1 e Q q E => ⟨p, ca, la, sa, ns, c, l, s, rfl, e _ _ h, t.ex e, te, q⟩
theorem ok_l_listed (T : Tx K mg) : FnOk P w K mg base CX0 1 T.f_l_listed T.fd_l_listed P_l_listed spListed6 := by
  refine T.F_l_listed.ok sc_l_listed (fun vs H Q E h => ?_) (fun cdv A outer s H vs Q E hr h => ?_)
  · obtain ⟨_, _, _, _, _, _, _, _, rfl, _⟩ := h
    rfl
  · obtain ⟨p, ca, la, sa, ns, c, l, s, rfl, hp, t, te, kk⟩ := h
    have hu := hu_of hr
    refine ⟨_, (pss_cons (ps_set (i := 5) sc_l_listed.nd rfl (Or.inl rfl) (pe_callB (cr_sortedD hr.units) (by rfl) T.n_sorted (by decide +kernel) (pa_cons (pe_lc (own := [("_law_name", 4)]) (g := (gName 4)) (by rfl) sc_l_listed.nd (pi_list (pv 1)) (blkOk_by (own := [("_law_name", 4)]) (N := N_l_listed) (sc := defScope s_l_listed) (by decide +kernel)) (fun _ _ _ _ _ => (pg_name (i := 4) sc_l_listed.nd rfl (Or.inl rfl))) (fun _ _ _ _ _ => pts_nil) (fun _ _ _ _ _ => (pe_tup (pa_cons (pe_dget hu (pv 2) (pv 4) (fun _ _ => rfl)) (pa_cons (pe_dget hu (pv 3) (pv 4) (fun _ _ => rfl)) (pa_cons (pv 4) pa_nil)))))) pa_nil)))
      (pss_one (ps_ret (pe_and (pe_callB call_isi (by rfl) T.n_isinstance (by decide +kernel) (pa_cons (pv 0) (pa_cons (pe_bltn (v := .ty "list") (u := .type "list") rfl T.n_list (by decide +kernel) rfl) pa_nil))) (pe_one (pe_cmpR (op_eqD hr.units) (pv 0) (pe_lc (own := [("_law_name", 4), ("_law_last", 7), ("_law_count", 6)]) (g := (gTup K 3 (gCons (gName 6) (gCons (gName 7) (gCons (gName 4) gNil))))) (by rfl) sc_l_listed.nd (pi_list (pv 5)) (blkOk_by (own := [("_law_name", 4), ("_law_last", 7), ("_law_count", 6)]) (N := N_l_listed) (sc := defScope s_l_listed) (by decide +kernel)) (fun _ _ _ _ _ => (pg_tup (by rfl) (pgs_cons (pg_name (i := 6) sc_l_listed.nd rfl (Or.inl rfl)) (pgs_cons (pg_name (i := 7) sc_l_listed.nd rfl (Or.inl rfl)) (pgs_cons (pg_name (i := 4) sc_l_listed.nd rfl (Or.inl rfl)) pgs_nil))))) (fun _ _ _ _ _ => pts_nil) (fun _ _ _ _ _ => (pv 4))) (nomark _))))))), ?_⟩
    rw [show L2.start N_l_listed [V.ref p, V.ref sa, V.ref ca, V.ref la] = [some (V.ref p), some (V.ref sa), some (V.ref ca), some (V.ref la), none, none, none, none] from rfl]
    have hlc := elp_lc (wi := iList K (tVar 1)) (σ := [some (V.ref p), some (V.ref sa), some (V.ref ca), some (V.ref la), none, none, none, none]) (H := H) (t := tYes) (te := tTup (tCons (tDGet (tVar 2) (tVar 4)) (tCons (tDGet (tVar 3) (tVar 4)) (tCons (tVar 4) tNil)))) (g := gName 4) (vs := [4]) (fun _ => true) (fun i y H' => ∃ q, y = .ref q ∧ H' q = some (.tup [.int (cntE s.es (s.st.getD i "")), .int (lstE s.es (s.st.getD i "")), .str (s.st.getD i "")])) (ei_list (ta := tVar 1) (ev_var rfl) (SqL.of t.s)) (by rw [List.length_map]; exact Nat.le_trans t.len (by decide)) (fun i v G1 G2 h nl => by
      obtain ⟨q, e1, e2⟩ := h
      exact ⟨q, e1, nl _ _ e2 fun _ q => by cases q⟩) (by
      rintro i G1 x G2 hi eG ⟨rfl, hx⟩
      rw [List.getElem?_map] at hx
      obtain ⟨n, hn, rfl⟩ := Option.map_eq_some_iff.mp hx
      have hm := List.mem_of_getElem? hn
      have hmn := t.sub n hm
      have hgd : s.st.getD i "" = n := by rw [List.getD_eq_getElem?_getD, hn]; rfl
      refine ⟨Ex.refl _, _, got_name, rfl, fun G3 _ Q' q' => q' G3 (Ex.refl _), fun _ G3 e6 Q' q' => ?_⟩
      have tG := t.ex eG
      refine eu_tup (vs := [.int (c n), .int (l n), .str n]) (ea_cons (ev_cd (ev_var rfl) (ev_var rfl) tG.c hmn) (ea_cons (ev_cd (ev_var rfl) (ev_var rfl) tG.l hmn) (ea_cons (ev_var rfl) ea_nil))) (by simp) G3 e6 Q' fun T2 G4 hT2 e4 h4 => q' _ G4 e4 ⟨T2, rfl, ?_⟩
      rw [hgd, ← te.c n hmn, ← te.l n (te.wf.sin n hm)]
      exact h4)
    rw [List.length_map] at hlc
    have srt := sort_trip (es := s.es) (fun m n hm hn h => lst_inj te.wf.nd te.wf.ls hm hn h) te.wf.sin
    have hS := elp_sortD (K := K) (ds := s.st.map (trip s.es)) hlc (fun ys H' hP => by
      have hf : (List.range s.st.length).filter (fun _ => true) = List.range s.st.length := List.filter_eq_self.mpr fun _ _ => rfl
      rw [hf] at hP
      have e : s.st.map (trip s.es) = (List.range s.st.length).map fun i => trip s.es (s.st.getD i "") := by
        conv => lhs; rw [← range_getDS s.st]
        rw [List.map_map]
        rfl
      rw [e]
      clear e hf
      generalize List.range s.st.length = js at hP
      induction hP with
      | nil => exact .nil
      | cons r _ ih =>
        obtain ⟨q, rfl, h2⟩ := r
        exact .cons (.tup (SqT.of h2) (.cons (.int _) (.cons (.int _) (.cons (.str _) .nil)))) ih) (PySem.W.AllAlike.of fun a b => by unfold trip; simp [PySem.W.alike, PySem.W.alikeAll]) (PySem.W.Sortable.tuples fun b => ⟨_, _, rfl⟩) (fun d hd => by
      obtain ⟨n, _, rfl⟩ := List.mem_map.mp hd
      unfold trip
      simp [PyData.depth, PyData.depthAll])
    rw [srt] at hS
    refine q_asgLP hS fun du ys H1 hdu e1 h1 hDA => ?_
    dsimp only [List.set]
    have inn : ∀ n ∈ sortR s.es s.st, n ∈ ns := fun n hn => t.sub n ((sortR_perm _ _).mem_iff.mp hn)
    have fl := flat_names fun n hn => t.good n (inn n hn)
    obtain ⟨g1, g2⟩ := dpAll_at hDA
    rw [List.length_map] at g1
    have ll : (sortR s.es s.st).length ≤ 1000 := by rw [(sortR_perm _ _).length_eq]; exact t.len
    have nm : Kd.shelf.names s = sortR s.es s.st := rfl
    rw [nm] at hp
    have e3 : (List.range ys.length).map (fun j => V.str ((sortR s.es s.st).getD j "")) = (sortR s.es s.st).map V.str := by
      rw [g1]
      conv => rhs; rw [← range_getDS (sortR s.es s.st)]
      rw [List.map_map]
      rfl
    have hlist : EvL (tLc (iList K (tVar 5)) (gTup K 3 (gCons (gName 6) (gCons (gName 7) (gCons (gName 4) gNil)))) tYes (tVar 4) [4, 7, 6]) [some (V.ref p), some (V.ref sa), some (V.ref ca), some (V.ref la), none, some (V.ref du), none, none] H1 ((sortR s.es s.st).map V.str) := by
      rw [← e3]
      refine el_lc (fun j => V.str ((sortR s.es s.st).getD j "")) (ei_list (ev_var rfl) (SqL.of h1)) (by omega) ?_
      rintro j H2 x H3 hj e4 ⟨rfl, hx⟩
      have hjl : j < (sortR s.es s.st).length := by omega
      obtain ⟨v, hv, hdp⟩ := g2 j (trip s.es (sortR s.es s.st)[j]) (by rw [List.getElem?_map, List.getElem?_eq_getElem hjl]; rfl)
      rw [hx] at hv
      cases hv
      obtain ⟨T2, rfl, hT2⟩ := dp_trip hdp
      have hgd : (sortR s.es s.st).getD j "" = (sortR s.es s.st)[j] := by rw [List.getD_eq_getElem?_getD, List.getElem?_eq_getElem hjl]; rfl
      refine ⟨Ex.refl _, _, got_trip (ex_t e4 hT2), rfl, ?_⟩
      rw [hgd]
      exact ev_var rfl
    exact s_ret (v := .bl true) (ev_and1 (b := true) (ev_isList (ev_var rfl) (e1 _ _ hp)) (ev_eqD (ed_R (ev_var rfl) (dp_list (e1 _ _ hp) fl)) (ed_L hlist fl) (shaped_list fl))) fun H2 e2 => kk H2 (e1.trans e2)
end

end Own
namespace Own
open PySem L2 PyProof.Rows Evl OwnS
/-- a condition of arithmetic -/
local macro_rules | `(tactic| walk_at "side") => `(tactic| first
  | assumption
  | (show _ ∧ _; omega)
  | (apply pos9 <;> omega)
  | (show (0 : Int) < _; omega)
  | (show _ ∨ _; omega)
  | decide
  | omega)
local macro_rules | `(tactic| walk_at "fn") => `(tactic| fail "no fn")
local macro_rules | `(tactic| walk_at "ev") => `(tactic| first
  | ((with_reducible apply ev_var) ; exact rfl)
  | with_reducible exact ev_c
  | ((with_reducible apply ev_op) <;> walk_at "ev")
  | with_reducible exact rv_I0
  | ((with_reducible apply rv_I) ; walk_at "side")
  | ((with_reducible apply rv_eq) ; rfl)
  | ((with_reducible apply rv_ne) ; rfl)
  | ((with_reducible apply ev_isInt) ; walk_at "ev")
  | ((with_reducible apply ev_isBoolI) ; walk_at "ev")
  | ((with_reducible apply ev_isIntB) ; walk_at "ev")
  | ((with_reducible apply ev_isBoolB) ; walk_at "ev")
  | ((with_reducible apply ev_notV) ; walk_at "ev")
  | ((with_reducible apply et_test) ; walk_at "ev")
  | ((with_reducible apply et_B) ; walk_at "ev")
  | ((with_reducible apply et_not) ; walk_at "ev")
  | with_reducible exact ea_nil
  | ((with_reducible apply ea_cons) <;> walk_at "ev")
  | ((with_reducible apply ev_call0) <;> walk_at "ev")
  | ((with_reducible show SpV _ _ _ _); walk_at "fn"))

/-! ### k06: rested, known, seen; tables -/
section
variable {P : Program} {w : World} {K : PySem.W.Frag} {mg : Str → Option Value} {base : Heap}
theorem scal_last {es : List Ent} {n : Str} : scal (lastV es n) (lastV es n) = true := by
  unfold lastV
  cases look es n <;> rfl
def spRested : Sp := fun vs H Q _ => ∃ (a : Addr) (d : Deed) (x : V) (t : Int), vs = [.ref a, x, .int t] ∧ H a = some (.tup d.V) ∧ (∀ n, d = .rest n → x = .int t) ∧ RetV (.bl true) H Q
theorem sv_rested {H : Hp} {a : Addr} {d : Deed} {x : V} {t : Int} (h : H a = some (.tup d.V)) (hx : ∀ n, d = .rest n → x = .int t) : SpV spRested [.ref a, x, .int t] H (.bl true) := fun H1 e Q q E => ⟨a, d, x, t, rfl, e _ _ h, hx, q⟩
theorem ok_l_rested (T : Tx K mg) : FnOk P w K mg base CX0 2 T.f_l_rested T.fd_l_rested P_l_rested spRested := by
  refine T.F_l_rested.ok sc_l_rested (fun vs H Q E h => ?_) (fun cdv A outer s H vs Q E hr h => ?_)
  · obtain ⟨_, _, _, _, rfl, _⟩ := h
    rfl
  · obtain ⟨a, d, x, t, rfl, hD, hx, kk⟩ := h
    refine ⟨_, (pss_one (ps_ret (pe_or (pe_cmpR op_ne (pe_ix ix_tup (pv 0) pe_int (fun _ _ => rfl)) pe_str (nomark _)) (pe_one (pe_and (pe_call (ok_l_whole T) (hr.mono (by decide)) rfl T.mg_l_whole T.F_l_whole.kp T.b_l_whole .nil pass0 (pa_cons (pv 1) pa_nil)) (pe_one (pe_cmpR op_eq (pv 1) (pv 2) (nomark _)))))))), ?_⟩
    rw [show L2.start N_l_rested [V.ref a, x, V.int t] = [some (V.ref a), some x, some (V.int t)] from rfl]
    cases d with
    | rest n =>
      have := hx n rfl
      subst this
      exact s_ret (v := .bl true) (ev_is (ev_orV (a := false) (b := true) (ev_is (ev_op (ev_ixT (i := 0) (ev_var rfl) hD rfl) ev_c (rv_ne rfl)) (by decide +kernel)) fun _ => ev_and1 (b := true) (ev_call0 (ea_cons (ev_var rfl) ea_nil) sv_whole) (ev_is (ev_op (ev_var rfl) (ev_var rfl) (rv_eq rfl)) (by rw [decide_eq_true rfl]))) rfl) kk
    | drop n => exact s_ret (v := .bl true) (ev_is (ev_orV (a := true) (b := true) (ev_is (ev_op (ev_ixT (i := 0) (ev_var rfl) hD rfl) ev_c (rv_ne rfl)) (by decide +kernel)) fun h => nomatch h) rfl) kk
    | ask n z => exact s_ret (v := .bl true) (ev_is (ev_orV (a := true) (b := true) (ev_is (ev_op (ev_ixT (i := 0) (ev_var rfl) hD rfl) ev_c (rv_ne rfl)) (by decide +kernel)) fun h => nomatch h) rfl) kk
def spKnown6 (C : Addr) : Sp := fun vs H Q _ => ∃ (ad : Ad) (n : Str) (ca la sa : Addr) (ns : List Str) (c l : Str → Int) (s : Th), vs = [.ref ad.p, .str n, .ref sa, .ref ca, .ref la] ∧ At .shelf C ad H s ∧ n ∈ ns ∧ Tab H ca la sa ns c l s.st ∧ TabE s ns c l ∧ RetV (.bl true) H Q
theorem sv_known6 {C : Addr} {H : Hp} {ad : Ad} {n : Str} {ca la sa : Addr} {ns : List Str} {c l : Str → Int} {s : Th} (A : At .shelf C ad H s) (hn : n ∈ ns) (t : Tab H ca la sa ns c l s.st) (te : TabE s ns c l) : SpV (spKnown6 C) [.ref ad.p, .str n, .ref sa, .ref ca, .ref la] H (.bl true) := fun H1 e Q q E => ⟨ad, n, ca, la, sa, ns, c, l, s, rfl, A.ex e, hn, t.ex e, te, q⟩
theorem ok_l_known (T : Tx K mg) : FnOk P w K mg base CX0 4 T.f_l_known T.fd_l_known P_l_known (spKnown6 T.C_Shelf) := by
  refine T.F_l_known.ok sc_l_known (fun vs H Q E h => ?_) (fun cdv A outer s H vs Q E hr h => ?_)
  · obtain ⟨_, _, _, _, _, _, _, _, _, rfl, _⟩ := h
    rfl
  · obtain ⟨ad, n, ca, la, sa, ns, c, l, s, rfl, A, hn, t, te, kk⟩ := h
    have hu := hu_of hr
    have U := uShelf (P := P) (w := w) (base := base) T
    have G_count_of := ok_Book_count_of (P := P) (w := w) (base := base) (k := .shelf) T U.toCl0
    have b_count_of := T.b_Book_count_of
    have G_last_of := ok_Book_last_of (P := P) (w := w) (base := base) (k := .shelf) T U.toCl0
    have b_last_of := T.b_Book_last_of
    have G_has := ok_Shelf_has (P := P) (w := w) (base := base) T
    have b_has := T.b_Shelf_has
    refine ⟨_, (pss_cons (ps_set (i := 5) sc_l_known.nd rfl (Or.inl rfl) (pe_meth (pv 0) U.cl T.m_Shelf_has G_has (hr.mono (by decide)) b_has .nil pass0 (pa_cons (pv 1) pa_nil)))
      (pss_cons (ps_set (i := 6) sc_l_known.nd rfl (Or.inl rfl) (pe_meth (pv 0) U.cl U.m_count_of G_count_of (hr.mono (by decide)) b_count_of .nil pass0 (pa_cons (pv 1) pa_nil)))
      (pss_cons (ps_set (i := 7) sc_l_known.nd rfl (Or.inl rfl) (pe_meth (pv 0) U.cl U.m_last_of G_last_of (hr.mono (by decide)) b_last_of .nil pass0 (pa_cons (pv 1) pa_nil)))
      (pss_cons (ps_if (PW.pt (pw_or (pt_not (pt_val (pe_callB call_isi (by rfl) T.n_isinstance (by decide +kernel) (pa_cons (pv 5) (pa_cons (pe_bltn (v := .ty "bool") (u := .type "bool") rfl T.n_bool (by decide +kernel) rfl) pa_nil))))) (pw_or (pt_cmpR op_ne (pv 5) (pe_cmpR op_in_seq (pv 1) (pv 2) (by rfl)) (nomark _)) (pw_or (pt_not (pt_val (pe_call (ok_l_whole T) (hr.mono (by decide)) rfl T.mg_l_whole T.F_l_whole.kp T.b_l_whole .nil pass0 (pa_cons (pv 6) pa_nil)))) (pw_or1 (pt_cmpR op_ne (pv 6) (pe_dget hu (pv 3) (pv 1) (fun _ _ => rfl)) (nomark _))))))) (pss_one (ps_ret pe_bl)) pss_nil)
      (pss_cons (ps_if (pt_cmpR op_eq (pv 6) pe_int (nomark _)) (pss_one (ps_ret (pe_cmpR op_isN (pv 7) pe_non (nomark _)))) pss_nil)
      (pss_one (ps_ret (pe_and (pe_call (ok_l_whole T) (hr.mono (by decide)) rfl T.mg_l_whole T.F_l_whole.kp T.b_l_whole .nil pass0 (pa_cons (pv 7) pa_nil)) (pe_one (pe_cmpR op_eq (pv 7) (pe_dget hu (pv 4) (pv 1) (fun _ _ => rfl)) (nomark _))))))))))), ?_⟩
    rw [show L2.start N_l_known [V.ref ad.p, V.str n, V.ref sa, V.ref ca, V.ref la] = [some (V.ref ad.p), some (V.str n), some (V.ref sa), some (V.ref ca), some (V.ref la), none, none, none] from rfl]
    have gn := t.good n hn
    refine q_asg (v := .bl (decide (n ∈ s.st))) (ev_has A gn (ev_var rfl) (ev_var rfl)) fun H1 e1 => ?_
    dsimp only [List.set]
    refine q_asg (v := .int (cntE s.es n)) (ev_count (A.ex e1) gn (ev_var rfl) (ev_var rfl)) fun H2 e2 => ?_
    dsimp only [List.set]
    refine q_asg (v := lastV s.es n) (ev_last (A.ex (e1.trans e2)) gn (ev_var rfl) (ev_var rfl)) fun H3 e3 => ?_
    dsimp only [List.set]
    have E3 := (e1.trans e2).trans e3
    have t3 := t.ex E3
    refine q_when (b := false) (et_is (et_or (a := false) (b := false) (et_not (et_B (ev_isBoolV (ev_var rfl)))) fun _ => et_or (a := false) (b := false) (et_is (et_test (ev_op (x := .bl (decide (n ∈ s.st))) (y := .bl (decide (n ∈ s.st))) (ev_var rfl) (ev_is (ev_op (ev_var rfl) (ev_var rfl) (rv_isL (SqL.of t3.s) rfl (flat_strs _))) (by rw [inV_str])) (rv_ne rfl))) (by rw [decide_eq_true rfl]; rfl)) fun _ => et_or (a := false) (b := false) (et_not (et_B (ev_call0 (ea_cons (ev_var rfl) ea_nil) sv_whole))) fun _ => et_is (et_test (ev_op (ev_var rfl) (ev_cd (ev_var rfl) (ev_var rfl) t3.c hn) (rv_ne rfl))) (by rw [te.c n hn, decide_eq_true rfl]; rfl)) rfl) (fun hb => nomatch hb) (fun _ H4 e4 => ?_)
    have E4 := E3.trans e4
    refine q_when (b := decide (cntE s.es n = 0)) (et_is (et_test (ev_op (ev_var rfl) ev_c (rv_eq rfl))) dec_i) (fun hb H5 e5 => ?_) (fun hb H5 e5 => ?_)
    · have hb := of_decide_eq_true hb
      have hk : n ∉ s.es.map (·.1) := fun q => by have := (pos_iff te.pos n).mpr q; omega
      have e0 : lastV s.es n = .non := by
        unfold lastV
        cases h : look s.es n with
        | none => rfl
        | some q => exact absurd (look_mem.mp (by rw [h]; rfl)) hk
      exact s_ret (v := .bl true) (ev_is (ev_op (x := lastV s.es n) (ev_var rfl) ev_c rv_isN) (by rw [e0, decide_eq_true rfl])) fun H6 e6 => kk H6 ((E4.trans e5).trans e6)
    · have hb := of_decide_eq_false hb
      have hk : n ∈ s.es.map (·.1) := (pos_iff te.pos n).mp (by have := cntE_nn te.wf.cn n; omega)
      have e0 := last_mem hk
      rw [e0]
      exact s_ret (v := .bl true) (ev_and1 (b := true) (ev_call0 (ea_cons (ev_var rfl) ea_nil) sv_whole) (ev_is (ev_op (ev_var rfl) (ev_cd (ev_var rfl) (ev_var rfl) (e5 _ _ (e4 _ _ t3.l)) hn) (rv_eq rfl)) (by rw [te.l n hk, decide_eq_true rfl]))) fun H6 e6 => kk H6 ((E4.trans e5).trans e6)
def spSeen (C : Addr) : Sp := fun vs H Q _ => ∃ (ad : Ad) (n : Str) (ca la sa : Addr) (ns : List Str) (c l : Str → Int) (s : Th), vs = [.ref ad.p, .str n, .ref sa, .ref ca, .ref la, .int s.time, .int (s.deed : Int)] ∧ At .shelf C ad H s ∧ n ∈ ns ∧ Tab H ca la sa ns c l s.st ∧ TabE s ns c l ∧ s.deed ≤ 1000 ∧ RetV (.bl true) H Q
theorem sv_seen {C : Addr} {H : Hp} {ad : Ad} {n : Str} {ca la sa : Addr} {ns : List Str} {c l : Str → Int} {s : Th} (A : At .shelf C ad H s) (hn : n ∈ ns) (t : Tab H ca la sa ns c l s.st) (te : TabE s ns c l) (hd : s.deed ≤ 1000) : SpV (spSeen C) [.ref ad.p, .str n, .ref sa, .ref ca, .ref la, .int s.time, .int (s.deed : Int)] H (.bl true) := fun H1 e Q q E => ⟨ad, n, ca, la, sa, ns, c, l, s, rfl, A.ex e, hn, t.ex e, te, hd, q⟩
theorem ok_l_seen (T : Tx K mg) : FnOk P w K mg base CX0 5 T.f_l_seen T.fd_l_seen P_l_seen (spSeen T.C_Shelf) := by
  refine T.F_l_seen.ok sc_l_seen (fun vs H Q E h => ?_) (fun cdv A outer s H vs Q E hr h => ?_)
  · obtain ⟨_, _, _, _, _, _, _, _, _, rfl, _⟩ := h
    rfl
  · obtain ⟨ad, n, ca, la, sa, ns, c, l, s, rfl, A, hn, t, te, hd, kk⟩ := h
    have hu := hu_of hr
    have U := uShelf (P := P) (w := w) (base := base) T
    have G_names := ok_Book_names T U
    have b_names := T.b_Book_names
    have G_time_now := ok_Book_time_now (P := P) (w := w) (base := base) (k := .shelf) T U.toCl0
    have b_time_now := T.b_Book_time_now
    have G_deeds_done := ok_Book_deeds_done (P := P) (w := w) (base := base) (k := .shelf) T U.toCl0
    have b_deeds_done := T.b_Book_deeds_done
    refine ⟨_, (pss_cons (ps_set (i := 7) sc_l_seen.nd rfl (Or.inl rfl) (pe_meth0 (pv 0) U.cl U.m_names G_names (hr.mono (by decide)) b_names .nil pass0))
      (pss_cons (ps_if (PW.pt (pw_or (pt_not (pt_val (pe_call (ok_l_listed T) (hr.mono (by decide)) rfl T.mg_l_listed T.F_l_listed.kp T.b_l_listed .nil pass0 (pa_cons (pv 7) (pa_cons (pv 2) (pa_cons (pv 3) (pa_cons (pv 4) pa_nil))))))) (pw_or1 (pt_not (pt_val (pe_call (ok_l_known T) (hr.mono (by decide)) rfl T.mg_l_known T.F_l_known.kp T.b_l_known .nil pass0 (pa_cons (pv 0) (pa_cons (pv 1) (pa_cons (pv 2) (pa_cons (pv 3) (pa_cons (pv 4) pa_nil))))))))))) (pss_one (ps_ret pe_bl)) pss_nil)
      (pss_cons (ps_expr (pe_bm PySem.F.plainAttrs_list PySem.F.slot_list_append PySem.F.type_list_append mt_append (pv 7) (pa_cons (pv 1) pa_nil)))
      (pss_one (ps_ret (pe_and (pe_cmpR op_eq (pe_meth0 (pv 0) U.cl U.m_time_now G_time_now (hr.mono (by decide)) b_time_now .nil pass0) (pv 5) (nomark _)) (pe_one (pe_cmpR op_eq (pe_meth0 (pv 0) U.cl U.m_deeds_done G_deeds_done (hr.mono (by decide)) b_deeds_done .nil pass0) (pv 6) (nomark _))))))))), ?_⟩
    rw [show L2.start N_l_seen [V.ref ad.p, V.str n, V.ref sa, V.ref ca, V.ref la, V.int s.time, V.int (s.deed : Int)] = [some (V.ref ad.p), some (V.str n), some (V.ref sa), some (V.ref ca), some (V.ref la), some (V.int s.time), some (V.int (s.deed : Int)), none] from rfl]
    refine q_asgL (el_names A te.wf hd (ev_var rfl)) fun p H1 hp e1 h1 => ?_
    dsimp only [List.set]
    refine q_when (b := false) (et_is (et_or (a := false) (b := false) (et_not (et_B (ev_call0 (vs := [.ref p, .ref sa, .ref ca, .ref la]) (ea_cons (ev_var rfl) (ea_cons (ev_var rfl) (ea_cons (ev_var rfl) (ea_cons (ev_var rfl) ea_nil)))) (sv_listed6 h1 (t.ex e1) te)))) fun _ => et_not (et_tst (ev_call0 (vs := [.ref ad.p, .str n, .ref sa, .ref ca, .ref la]) (ea_cons (ev_var rfl) (ea_cons (ev_var rfl) (ea_cons (ev_var rfl) (ea_cons (ev_var rfl) (ea_cons (ev_var rfl) ea_nil))))) (sv_known6 (A.ex e1) hn (t.ex e1) te)))) rfl) (fun hb => nomatch hb) (fun _ H2 e2 => ?_)
    refine q_app (ev_var rfl) (e2 _ _ h1) (v := .str n) (ev_var rfl) (by
      rw [List.length_map]
      have : (Kd.shelf.names s).length = s.st.length := (sortR_perm _ _).length_eq
      have := t.len
      omega) fun H3 e3 h3 => ?_
    have E3 := ((e1.trans e2).trans e3).mut (o := .lst ((Kd.shelf.names s).map V.str ++ [V.str n])) hp
    have A3 := A.ex E3
    exact s_ret (v := .bl true) (ev_and1 (b := true) (ev_is (ev_op (ev_time A3 (ev_var rfl)) (ev_var rfl) (rv_eq rfl)) (by rw [decide_eq_true rfl])) (ev_is (ev_op (ev_deeds A3 (ev_var rfl)) (ev_var rfl) (rv_eq rfl)) (by rw [decide_eq_true rfl]))) fun H4 e4 => kk H4 (E3.trans e4)
/-! tables -/
theorem cd_congr {ns : List Str} {f g : Str → Int} (h : ∀ n ∈ ns, f n = g n) : Cd ns f = Cd ns g := by
  unfold Cd
  apply List.map_congr_left
  intro n hn
  rw [h n hn]
theorem put_cd {ns : List Str} {f : Str → Int} {n : Str} {v : Int} (hn : n ∈ ns) : putK (Cd ns f) (Sum.inr n : Key) (.int v) = Cd ns (fun m => if m = n then v else f m) := by
  unfold putK
  have : ((Cd ns f).any fun kv => decide (kv.1 = (Sum.inr n : Key))) = true := by
    rw [List.any_eq_true]
    exact ⟨_, List.mem_map.mpr ⟨n, hn, rfl⟩, decide_eq_true rfl⟩
  rw [if_pos this]
  unfold Cd
  rw [List.map_map]
  apply List.map_congr_left
  intro m _
  show (if (Sum.inr m : Key) = Sum.inr n then ((Sum.inr m : Key), V.int v) else ((Sum.inr m : Key), V.int (f m))) = _
  by_cases q : m = n
  · rw [if_pos (by rw [q])]
    show _ = ((Sum.inr m : Key), V.int (if m = n then v else f m))
    rw [if_pos q]
  · rw [if_neg (fun z => q (Sum.inr.inj z))]
    show _ = ((Sum.inr m : Key), V.int (if m = n then v else f m))
    rw [if_neg q]
theorem merge_cd {f : Str → Int} : ∀ (ys xs : List Str), (xs ++ ys).Nodup → mergeK (Cd xs f) (Cd ys f) = Cd (xs ++ ys) f
  | [], xs, _ => by rw [List.append_nil]; rfl
  | y :: ys, xs, h => by
    have hy : y ∉ xs := fun q => by
      have := (List.nodup_append.mp h).2.2 y q y List.mem_cons_self
      exact this rfl
    show mergeK (putK (Cd xs f) (Sum.inr y : Key) (V.int (f y))) (Cd ys f) = _
    have e : putK (Cd xs f) (Sum.inr y : Key) (V.int (f y)) = Cd (xs ++ [y]) f := by
      unfold putK
      have : ((Cd xs f).any fun kv => decide (kv.1 = (Sum.inr y : Key))) = false := by
        rw [List.any_eq_false]
        intro kv hkv
        obtain ⟨m, hm, rfl⟩ := List.mem_map.mp hkv
        simp only [decide_eq_true_eq]
        exact fun q => hy (by rw [← Sum.inr.inj q]; exact hm)
      rw [this, if_neg (by decide)]
      unfold Cd
      rw [List.map_append]
      rfl
    rw [e, merge_cd ys (xs ++ [y]) (by rw [List.append_assoc]; exact h), List.append_assoc]
    rfl
theorem q_asgCB {σ : L2.St} {H : Hp} {D : Ends} {tz : TS} {te : TE} {i : Nat} {r : List V → Hp → VK → Prop} {P : List V → Hp → Prop} (h : EvLP te σ H P) (k : ∀ p ys H1, H p = none → Ex H H1 → H1 p = some (.lst ys) → P ys H1 → r [.ref p] H1 (fun v H2 => tz D (σ.set i (some v)) H2)) : tSeq (tAsg (tCB r (tCons te tNil)) (gName i)) tz D σ H := h H (Ex.refl H) _ fun p ys H1 hp e h1 hP => k p ys H1 hp e h1 hP
/-- name = dict([(n, 0) for n in names]) -/
theorem q_asgZeros {σ : L2.St} {H : Hp} {D : Ends} {tz : TS} {na : Addr} {ns : List Str} {i j : Nat} {tl : TE} (h : Ev tl σ H (.ref na)) (hna : H na = some (.lst (ns.map V.str))) (nd : ns.Nodup) (hl : ns.length ≤ 1000) (hs : ∀ v, ((wipe σ [j]).set j (some v))[j]? = some (some v)) (hw : ∀ x, wipe ((wipe σ [j]).set j (some x)) [j] = wipe σ [j])
    (k : ∀ d H1, H d = none → Ex H H1 → H1 d = some (.dK (Cd ns fun _ => 0)) → tz D (σ.set i (some (.ref d))) H1) :
    tSeq (tAsg (tCB (fun xs H Q => ∃ (a : Addr) (ps : List Addr) (kvs : List (Key × V)), xs = [.ref a] ∧ SqL K H a (ps.map V.ref) ∧ Paired (fun p kv => SqT K H p [kV kv.1, kv.2]) ps kvs ∧ ∀ p, H p = none → Q (.ref p) (upd H p (.dK (mergeK [] kvs)))) (tCons (tLc (iList K tl) (gName j) tYes (tTup (tCons (tVar j) (tCons (tC (.int 0)) tNil))) [j]) tNil)) (gName i)) tz D σ H := by
  have hlc := elp_lc (wi := iList K tl) (σ := σ) (H := H) (t := tYes) (te := tTup (tCons (tVar j) (tCons (tC (.int 0)) tNil))) (g := gName j) (vs := [j]) (fun _ => true) (fun i y H' => ∃ q, y = .ref q ∧ H' q = some (.tup [.str (ns.getD i ""), .int 0])) (ei_list h (SqL.of hna)) (by rw [List.length_map]; omega) (fun i v G1 G2 h nl => by
    obtain ⟨q, e1, e2⟩ := h
    exact ⟨q, e1, nl _ _ e2 fun _ q => by cases q⟩) (by
    rintro i G1 x G2 hi eG ⟨rfl, hx⟩
    rw [List.getElem?_map] at hx
    obtain ⟨n, hn, rfl⟩ := Option.map_eq_some_iff.mp hx
    have hgd : ns.getD i "" = n := by rw [List.getD_eq_getElem?_getD, hn]; rfl
    refine ⟨Ex.refl _, _, got_name, hw _, fun G3 _ Q' q' => q' G3 (Ex.refl _), fun _ G3 e6 Q' q' => ?_⟩
    exact eu_tup (vs := [.str n, .int 0]) (ea_cons (ev_var (hs _)) (ea_cons ev_c ea_nil)) (by simp) G3 e6 Q' fun T2 G4 hT2 e4 h4 => q' _ G4 e4 ⟨T2, rfl, by rw [hgd]; exact h4⟩)
  refine q_asgCB hlc fun p ys H1 hp e1 h1 hP => ?_
  rw [List.length_map, List.filter_eq_self.mpr fun _ _ => rfl] at hP
  have key : ∃ ps : List Addr, ys = ps.map V.ref ∧ Paired (fun p kv => SqT K H1 p [kV kv.1, kv.2]) ps (Cd ns fun _ => 0) := by
    have e : (Cd ns fun _ => 0) = (List.range ns.length).map fun i => ((Sum.inr (ns.getD i "") : Key), V.int 0) := by
      unfold Cd
      conv => lhs; rw [← range_getDS ns]
      rw [List.map_map]
      rfl
    rw [e]
    clear h1 e
    generalize List.range ns.length = js at hP
    induction hP with
    | nil => exact ⟨[], rfl, .nil⟩
    | cons r _ ih =>
      obtain ⟨q, rfl, h2⟩ := r
      obtain ⟨ps, h3, h4⟩ := ih
      exact ⟨q :: ps, by rw [List.map_cons, ← h3], .cons (SqT.of h2) h4⟩
  obtain ⟨ps, rfl, hPP⟩ := key
  refine ⟨p, ps, _, rfl, SqL.of h1, hPP, fun d hd => ?_⟩
  have hm : mergeK [] (Cd ns fun _ => 0) = Cd ns fun _ => 0 := merge_cd (f := fun _ => 0) ns [] (by rw [List.nil_append]; exact nd)
  rw [hm]
  exact k d _ (fresh_back e1 hd) (e1.trans (Ex.new hd)) upd_same
theorem q_asgRows {σ : L2.St} {H : Hp} {D : Ends} {tz : TS} {te : TE} {i : Nat} {rows : List (List V)} (h : EvRows te σ H rows) (k : ∀ p H1, H p = none → Ex H H1 → TupsAt H1 p rows → tz D (σ.set i (some (.ref p))) H1) : tSeq (tAsg te (gName i)) tz D σ H := h H (Ex.refl H) _ fun p H1 hp e h1 => k p H1 hp e h1
theorem er_goings {C : Addr} {ad : Ad} {s : Th} {H : Hp} {σ : L2.St} {ta : TE} {E : XK} (A : At .shelf C ad H s) (h : Ev ta σ H (.ref ad.p)) : EvRows (tMeth C "goings" (spGoings C) [] E ta tNil) σ H (s.went.map gV) := et_goings A h
theorem q_reverseV {σ : L2.St} {H : Hp} {D : Ends} {tz : TS} {te : TE} {p : Addr} {xs : List V} (ho : Ev te σ H (.ref p)) (h : H p = some (.lst xs)) (k : ∀ H1, Ex H H1 → H1 p = some (.lst xs) → tz D σ (upd H1 p (.lst xs.reverse))) : tSeq (tDrop (tBM0 K "list" rReverse te)) tz D σ H :=
  ho H (Ex.refl H) _ fun H1 e1 => ⟨.inl ⟨rfl, _, SqL.of (e1 _ _ h)⟩, p, xs, rfl, rfl, e1 _ _ h, k H1 e1 (e1 _ _ h)⟩
theorem el_call8R {σ : L2.St} {H : Hp} {t1 t2 t3 t4 t5 t6 t7 t8 : TE} {sp : Sp} {E : XK} {x y z u a b c : V} {xs : List V} {rows : List (List V)} (h1 : Ev t1 σ H x) (h2 : Ev t2 σ H y) (h3 : EvRows t3 σ H rows) (h4 : Ev t4 σ H z) (h5 : Ev t5 σ H u) (h6 : Ev t6 σ H a) (h7 : Ev t7 σ H b) (h8 : Ev t8 σ H c) (hs : ∀ p H1, Ex H H1 → TupsAt H1 p rows → SpL sp [x, y, .ref p, z, u, a, b, c] H1 xs) : EvL (tCall sp [] E (tCons t1 (tCons t2 (tCons t3 (tCons t4 (tCons t5 (tCons t6 (tCons t7 (tCons t8 tNil))))))))) σ H xs := fun H1 e Q q =>
  h1 H1 e _ fun H2 e2 => h2 H2 (e.trans e2) _ fun H3 e3 => h3 H3 ((e.trans e2).trans e3) _ fun p H4 _ e4 hT => h4 H4 (((e.trans e2).trans e3).trans e4) _ fun H5 e5 => h5 H5 ((((e.trans e2).trans e3).trans e4).trans e5) _ fun H6 e6 => h6 H6 (((((e.trans e2).trans e3).trans e4).trans e5).trans e6) _ fun H7 e7 => h7 H7 ((((((e.trans e2).trans e3).trans e4).trans e5).trans e6).trans e7) _ fun H8 e8 => h8 H8 (((((((e.trans e2).trans e3).trans e4).trans e5).trans e6).trans e7).trans e8) _ fun H9 e9 => by
    have E8 := (((((((e2.trans e3).trans e4).trans e5).trans e6).trans e7).trans e8).trans e9)
    exact hs p H9 (e.trans E8) (hT.ex ((((e5.trans e6).trans e7).trans e8).trans e9)) H9 (Ex.refl _) Q (fun r H9 hr e9 h9 => q r H9 (fresh_back E8 hr) (E8.trans e9) h9) E
theorem ev_call4L {σ : L2.St} {H : Hp} {t1 t2 t3 t4 : TE} {sp : Sp} {E : XK} {y z u v : V} {xs : List V} (h1 : EvL t1 σ H xs) (h2 : Ev t2 σ H y) (h3 : Ev t3 σ H z) (h4 : Ev t4 σ H u) (hs : ∀ p H1, Ex H H1 → H1 p = some (.lst xs) → SpV sp [.ref p, y, z, u] H1 v) : Ev (tCall sp [] E (tCons t1 (tCons t2 (tCons t3 (tCons t4 tNil))))) σ H v := fun H1 e Q q =>
  h1 H1 e _ fun p H2 _ e2 hp => h2 H2 (e.trans e2) _ fun H3 e3 => h3 H3 ((e.trans e2).trans e3) _ fun H4 e4 => h4 H4 (((e.trans e2).trans e3).trans e4) _ fun H5 e5 =>
    hs p H5 ((((e.trans e2).trans e3).trans e4).trans e5) (e5 _ _ (e4 _ _ (e3 _ _ hp))) H5 (Ex.refl _) Q (fun H7 e7 => q H7 ((((e2.trans e3).trans e4).trans e5).trans e7)) E
end

end Own
namespace Own
open PySem L2 PyProof.Rows Evl OwnS
/-- a condition of arithmetic -/
local macro_rules | `(tactic| walk_at "side") => `(tactic| first
  | assumption
  | (show _ ∧ _; omega)
  | (apply pos9 <;> omega)
  | (show (0 : Int) < _; omega)
  | (show _ ∨ _; omega)
  | decide
  | omega)
local macro_rules | `(tactic| walk_at "fn") => `(tactic| fail "no fn")
local macro_rules | `(tactic| walk_at "ev") => `(tactic| first
  | ((with_reducible apply ev_var) ; exact rfl)
  | with_reducible exact ev_c
  | ((with_reducible apply ev_op) <;> walk_at "ev")
  | with_reducible exact rv_I0
  | ((with_reducible apply rv_I) ; walk_at "side")
  | ((with_reducible apply rv_eq) ; rfl)
  | ((with_reducible apply rv_ne) ; rfl)
  | ((with_reducible apply ev_isInt) ; walk_at "ev")
  | ((with_reducible apply ev_isBoolI) ; walk_at "ev")
  | ((with_reducible apply ev_isIntB) ; walk_at "ev")
  | ((with_reducible apply ev_isBoolB) ; walk_at "ev")
  | ((with_reducible apply ev_notV) ; walk_at "ev")
  | ((with_reducible apply et_test) ; walk_at "ev")
  | ((with_reducible apply et_B) ; walk_at "ev")
  | ((with_reducible apply et_not) ; walk_at "ev")
  | with_reducible exact ea_nil
  | ((with_reducible apply ea_cons) <;> walk_at "ev")
  | ((with_reducible apply ev_call0) <;> walk_at "ev")
  | ((with_reducible show SpV _ _ _ _); walk_at "fn"))

/-! ### the law's deeds in the heap -/
theorem deeds_of {H : Hp} {ns : List Str} : ∀ {is : List Nat} {ys : List V}, Paired (fun _ y => ∃ (d : Deed) (p : Addr), d.Good ns ∧ y = .ref p ∧ H p = some (.tup d.V)) is ys →
    ∃ ds : List Deed, ds.length = is.length ∧ (∀ d ∈ ds, d.Good ns) ∧ ys.length = (ds.map Deed.V).length ∧ ∀ (i : Nat) (r : List V), (ds.map Deed.V)[i]? = some r → ∃ q, ys[i]? = some (.ref q) ∧ H q = some (.tup r)
  | _, _, .nil => ⟨[], rfl, (fun d h => nomatch h), rfl, (fun i r h => nomatch h)⟩
  | _, _, .cons r t => by
    obtain ⟨ds, h1, h2, h3, h4⟩ := deeds_of t
    obtain ⟨d, p, hg, rfl, hp⟩ := r
    refine ⟨d :: ds, by rw [List.length_cons, List.length_cons, h1], fun x hx => ?_, by rw [List.map_cons, List.length_cons, List.length_cons, h3], fun i r hr => ?_⟩
    · rcases List.mem_cons.mp hx with rfl | hx
      · exact hg
      · exact h2 x hx
    · cases i with
      | zero => cases hr; exact ⟨p, rfl, hp⟩
      | succ i => exact h4 i r hr

/-! ### k07: the law (under way) -/
section
variable {P : Program} {w : World} {K : PySem.W.Frag} {mg : Str → Option Value} {base : Heap}
def GoodDeedAt (ns : List Str) (y : V) (H : Hp) : Prop := ∃ (d : Deed) (p : Addr), d.Good ns ∧ y = .ref p ∧ H p = some (.tup d.V)
theorem GoodDeedAt.ex {ns : List Str} {y : V} {H H' : Hp} (h : GoodDeedAt ns y H) (e : Ex H H') : GoodDeedAt ns y H' := by
  obtain ⟨d, p, h1, h2, h3⟩ := h
  exact ⟨d, p, h1, h2, e _ _ h3⟩
/-- a list of good deeds in the heap -/
def DeedsL (H : Hp) (p : Addr) (ns : List Str) (n : Nat) : Prop := ∃ ds : List Deed, ds.length ≤ n ∧ (∀ d ∈ ds, d.Good ns) ∧ TupsAt H p (ds.map Deed.V)
theorem DeedsL.ex {H H' : Hp} {p : Addr} {ns : List Str} {n : Nat} (h : DeedsL H p ns n) (e : Ex H H') : DeedsL H' p ns n := by
  obtain ⟨ds, h1, h2, h3⟩ := h
  exact ⟨ds, h1, h2, h3.ex e⟩
theorem DeedsL.push {H : Hp} {p : Addr} {ns : List Str} {n : Nat} {xs : List V} {v : V} (h : DeedsL H p ns n) (hx : H p = some (.lst xs)) (hv : GoodDeedAt ns v H) : DeedsL (upd H p (.lst (xs ++ [v]))) p ns (n + 1) := by
  obtain ⟨ds, h1, h2, vs, h3, h4, h5⟩ := h
  obtain ⟨d, q, g1, rfl, g3⟩ := hv
  rw [hx] at h3
  cases h3
  refine ⟨ds ++ [d], by rw [List.length_append, List.length_singleton]; omega, fun x hx => ?_, ?_⟩
  · rcases List.mem_append.mp hx with h | h
    · exact h2 x h
    · rw [List.mem_singleton.mp h]; exact g1
  · rw [List.map_append]
    exact TupsAt.push hx h4 h5 g3
theorem deedsL_of {H : Hp} {ns : List Str} {p : Addr} {is : List Nat} {ys : List V} {n : Nat} (hn : is.length ≤ n) (h : Paired (fun _ y => GoodDeedAt ns y H) is ys) (hp : H p = some (.lst ys)) : DeedsL H p ns n := by
  obtain ⟨ds, h1, h2, h3, h4⟩ := deeds_of h
  exact ⟨ds, by omega, h2, ys, hp, h3, h4⟩
/-- a row of held lists: each twice, told and copied -/
def HeldR (ns : List Str) (no : Addr → Prop) (H : Hp) (r : List V) : Prop := ∃ (f1 f2 g1 g2 : Addr) (l m : List Str), r = [.ref f1, .ref f2, .ref g1, .ref g2] ∧ H f1 = some (.lst (l.map V.str)) ∧ H f2 = some (.lst (l.map V.str)) ∧ H g1 = some (.lst (m.map V.str)) ∧ H g2 = some (.lst (m.map V.str)) ∧ no f1 ∧ no f2 ∧ no g1 ∧ no g2 ∧ (∀ n ∈ l, n ∈ ns) ∧ ∀ n ∈ m, n ∈ ns
theorem HeldR.kp {ns : List Str} {no : Addr → Prop} {H H' : Hp} {r : List V} (h : HeldR ns no H r) (kp : ∀ b o, H b = some o → no b → H' b = some o) : HeldR ns no H' r := by
  obtain ⟨f1, f2, g1, g2, l, m, h0, h1, h2, h3, h4, n1, n2, n3, n4, h5, h6⟩ := h
  exact ⟨f1, f2, g1, g2, l, m, h0, kp _ _ h1 n1, kp _ _ h2 n2, kp _ _ h3 n3, kp _ _ h4 n4, n1, n2, n3, n4, h5, h6⟩
end

/-! ### k06: the law -/
section
variable {P : Program} {w : World} {K : PySem.W.Frag} {mg : Str → Option Value} {base : Heap}
theorem rest_reason {s : Th} {d : Deed} : ∀ g ∈ restD s d, g.reason ≠ "faded" := by
  have h1 : ("dropped" : Str) ≠ "faded" := by decide +kernel
  have h2 : ("crowded" : Str) ≠ "faded" := by decide +kernel
  intro g hg
  unfold restD at hg
  cases d with
  | rest t => cases hg
  | drop n =>
    dsimp only at hg
    split at hg
    · rw [List.mem_singleton.mp hg]; exact h1
    · cases hg
  | ask n x =>
    dsimp only at hg
    split at hg
    · cases hg
    · split at hg
      · rw [List.mem_singleton.mp hg]; exact h2
      · cases hg
def cAct (s : Th) (d : Deed) (n : Str) : Int := match d with
  | .ask m x => if n = m then beh s d n + x else beh s d n
  | _ => beh s d n
def lAct (s : Th) (d : Deed) (l : Str → Int) (n : Str) : Int := match d with
  | .ask m _ => if n = m then (s.deed : Int) + 1 else l n
  | _ => l n
theorem deed_steps {ns : List Str} {d : Deed} (g : d.Good ns) : 0 ≤ d.steps := by
  cases d with
  | rest t => exact g.1
  | drop n => exact Int.le_refl 0
  | ask n x => exact (by decide : (0 : Int) ≤ 1)
theorem ok_law (T : Tx K mg) : FnOk P w K mg base CX0 13 T.f_law T.fd_law P_law (spLaw K) := by
  refine T.F_law.ok sc_law (fun vs H Q E h => ?_) (fun cdv A outer s H vs Q E hr h => ?_)
  · obtain ⟨a, ns, rfl, _⟩ := h
    rfl
  · obtain ⟨a, cs, rfl, hS, hl, kk⟩ := h
    have hu := hu_of hr
    have hrM := hr.mono (by decide : (5 : Nat) ≤ 12)
    have U := uShelf (P := P) (w := w) (base := base) T
    have G_names := ok_Book_names T U
    have b_names := T.b_Book_names
    have G_goings := ok_Shelf_goings (P := P) (w := w) (base := base) T
    have b_goings := T.b_Shelf_goings
    refine ⟨_, (pss_cons (ps_set (i := 1) sc_law.nd rfl (Or.inl rfl) (pe_call (ok_l_names T) (hr.mono (by decide)) rfl T.mg_l_names T.F_l_names.kp T.b_l_names .nil pass0 (pa_cons (pe_call (ok_l_cell_at T) (hr.mono (by decide)) rfl T.mg_l_cell_at T.F_l_cell_at.kp T.b_l_cell_at .nil pass0 (pa_cons (pv 0) (pa_cons pe_int pa_nil))) (pa_cons (pe_call (ok_l_many T) (hr.mono (by decide)) rfl T.mg_l_many T.F_l_many.kp T.b_l_many .nil pass0 (pa_cons (pe_call (ok_l_cell_at T) (hr.mono (by decide)) rfl T.mg_l_cell_at T.F_l_cell_at.kp T.b_l_cell_at .nil pass0 (pa_cons (pv 0) (pa_cons pe_int pa_nil))) pa_nil)) pa_nil))))
      (pss_cons (ps_set (i := 2) sc_law.nd rfl (Or.inl rfl) (pe_call (ok_l_span T) (hr.mono (by decide)) rfl T.mg_l_span T.F_l_span.kp T.b_l_span .nil pass0 (pa_cons (pe_call (ok_l_cell_at T) (hr.mono (by decide)) rfl T.mg_l_cell_at T.F_l_cell_at.kp T.b_l_cell_at .nil pass0 (pa_cons (pv 0) (pa_cons pe_int pa_nil))) pa_nil)))
      (pss_cons (ps_set (i := 3) sc_law.nd rfl (Or.inl rfl) (pe_call (ok_l_part T) (hr.mono (by decide)) rfl T.mg_l_part T.F_l_part.kp T.b_l_part .nil pass0 (pa_cons (pe_op op_fdivW (pe_call (ok_l_cell_at T) (hr.mono (by decide)) rfl T.mg_l_cell_at T.F_l_cell_at.kp T.b_l_cell_at .nil pass0 (pa_cons (pv 0) (pa_cons pe_int pa_nil))) pe_int) pa_nil)))
      (pss_cons (ps_set (i := 4) sc_law.nd rfl (Or.inl rfl) (pe_call (ok_l_places T) (hr.mono (by decide)) rfl T.mg_l_places T.F_l_places.kp T.b_l_places .nil pass0 (pa_cons (pe_call (ok_l_cell_at T) (hr.mono (by decide)) rfl T.mg_l_cell_at T.F_l_cell_at.kp T.b_l_cell_at .nil pass0 (pa_cons (pv 0) (pa_cons pe_int pa_nil))) pa_nil)))
      (pss_cons (ps_setLc (i := 6) (own := [("_law_name", 5)]) (g := (gName 5)) (by rfl) sc_law.nd rfl rfl (sw_true rfl rfl rfl (by decide +kernel)) (pi_list (pv 1)) (blkOk_by (own := [("_law_name", 5)]) (N := N_law) (sc := defScope s_law) (by decide +kernel)) (fun _ _ _ _ _ => (pg_name (i := 5) sc_law.nd rfl (Or.inl rfl))) (fun _ _ _ _ _ => (pts_one (pt_cmpR op_eq (pe_op op_mod (pe_op op_fdivW (pe_call (ok_l_cell_at T) (hr.mono (by decide)) rfl T.mg_l_cell_at T.F_l_cell_at.kp T.b_l_cell_at .nil pass0 (pa_cons (pv 0) (pa_cons pe_int pa_nil))) pe_int) pe_int) pe_int (nomark _)))) (fun _ _ _ _ _ => (pe_tup (pa_cons pe_str (pa_cons (pv 5) (pa_cons pe_int pa_nil))))))
      (pss_cons (ps_for PassesOwn.never rfl (pi_enum (by rfl) T.n_enumerate (pa_cons (pe_slice sl_list (pv 0) (po_some pe_int) po_none) pa_nil)) (pg_tup (by rfl) (pgs_cons (pg_name (i := 7) sc_law.nd rfl (Or.inl rfl)) (pgs_cons (pg_name (i := 8) sc_law.nd rfl (Or.inl rfl)) pgs_nil))) (pss_one (ps_expr (pe_bm PySem.F.plainAttrs_list PySem.F.slot_list_append PySem.F.type_list_append mt_append (pv 6) (pa_cons (pe_call (ok_l_deed T) (hr.mono (by decide)) rfl T.mg_l_deed T.F_l_deed.kp T.b_l_deed .nil pass0 (pa_cons (pv 8) (pa_cons (pv 7) (pa_cons (pv 1) (pa_cons (pv 2) (pa_cons (pe_op op_mod (pe_call (ok_l_cell_at T) (hr.mono (by decide)) rfl T.mg_l_cell_at T.F_l_cell_at.kp T.b_l_cell_at .nil pass0 (pa_cons (pv 0) (pa_cons pe_int pa_nil))) pe_int) pa_nil)))))) pa_nil)))))
      (pss_cons (ps_set (i := 9) sc_law.nd rfl (Or.inl rfl) (pe_make T.M_Shelf (ok_Shelf_init T) hrM rfl T.mgC_Shelf T.b_Shelf_init .nil pass0 (pa_cons (pv 4) (pa_cons (pv 2) (pa_cons (pv 3) pa_nil)))))
      (pss_cons (ps_set (i := 10) sc_law.nd rfl (Or.inl rfl) (pe_callTy (call_dictP rfl) (by rfl) T.n_dict (by decide +kernel) (pa_cons (pe_lc (own := [("_law_name", 5)]) (g := (gName 5)) (by rfl) sc_law.nd (pi_list (pv 1)) (blkOk_by (own := [("_law_name", 5)]) (N := N_law) (sc := defScope s_law) (by decide +kernel)) (fun _ _ _ _ _ => (pg_name (i := 5) sc_law.nd rfl (Or.inl rfl))) (fun _ _ _ _ _ => pts_nil) (fun _ _ _ _ _ => (pe_tup (pa_cons (pv 5) (pa_cons pe_int pa_nil))))) pa_nil)))
      (pss_cons (ps_set (i := 11) sc_law.nd rfl (Or.inl rfl) (pe_callTy (call_dictP rfl) (by rfl) T.n_dict (by decide +kernel) (pa_cons (pe_lc (own := [("_law_name", 5)]) (g := (gName 5)) (by rfl) sc_law.nd (pi_list (pv 1)) (blkOk_by (own := [("_law_name", 5)]) (N := N_law) (sc := defScope s_law) (by decide +kernel)) (fun _ _ _ _ _ => (pg_name (i := 5) sc_law.nd rfl (Or.inl rfl))) (fun _ _ _ _ _ => pts_nil) (fun _ _ _ _ _ => (pe_tup (pa_cons (pv 5) (pa_cons pe_int pa_nil))))) pa_nil)))
      (pss_cons (ps_set (i := 12) sc_law.nd rfl (Or.inl rfl) (pe_lst pa_nil))
      (pss_cons (ps_set (i := 13) sc_law.nd rfl (Or.inl rfl) (pe_lst pa_nil))
      (pss_cons (ps_set (i := 14) sc_law.nd rfl (Or.inl rfl) (pe_meth0 (pv 9) U.cl T.m_Shelf_goings G_goings (hr.mono (by decide)) b_goings .nil pass0))
      (pss_cons (ps_set (i := 15) sc_law.nd rfl (Or.inl rfl) pe_int)
      (pss_cons (ps_for PassesOwn.never rfl (pi_enum (by rfl) T.n_enumerate (pa_cons (pv 6) pa_nil)) (pg_tup (by rfl) (pgs_cons (pg_name (i := 7) sc_law.nd rfl (Or.inl rfl)) (pgs_cons (pg_name (i := 16) sc_law.nd rfl (Or.inl rfl)) pgs_nil))) (pss_cons (ps_set (i := 17) sc_law.nd rfl (Or.inl rfl) (pe_call (ok_l_do T U) (hr.mono (by decide)) rfl T.mg_l_do T.F_l_do.kp T.b_l_do .nil pass0 (pa_cons (pv 9) (pa_cons (pv 16) pa_nil))))
      (pss_cons (ps_set (i := 18) sc_law.nd rfl (Or.inl rfl) (pe_op op_sub (pe_op op_fdivW (pe_op op_add (pv 15) (pe_call (ok_l_steps T) (hr.mono (by decide)) rfl T.mg_l_steps T.F_l_steps.kp T.b_l_steps .nil pass0 (pa_cons (pv 16) pa_nil))) (pv 2)) (pe_op op_fdivW (pv 15) (pv 2))))
      (pss_cons (ps_set (i := 15) sc_law.nd rfl (Or.inl rfl) (pe_op op_add (pv 15) (pe_call (ok_l_steps T) (hr.mono (by decide)) rfl T.mg_l_steps T.F_l_steps.kp T.b_l_steps .nil pass0 (pa_cons (pv 16) pa_nil))))
      (pss_cons (ps_for PassesOwn.never rfl (pi_list (pv 1)) (pg_name (i := 5) sc_law.nd rfl (Or.inl rfl)) (pss_one (ps_dput hu (pv 10) (pv 5) (pe_call (ok_l_aged T) (hr.mono (by decide)) rfl T.mg_l_aged T.F_l_aged.kp T.b_l_aged .nil pass0 (pa_cons (pe_dget hu (pv 10) (pv 5) (fun _ _ => rfl)) (pa_cons (pv 3) (pa_cons (pv 18) pa_nil)))) rfl)))
      (pss_cons (ps_set (i := 19) sc_law.nd rfl (Or.inl rfl) (pe_meth0 (pv 9) U.cl T.m_Shelf_goings G_goings (hr.mono (by decide)) b_goings .nil pass0))
      (pss_cons (ps_if (PW.pt (pw_or (pt_not (pt_val (pe_callB call_isi (by rfl) T.n_isinstance (by decide +kernel) (pa_cons (pv 19) (pa_cons (pe_bltn (v := .ty "list") (u := .type "list") rfl T.n_list (by decide +kernel) rfl) pa_nil))))) (pw_or (pt_cmpR (op_neD hr.units) (pe_slice sl_list (pv 19) po_none (po_some (pe_callB call_len_seq (by rfl) T.n_len PySem.boot_len (pa_cons (pv 13) pa_nil)))) (pv 13) (nomark _)) (pw_or1 (pt_not (pt_val (pe_call (ok_l_rested T) (hr.mono (by decide)) rfl T.mg_l_rested T.F_l_rested.kp T.b_l_rested .nil pass0 (pa_cons (pv 16) (pa_cons (pv 17) (pa_cons (pv 18) pa_nil)))))))))) (pss_one (ps_ret pe_bl)) pss_nil)
      (pss_cons (ps_set (i := 12) sc_law.nd rfl (Or.inl rfl) (pe_call (ok_l_walked T) (hr.mono (by decide)) rfl T.mg_l_walked T.F_l_walked.kp T.b_l_walked .nil pass0 (pa_cons (pe_op op_add (pv 7) pe_int) (pa_cons (pv 16) (pa_cons (pe_slice sl_list (pv 19) (po_some (pe_callB call_len_seq (by rfl) T.n_len PySem.boot_len (pa_cons (pv 13) pa_nil))) po_none) (pa_cons (pv 17) (pa_cons (pv 10) (pa_cons (pv 11) (pa_cons (pv 12) (pa_cons (pv 4) pa_nil))))))))))
      (pss_cons (ps_if (pt_cmpR op_isN (pv 12) pe_non (nomark _)) (pss_one (ps_ret pe_bl)) pss_nil)
      (pss_cons (ps_set (i := 13) sc_law.nd rfl (Or.inl rfl) (pe_callTy call_list_of (by rfl) T.n_list (by decide +kernel) (pa_cons (pv 19) pa_nil)))
      (pss_cons (ps_expr (pe_bm0 PySem.F.plainAttrs_list PySem.F.slot_list_reverse PySem.F.type_list_reverse mt_reverse (pv 19)))
      (pss_cons (ps_if (pt_cmpR op_eq (pe_ix ix_tup (pv 16) pe_int (fun _ _ => rfl)) pe_str (nomark _)) (pss_cons (ps_dput hu (pv 10) (pe_ix ix_tup (pv 16) pe_int (fun _ _ => rfl)) (pe_op op_add (pe_dget hu (pv 10) (pe_ix ix_tup (pv 16) pe_int (fun _ _ => rfl)) (fun _ _ => rfl)) (pe_ix ix_tup (pv 16) pe_int (fun _ _ => rfl))) rfl)
      (pss_one (ps_dput hu (pv 11) (pe_ix ix_tup (pv 16) pe_int (fun _ _ => rfl)) (pe_op op_add (pv 7) pe_int) rfl))) pss_nil)
      (pss_cons (ps_set (i := 5) sc_law.nd rfl (Or.inl rfl) (pe_ix ix_list (pv 1) (pe_op op_mod (pe_op op_add (pv 7) (pe_call (ok_l_cell_at T) (hr.mono (by decide)) rfl T.mg_l_cell_at T.F_l_cell_at.kp T.b_l_cell_at .nil pass0 (pa_cons (pv 0) (pa_cons pe_int pa_nil)))) (pe_callB call_len_seq (by rfl) T.n_len PySem.boot_len (pa_cons (pv 1) pa_nil))) (fun _ _ => rfl)))
      (pss_one (ps_if (pt_not (pt_val (pe_call (ok_l_seen T) (hr.mono (by decide)) rfl T.mg_l_seen T.F_l_seen.kp T.b_l_seen .nil pass0 (pa_cons (pv 9) (pa_cons (pv 5) (pa_cons (pv 12) (pa_cons (pv 10) (pa_cons (pv 11) (pa_cons (pv 15) (pa_cons (pe_op op_add (pv 7) pe_int) pa_nil)))))))))) (pss_one (ps_ret pe_bl)) pss_nil)))))))))))))))
      (pss_one (ps_ret (pe_and (pe_cmpR (op_eqD hr.units) (pv 14) (pe_lst pa_nil) (nomark _)) (pe_and (pe_cmpR (op_eqD hr.units) (pe_meth0 (pv 9) U.cl T.m_Shelf_goings G_goings (hr.mono (by decide)) b_goings .nil pass0) (pv 13) (nomark _)) (pe_one (pe_call (ok_l_listed T) (hr.mono (by decide)) rfl T.mg_l_listed T.F_l_listed.kp T.b_l_listed .nil pass0 (pa_cons (pe_meth0 (pv 9) U.cl U.m_names G_names (hr.mono (by decide)) b_names .nil pass0) (pa_cons (pv 12) (pa_cons (pv 10) (pa_cons (pv 11) pa_nil)))))))))))))))))))))))), ?_⟩
    rw [show L2.start N_law [V.ref a] = [some (V.ref a), none, none, none, none, none, none, none, none, none, none, none, none, none, none, none, none, none, none, none] from rfl]
    have cell : ∀ (i : Nat) {σ' H'} , Ex H H' → σ'[0]? = some (some (.ref a)) → Ev (tCall (spCell K) [] E0 (tCons (tVar 0) (tCons (tC (.int i)) tNil))) σ' H' (.int (cellAt cs i)) := fun i σ' H' e h0 =>
      ev_call0 (vs := [.ref a, .int i]) (ea_cons (ev_var h0) (ea_cons ev_c ea_nil)) (sv_cell (ex_l e hS) hl)
    refine q_asgC2P (cell 0 (Ex.refl _) rfl) (ev_callP (vs := [.int (cellAt cs 1)]) (ea_cons (cell 1 (Ex.refl _) rfl) ea_nil) sp_in) ?_
    rintro _ H1 e1 ⟨m0, rfl, m1, m2⟩
    refine ⟨_, _, rfl, m1, m2, fun ns hN na H2 hna0 e2 hna => ?_⟩
    dsimp only [List.set]
    have E2 := e1.trans e2
    refine q_asgP (ev_callP (vs := [.int (cellAt cs 2)]) (ea_cons (cell 2 E2 rfl) ea_nil) sp_in) ?_
    rintro _ H3 e3 ⟨span, rfl, s1, s2⟩
    dsimp only [List.set]
    have E3 := E2.trans e3
    refine q_asgP (ev_callP (vs := [.int (cellAt cs 3 / 3)]) (ea_cons (ev_op (cell 3 E3 rfl) ev_c (rv_I (by walk_at "side"))) ea_nil) sp_in) ?_
    rintro _ H4 e4 ⟨part, rfl, p1, p2⟩
    dsimp only [List.set]
    have E4 := E3.trans e4
    have RU : Rule span part := ⟨s1, s2, p1, p2⟩
    refine q_asgP (ev_callP (vs := [.int (cellAt cs 4)]) (ea_cons (cell 4 E4 rfl) ea_nil) sp_in) ?_
    rintro _ H6 e6 ⟨pl, rfl, pl1, pl2⟩
    dsimp only [List.set]
    have E6 := E4.trans e6
    have hna6 := e6 _ _ (e4 _ _ (e3 _ _ hna))
    have hlen := hN.len
    have nlen : ns.length ≤ 30 := by omega
    refine q_asgLP (elp_lc (fun _ => decide (cellAt cs 0 / 5 % 4 = 1)) (fun _ y H' => GoodDeedAt ns y H') (ei_list (ev_var rfl) (SqL.of hna6)) (by rw [List.length_map]; omega) (fun i v G1 G2 h nl => by
      obtain ⟨d, p, h1, h2, h3⟩ := h
      exact ⟨d, p, h1, h2, nl _ _ h3 fun _ q => by cases q⟩) ?_) ?_
    · rintro i G1 x G2 hi eG ⟨rfl, hx⟩
      rw [List.getElem?_map] at hx
      obtain ⟨n, hn, rfl⟩ := Option.map_eq_some_iff.mp hx
      refine ⟨Ex.refl _, _, got_name, rfl, et_is (et_test (ev_op (ev_op (ev_op (cell 0 (E6.trans eG) rfl) ev_c (rv_I (by walk_at "side"))) ev_c (rv_I (by decide))) ev_c (rv_eq rfl))) dec_i, fun _ G3 e6 Q' q' => ?_⟩
      exact eu_tup (vs := (Deed.ask n 1).V) (ea_cons ev_c (ea_cons (ev_var rfl) (ea_cons ev_c ea_nil))) (by simp [Deed.V]) G3 e6 Q' fun T2 G4 hT2 e4 h4 => q' _ G4 e4 ⟨.ask n 1, T2, ⟨List.mem_of_getElem? hn, by decide, by decide⟩, rfl, h4⟩
    intro dl ys H8 hdl0 e8 hdl hP
    dsimp only [List.set]
    have DL : DeedsL H8 dl ns 30 := deedsL_of (Nat.le_trans (List.length_filter_le _ _) (by rw [List.length_range, List.length_map]; exact nlen)) hP hdl
    have E8 := E6.trans e8
    have hcut : (cutV (cs.map V.int) (some 5) none).length ≤ 63 := by
      have := cutV_length (cs.map V.int) (some 5) none
      rw [List.length_map] at this
      omega
    have cutI : ∀ (i : Nat) v, (cutV (cs.map V.int) (some 5) none)[i]? = some v → ∃ c, v = V.int c := fun i v h => by
      have : v ∈ cs.map V.int := by
        have h2 := List.mem_of_getElem? h
        unfold cutV at h2
        exact List.mem_of_mem_drop (List.mem_of_mem_take h2)
      obtain ⟨c, _, rfl⟩ := List.mem_map.mp this
      exact ⟨c, rfl⟩
    generalize hcutE : cutV (cs.map V.int) (some 5) none = cut at hcut cutI
    refine q_forEN (xs := cut) (by rw [← hcutE]; exact el_sl (ev_var rfl) (eo_some ev_c) eo_none (ex_l E8 hS))
      (fun p t σ' H' => ∃ (x7 x8 : Option V), σ' = [some (V.ref a), some (V.ref na), some (V.int span), some (V.int part), some (V.int pl), none, some (V.ref dl), x7, x8, none, none, none, none, none, none, none, none, none, none, none] ∧ Ex H6 H' ∧ DeedsL H' dl ns (30 + t) ∧ H' p = some (.lst cut) ∧ p ≠ dl)
      (fun p H9 hp e9 h9 => ⟨_, _, rfl, e8.trans e9, DL.ex e9, h9, fun q => by rw [q, hdl] at hp; cases hp⟩) (fun p t σ' H' _ h => by obtain ⟨_, _, _, _, _, h, _⟩ := h; exact SqL.of h) ?_ ?_
    · rintro p t x σ' H9 H10 hx ⟨x7, x8, rfl, e9, D9, hp, hne⟩ e10
      dsimp only [List.set]
      obtain ⟨c, rfl⟩ := cutI t x hx
      have ht : t < 63 := by have := (List.getElem?_eq_some_iff.mp hx).1; omega
      have D10 := D9.ex e10
      have E10 := e9.trans e10
      have hp10 := e10 _ _ hp
      have l0 : 0 ≤ cellAt cs 3 % 3 := Int.emod_nonneg _ (by decide)
      have l1 : cellAt cs 3 % 3 < 3 := Int.emod_lt_of_pos _ (by decide)
      obtain ⟨ds, d1, d2, vs, d3, d4, d5⟩ := id D10
      rw [List.length_map] at d4
      refine s_appP (P := GoodDeedAt ns) (ev_var rfl) d3 (fun H11 e11 Q' q' => ev_callR (vs := [.int c, .int (t : Int), .ref na, .int span, .int (cellAt cs 3 % 3)]) (dvs := []) (ea_cons (ev_var rfl) (ea_cons (ev_var rfl) (ea_cons (ev_var rfl) (ea_cons (ev_var rfl) (ea_cons (ev_op (cell 3 (E6.trans (E10.trans e11)) rfl) ev_c (rv_I (by decide))) ea_nil))))) fun H12 e12 => ⟨c, t, na, ns, span, _, rfl, SqL.of ((E10.trans (e11.trans e12)) _ _ hna6), by omega, by omega, by omega, s1, s2, l0, l1, fun d hd dp H13 hdp e13 h13 => q' _ H13 (e12.trans e13) ⟨d, dp, hd, rfl, h13⟩⟩) (by omega) fun v H11 e11 hv h11 => ?_
      refine ⟨_, _, rfl, ?_, (D10.ex e11).push h11 hv, ?_, hne⟩
      · exact (E10.trans e11).mut hdl0
      · rw [upd_ne hne]; exact e11 _ _ hp10
    rintro p σ' Hb ⟨x7, x8, rfl, e9, ⟨ds, dlen, dgood, TD⟩, _⟩
    have dl93 : ds.length ≤ 93 := by omega
    have hnab := e9 _ _ hna6
    have Eb := E6.trans e9
    clear hP hcutE DL
    obtain ⟨dvs, dv1, dv2, dv3⟩ := TD
    rw [List.length_map] at dv2
    refine q_asgShelf (ea_cons (ev_var rfl) (ea_cons (ev_var rfl) (ea_cons (ev_var rfl) ea_nil))) pl1 pl2 s1 s2 p1 p2 fun ad H10 e10 off A10 => ?_
    dsimp only [List.set]
    refine q_asgZeros (ns := ns) (ev_var rfl) (e10 _ _ hnab) hN.nd (by omega) (fun v => rfl) (fun v => rfl) fun ca H11 hca0 e11 hca => ?_
    dsimp only [List.set]
    refine q_asgZeros (ns := ns) (ev_var rfl) (e11 _ _ (e10 _ _ hnab)) hN.nd (by omega) (fun v => rfl) (fun v => rfl) fun la H12 hla0 e12 hla => ?_
    dsimp only [List.set]
    refine q_asgL (el_lst ea_nil (by decide)) fun sa H13 hsa0 e13 hsa => ?_
    dsimp only [List.set]
    refine q_asgL (el_lst ea_nil (by decide)) fun wl H14 hwl0 e14 hwl => ?_
    dsimp only [List.set]
    have A14 := A10.ex (((e11.trans e12).trans e13).trans e14)
    refine q_asgRows (rows := ([] : List Going).map gV) (er_goings A14 (ev_var rfl)) fun hd H15 hhd0 e15 hhd => ?_
    dsimp only [List.set]
    refine q_asg (v := .int 0) ev_c fun H16 e16 => ?_
    dsimp only [List.set]
    have E1016 := ((((e11.trans e12).trans e13).trans e14).trans e15).trans e16
    have EB16 := e10.trans E1016
    have cab : Hb ca = none := fresh_back e10 hca0
    have lab : Hb la = none := fresh_back (e10.trans e11) hla0
    have caO : ca ∉ own .shelf ad := own_tracked A10 hca0
    have laO : la ∉ own .shelf ad := own_tracked (A10.ex e11) hla0
    have saO : sa ∉ own .shelf ad := own_tracked (A10.ex (e11.trans e12)) hsa0
    have wlO : wl ∉ own .shelf ad := own_tracked (A10.ex ((e11.trans e12).trans e13)) hwl0
    have hdO : hd ∉ own .shelf ad := own_tracked A14 hhd0
    have cala : ca ≠ la := fun q => by rw [← q, hca] at hla0; cases hla0
    obtain ⟨hdv, hd1, hd2, _⟩ := hhd
    have hdv0 : hdv = [] := List.length_eq_zero_iff.mp hd2
    subst hdv0
    have W0 : Hist ns (th0 span part pl) := ⟨RU.wfS pl1, pos0 _ _ _, (fun m hm => nomatch hm), (fun g hg => nomatch hg)⟩
    refine q_forE (a := dl) (xs := dvs) (ea_cons (ev_var rfl) ea_nil) (SqL.of (EB16 _ _ dv1))
      (fun t σ' H' => ∃ (s : Th) (c l : Str → Int) (sa wl : Addr) (x5 x7 x16 x17 x18 x19 : Option V), σ' = [some (V.ref a), some (V.ref na), some (V.int span), some (V.int part), some (V.int pl), x5, some (V.ref dl), x7, x8, some (V.ref ad.p), some (V.ref ca), some (V.ref la), some (V.ref sa), some (V.ref wl), some (V.ref hd), some (V.int s.time), x16, x17, x18, x19] ∧
        Ex Hb H' ∧ At .shelf T.C_Shelf ad H' s ∧ Hist ns s ∧ LastP s ∧ s.deed = t ∧ s.places = pl ∧ s.span = span ∧ s.part = part ∧ H' ca = some (.dK (Cd ns c)) ∧ H' la = some (.dK (Cd ns l)) ∧ (∀ n ∈ ns, c n = cntE s.es n) ∧ (∀ n ∈ s.es.map (·.1), l n = lstE s.es n) ∧ H' sa = some (.lst (s.st.map V.str)) ∧ sa ∉ own .shelf ad ∧ TupsAt H' wl (s.went.map gV) ∧ wl ∉ own .shelf ad ∧ H' hd = some (.lst []))
      (fun H17 e17 => ⟨th0 span part pl, fun _ => 0, fun _ => 0, sa, wl, _, _, _, _, _, _, rfl, EB16.trans e17, A10.ex (E1016.trans e17), W0, (fun n hn => nomatch hn), rfl, rfl, rfl, rfl, (e17 _ _ (e16 _ _ (e15 _ _ (e14 _ _ (e13 _ _ (e12 _ _ hca)))))), (e17 _ _ (e16 _ _ (e15 _ _ (e14 _ _ (e13 _ _ hla))))), (fun n hn => rfl), (fun n hn => nomatch hn), (e17 _ _ (e16 _ _ (e15 _ _ (e14 _ _ hsa)))), saO, TupsAt.nil (e17 _ _ (e16 _ _ (e15 _ _ hwl))), wlO, e17 _ _ (e16 _ _ hd1)⟩)
      (fun t σ' H' _ h => by obtain ⟨_, _, _, _, _, _, _, _, _, _, _, _, e, _⟩ := h; exact SqL.of (e _ _ dv1)) ?_ ?_
    · clear hsa hsa0 hwl hwl0 saO wlO A14 hla0 hca0 hca hla hd1 hd2 hhd0
      rintro t x σ' H' H17 hx ⟨s, c, l, sa, wl, x5, x7', x16, x17, x18, x19, rfl, eH, As, hs, lp, sdeed, spl, sspan, spart, hca, hla, hc, hll, hsa, saO, hwl, wlO, hhd⟩ e17
      dsimp only [List.set]
      have htl : t < dvs.length := (List.getElem?_eq_some_iff.mp hx).1
      obtain ⟨d, hd'⟩ : ∃ d, ds[t]? = some d := ⟨_, List.getElem?_eq_getElem (by omega)⟩
      have dg := dgood d (List.mem_of_getElem? hd')
      obtain ⟨dp, q1, q2⟩ := dv3 t d.V (by rw [List.getElem?_map, hd']; rfl)
      rw [hx] at q1
      cases q1
      have EH := eH.trans e17
      have A17 := As.ex e17
      have g17 := EH _ _ q2
      have core := act_core .shelf s d
      have hs2 := hs.act dg
      have stp := deed_steps dg
      have tnn := times_nn hs.wf.sp stp
      have sdd : s.deed ≤ 93 := by omega
      -- the deed
      refine q_asgC (vs := [.ref ad.p, .ref dp]) (ea_cons (ev_var rfl) (ea_cons (ev_var rfl) ea_nil)) fun H18 e18 => ⟨ad, s, d, dp, ns, rfl, A17.ex e18, hs.wf, by omega, SqT.of (e18 _ _ g17), dg, hN.good, fun H19 A19 K19 => ?_⟩
      dsimp only [List.set]
      have E18 := e17.trans e18
      have EH19 : Ex Hb H19 := Ex.kp (eH.trans E18) off K19
      have kp : ∀ {z : Addr} {o : HO}, H' z = some o → z ∉ own .shelf ad → H19 z = some o := fun h n => K19 _ _ (E18 _ _ h) n
      have ca19 := kp hca caO
      have la19 := kp hla laO
      have sa19 := kp hsa saO
      have hd19 := kp hhd hdO
      have wl19 := (hwl.ex E18).kp (As.ex E18) K19 wlO
      have d19 := EH19 _ _ q2
      -- times, time
      have ev_st : ∀ {σ' : L2.St} {G : Hp}, Ex H19 G → σ'[16]? = some (some (.ref dp)) → Ev (tCall spSteps [] E0 (tCons (tVar 16) tNil)) σ' G (.int d.steps) := fun e h => ev_call0 (ea_cons (ev_var h) ea_nil) (sv_steps (e _ _ d19))
      refine q_asg (v := .int (s.times d.steps)) (ev_is (ev_op (ev_op (ev_op (ev_var rfl) (ev_st (Ex.refl _) rfl) rv_I0) (ev_var rfl) (rv_I (pos9 (by omega) (by omega)))) (ev_op (ev_var rfl) (ev_var rfl) (rv_I (pos9 (by omega) (by omega)))) rv_I0) (by unfold Th.times; rw [sspan])) fun H20 e20 => ?_
      dsimp only [List.set]
      refine q_asg (v := .int (s.time + d.steps)) (ev_op (ev_var rfl) (ev_st e20 rfl) rv_I0) fun H21 e21 => ?_
      dsimp only [List.set]
      have E21 := e20.trans e21
      have A21 := A19.ex E21
      have na21 := (EH19.trans E21) _ _ hnab
      -- all counts age
      refine q_forLn (a := na) (xs := ns.map V.str) (ev_var rfl) (SqL.of na21) (fun i σ' G => ∃ x5', σ' = [some (V.ref a), some (V.ref na), some (V.int span), some (V.int part), some (V.int pl), x5', some (V.ref dl), some (V.int (t : Int)), x8, some (V.ref ad.p), some (V.ref ca), some (V.ref la), some (V.ref sa), some (V.ref wl), some (V.ref hd), some (V.int (s.time + d.steps)), some (V.ref dp), some (Kd.shelf.act s d).1, some (V.int (s.times d.steps)), x19] ∧ (∀ b o, H21 b = some o → b ≠ ca → G b = some o) ∧ G ca = some (.dK (Cd ns fun n => if n ∈ ns.take i then beh s d n else c n)))
        (fun H22 e22 => ⟨_, rfl, fun b o h _ => e22 _ _ h, by rw [cd_congr (g := c) (fun n _ => if_neg (by simp))]; exact e22 _ _ (E21 _ _ ca19)⟩) (fun i σ' G _ h => by
          obtain ⟨_, _, k, _⟩ := h
          refine SqL.of (k _ _ na21 fun q => ?_)
          have := EH19 _ _ hnab
          rw [q, ca19] at this
          cases this) ?_ ?_
      · rintro i y σ' G hy ⟨x5', rfl, kG, cG⟩
        dsimp only [List.set]
        rw [List.getElem?_map] at hy
        obtain ⟨n, hn, rfl⟩ := Option.map_eq_some_iff.mp hy
        have hmem := List.mem_of_getElem? hn
        have hi : i < ns.length := (List.getElem?_eq_some_iff.mp hn).1
        have hnt : n ∉ ns.take i := fun q => by
          obtain ⟨j, hj, ej⟩ := List.mem_iff_getElem.mp q
          rw [List.getElem_take] at ej
          rw [List.length_take] at hj
          have := (List.getElem_inj (h₀ := (by omega : j < ns.length)) (h₁ := hi) hN.nd).mp (ej.trans (List.getElem?_eq_some_iff.mp hn).2.symm)
          omega
        have hcn := hc n hmem
        refine s_dput (v := .int (beh s d n)) (ev_is (ev_call0 (vs := [.int (c n), .int part, .int (s.times d.steps)]) (ea_cons (ev_is (ev_cd (ev_var rfl) (ev_var rfl) cG hmem) (by rw [if_neg hnt])) (ea_cons (ev_var rfl) (ea_cons (ev_var rfl) ea_nil))) (sv_laged (by rw [hcn]; exact cntE_nn hs.wf.cn n) (by omega) (by omega) tnn)) (by unfold beh; rw [hcn, spart])) (ev_var rfl) (ev_var rfl) cG (by unfold Cd; rw [List.length_map]; omega) fun G2 eG => ?_
        refine ⟨_, rfl, fun b o h n => by rw [upd_ne n]; exact eG _ _ (kG b o h n), ?_⟩
        rw [upd_same, put_cd hmem]
        congr 2
        refine cd_congr fun m hm => ?_
        have tk1 : ns.take (i + 1) = ns.take i ++ [n] := by rw [List.take_add_one, hn]; rfl
        rw [tk1]
        by_cases q : m = n
        · rw [if_pos q, if_pos (by rw [q]; simp), q]
        · rw [if_neg q]
          by_cases q2 : m ∈ ns.take i
          · rw [if_pos q2, if_pos (List.mem_append_left _ q2)]
          · rw [if_neg q2, if_neg (fun z => by
              rcases List.mem_append.mp z with h | h
              · exact q2 h
              · exact q (List.mem_singleton.mp h))]
      rintro σ' H22 ⟨x5', rfl, k22, c22⟩
      rw [List.length_map, List.take_length] at c22
      have ca22 : H22 ca = some (.dK (Cd ns (beh s d))) := by rw [c22, cd_congr (g := beh s d) fun n hn => if_pos hn]
      clear c22
      have neca : ∀ {z : Addr} {o : HO}, H21 z = some o → (∀ kvs, o ≠ .dK kvs) → z ≠ ca := fun h n q => by
        rw [q, E21 _ _ ca19] at h
        exact n _ (Option.some.inj h).symm
      have A22 : At .shelf T.C_Shelf ad H22 (Kd.shelf.act s d).2 := A21.keep fun b o h hb => k22 b o h fun q => by
        rcases hb with hb | ⟨xs, rfl⟩
        · exact caO (q ▸ hb)
        · exact neca h (fun _ z => nomatch z) q
      have EH22 : Ex Hb H22 := fun b o h => k22 b o ((EH19.trans E21) _ _ h) fun q => by rw [q, cab] at h; cases h
      have la22 : H22 la = some (.dK (Cd ns l)) := k22 _ _ (E21 _ _ la19) cala.symm
      have sa22 : H22 sa = some (.lst (s.st.map V.str)) := k22 _ _ (E21 _ _ sa19) (neca (E21 _ _ sa19) fun _ z => nomatch z)
      have hd22 : H22 hd = some (.lst []) := k22 _ _ (E21 _ _ hd19) (neca (E21 _ _ hd19) fun _ z => nomatch z)
      have wl22 : TupsAt H22 wl (s.went.map gV) := by
        obtain ⟨vs, h1, h2, h3⟩ := wl19.ex E21
        refine ⟨vs, k22 _ _ h1 (neca h1 fun _ z => nomatch z), h2, fun i r hr => ?_⟩
        obtain ⟨q, a1, b1⟩ := h3 i r hr
        exact ⟨q, a1, k22 _ _ b1 (neca b1 fun _ z => nomatch z)⟩
      clear wl19 sa19 hd19 la19 ca19 k22 neca
      -- what the deed does
      obtain ⟨aw, ast⟩ := act_two hs.wf d
      rw [bt_went hs.wf hs.pos dg] at aw
      have FO := fade_ok hs.wf hs.pos lp hll d
      have RO := rest_ok hs.wf hs.pos (l := l) hll dg
      have bst : (bt s d).st = leftD s.st (fadeD s d) := by rw [fade_left FO, bt_st hs.wf hs.pos dg]
      rw [bst] at RO ast
      have addE : addD s d = addD' d (leftD s.st (fadeD s d)) := by
        unfold addD addD'
        cases d with
        | ask n z => dsimp only; rw [bst]
        | _ => rfl
      rw [addE] at ast
      have wsz := hs2.wf.ssz
      have okW : ∀ g ∈ (Kd.shelf.act s d).2.went, OkN g := fun g hg => okN_of hN.good (hs2.log g hg)
      have wlen : (Kd.shelf.act s d).2.went.length ≤ 1000 := by rw [core.2.2.2.1] at wsz; omega
      have wtake : ((Kd.shelf.act s d).2.went.map gV).take s.went.length = s.went.map gV := by rw [aw, List.append_assoc, List.map_append, List.take_left' (by rw [List.length_map])]
      have wdrop : ((Kd.shelf.act s d).2.went.map gV).drop s.went.length = (fadeD s d ++ restD s d).map gV := by rw [aw, List.append_assoc, List.map_append, List.drop_left' (by rw [List.length_map])]
      have okOld : ∀ g ∈ s.went, OkN g := fun g hg => okW g (by rw [aw, List.append_assoc]; exact List.mem_append_left _ hg)
      have okNew : ∀ g ∈ fadeD s d ++ restD s d, OkN g := fun g hg => okW g (by rw [aw, List.append_assoc]; exact List.mem_append_right _ hg)
      have newlen : (fadeD s d ++ restD s d).length ≤ 1000 := by
        rw [aw, List.append_assoc, List.length_append] at wlen
        omega
      have hle : s.went.length ≤ (Kd.shelf.act s d).2.went.length := by rw [aw, List.append_assoc, List.length_append]; omega
      -- the log
      refine q_asgRows (rows := (Kd.shelf.act s d).2.went.map gV) (er_goings A22 (ev_var rfl)) fun lg H23 hlg e23 tlg => ?_
      dsimp only [List.set]
      have lenW : ∀ {σ' : L2.St} {G : Hp}, Ex H23 G → σ'[13]? = some (some (.ref wl)) → Ev (tCB (rLenS K) (tCons (tVar 13) tNil)) σ' G (.int (s.went.length : Int)) := fun e h => by
        have := tups_len (K := K) ((wl22.ex e23).ex e) (ev_var h)
        rw [List.length_map] at this
        exact this
      obtain ⟨lgv, lg1, lg2, lg3⟩ := id tlg
      have d23 := (EH22.trans e23) _ _ q2
      refine q_when (b := false) (et_is (et_or (a := false) (b := false) (et_not (et_B (ev_isList (ev_var rfl) lg1))) fun _ => et_or (a := false) (b := false) (et_test (ev_neD (by
        have h := er_take (K := K) (te := tVar 19) (tb := tCB (rLenS K) (tCons (tVar 13) tNil)) (σ := [some (V.ref a), some (V.ref na), some (V.int span), some (V.int part), some (V.int pl), x5', some (V.ref dl), some (V.int (t : Int)), x8, some (V.ref ad.p), some (V.ref ca), some (V.ref la), some (V.ref sa), some (V.ref wl), some (V.ref hd), some (V.int (s.time + d.steps)), some (V.ref dp), some (Kd.shelf.act s d).1, some (V.int (s.times d.steps)), some (V.ref lg)]) (ev_var rfl) tlg (lenW (Ex.refl _) rfl)
        rw [wtake] at h
        exact ed_rows h okOld) (ed_R (ev_var rfl) (dp_tups (wl22.ex e23) okOld)) (gD_shaped okOld))) fun _ => et_not (et_tst (ev_call0 (vs := [.ref dp, (Kd.shelf.act s d).1, .int (s.times d.steps)]) (ea_cons (ev_var rfl) (ea_cons (ev_var rfl) (ea_cons (ev_var rfl) ea_nil))) (sv_rested d23 (fun n hn => by rw [hn]; rfl))))) rfl) (fun hb => nomatch hb) fun _ H24 e24 => ?_
      have E24 := e23.trans e24
      have t24 : Tab H24 ca la sa ns (beh s d) l s.st := ⟨E24 _ _ ca22, E24 _ _ la22, E24 _ _ sa22, fun n hn => hs.keys n (hs.wf.sin n hn), hN.good, hs.wf.snd, by have := hs.wf.ssz; omega⟩
      have d24 := e24 _ _ d23
      -- the walk
      refine q_asgL (xs := (Kd.shelf.act s d).2.st.map V.str) (el_call8R (rows := (fadeD s d ++ restD s d).map gV) (x := .int ((s.deed : Int) + 1)) (y := .ref dp) (z := (Kd.shelf.act s d).1) (u := .ref ca) (a := .ref la) (b := .ref sa) (c := .int pl) (ev_is (ev_op (ev_var rfl) ev_c rv_I0) (by rw [sdeed])) (ev_var rfl) (by
        have h := er_drop (K := K) (te := tVar 19) (tb := tCB (rLenS K) (tCons (tVar 13) tNil)) (σ := [some (V.ref a), some (V.ref na), some (V.int span), some (V.int part), some (V.int pl), x5', some (V.ref dl), some (V.int (t : Int)), x8, some (V.ref ad.p), some (V.ref ca), some (V.ref la), some (V.ref sa), some (V.ref wl), some (V.ref hd), some (V.int (s.time + d.steps)), some (V.ref dp), some (Kd.shelf.act s d).1, some (V.int (s.times d.steps)), some (V.ref lg)]) (ev_var rfl) (tlg.ex e24) (lenW e24 rfl) (by rw [List.length_map]; exact hle)
        rw [wdrop] at h
        exact h) (ev_var rfl) (ev_var rfl) (ev_var rfl) (ev_var rfl) (ev_var rfl) fun z G1 eG hTG G2 eG2 Q' q' E' => ⟨(s.deed : Int) + 1, dp, d, _, z, ca, la, sa, ns, beh s d, l, s.st, pl, fadeD s d, restD s d, rfl, (eG.trans eG2) _ _ d24, hTG.ex eG2, t24.ex (eG.trans eG2), okNew, newlen, FO, by rw [← spl]; exact RO, rest_reason, by
          cases d with
          | rest n => trivial
          | drop n => exact (ans_drop s n).trans (by rw [bst]; rfl)
          | ask n y => exact (ans_ask s n y).trans (by rw [bst]; rfl), by rw [← ast]; exact q'⟩) fun sb H25 hsb e25 h25 => ?_
      dsimp only [List.set]
      refine q_when (b := false) (et_is (et_test (ev_op (ev_var rfl) ev_c rv_isN)) (decide_eq_false fun h => nomatch h)) (fun hb => nomatch hb) fun _ H26 e26 => ?_
      have E26 := (E24.trans e25).trans e26
      have lg26 := (e26 _ _ (e25 _ _ (e24 _ _ lg1)))
      refine q_asgL (el_list (ev_var rfl) (SqL.of lg26)) fun wb H27 hwb e27 h27 => ?_
      dsimp only [List.set]
      have lg27 := e27 _ _ lg26
      refine q_reverseV (ev_var rfl) lg27 fun H28 e28 lg28 => ?_
      -- behind the log's reversal
      have E28 := (E26.trans e27).trans e28
      have nlg : ∀ {z : Addr} {G : Hp}, Ex H23 G → G z = none → z ≠ lg := fun e h q => by
        rw [q, e _ _ lg1] at h
        cases h
      have sblg : sb ≠ lg := nlg e24 hsb
      have wblg : wb ≠ lg := nlg ((e24.trans e25).trans e26) hwb
      have EH29 : Ex Hb (upd H28 lg (.lst lgv.reverse)) := (EH22.trans E28).mut (fresh_back EH22 hlg)
      have X29 : Ex H22 (upd H28 lg (.lst lgv.reverse)) := E28.mut hlg
      have A29 := A22.ex X29
      have sb29 : (upd H28 lg (.lst lgv.reverse)) sb = some (.lst ((Kd.shelf.act s d).2.st.map V.str)) := by
        rw [upd_ne sblg]
        exact e28 _ _ (e27 _ _ (e26 _ _ h25))
      have wb29 : TupsAt (upd H28 lg (.lst lgv.reverse)) wb ((Kd.shelf.act s d).2.went.map gV) := by
        refine ⟨lgv, by rw [upd_ne wblg]; exact e28 _ _ h27, lg2, fun i r hr => ?_⟩
        obtain ⟨q, a1, b1⟩ := lg3 i r hr
        refine ⟨q, a1, ?_⟩
        rw [upd_ne (fun z => by rw [z, lg1] at b1; cases b1)]
        exact (((e24.trans e25).trans e26).trans (e27.trans e28)) _ _ b1
      have ca29 := X29 _ _ ca22
      have la29 := X29 _ _ la22
      have hd29 := X29 _ _ hd22
      have sbO : sb ∉ own .shelf ad := own_tracked (A22.ex E24) hsb
      have wbO : wb ∉ own .shelf ad := own_tracked (A22.ex E26) hwb
      generalize upd H28 lg (.lst lgv.reverse) = H29 at EH29 A29 sb29 wb29 ca29 la29 hd29 ⊢
      clear sblg wblg nlg lg28 lg27 lg26 lg1 lg2 lg3 h27 h25 X29 E28 wl22 sa22 la22 ca22 hd22
      have d29 := EH29 _ _ q2
      have cdl : ∀ f : Str → Int, (Cd ns f).length < 100000 := fun f => by unfold Cd; rw [List.length_map]; omega
      -- an ask: counts, lasts
      refine q_whenM (b := decide (kdD d = "ask")) (M := fun σ' G => σ' = [some (V.ref a), some (V.ref na), some (V.int span), some (V.int part), some (V.int pl), x5', some (V.ref dl), some (V.int (t : Int)), x8, some (V.ref ad.p), some (V.ref ca), some (V.ref la), some (V.ref sb), some (V.ref wb), some (V.ref hd), some (V.int (s.time + d.steps)), some (V.ref dp), some (Kd.shelf.act s d).1, some (V.int (s.times d.steps)), some (V.ref lg)] ∧ (∀ b o, H29 b = some o → b ≠ ca → b ≠ la → G b = some o) ∧ G ca = some (.dK (Cd ns (cAct s d))) ∧ G la = some (.dK (Cd ns (lAct s d l))))
        (et_is (et_test (ev_op (ev_ixT (i := 0) (ev_var rfl) d29 (V_0 d)) ev_c (rv_eq rfl))) (by
          by_cases q : kdD d = "ask"
          · rw [q, decide_eq_true rfl, decide_eq_true rfl]
          · rw [decide_eq_false q, decide_eq_false fun z => q (V.str.inj z)])) (fun hb H30 e30 D' k => ?_) (fun hb H30 e30 => ?_) ?_
      · have hb := of_decide_eq_true hb
        cases d with
        | rest n => exact absurd (show ("rest" : Str) = "ask" from hb) (by decide +kernel)
        | drop n => exact absurd (show ("drop" : Str) = "ask" from hb) (by decide +kernel)
        | ask n y =>
          have hn : n ∈ ns := dg.1
          refine q_dput (v := .int (beh s (.ask n y) n + y)) (ev_op (ev_cd (ev_var rfl) (ev_ixT (i := 1) (ev_var rfl) (e30 _ _ d29) rfl) (e30 _ _ ca29) hn) (ev_ixT (i := 2) (ev_var rfl) (e30 _ _ d29) rfl) rv_I0) (ev_var rfl) (ev_ixT (i := 1) (ev_var rfl) (e30 _ _ d29) rfl) (e30 _ _ ca29) (cdl _) fun H31 e31 => ?_
          have nd : dp ≠ ca := fun z => by
            have := EH29 _ _ q2
            rw [z, ca29] at this
            cases this
          have d31 : (upd H31 ca (.dK (putK (Cd ns (beh s (.ask n y))) (Sum.inr n : Key) (.int (beh s (.ask n y) n + y))))) dp = some (.tup (Deed.ask n y).V) := by rw [upd_ne nd]; exact e31 _ _ (e30 _ _ d29)
          have la31 : (upd H31 ca (.dK (putK (Cd ns (beh s (.ask n y))) (Sum.inr n : Key) (.int (beh s (.ask n y) n + y))))) la = some (.dK (Cd ns l)) := by rw [upd_ne cala.symm]; exact e31 _ _ (e30 _ _ la29)
          refine s_dput (v := .int ((s.deed : Int) + 1)) (ev_is (ev_op (ev_var rfl) ev_c rv_I0) (by rw [sdeed])) (ev_var rfl) (ev_ixT (i := 1) (ev_var rfl) d31 rfl) la31 (cdl _) fun H32 e32 => ?_
          refine k _ _ ⟨rfl, fun b o h n1 n2 => ?_, ?_, ?_⟩
          · rw [upd_ne n2]
            exact e32 _ _ (by rw [upd_ne n1]; exact e31 _ _ (e30 _ _ h))
          · rw [upd_ne cala, e32 _ _ upd_same, put_cd hn]
            congr 2
            refine cd_congr fun m _ => ?_
            show (if m = n then _ else _) = if m = n then _ else _
            by_cases q : m = n
            · rw [if_pos q, if_pos q, q]
            · rw [if_neg q, if_neg q]
          · rw [upd_same, put_cd hn]
            rfl
      · have hb := of_decide_eq_false hb
        have e1 : cAct s d = beh s d := by
          funext m
          cases d with
          | ask n y => exact absurd rfl hb
          | _ => rfl
        have e2 : lAct s d l = l := by
          funext m
          cases d with
          | ask n y => exact absurd rfl hb
          | _ => rfl
        exact ⟨rfl, fun b o h _ _ => e30 _ _ h, by rw [e1]; exact e30 _ _ ca29, by rw [e2]; exact e30 _ _ la29⟩
      rintro _ H33 ⟨rfl, k33, ca33, la33⟩
      have nec : ∀ {z : Addr} {o : HO}, H29 z = some o → (∀ kvs, o ≠ .dK kvs) → z ≠ ca ∧ z ≠ la := fun h n => ⟨fun q => by
        rw [q, ca29] at h
        exact n _ (Option.some.inj h).symm, fun q => by
        rw [q, la29] at h
        exact n _ (Option.some.inj h).symm⟩
      have k34 : ∀ {z : Addr} {o : HO}, H29 z = some o → (∀ kvs, o ≠ .dK kvs) → H33 z = some o := fun h n => k33 _ _ h (nec h n).1 (nec h n).2
      have A33 : At .shelf T.C_Shelf ad H33 (Kd.shelf.act s d).2 := A29.keep fun b o h hb => by
        rcases hb with hb | ⟨xs, rfl⟩
        · exact k33 b o h (fun q => caO (q ▸ hb)) (fun q => laO (q ▸ hb))
        · exact k34 h fun _ z => nomatch z
      have EH33 : Ex Hb H33 := fun b o h => k33 b o (EH29 _ _ h) (fun q => by rw [q, cab] at h; cases h) (fun q => by rw [q, lab] at h; cases h)
      have sb33 := k34 sb29 fun _ z => nomatch z
      have hd33 := k34 hd29 fun _ z => nomatch z
      have wb33 : TupsAt H33 wb ((Kd.shelf.act s d).2.went.map gV) := by
        obtain ⟨vs, h1, h2, h3⟩ := wb29
        refine ⟨vs, (k34 h1 fun _ z => nomatch z), h2, fun i r hr => ?_⟩
        obtain ⟨q, a1, b1⟩ := h3 i r hr
        exact ⟨q, a1, (k34 b1 fun _ z => nomatch z)⟩
      have hc2 : ∀ n ∈ ns, cAct s d n = cntE (Kd.shelf.act s d).2.es n := fun n _ => by
        rw [cnt_act hs.wf hs.pos dg n]
        cases d <;> rfl
      have hl2 : ∀ n ∈ (Kd.shelf.act s d).2.es.map (·.1), lAct s d l n = lstE (Kd.shelf.act s d).2.es n := fun n hn => by
        rw [← lasts_act hs.wf hs.pos hll dg n hn]
        cases d <;> rfl
      have lp2 := lastP_act hs.wf hs.pos lp dg
      have t33 : Tab H33 ca la sb ns (cAct s d) (lAct s d l) (Kd.shelf.act s d).2.st := ⟨ca33, la33, sb33, fun n hn => hs2.keys n (hs2.wf.sin n hn), hN.good, hs2.wf.snd, by have := hs2.wf.ssz; rw [core.2.2.2.1] at this; omega⟩
      have te33 : TabE (Kd.shelf.act s d).2 ns (cAct s d) (lAct s d l) := ⟨hc2, hl2, hs2.wf, hs2.pos, hs2.keys⟩
      have na33 := EH33 _ _ hnab
      have hix : 0 ≤ ((t : Int) + cellAt cs 1) % (ns.length : Int) := Int.emod_nonneg _ (by omega)
      have hix2 : ((t : Int) + cellAt cs 1) % (ns.length : Int) < ns.length := Int.emod_lt_of_pos _ (by omega)
      obtain ⟨n, hn⟩ : ∃ n, ns[(((t : Int) + cellAt cs 1) % (ns.length : Int)).toNat]? = some n := ⟨_, List.getElem?_eq_getElem (by omega)⟩
      have hmem := List.mem_of_getElem? hn
      have hlen' : ((ns.map V.str).length : Int) = ns.length := by rw [List.length_map]
      refine q_asg (v := .str n) (ev_ixLn (ev_var rfl) (ev_op (ev_op (ev_var rfl) (cell 1 (Eb.trans EH33) rfl) rv_I0) (ev_len (ev_var rfl) (SqL.of na33)) (rv_I (by omega))) (i := (((t : Int) + cellAt cs 1) % (ns.length : Int)).toNat) (by rw [hlen']; omega) na33 (by rw [List.getElem?_map, hn]; rfl)) fun H34 e34 => ?_
      dsimp only [List.set]
      have tm : s.time + d.steps = (Kd.shelf.act s d).2.time := core.2.2.1.symm
      rw [tm]
      refine s_when (b := false) (et_not (et_tst (ev_call0 (vs := [.ref ad.p, .str n, .ref sb, .ref ca, .ref la, .int (Kd.shelf.act s d).2.time, .int ((Kd.shelf.act s d).2.deed : Int)]) (ea_cons (ev_var rfl) (ea_cons (ev_var rfl) (ea_cons (ev_var rfl) (ea_cons (ev_var rfl) (ea_cons (ev_var rfl) (ea_cons (ev_var rfl) (ea_cons (ev_is (ev_op (ev_var rfl) ev_c rv_I0) (by rw [core.2.2.2.1, sdeed]; rfl)) ea_nil))))))) (sv_seen (A33.ex e34) hmem (t33.ex e34) te33 (by rw [core.2.2.2.1]; omega))))) (fun hb => nomatch hb) fun _ H35 e35 => ?_
      have E35 := e34.trans e35
      exact ⟨(Kd.shelf.act s d).2, cAct s d, lAct s d l, sb, wb, _, _, _, _, _, _, rfl, EH33.trans E35, A33.ex E35, hs2, lp2, by rw [core.2.2.2.1, sdeed], core.2.2.2.2.trans spl, core.1.trans sspan, core.2.1.trans spart, E35 _ _ ca33, E35 _ _ la33, hc2, hl2, E35 _ _ sb33, sbO, wb33.ex E35, wbO, E35 _ _ hd33⟩
    · rintro σ' H' ⟨s, c, l, sa, wl, x5, x7', x16, x17, x18, x19, rfl, eH, As, hs, lp, sdeed, spl, sspan, spart, hca, hla, hc, hll, hsa, saO, hwl, wlO, hhd⟩
      have okW : ∀ g ∈ s.went, OkN g := fun g hg => okN_of hN.good (hs.log g hg)
      have t1 : Tab H' ca la sa ns c l s.st := ⟨hca, hla, hsa, fun n hn => hs.keys n (hs.wf.sin n hn), hN.good, hs.wf.snd, by have := hs.wf.ssz; omega⟩
      have te1 : TabE s ns c l := ⟨hc, hll, hs.wf, hs.pos, hs.keys⟩
      have fl0 : ∀ x ∈ ([] : List V), FlatV x := fun x hx => nomatch hx
      exact s_ret (v := .bl true) (ev_and1 (b := true) (ev_eqD (ed_R (ev_var rfl) (dp_list hhd fl0)) (ed_L (el_lst ea_nil (by decide)) fl0) (shaped_list fl0)) (ev_and1 (b := true) (ev_eqD (ed_rows (er_goings As (ev_var rfl)) okW) (ed_R (ev_var rfl) (dp_tups hwl okW)) (gD_shaped okW)) (ev_call4L (el_names As hs.wf (by omega) (ev_var rfl)) (ev_var rfl) (ev_var rfl) (ev_var rfl) fun p H1 e h => sv_listed6 h (t1.ex e) te1))) fun H2 e2 => kk H2
end

end Own
namespace Own
open PySem L2 PyProof.Rows Evl OwnS
section
variable {K : PySem.W.Frag} {f dT : Addr} {fd : FuncData} {od an : Option Addr} {sl : Array (Option Value)} {oc kV dc pm cd ct : Value} {dN : Nat} {dtk : Tok}
theorem mkD_Book_ask (l : K.lookup f = some ⟨oc, od, .func (PySem.W.fnOf "ask" "Book.ask" (defArgs s_Book_ask) (defBody s_Book_ask) (defScope s_Book_ask) (.ref dT) kV dc pm an cd ct), sl⟩) (c : PySem.W.codeIn K cd "Book.ask" = true) (d : K.lookup dT = some ⟨.type "tuple", none, .seq #[.int 1 dtk] dN, #[]⟩) (k : PySem.W.keepIn K (.ref f) = true) :
    FunD K "ask" "Book.ask" (defArgs s_Book_ask) (defBody s_Book_ask) (defScope s_Book_ask) [V.int 1] [] f (PySem.W.fnOf "ask" "Book.ask" (defArgs s_Book_ask) (defBody s_Book_ask) (defScope s_Book_ask) (.ref dT) kV dc pm an cd ct) :=
  ⟨⟨oc, od, .ref dT, kV, dc, pm, an, cd, ct, sl, rfl, l, c, .inr ⟨by simp, dT, _, [.int 1 dtk], dN, rfl, d, rfl, .cons ⟨_, rfl⟩ .nil⟩, .inl rfl⟩, k⟩
theorem bD_Book_ask (F : FunD K "ask" "Book.ask" (defArgs s_Book_ask) (defBody s_Book_ask) (defScope s_Book_ask) [V.int 1] [] f fd) : Binds K fd P_Book_ask [] := by
  obtain ⟨ds, h1, h2⟩ := F.binds1 (ps := P_Book_ask) 3 1 (by simp) rfl fun _ _ _ _ _ _ _ us its hu hi => match us, its, hu, hi with | [_, _, _], [_], _, _ => ⟨_, rfl, rfl⟩
  cases h1
  exact h2
theorem bdD_Book_ask (F : FunD K "ask" "Book.ask" (defArgs s_Book_ask) (defBody s_Book_ask) (defScope s_Book_ask) [V.int 1] [] f fd) : ∃ ds, Vals [V.int 1] ds ∧ Binds K fd P_Book_ask ds :=
  F.binds1 (ps := P_Book_ask) 2 0 (by simp) rfl fun _ _ _ _ _ _ _ us its hu hi => match us, its, hu, hi with | [_, _], [_], _, _ => ⟨_, rfl, rfl⟩
end
theorem all_mk {l : PySem.W.OpenLaw} {w : World} {K : PySem.W.Frag} {h : Heap} {mg : Str → Option Value} {fa : Addr} (X : K.In h) (G : h.Ns mainGlobals mg) (hfa : mg "law" = some (.ref fa))
    {C_Shelf : Addr}
    {C_Book : Addr}
    {f_within : Addr} {od_within an_within : Option Addr} {sl_within : Array (Option Value)} {oc_within kV_within dc_within pm_within cd_within ct_within : Value}
    {f_want_number : Addr} {od_want_number an_want_number : Option Addr} {sl_want_number : Array (Option Value)} {oc_want_number kV_want_number dc_want_number pm_want_number cd_want_number ct_want_number : Value}
    {f_want_name : Addr} {od_want_name an_want_name : Option Addr} {sl_want_name : Array (Option Value)} {oc_want_name kV_want_name dc_want_name pm_want_name cd_want_name ct_want_name : Value}
    {f_want_rule : Addr} {od_want_rule an_want_rule : Option Addr} {sl_want_rule : Array (Option Value)} {oc_want_rule kV_want_rule dc_want_rule pm_want_rule cd_want_rule ct_want_rule : Value}
    {f_ageings : Addr} {od_ageings an_ageings : Option Addr} {sl_ageings : Array (Option Value)} {oc_ageings kV_ageings dc_ageings pm_ageings cd_ageings ct_ageings : Value}
    {f_aged : Addr} {od_aged an_aged : Option Addr} {sl_aged : Array (Option Value)} {oc_aged kV_aged dc_aged pm_aged cd_aged ct_aged : Value}
    {f_Book_init : Addr} {od_Book_init an_Book_init : Option Addr} {sl_Book_init : Array (Option Value)} {oc_Book_init kV_Book_init dc_Book_init pm_Book_init cd_Book_init ct_Book_init : Value}
    {f_Book_ask : Addr} {od_Book_ask an_Book_ask : Option Addr} {sl_Book_ask : Array (Option Value)} {oc_Book_ask kV_Book_ask dc_Book_ask pm_Book_ask cd_Book_ask ct_Book_ask : Value}
    {dT_Book_ask : Addr} {dN_Book_ask : Nat} {dtk_Book_ask : Tok}
    {f_Book_rest : Addr} {od_Book_rest an_Book_rest : Option Addr} {sl_Book_rest : Array (Option Value)} {oc_Book_rest kV_Book_rest dc_Book_rest pm_Book_rest cd_Book_rest ct_Book_rest : Value}
    {f_Book_drop : Addr} {od_Book_drop an_Book_drop : Option Addr} {sl_Book_drop : Array (Option Value)} {oc_Book_drop kV_Book_drop dc_Book_drop pm_Book_drop cd_Book_drop ct_Book_drop : Value}
    {f_Book_spend : Addr} {od_Book_spend an_Book_spend : Option Addr} {sl_Book_spend : Array (Option Value)} {oc_Book_spend kV_Book_spend dc_Book_spend pm_Book_spend cd_Book_spend ct_Book_spend : Value}
    {f_Book_asked_at : Addr} {od_Book_asked_at an_Book_asked_at : Option Addr} {sl_Book_asked_at : Array (Option Value)} {oc_Book_asked_at kV_Book_asked_at dc_Book_asked_at pm_Book_asked_at cd_Book_asked_at ct_Book_asked_at : Value}
    {f_Book_came : Addr} {od_Book_came an_Book_came : Option Addr} {sl_Book_came : Array (Option Value)} {oc_Book_came kV_Book_came dc_Book_came pm_Book_came cd_Book_came ct_Book_came : Value}
    {f_Book_gone : Addr} {od_Book_gone an_Book_gone : Option Addr} {sl_Book_gone : Array (Option Value)} {oc_Book_gone kV_Book_gone dc_Book_gone pm_Book_gone cd_Book_gone ct_Book_gone : Value}
    {f_Book_inside : Addr} {od_Book_inside an_Book_inside : Option Addr} {sl_Book_inside : Array (Option Value)} {oc_Book_inside kV_Book_inside dc_Book_inside pm_Book_inside cd_Book_inside ct_Book_inside : Value}
    {f_Book_rank : Addr} {od_Book_rank an_Book_rank : Option Addr} {sl_Book_rank : Array (Option Value)} {oc_Book_rank kV_Book_rank dc_Book_rank pm_Book_rank cd_Book_rank ct_Book_rank : Value}
    {f_Book_names : Addr} {od_Book_names an_Book_names : Option Addr} {sl_Book_names : Array (Option Value)} {oc_Book_names kV_Book_names dc_Book_names pm_Book_names cd_Book_names ct_Book_names : Value}
    {f_Book_time_now : Addr} {od_Book_time_now an_Book_time_now : Option Addr} {sl_Book_time_now : Array (Option Value)} {oc_Book_time_now kV_Book_time_now dc_Book_time_now pm_Book_time_now cd_Book_time_now ct_Book_time_now : Value}
    {f_Book_deeds_done : Addr} {od_Book_deeds_done an_Book_deeds_done : Option Addr} {sl_Book_deeds_done : Array (Option Value)} {oc_Book_deeds_done kV_Book_deeds_done dc_Book_deeds_done pm_Book_deeds_done cd_Book_deeds_done ct_Book_deeds_done : Value}
    {f_Book_count_of : Addr} {od_Book_count_of an_Book_count_of : Option Addr} {sl_Book_count_of : Array (Option Value)} {oc_Book_count_of kV_Book_count_of dc_Book_count_of pm_Book_count_of cd_Book_count_of ct_Book_count_of : Value}
    {f_Book_last_of : Addr} {od_Book_last_of an_Book_last_of : Option Addr} {sl_Book_last_of : Array (Option Value)} {oc_Book_last_of kV_Book_last_of dc_Book_last_of pm_Book_last_of cd_Book_last_of ct_Book_last_of : Value}
    {f_Shelf_init : Addr} {od_Shelf_init an_Shelf_init : Option Addr} {sl_Shelf_init : Array (Option Value)} {oc_Shelf_init kV_Shelf_init dc_Shelf_init pm_Shelf_init cd_Shelf_init ct_Shelf_init : Value}
    {f_Shelf_came : Addr} {od_Shelf_came an_Shelf_came : Option Addr} {sl_Shelf_came : Array (Option Value)} {oc_Shelf_came kV_Shelf_came dc_Shelf_came pm_Shelf_came cd_Shelf_came ct_Shelf_came : Value}
    {f_Shelf_gone : Addr} {od_Shelf_gone an_Shelf_gone : Option Addr} {sl_Shelf_gone : Array (Option Value)} {oc_Shelf_gone kV_Shelf_gone dc_Shelf_gone pm_Shelf_gone cd_Shelf_gone ct_Shelf_gone : Value}
    {f_Shelf_inside : Addr} {od_Shelf_inside an_Shelf_inside : Option Addr} {sl_Shelf_inside : Array (Option Value)} {oc_Shelf_inside kV_Shelf_inside dc_Shelf_inside pm_Shelf_inside cd_Shelf_inside ct_Shelf_inside : Value}
    {f_Shelf_has : Addr} {od_Shelf_has an_Shelf_has : Option Addr} {sl_Shelf_has : Array (Option Value)} {oc_Shelf_has kV_Shelf_has dc_Shelf_has pm_Shelf_has cd_Shelf_has ct_Shelf_has : Value}
    {f_Shelf_goings : Addr} {od_Shelf_goings an_Shelf_goings : Option Addr} {sl_Shelf_goings : Array (Option Value)} {oc_Shelf_goings kV_Shelf_goings dc_Shelf_goings pm_Shelf_goings cd_Shelf_goings ct_Shelf_goings : Value}
    {f_l_cell_at : Addr} {od_l_cell_at an_l_cell_at : Option Addr} {sl_l_cell_at : Array (Option Value)} {oc_l_cell_at kV_l_cell_at dc_l_cell_at pm_l_cell_at cd_l_cell_at ct_l_cell_at : Value}
    {f_l_whole : Addr} {od_l_whole an_l_whole : Option Addr} {sl_l_whole : Array (Option Value)} {oc_l_whole kV_l_whole dc_l_whole pm_l_whole cd_l_whole ct_l_whole : Value}
    {f_l_sign : Addr} {od_l_sign an_l_sign : Option Addr} {sl_l_sign : Array (Option Value)} {oc_l_sign kV_l_sign dc_l_sign pm_l_sign cd_l_sign ct_l_sign : Value}
    {f_l_names : Addr} {od_l_names an_l_names : Option Addr} {sl_l_names : Array (Option Value)} {oc_l_names kV_l_names dc_l_names pm_l_names cd_l_names ct_l_names : Value}
    {f_l_many : Addr} {od_l_many an_l_many : Option Addr} {sl_l_many : Array (Option Value)} {oc_l_many kV_l_many dc_l_many pm_l_many cd_l_many ct_l_many : Value}
    {f_l_span : Addr} {od_l_span an_l_span : Option Addr} {sl_l_span : Array (Option Value)} {oc_l_span kV_l_span dc_l_span pm_l_span cd_l_span ct_l_span : Value}
    {f_l_part : Addr} {od_l_part an_l_part : Option Addr} {sl_l_part : Array (Option Value)} {oc_l_part kV_l_part dc_l_part pm_l_part cd_l_part ct_l_part : Value}
    {f_l_places : Addr} {od_l_places an_l_places : Option Addr} {sl_l_places : Array (Option Value)} {oc_l_places kV_l_places dc_l_places pm_l_places cd_l_places ct_l_places : Value}
    {f_l_deed : Addr} {od_l_deed an_l_deed : Option Addr} {sl_l_deed : Array (Option Value)} {oc_l_deed kV_l_deed dc_l_deed pm_l_deed cd_l_deed ct_l_deed : Value}
    {f_l_steps : Addr} {od_l_steps an_l_steps : Option Addr} {sl_l_steps : Array (Option Value)} {oc_l_steps kV_l_steps dc_l_steps pm_l_steps cd_l_steps ct_l_steps : Value}
    {f_l_do : Addr} {od_l_do an_l_do : Option Addr} {sl_l_do : Array (Option Value)} {oc_l_do kV_l_do dc_l_do pm_l_do cd_l_do ct_l_do : Value}
    {f_l_aged : Addr} {od_l_aged an_l_aged : Option Addr} {sl_l_aged : Array (Option Value)} {oc_l_aged kV_l_aged dc_l_aged pm_l_aged cd_l_aged ct_l_aged : Value}
    {f_l_rested : Addr} {od_l_rested an_l_rested : Option Addr} {sl_l_rested : Array (Option Value)} {oc_l_rested kV_l_rested dc_l_rested pm_l_rested cd_l_rested ct_l_rested : Value}
    {f_l_kinds : Addr} {od_l_kinds an_l_kinds : Option Addr} {sl_l_kinds : Array (Option Value)} {oc_l_kinds kV_l_kinds dc_l_kinds pm_l_kinds cd_l_kinds ct_l_kinds : Value}
    {f_l_is_going : Addr} {od_l_is_going an_l_is_going : Option Addr} {sl_l_is_going : Array (Option Value)} {oc_l_is_going kV_l_is_going dc_l_is_going pm_l_is_going cd_l_is_going ct_l_is_going : Value}
    {f_l_left_by_faded : Addr} {od_l_left_by_faded an_l_left_by_faded : Option Addr} {sl_l_left_by_faded : Array (Option Value)} {oc_l_left_by_faded kV_l_left_by_faded dc_l_left_by_faded pm_l_left_by_faded cd_l_left_by_faded ct_l_left_by_faded : Value}
    {f_l_left_by_rest : Addr} {od_l_left_by_rest an_l_left_by_rest : Option Addr} {sl_l_left_by_rest : Array (Option Value)} {oc_l_left_by_rest kV_l_left_by_rest dc_l_left_by_rest pm_l_left_by_rest cd_l_left_by_rest ct_l_left_by_rest : Value}
    {f_l_listed : Addr} {od_l_listed an_l_listed : Option Addr} {sl_l_listed : Array (Option Value)} {oc_l_listed kV_l_listed dc_l_listed pm_l_listed cd_l_listed ct_l_listed : Value}
    {f_l_walked : Addr} {od_l_walked an_l_walked : Option Addr} {sl_l_walked : Array (Option Value)} {oc_l_walked kV_l_walked dc_l_walked pm_l_walked cd_l_walked ct_l_walked : Value}
    {f_l_known : Addr} {od_l_known an_l_known : Option Addr} {sl_l_known : Array (Option Value)} {oc_l_known kV_l_known dc_l_known pm_l_known cd_l_known ct_l_known : Value}
    {f_l_seen : Addr} {od_l_seen an_l_seen : Option Addr} {sl_l_seen : Array (Option Value)} {oc_l_seen kV_l_seen dc_l_seen pm_l_seen cd_l_seen ct_l_seen : Value}
    {f_law : Addr} {od_law an_law : Option Addr} {sl_law : Array (Option Value)} {oc_law kV_law dc_law pm_law cd_law ct_law : Value}
    {t_MOST_SIGNS : Tok}
    {t_MOST_PLACES : Tok}
    {t_MOST_SPAN : Tok}
    {t_MOST_NUMBER : Tok}
    (aC_Shelf : PySem.W.nsIn K mainGlobals "Shelf" = some (some (.ref C_Shelf)))
    (aC_Book : PySem.W.nsIn K mainGlobals "Book" = some (some (.ref C_Book)))
    (a_within : PySem.W.nsIn K mainGlobals "within" = some (some (.ref f_within)))
    (l_within : K.lookup f_within = some ⟨oc_within, od_within, .func (PySem.W.fnOf "within" "within" (defArgs s_within) (defBody s_within) (defScope s_within) .none kV_within dc_within pm_within an_within cd_within ct_within), sl_within⟩)
    (c_within : PySem.W.codeIn K cd_within "within" = true)
    (k_within : PySem.W.keepIn K (.ref f_within) = true)
    (a_want_number : PySem.W.nsIn K mainGlobals "want_number" = some (some (.ref f_want_number)))
    (l_want_number : K.lookup f_want_number = some ⟨oc_want_number, od_want_number, .func (PySem.W.fnOf "want_number" "want_number" (defArgs s_want_number) (defBody s_want_number) (defScope s_want_number) .none kV_want_number dc_want_number pm_want_number an_want_number cd_want_number ct_want_number), sl_want_number⟩)
    (c_want_number : PySem.W.codeIn K cd_want_number "want_number" = true)
    (k_want_number : PySem.W.keepIn K (.ref f_want_number) = true)
    (a_want_name : PySem.W.nsIn K mainGlobals "want_name" = some (some (.ref f_want_name)))
    (l_want_name : K.lookup f_want_name = some ⟨oc_want_name, od_want_name, .func (PySem.W.fnOf "want_name" "want_name" (defArgs s_want_name) (defBody s_want_name) (defScope s_want_name) .none kV_want_name dc_want_name pm_want_name an_want_name cd_want_name ct_want_name), sl_want_name⟩)
    (c_want_name : PySem.W.codeIn K cd_want_name "want_name" = true)
    (k_want_name : PySem.W.keepIn K (.ref f_want_name) = true)
    (a_want_rule : PySem.W.nsIn K mainGlobals "want_rule" = some (some (.ref f_want_rule)))
    (l_want_rule : K.lookup f_want_rule = some ⟨oc_want_rule, od_want_rule, .func (PySem.W.fnOf "want_rule" "want_rule" (defArgs s_want_rule) (defBody s_want_rule) (defScope s_want_rule) .none kV_want_rule dc_want_rule pm_want_rule an_want_rule cd_want_rule ct_want_rule), sl_want_rule⟩)
    (c_want_rule : PySem.W.codeIn K cd_want_rule "want_rule" = true)
    (k_want_rule : PySem.W.keepIn K (.ref f_want_rule) = true)
    (a_ageings : PySem.W.nsIn K mainGlobals "ageings" = some (some (.ref f_ageings)))
    (l_ageings : K.lookup f_ageings = some ⟨oc_ageings, od_ageings, .func (PySem.W.fnOf "ageings" "ageings" (defArgs s_ageings) (defBody s_ageings) (defScope s_ageings) .none kV_ageings dc_ageings pm_ageings an_ageings cd_ageings ct_ageings), sl_ageings⟩)
    (c_ageings : PySem.W.codeIn K cd_ageings "ageings" = true)
    (k_ageings : PySem.W.keepIn K (.ref f_ageings) = true)
    (a_aged : PySem.W.nsIn K mainGlobals "aged" = some (some (.ref f_aged)))
    (l_aged : K.lookup f_aged = some ⟨oc_aged, od_aged, .func (PySem.W.fnOf "aged" "aged" (defArgs s_aged) (defBody s_aged) (defScope s_aged) .none kV_aged dc_aged pm_aged an_aged cd_aged ct_aged), sl_aged⟩)
    (c_aged : PySem.W.codeIn K cd_aged "aged" = true)
    (k_aged : PySem.W.keepIn K (.ref f_aged) = true)
    (a_Book_init : PySem.W.findIn K (.ref C_Book) "__init__" = some (some (.ref f_Book_init)))
    (l_Book_init : K.lookup f_Book_init = some ⟨oc_Book_init, od_Book_init, .func (PySem.W.fnOf "__init__" "Book.__init__" (defArgs s_Book_init) (defBody s_Book_init) (defScope s_Book_init) .none kV_Book_init dc_Book_init pm_Book_init an_Book_init cd_Book_init ct_Book_init), sl_Book_init⟩)
    (c_Book_init : PySem.W.codeIn K cd_Book_init "Book.__init__" = true)
    (k_Book_init : PySem.W.keepIn K (.ref f_Book_init) = true)
    (i_Book_init : PySem.W.isFn K (.ref f_Book_init) = true)
    (a_Book_ask : PySem.W.findIn K (.ref C_Book) "ask" = some (some (.ref f_Book_ask)))
    (l_Book_ask : K.lookup f_Book_ask = some ⟨oc_Book_ask, od_Book_ask, .func (PySem.W.fnOf "ask" "Book.ask" (defArgs s_Book_ask) (defBody s_Book_ask) (defScope s_Book_ask) (.ref dT_Book_ask) kV_Book_ask dc_Book_ask pm_Book_ask an_Book_ask cd_Book_ask ct_Book_ask), sl_Book_ask⟩)
    (c_Book_ask : PySem.W.codeIn K cd_Book_ask "Book.ask" = true)
    (k_Book_ask : PySem.W.keepIn K (.ref f_Book_ask) = true)
    (i_Book_ask : PySem.W.isFn K (.ref f_Book_ask) = true)
    (d_Book_ask : K.lookup dT_Book_ask = some ⟨.type "tuple", none, .seq #[.int 1 dtk_Book_ask] dN_Book_ask, #[]⟩)
    (a_Book_rest : PySem.W.findIn K (.ref C_Book) "rest" = some (some (.ref f_Book_rest)))
    (l_Book_rest : K.lookup f_Book_rest = some ⟨oc_Book_rest, od_Book_rest, .func (PySem.W.fnOf "rest" "Book.rest" (defArgs s_Book_rest) (defBody s_Book_rest) (defScope s_Book_rest) .none kV_Book_rest dc_Book_rest pm_Book_rest an_Book_rest cd_Book_rest ct_Book_rest), sl_Book_rest⟩)
    (c_Book_rest : PySem.W.codeIn K cd_Book_rest "Book.rest" = true)
    (k_Book_rest : PySem.W.keepIn K (.ref f_Book_rest) = true)
    (i_Book_rest : PySem.W.isFn K (.ref f_Book_rest) = true)
    (a_Book_drop : PySem.W.findIn K (.ref C_Book) "drop" = some (some (.ref f_Book_drop)))
    (l_Book_drop : K.lookup f_Book_drop = some ⟨oc_Book_drop, od_Book_drop, .func (PySem.W.fnOf "drop" "Book.drop" (defArgs s_Book_drop) (defBody s_Book_drop) (defScope s_Book_drop) .none kV_Book_drop dc_Book_drop pm_Book_drop an_Book_drop cd_Book_drop ct_Book_drop), sl_Book_drop⟩)
    (c_Book_drop : PySem.W.codeIn K cd_Book_drop "Book.drop" = true)
    (k_Book_drop : PySem.W.keepIn K (.ref f_Book_drop) = true)
    (i_Book_drop : PySem.W.isFn K (.ref f_Book_drop) = true)
    (a_Book_spend : PySem.W.findIn K (.ref C_Book) "spend" = some (some (.ref f_Book_spend)))
    (l_Book_spend : K.lookup f_Book_spend = some ⟨oc_Book_spend, od_Book_spend, .func (PySem.W.fnOf "spend" "Book.spend" (defArgs s_Book_spend) (defBody s_Book_spend) (defScope s_Book_spend) .none kV_Book_spend dc_Book_spend pm_Book_spend an_Book_spend cd_Book_spend ct_Book_spend), sl_Book_spend⟩)
    (c_Book_spend : PySem.W.codeIn K cd_Book_spend "Book.spend" = true)
    (k_Book_spend : PySem.W.keepIn K (.ref f_Book_spend) = true)
    (i_Book_spend : PySem.W.isFn K (.ref f_Book_spend) = true)
    (a_Book_asked_at : PySem.W.findIn K (.ref C_Book) "asked_at" = some (some (.ref f_Book_asked_at)))
    (l_Book_asked_at : K.lookup f_Book_asked_at = some ⟨oc_Book_asked_at, od_Book_asked_at, .func (PySem.W.fnOf "asked_at" "Book.asked_at" (defArgs s_Book_asked_at) (defBody s_Book_asked_at) (defScope s_Book_asked_at) .none kV_Book_asked_at dc_Book_asked_at pm_Book_asked_at an_Book_asked_at cd_Book_asked_at ct_Book_asked_at), sl_Book_asked_at⟩)
    (c_Book_asked_at : PySem.W.codeIn K cd_Book_asked_at "Book.asked_at" = true)
    (k_Book_asked_at : PySem.W.keepIn K (.ref f_Book_asked_at) = true)
    (i_Book_asked_at : PySem.W.isFn K (.ref f_Book_asked_at) = true)
    (a_Book_came : PySem.W.findIn K (.ref C_Book) "came" = some (some (.ref f_Book_came)))
    (l_Book_came : K.lookup f_Book_came = some ⟨oc_Book_came, od_Book_came, .func (PySem.W.fnOf "came" "Book.came" (defArgs s_Book_came) (defBody s_Book_came) (defScope s_Book_came) .none kV_Book_came dc_Book_came pm_Book_came an_Book_came cd_Book_came ct_Book_came), sl_Book_came⟩)
    (c_Book_came : PySem.W.codeIn K cd_Book_came "Book.came" = true)
    (k_Book_came : PySem.W.keepIn K (.ref f_Book_came) = true)
    (i_Book_came : PySem.W.isFn K (.ref f_Book_came) = true)
    (a_Book_gone : PySem.W.findIn K (.ref C_Book) "gone" = some (some (.ref f_Book_gone)))
    (l_Book_gone : K.lookup f_Book_gone = some ⟨oc_Book_gone, od_Book_gone, .func (PySem.W.fnOf "gone" "Book.gone" (defArgs s_Book_gone) (defBody s_Book_gone) (defScope s_Book_gone) .none kV_Book_gone dc_Book_gone pm_Book_gone an_Book_gone cd_Book_gone ct_Book_gone), sl_Book_gone⟩)
    (c_Book_gone : PySem.W.codeIn K cd_Book_gone "Book.gone" = true)
    (k_Book_gone : PySem.W.keepIn K (.ref f_Book_gone) = true)
    (i_Book_gone : PySem.W.isFn K (.ref f_Book_gone) = true)
    (a_Book_inside : PySem.W.findIn K (.ref C_Book) "inside" = some (some (.ref f_Book_inside)))
    (l_Book_inside : K.lookup f_Book_inside = some ⟨oc_Book_inside, od_Book_inside, .func (PySem.W.fnOf "inside" "Book.inside" (defArgs s_Book_inside) (defBody s_Book_inside) (defScope s_Book_inside) .none kV_Book_inside dc_Book_inside pm_Book_inside an_Book_inside cd_Book_inside ct_Book_inside), sl_Book_inside⟩)
    (c_Book_inside : PySem.W.codeIn K cd_Book_inside "Book.inside" = true)
    (k_Book_inside : PySem.W.keepIn K (.ref f_Book_inside) = true)
    (i_Book_inside : PySem.W.isFn K (.ref f_Book_inside) = true)
    (a_Book_rank : PySem.W.findIn K (.ref C_Book) "rank" = some (some (.ref f_Book_rank)))
    (l_Book_rank : K.lookup f_Book_rank = some ⟨oc_Book_rank, od_Book_rank, .func (PySem.W.fnOf "rank" "Book.rank" (defArgs s_Book_rank) (defBody s_Book_rank) (defScope s_Book_rank) .none kV_Book_rank dc_Book_rank pm_Book_rank an_Book_rank cd_Book_rank ct_Book_rank), sl_Book_rank⟩)
    (c_Book_rank : PySem.W.codeIn K cd_Book_rank "Book.rank" = true)
    (k_Book_rank : PySem.W.keepIn K (.ref f_Book_rank) = true)
    (i_Book_rank : PySem.W.isFn K (.ref f_Book_rank) = true)
    (a_Book_names : PySem.W.findIn K (.ref C_Book) "names" = some (some (.ref f_Book_names)))
    (l_Book_names : K.lookup f_Book_names = some ⟨oc_Book_names, od_Book_names, .func (PySem.W.fnOf "names" "Book.names" (defArgs s_Book_names) (defBody s_Book_names) (defScope s_Book_names) .none kV_Book_names dc_Book_names pm_Book_names an_Book_names cd_Book_names ct_Book_names), sl_Book_names⟩)
    (c_Book_names : PySem.W.codeIn K cd_Book_names "Book.names" = true)
    (k_Book_names : PySem.W.keepIn K (.ref f_Book_names) = true)
    (i_Book_names : PySem.W.isFn K (.ref f_Book_names) = true)
    (a_Book_time_now : PySem.W.findIn K (.ref C_Book) "time_now" = some (some (.ref f_Book_time_now)))
    (l_Book_time_now : K.lookup f_Book_time_now = some ⟨oc_Book_time_now, od_Book_time_now, .func (PySem.W.fnOf "time_now" "Book.time_now" (defArgs s_Book_time_now) (defBody s_Book_time_now) (defScope s_Book_time_now) .none kV_Book_time_now dc_Book_time_now pm_Book_time_now an_Book_time_now cd_Book_time_now ct_Book_time_now), sl_Book_time_now⟩)
    (c_Book_time_now : PySem.W.codeIn K cd_Book_time_now "Book.time_now" = true)
    (k_Book_time_now : PySem.W.keepIn K (.ref f_Book_time_now) = true)
    (i_Book_time_now : PySem.W.isFn K (.ref f_Book_time_now) = true)
    (a_Book_deeds_done : PySem.W.findIn K (.ref C_Book) "deeds_done" = some (some (.ref f_Book_deeds_done)))
    (l_Book_deeds_done : K.lookup f_Book_deeds_done = some ⟨oc_Book_deeds_done, od_Book_deeds_done, .func (PySem.W.fnOf "deeds_done" "Book.deeds_done" (defArgs s_Book_deeds_done) (defBody s_Book_deeds_done) (defScope s_Book_deeds_done) .none kV_Book_deeds_done dc_Book_deeds_done pm_Book_deeds_done an_Book_deeds_done cd_Book_deeds_done ct_Book_deeds_done), sl_Book_deeds_done⟩)
    (c_Book_deeds_done : PySem.W.codeIn K cd_Book_deeds_done "Book.deeds_done" = true)
    (k_Book_deeds_done : PySem.W.keepIn K (.ref f_Book_deeds_done) = true)
    (i_Book_deeds_done : PySem.W.isFn K (.ref f_Book_deeds_done) = true)
    (a_Book_count_of : PySem.W.findIn K (.ref C_Book) "count_of" = some (some (.ref f_Book_count_of)))
    (l_Book_count_of : K.lookup f_Book_count_of = some ⟨oc_Book_count_of, od_Book_count_of, .func (PySem.W.fnOf "count_of" "Book.count_of" (defArgs s_Book_count_of) (defBody s_Book_count_of) (defScope s_Book_count_of) .none kV_Book_count_of dc_Book_count_of pm_Book_count_of an_Book_count_of cd_Book_count_of ct_Book_count_of), sl_Book_count_of⟩)
    (c_Book_count_of : PySem.W.codeIn K cd_Book_count_of "Book.count_of" = true)
    (k_Book_count_of : PySem.W.keepIn K (.ref f_Book_count_of) = true)
    (i_Book_count_of : PySem.W.isFn K (.ref f_Book_count_of) = true)
    (a_Book_last_of : PySem.W.findIn K (.ref C_Book) "last_of" = some (some (.ref f_Book_last_of)))
    (l_Book_last_of : K.lookup f_Book_last_of = some ⟨oc_Book_last_of, od_Book_last_of, .func (PySem.W.fnOf "last_of" "Book.last_of" (defArgs s_Book_last_of) (defBody s_Book_last_of) (defScope s_Book_last_of) .none kV_Book_last_of dc_Book_last_of pm_Book_last_of an_Book_last_of cd_Book_last_of ct_Book_last_of), sl_Book_last_of⟩)
    (c_Book_last_of : PySem.W.codeIn K cd_Book_last_of "Book.last_of" = true)
    (k_Book_last_of : PySem.W.keepIn K (.ref f_Book_last_of) = true)
    (i_Book_last_of : PySem.W.isFn K (.ref f_Book_last_of) = true)
    (a_Shelf_init : PySem.W.findIn K (.ref C_Shelf) "__init__" = some (some (.ref f_Shelf_init)))
    (l_Shelf_init : K.lookup f_Shelf_init = some ⟨oc_Shelf_init, od_Shelf_init, .func (PySem.W.fnOf "__init__" "Shelf.__init__" (defArgs s_Shelf_init) (defBody s_Shelf_init) (defScope s_Shelf_init) .none kV_Shelf_init dc_Shelf_init pm_Shelf_init an_Shelf_init cd_Shelf_init ct_Shelf_init), sl_Shelf_init⟩)
    (c_Shelf_init : PySem.W.codeIn K cd_Shelf_init "Shelf.__init__" = true)
    (k_Shelf_init : PySem.W.keepIn K (.ref f_Shelf_init) = true)
    (i_Shelf_init : PySem.W.isFn K (.ref f_Shelf_init) = true)
    (a_Shelf_came : PySem.W.findIn K (.ref C_Shelf) "came" = some (some (.ref f_Shelf_came)))
    (l_Shelf_came : K.lookup f_Shelf_came = some ⟨oc_Shelf_came, od_Shelf_came, .func (PySem.W.fnOf "came" "Shelf.came" (defArgs s_Shelf_came) (defBody s_Shelf_came) (defScope s_Shelf_came) .none kV_Shelf_came dc_Shelf_came pm_Shelf_came an_Shelf_came cd_Shelf_came ct_Shelf_came), sl_Shelf_came⟩)
    (c_Shelf_came : PySem.W.codeIn K cd_Shelf_came "Shelf.came" = true)
    (k_Shelf_came : PySem.W.keepIn K (.ref f_Shelf_came) = true)
    (i_Shelf_came : PySem.W.isFn K (.ref f_Shelf_came) = true)
    (a_Shelf_gone : PySem.W.findIn K (.ref C_Shelf) "gone" = some (some (.ref f_Shelf_gone)))
    (l_Shelf_gone : K.lookup f_Shelf_gone = some ⟨oc_Shelf_gone, od_Shelf_gone, .func (PySem.W.fnOf "gone" "Shelf.gone" (defArgs s_Shelf_gone) (defBody s_Shelf_gone) (defScope s_Shelf_gone) .none kV_Shelf_gone dc_Shelf_gone pm_Shelf_gone an_Shelf_gone cd_Shelf_gone ct_Shelf_gone), sl_Shelf_gone⟩)
    (c_Shelf_gone : PySem.W.codeIn K cd_Shelf_gone "Shelf.gone" = true)
    (k_Shelf_gone : PySem.W.keepIn K (.ref f_Shelf_gone) = true)
    (i_Shelf_gone : PySem.W.isFn K (.ref f_Shelf_gone) = true)
    (a_Shelf_inside : PySem.W.findIn K (.ref C_Shelf) "inside" = some (some (.ref f_Shelf_inside)))
    (l_Shelf_inside : K.lookup f_Shelf_inside = some ⟨oc_Shelf_inside, od_Shelf_inside, .func (PySem.W.fnOf "inside" "Shelf.inside" (defArgs s_Shelf_inside) (defBody s_Shelf_inside) (defScope s_Shelf_inside) .none kV_Shelf_inside dc_Shelf_inside pm_Shelf_inside an_Shelf_inside cd_Shelf_inside ct_Shelf_inside), sl_Shelf_inside⟩)
    (c_Shelf_inside : PySem.W.codeIn K cd_Shelf_inside "Shelf.inside" = true)
    (k_Shelf_inside : PySem.W.keepIn K (.ref f_Shelf_inside) = true)
    (i_Shelf_inside : PySem.W.isFn K (.ref f_Shelf_inside) = true)
    (a_Shelf_has : PySem.W.findIn K (.ref C_Shelf) "has" = some (some (.ref f_Shelf_has)))
    (l_Shelf_has : K.lookup f_Shelf_has = some ⟨oc_Shelf_has, od_Shelf_has, .func (PySem.W.fnOf "has" "Shelf.has" (defArgs s_Shelf_has) (defBody s_Shelf_has) (defScope s_Shelf_has) .none kV_Shelf_has dc_Shelf_has pm_Shelf_has an_Shelf_has cd_Shelf_has ct_Shelf_has), sl_Shelf_has⟩)
    (c_Shelf_has : PySem.W.codeIn K cd_Shelf_has "Shelf.has" = true)
    (k_Shelf_has : PySem.W.keepIn K (.ref f_Shelf_has) = true)
    (i_Shelf_has : PySem.W.isFn K (.ref f_Shelf_has) = true)
    (a_Shelf_goings : PySem.W.findIn K (.ref C_Shelf) "goings" = some (some (.ref f_Shelf_goings)))
    (l_Shelf_goings : K.lookup f_Shelf_goings = some ⟨oc_Shelf_goings, od_Shelf_goings, .func (PySem.W.fnOf "goings" "Shelf.goings" (defArgs s_Shelf_goings) (defBody s_Shelf_goings) (defScope s_Shelf_goings) .none kV_Shelf_goings dc_Shelf_goings pm_Shelf_goings an_Shelf_goings cd_Shelf_goings ct_Shelf_goings), sl_Shelf_goings⟩)
    (c_Shelf_goings : PySem.W.codeIn K cd_Shelf_goings "Shelf.goings" = true)
    (k_Shelf_goings : PySem.W.keepIn K (.ref f_Shelf_goings) = true)
    (i_Shelf_goings : PySem.W.isFn K (.ref f_Shelf_goings) = true)
    (a_l_cell_at : PySem.W.nsIn K mainGlobals "_law_cell_at" = some (some (.ref f_l_cell_at)))
    (l_l_cell_at : K.lookup f_l_cell_at = some ⟨oc_l_cell_at, od_l_cell_at, .func (PySem.W.fnOf "_law_cell_at" "_law_cell_at" (defArgs s_l_cell_at) (defBody s_l_cell_at) (defScope s_l_cell_at) .none kV_l_cell_at dc_l_cell_at pm_l_cell_at an_l_cell_at cd_l_cell_at ct_l_cell_at), sl_l_cell_at⟩)
    (c_l_cell_at : PySem.W.codeIn K cd_l_cell_at "_law_cell_at" = true)
    (k_l_cell_at : PySem.W.keepIn K (.ref f_l_cell_at) = true)
    (a_l_whole : PySem.W.nsIn K mainGlobals "_law_whole" = some (some (.ref f_l_whole)))
    (l_l_whole : K.lookup f_l_whole = some ⟨oc_l_whole, od_l_whole, .func (PySem.W.fnOf "_law_whole" "_law_whole" (defArgs s_l_whole) (defBody s_l_whole) (defScope s_l_whole) .none kV_l_whole dc_l_whole pm_l_whole an_l_whole cd_l_whole ct_l_whole), sl_l_whole⟩)
    (c_l_whole : PySem.W.codeIn K cd_l_whole "_law_whole" = true)
    (k_l_whole : PySem.W.keepIn K (.ref f_l_whole) = true)
    (a_l_sign : PySem.W.nsIn K mainGlobals "_law_sign" = some (some (.ref f_l_sign)))
    (l_l_sign : K.lookup f_l_sign = some ⟨oc_l_sign, od_l_sign, .func (PySem.W.fnOf "_law_sign" "_law_sign" (defArgs s_l_sign) (defBody s_l_sign) (defScope s_l_sign) .none kV_l_sign dc_l_sign pm_l_sign an_l_sign cd_l_sign ct_l_sign), sl_l_sign⟩)
    (c_l_sign : PySem.W.codeIn K cd_l_sign "_law_sign" = true)
    (k_l_sign : PySem.W.keepIn K (.ref f_l_sign) = true)
    (a_l_names : PySem.W.nsIn K mainGlobals "_law_names" = some (some (.ref f_l_names)))
    (l_l_names : K.lookup f_l_names = some ⟨oc_l_names, od_l_names, .func (PySem.W.fnOf "_law_names" "_law_names" (defArgs s_l_names) (defBody s_l_names) (defScope s_l_names) .none kV_l_names dc_l_names pm_l_names an_l_names cd_l_names ct_l_names), sl_l_names⟩)
    (c_l_names : PySem.W.codeIn K cd_l_names "_law_names" = true)
    (k_l_names : PySem.W.keepIn K (.ref f_l_names) = true)
    (a_l_many : PySem.W.nsIn K mainGlobals "_law_many" = some (some (.ref f_l_many)))
    (l_l_many : K.lookup f_l_many = some ⟨oc_l_many, od_l_many, .func (PySem.W.fnOf "_law_many" "_law_many" (defArgs s_l_many) (defBody s_l_many) (defScope s_l_many) .none kV_l_many dc_l_many pm_l_many an_l_many cd_l_many ct_l_many), sl_l_many⟩)
    (c_l_many : PySem.W.codeIn K cd_l_many "_law_many" = true)
    (k_l_many : PySem.W.keepIn K (.ref f_l_many) = true)
    (a_l_span : PySem.W.nsIn K mainGlobals "_law_span" = some (some (.ref f_l_span)))
    (l_l_span : K.lookup f_l_span = some ⟨oc_l_span, od_l_span, .func (PySem.W.fnOf "_law_span" "_law_span" (defArgs s_l_span) (defBody s_l_span) (defScope s_l_span) .none kV_l_span dc_l_span pm_l_span an_l_span cd_l_span ct_l_span), sl_l_span⟩)
    (c_l_span : PySem.W.codeIn K cd_l_span "_law_span" = true)
    (k_l_span : PySem.W.keepIn K (.ref f_l_span) = true)
    (a_l_part : PySem.W.nsIn K mainGlobals "_law_part" = some (some (.ref f_l_part)))
    (l_l_part : K.lookup f_l_part = some ⟨oc_l_part, od_l_part, .func (PySem.W.fnOf "_law_part" "_law_part" (defArgs s_l_part) (defBody s_l_part) (defScope s_l_part) .none kV_l_part dc_l_part pm_l_part an_l_part cd_l_part ct_l_part), sl_l_part⟩)
    (c_l_part : PySem.W.codeIn K cd_l_part "_law_part" = true)
    (k_l_part : PySem.W.keepIn K (.ref f_l_part) = true)
    (a_l_places : PySem.W.nsIn K mainGlobals "_law_places" = some (some (.ref f_l_places)))
    (l_l_places : K.lookup f_l_places = some ⟨oc_l_places, od_l_places, .func (PySem.W.fnOf "_law_places" "_law_places" (defArgs s_l_places) (defBody s_l_places) (defScope s_l_places) .none kV_l_places dc_l_places pm_l_places an_l_places cd_l_places ct_l_places), sl_l_places⟩)
    (c_l_places : PySem.W.codeIn K cd_l_places "_law_places" = true)
    (k_l_places : PySem.W.keepIn K (.ref f_l_places) = true)
    (a_l_deed : PySem.W.nsIn K mainGlobals "_law_deed" = some (some (.ref f_l_deed)))
    (l_l_deed : K.lookup f_l_deed = some ⟨oc_l_deed, od_l_deed, .func (PySem.W.fnOf "_law_deed" "_law_deed" (defArgs s_l_deed) (defBody s_l_deed) (defScope s_l_deed) .none kV_l_deed dc_l_deed pm_l_deed an_l_deed cd_l_deed ct_l_deed), sl_l_deed⟩)
    (c_l_deed : PySem.W.codeIn K cd_l_deed "_law_deed" = true)
    (k_l_deed : PySem.W.keepIn K (.ref f_l_deed) = true)
    (a_l_steps : PySem.W.nsIn K mainGlobals "_law_steps" = some (some (.ref f_l_steps)))
    (l_l_steps : K.lookup f_l_steps = some ⟨oc_l_steps, od_l_steps, .func (PySem.W.fnOf "_law_steps" "_law_steps" (defArgs s_l_steps) (defBody s_l_steps) (defScope s_l_steps) .none kV_l_steps dc_l_steps pm_l_steps an_l_steps cd_l_steps ct_l_steps), sl_l_steps⟩)
    (c_l_steps : PySem.W.codeIn K cd_l_steps "_law_steps" = true)
    (k_l_steps : PySem.W.keepIn K (.ref f_l_steps) = true)
    (a_l_do : PySem.W.nsIn K mainGlobals "_law_do" = some (some (.ref f_l_do)))
    (l_l_do : K.lookup f_l_do = some ⟨oc_l_do, od_l_do, .func (PySem.W.fnOf "_law_do" "_law_do" (defArgs s_l_do) (defBody s_l_do) (defScope s_l_do) .none kV_l_do dc_l_do pm_l_do an_l_do cd_l_do ct_l_do), sl_l_do⟩)
    (c_l_do : PySem.W.codeIn K cd_l_do "_law_do" = true)
    (k_l_do : PySem.W.keepIn K (.ref f_l_do) = true)
    (a_l_aged : PySem.W.nsIn K mainGlobals "_law_aged" = some (some (.ref f_l_aged)))
    (l_l_aged : K.lookup f_l_aged = some ⟨oc_l_aged, od_l_aged, .func (PySem.W.fnOf "_law_aged" "_law_aged" (defArgs s_l_aged) (defBody s_l_aged) (defScope s_l_aged) .none kV_l_aged dc_l_aged pm_l_aged an_l_aged cd_l_aged ct_l_aged), sl_l_aged⟩)
    (c_l_aged : PySem.W.codeIn K cd_l_aged "_law_aged" = true)
    (k_l_aged : PySem.W.keepIn K (.ref f_l_aged) = true)
    (a_l_rested : PySem.W.nsIn K mainGlobals "_law_rested" = some (some (.ref f_l_rested)))
    (l_l_rested : K.lookup f_l_rested = some ⟨oc_l_rested, od_l_rested, .func (PySem.W.fnOf "_law_rested" "_law_rested" (defArgs s_l_rested) (defBody s_l_rested) (defScope s_l_rested) .none kV_l_rested dc_l_rested pm_l_rested an_l_rested cd_l_rested ct_l_rested), sl_l_rested⟩)
    (c_l_rested : PySem.W.codeIn K cd_l_rested "_law_rested" = true)
    (k_l_rested : PySem.W.keepIn K (.ref f_l_rested) = true)
    (a_l_kinds : PySem.W.nsIn K mainGlobals "_law_kinds" = some (some (.ref f_l_kinds)))
    (l_l_kinds : K.lookup f_l_kinds = some ⟨oc_l_kinds, od_l_kinds, .func (PySem.W.fnOf "_law_kinds" "_law_kinds" (defArgs s_l_kinds) (defBody s_l_kinds) (defScope s_l_kinds) .none kV_l_kinds dc_l_kinds pm_l_kinds an_l_kinds cd_l_kinds ct_l_kinds), sl_l_kinds⟩)
    (c_l_kinds : PySem.W.codeIn K cd_l_kinds "_law_kinds" = true)
    (k_l_kinds : PySem.W.keepIn K (.ref f_l_kinds) = true)
    (a_l_is_going : PySem.W.nsIn K mainGlobals "_law_is_going" = some (some (.ref f_l_is_going)))
    (l_l_is_going : K.lookup f_l_is_going = some ⟨oc_l_is_going, od_l_is_going, .func (PySem.W.fnOf "_law_is_going" "_law_is_going" (defArgs s_l_is_going) (defBody s_l_is_going) (defScope s_l_is_going) .none kV_l_is_going dc_l_is_going pm_l_is_going an_l_is_going cd_l_is_going ct_l_is_going), sl_l_is_going⟩)
    (c_l_is_going : PySem.W.codeIn K cd_l_is_going "_law_is_going" = true)
    (k_l_is_going : PySem.W.keepIn K (.ref f_l_is_going) = true)
    (a_l_left_by_faded : PySem.W.nsIn K mainGlobals "_law_left_by_faded" = some (some (.ref f_l_left_by_faded)))
    (l_l_left_by_faded : K.lookup f_l_left_by_faded = some ⟨oc_l_left_by_faded, od_l_left_by_faded, .func (PySem.W.fnOf "_law_left_by_faded" "_law_left_by_faded" (defArgs s_l_left_by_faded) (defBody s_l_left_by_faded) (defScope s_l_left_by_faded) .none kV_l_left_by_faded dc_l_left_by_faded pm_l_left_by_faded an_l_left_by_faded cd_l_left_by_faded ct_l_left_by_faded), sl_l_left_by_faded⟩)
    (c_l_left_by_faded : PySem.W.codeIn K cd_l_left_by_faded "_law_left_by_faded" = true)
    (k_l_left_by_faded : PySem.W.keepIn K (.ref f_l_left_by_faded) = true)
    (a_l_left_by_rest : PySem.W.nsIn K mainGlobals "_law_left_by_rest" = some (some (.ref f_l_left_by_rest)))
    (l_l_left_by_rest : K.lookup f_l_left_by_rest = some ⟨oc_l_left_by_rest, od_l_left_by_rest, .func (PySem.W.fnOf "_law_left_by_rest" "_law_left_by_rest" (defArgs s_l_left_by_rest) (defBody s_l_left_by_rest) (defScope s_l_left_by_rest) .none kV_l_left_by_rest dc_l_left_by_rest pm_l_left_by_rest an_l_left_by_rest cd_l_left_by_rest ct_l_left_by_rest), sl_l_left_by_rest⟩)
    (c_l_left_by_rest : PySem.W.codeIn K cd_l_left_by_rest "_law_left_by_rest" = true)
    (k_l_left_by_rest : PySem.W.keepIn K (.ref f_l_left_by_rest) = true)
    (a_l_listed : PySem.W.nsIn K mainGlobals "_law_listed" = some (some (.ref f_l_listed)))
    (l_l_listed : K.lookup f_l_listed = some ⟨oc_l_listed, od_l_listed, .func (PySem.W.fnOf "_law_listed" "_law_listed" (defArgs s_l_listed) (defBody s_l_listed) (defScope s_l_listed) .none kV_l_listed dc_l_listed pm_l_listed an_l_listed cd_l_listed ct_l_listed), sl_l_listed⟩)
    (c_l_listed : PySem.W.codeIn K cd_l_listed "_law_listed" = true)
    (k_l_listed : PySem.W.keepIn K (.ref f_l_listed) = true)
    (a_l_walked : PySem.W.nsIn K mainGlobals "_law_walked" = some (some (.ref f_l_walked)))
    (l_l_walked : K.lookup f_l_walked = some ⟨oc_l_walked, od_l_walked, .func (PySem.W.fnOf "_law_walked" "_law_walked" (defArgs s_l_walked) (defBody s_l_walked) (defScope s_l_walked) .none kV_l_walked dc_l_walked pm_l_walked an_l_walked cd_l_walked ct_l_walked), sl_l_walked⟩)
    (c_l_walked : PySem.W.codeIn K cd_l_walked "_law_walked" = true)
    (k_l_walked : PySem.W.keepIn K (.ref f_l_walked) = true)
    (a_l_known : PySem.W.nsIn K mainGlobals "_law_known" = some (some (.ref f_l_known)))
    (l_l_known : K.lookup f_l_known = some ⟨oc_l_known, od_l_known, .func (PySem.W.fnOf "_law_known" "_law_known" (defArgs s_l_known) (defBody s_l_known) (defScope s_l_known) .none kV_l_known dc_l_known pm_l_known an_l_known cd_l_known ct_l_known), sl_l_known⟩)
    (c_l_known : PySem.W.codeIn K cd_l_known "_law_known" = true)
    (k_l_known : PySem.W.keepIn K (.ref f_l_known) = true)
    (a_l_seen : PySem.W.nsIn K mainGlobals "_law_seen" = some (some (.ref f_l_seen)))
    (l_l_seen : K.lookup f_l_seen = some ⟨oc_l_seen, od_l_seen, .func (PySem.W.fnOf "_law_seen" "_law_seen" (defArgs s_l_seen) (defBody s_l_seen) (defScope s_l_seen) .none kV_l_seen dc_l_seen pm_l_seen an_l_seen cd_l_seen ct_l_seen), sl_l_seen⟩)
    (c_l_seen : PySem.W.codeIn K cd_l_seen "_law_seen" = true)
    (k_l_seen : PySem.W.keepIn K (.ref f_l_seen) = true)
    (a_law : PySem.W.nsIn K mainGlobals "law" = some (some (.ref f_law)))
    (l_law : K.lookup f_law = some ⟨oc_law, od_law, .func (PySem.W.fnOf "law" "law" (defArgs s_law) (defBody s_law) (defScope s_law) .none kV_law dc_law pm_law an_law cd_law ct_law), sl_law⟩)
    (c_law : PySem.W.codeIn K cd_law "law" = true)
    (k_law : PySem.W.keepIn K (.ref f_law) = true)
    (z_any : PySem.W.nsIn K mainGlobals "any" = some none)
    (z_bool : PySem.W.nsIn K mainGlobals "bool" = some none)
    (z_dict : PySem.W.nsIn K mainGlobals "dict" = some none)
    (z_enumerate : PySem.W.nsIn K mainGlobals "enumerate" = some none)
    (z_int : PySem.W.nsIn K mainGlobals "int" = some none)
    (z_isinstance : PySem.W.nsIn K mainGlobals "isinstance" = some none)
    (z_len : PySem.W.nsIn K mainGlobals "len" = some none)
    (z_list : PySem.W.nsIn K mainGlobals "list" = some none)
    (z_min : PySem.W.nsIn K mainGlobals "min" = some none)
    (z_range : PySem.W.nsIn K mainGlobals "range" = some none)
    (z_sorted : PySem.W.nsIn K mainGlobals "sorted" = some none)
    (z_str : PySem.W.nsIn K mainGlobals "str" = some none)
    (z_tuple : PySem.W.nsIn K mainGlobals "tuple" = some none)
    (g_MOST_SIGNS : PySem.W.nsIn K mainGlobals "MOST_SIGNS" = some (some (.int 40 t_MOST_SIGNS)))
    (g_MOST_PLACES : PySem.W.nsIn K mainGlobals "MOST_PLACES" = some (some (.int 1000 t_MOST_PLACES)))
    (g_MOST_SPAN : PySem.W.nsIn K mainGlobals "MOST_SPAN" = some (some (.int 100000000000000000000 t_MOST_SPAN)))
    (g_MOST_NUMBER : PySem.W.nsIn K mainGlobals "MOST_NUMBER" = some (some (.int 1000000000000000000000000000000 t_MOST_NUMBER)))
    (pg_Book : PySem.W.plainGet K C_Book Str.empty = true)
    (hd_Book : PySem.W.hasDictIn K C_Book = true)
    (po_Book : PySem.W.plainOver K C_Book = true)
    (sa_Book : PySem.W.findIn K (.ref C_Book) "__setattr__" = some (some (.builtin "object.__setattr__")))
    (mk_Book : PySem.W.makesIn K C_Book = true)
    (kc_Book : PySem.W.keepIn K (.ref C_Book) = true)
    (na_Book_span : PySem.W.findIn K (.ref C_Book) "span" = some none)
    (na_Book_part : PySem.W.findIn K (.ref C_Book) "part" = some none)
    (na_Book_time : PySem.W.findIn K (.ref C_Book) "time" = some none)
    (na_Book_deed : PySem.W.findIn K (.ref C_Book) "deed" = some none)
    (na_Book_counts : PySem.W.findIn K (.ref C_Book) "counts" = some none)
    (na_Book_lasts : PySem.W.findIn K (.ref C_Book) "lasts" = some none)
    (pg_Shelf : PySem.W.plainGet K C_Shelf Str.empty = true)
    (hd_Shelf : PySem.W.hasDictIn K C_Shelf = true)
    (po_Shelf : PySem.W.plainOver K C_Shelf = true)
    (sa_Shelf : PySem.W.findIn K (.ref C_Shelf) "__setattr__" = some (some (.builtin "object.__setattr__")))
    (mk_Shelf : PySem.W.makesIn K C_Shelf = true)
    (kc_Shelf : PySem.W.keepIn K (.ref C_Shelf) = true)
    (na_Shelf_span : PySem.W.findIn K (.ref C_Shelf) "span" = some none)
    (na_Shelf_part : PySem.W.findIn K (.ref C_Shelf) "part" = some none)
    (na_Shelf_time : PySem.W.findIn K (.ref C_Shelf) "time" = some none)
    (na_Shelf_deed : PySem.W.findIn K (.ref C_Shelf) "deed" = some none)
    (na_Shelf_counts : PySem.W.findIn K (.ref C_Shelf) "counts" = some none)
    (na_Shelf_lasts : PySem.W.findIn K (.ref C_Shelf) "lasts" = some none)
    (na_Shelf_places : PySem.W.findIn K (.ref C_Shelf) "places" = some none)
    (na_Shelf_standing : PySem.W.findIn K (.ref C_Shelf) "standing" = some none)
    (na_Shelf_went : PySem.W.findIn K (.ref C_Shelf) "went" = some none)
    (fi_Shelf_ask : PySem.W.findIn K (.ref C_Shelf) "ask" = some (some (.ref f_Book_ask)))
    (fi_Shelf_rest : PySem.W.findIn K (.ref C_Shelf) "rest" = some (some (.ref f_Book_rest)))
    (fi_Shelf_drop : PySem.W.findIn K (.ref C_Shelf) "drop" = some (some (.ref f_Book_drop)))
    (fi_Shelf_spend : PySem.W.findIn K (.ref C_Shelf) "spend" = some (some (.ref f_Book_spend)))
    (fi_Shelf_asked_at : PySem.W.findIn K (.ref C_Shelf) "asked_at" = some (some (.ref f_Book_asked_at)))
    (fi_Shelf_rank : PySem.W.findIn K (.ref C_Shelf) "rank" = some (some (.ref f_Book_rank)))
    (fi_Shelf_names : PySem.W.findIn K (.ref C_Shelf) "names" = some (some (.ref f_Book_names)))
    (fi_Shelf_time_now : PySem.W.findIn K (.ref C_Shelf) "time_now" = some (some (.ref f_Book_time_now)))
    (fi_Shelf_deeds_done : PySem.W.findIn K (.ref C_Shelf) "deeds_done" = some (some (.ref f_Book_deeds_done)))
    (fi_Shelf_count_of : PySem.W.findIn K (.ref C_Shelf) "count_of" = some (some (.ref f_Book_count_of)))
    (fi_Shelf_last_of : PySem.W.findIn K (.ref C_Shelf) "last_of" = some (some (.ref f_Book_last_of)))
    (gg_rank : PySem.W.specialIn K (.ref f_Book_rank) "__get__" = some (some (.builtin "function.__get__")))
    (gt_rank : PySem.W.takesIn K (.ref f_Book_rank) = some false)
    (gf_rank : PySem.W.fnIn K f_Book_rank = true)
    (gg_asked_at : PySem.W.specialIn K (.ref f_Book_asked_at) "__get__" = some (some (.builtin "function.__get__")))
    (gt_asked_at : PySem.W.takesIn K (.ref f_Book_asked_at) = some false)
    (gf_asked_at : PySem.W.fnIn K f_Book_asked_at = true)
    (cd_rd : PySem.W.readsIn K C_Book (.type "type") = true)
    (cd_ga : PySem.W.specialIn K (.ref C_Book) "__getattribute__" = some (some (.builtin "type.__getattribute__")))
    (cd_at : PySem.W.findCls K (.ref C_Book) (.type "type") "__init__" = some (.val (.ref f_Book_init))) :
    ∃ fd : FuncData, (∀ (s : Shared) (v : Value), BindsTo s fd ⟨[v], []⟩ [("_law_script", v)]) ∧ ∀ base : Heap, K.In base → base.Ns mainGlobals mg → FnOk l.prog w K mg base CX0 13 fa fd P_law (spLaw K) := by
  have e := hfa.symm.trans (PySem.W.mg_of X G a_law)
  cases e
  have F_within := fun_mk (st := s_within) l_within c_within k_within
  have b_within := F_within.binds (ps := P_within) fun _ _ _ _ _ _ us hl => match us, hl with | [_, _, _], _ => rfl
  have F_want_number := fun_mk (st := s_want_number) l_want_number c_want_number k_want_number
  have b_want_number := F_want_number.binds (ps := P_want_number) fun _ _ _ _ _ _ us hl => match us, hl with | [_, _, _], _ => rfl
  have F_want_name := fun_mk (st := s_want_name) l_want_name c_want_name k_want_name
  have b_want_name := F_want_name.binds (ps := P_want_name) fun _ _ _ _ _ _ us hl => match us, hl with | [_], _ => rfl
  have F_want_rule := fun_mk (st := s_want_rule) l_want_rule c_want_rule k_want_rule
  have b_want_rule := F_want_rule.binds (ps := P_want_rule) fun _ _ _ _ _ _ us hl => match us, hl with | [_, _], _ => rfl
  have F_ageings := fun_mk (st := s_ageings) l_ageings c_ageings k_ageings
  have b_ageings := F_ageings.binds (ps := P_ageings) fun _ _ _ _ _ _ us hl => match us, hl with | [_, _, _], _ => rfl
  have F_aged := fun_mk (st := s_aged) l_aged c_aged k_aged
  have b_aged := F_aged.binds (ps := P_aged) fun _ _ _ _ _ _ us hl => match us, hl with | [_, _, _], _ => rfl
  have F_Book_init := fun_mk (st := s_Book_init) l_Book_init c_Book_init k_Book_init
  have b_Book_init := F_Book_init.binds (ps := P_Book_init) fun _ _ _ _ _ _ us hl => match us, hl with | [_, _, _], _ => rfl
  have F_Book_ask := mkD_Book_ask l_Book_ask c_Book_ask d_Book_ask k_Book_ask
  have b_Book_ask := bD_Book_ask F_Book_ask
  have bd_Book_ask := bdD_Book_ask F_Book_ask
  have F_Book_rest := fun_mk (st := s_Book_rest) l_Book_rest c_Book_rest k_Book_rest
  have b_Book_rest := F_Book_rest.binds (ps := P_Book_rest) fun _ _ _ _ _ _ us hl => match us, hl with | [_, _], _ => rfl
  have F_Book_drop := fun_mk (st := s_Book_drop) l_Book_drop c_Book_drop k_Book_drop
  have b_Book_drop := F_Book_drop.binds (ps := P_Book_drop) fun _ _ _ _ _ _ us hl => match us, hl with | [_, _], _ => rfl
  have F_Book_spend := fun_mk (st := s_Book_spend) l_Book_spend c_Book_spend k_Book_spend
  have b_Book_spend := F_Book_spend.binds (ps := P_Book_spend) fun _ _ _ _ _ _ us hl => match us, hl with | [_, _], _ => rfl
  have F_Book_asked_at := fun_mk (st := s_Book_asked_at) l_Book_asked_at c_Book_asked_at k_Book_asked_at
  have b_Book_asked_at := F_Book_asked_at.binds (ps := P_Book_asked_at) fun _ _ _ _ _ _ us hl => match us, hl with | [_, _], _ => rfl
  have F_Book_came := fun_mk (st := s_Book_came) l_Book_came c_Book_came k_Book_came
  have b_Book_came := F_Book_came.binds (ps := P_Book_came) fun _ _ _ _ _ _ us hl => match us, hl with | [_, _], _ => rfl
  have F_Book_gone := fun_mk (st := s_Book_gone) l_Book_gone c_Book_gone k_Book_gone
  have b_Book_gone := F_Book_gone.binds (ps := P_Book_gone) fun _ _ _ _ _ _ us hl => match us, hl with | [_, _, _], _ => rfl
  have F_Book_inside := fun_mk (st := s_Book_inside) l_Book_inside c_Book_inside k_Book_inside
  have b_Book_inside := F_Book_inside.binds (ps := P_Book_inside) fun _ _ _ _ _ _ us hl => match us, hl with | [_], _ => rfl
  have F_Book_rank := fun_mk (st := s_Book_rank) l_Book_rank c_Book_rank k_Book_rank
  have b_Book_rank := F_Book_rank.binds (ps := P_Book_rank) fun _ _ _ _ _ _ us hl => match us, hl with | [_, _], _ => rfl
  have F_Book_names := fun_mk (st := s_Book_names) l_Book_names c_Book_names k_Book_names
  have b_Book_names := F_Book_names.binds (ps := P_Book_names) fun _ _ _ _ _ _ us hl => match us, hl with | [_], _ => rfl
  have F_Book_time_now := fun_mk (st := s_Book_time_now) l_Book_time_now c_Book_time_now k_Book_time_now
  have b_Book_time_now := F_Book_time_now.binds (ps := P_Book_time_now) fun _ _ _ _ _ _ us hl => match us, hl with | [_], _ => rfl
  have F_Book_deeds_done := fun_mk (st := s_Book_deeds_done) l_Book_deeds_done c_Book_deeds_done k_Book_deeds_done
  have b_Book_deeds_done := F_Book_deeds_done.binds (ps := P_Book_deeds_done) fun _ _ _ _ _ _ us hl => match us, hl with | [_], _ => rfl
  have F_Book_count_of := fun_mk (st := s_Book_count_of) l_Book_count_of c_Book_count_of k_Book_count_of
  have b_Book_count_of := F_Book_count_of.binds (ps := P_Book_count_of) fun _ _ _ _ _ _ us hl => match us, hl with | [_, _], _ => rfl
  have F_Book_last_of := fun_mk (st := s_Book_last_of) l_Book_last_of c_Book_last_of k_Book_last_of
  have b_Book_last_of := F_Book_last_of.binds (ps := P_Book_last_of) fun _ _ _ _ _ _ us hl => match us, hl with | [_, _], _ => rfl
  have F_Shelf_init := fun_mk (st := s_Shelf_init) l_Shelf_init c_Shelf_init k_Shelf_init
  have b_Shelf_init := F_Shelf_init.binds (ps := P_Shelf_init) fun _ _ _ _ _ _ us hl => match us, hl with | [_, _, _, _], _ => rfl
  have F_Shelf_came := fun_mk (st := s_Shelf_came) l_Shelf_came c_Shelf_came k_Shelf_came
  have b_Shelf_came := F_Shelf_came.binds (ps := P_Shelf_came) fun _ _ _ _ _ _ us hl => match us, hl with | [_, _], _ => rfl
  have F_Shelf_gone := fun_mk (st := s_Shelf_gone) l_Shelf_gone c_Shelf_gone k_Shelf_gone
  have b_Shelf_gone := F_Shelf_gone.binds (ps := P_Shelf_gone) fun _ _ _ _ _ _ us hl => match us, hl with | [_, _, _], _ => rfl
  have F_Shelf_inside := fun_mk (st := s_Shelf_inside) l_Shelf_inside c_Shelf_inside k_Shelf_inside
  have b_Shelf_inside := F_Shelf_inside.binds (ps := P_Shelf_inside) fun _ _ _ _ _ _ us hl => match us, hl with | [_], _ => rfl
  have F_Shelf_has := fun_mk (st := s_Shelf_has) l_Shelf_has c_Shelf_has k_Shelf_has
  have b_Shelf_has := F_Shelf_has.binds (ps := P_Shelf_has) fun _ _ _ _ _ _ us hl => match us, hl with | [_, _], _ => rfl
  have F_Shelf_goings := fun_mk (st := s_Shelf_goings) l_Shelf_goings c_Shelf_goings k_Shelf_goings
  have b_Shelf_goings := F_Shelf_goings.binds (ps := P_Shelf_goings) fun _ _ _ _ _ _ us hl => match us, hl with | [_], _ => rfl
  have F_l_cell_at := fun_mk (st := s_l_cell_at) l_l_cell_at c_l_cell_at k_l_cell_at
  have b_l_cell_at := F_l_cell_at.binds (ps := P_l_cell_at) fun _ _ _ _ _ _ us hl => match us, hl with | [_, _], _ => rfl
  have F_l_whole := fun_mk (st := s_l_whole) l_l_whole c_l_whole k_l_whole
  have b_l_whole := F_l_whole.binds (ps := P_l_whole) fun _ _ _ _ _ _ us hl => match us, hl with | [_], _ => rfl
  have F_l_sign := fun_mk (st := s_l_sign) l_l_sign c_l_sign k_l_sign
  have b_l_sign := F_l_sign.binds (ps := P_l_sign) fun _ _ _ _ _ _ us hl => match us, hl with | [_], _ => rfl
  have F_l_names := fun_mk (st := s_l_names) l_l_names c_l_names k_l_names
  have b_l_names := F_l_names.binds (ps := P_l_names) fun _ _ _ _ _ _ us hl => match us, hl with | [_, _], _ => rfl
  have F_l_many := fun_mk (st := s_l_many) l_l_many c_l_many k_l_many
  have b_l_many := F_l_many.binds (ps := P_l_many) fun _ _ _ _ _ _ us hl => match us, hl with | [_], _ => rfl
  have F_l_span := fun_mk (st := s_l_span) l_l_span c_l_span k_l_span
  have b_l_span := F_l_span.binds (ps := P_l_span) fun _ _ _ _ _ _ us hl => match us, hl with | [_], _ => rfl
  have F_l_part := fun_mk (st := s_l_part) l_l_part c_l_part k_l_part
  have b_l_part := F_l_part.binds (ps := P_l_part) fun _ _ _ _ _ _ us hl => match us, hl with | [_], _ => rfl
  have F_l_places := fun_mk (st := s_l_places) l_l_places c_l_places k_l_places
  have b_l_places := F_l_places.binds (ps := P_l_places) fun _ _ _ _ _ _ us hl => match us, hl with | [_], _ => rfl
  have F_l_deed := fun_mk (st := s_l_deed) l_l_deed c_l_deed k_l_deed
  have b_l_deed := F_l_deed.binds (ps := P_l_deed) fun _ _ _ _ _ _ us hl => match us, hl with | [_, _, _, _, _], _ => rfl
  have F_l_steps := fun_mk (st := s_l_steps) l_l_steps c_l_steps k_l_steps
  have b_l_steps := F_l_steps.binds (ps := P_l_steps) fun _ _ _ _ _ _ us hl => match us, hl with | [_], _ => rfl
  have F_l_do := fun_mk (st := s_l_do) l_l_do c_l_do k_l_do
  have b_l_do := F_l_do.binds (ps := P_l_do) fun _ _ _ _ _ _ us hl => match us, hl with | [_, _], _ => rfl
  have F_l_aged := fun_mk (st := s_l_aged) l_l_aged c_l_aged k_l_aged
  have b_l_aged := F_l_aged.binds (ps := P_l_aged) fun _ _ _ _ _ _ us hl => match us, hl with | [_, _, _], _ => rfl
  have F_l_rested := fun_mk (st := s_l_rested) l_l_rested c_l_rested k_l_rested
  have b_l_rested := F_l_rested.binds (ps := P_l_rested) fun _ _ _ _ _ _ us hl => match us, hl with | [_, _, _], _ => rfl
  have F_l_kinds := fun_mk (st := s_l_kinds) l_l_kinds c_l_kinds k_l_kinds
  have b_l_kinds := F_l_kinds.binds (ps := P_l_kinds) fun _ _ _ _ _ _ us hl => match us, hl with | [_], _ => rfl
  have F_l_is_going := fun_mk (st := s_l_is_going) l_l_is_going c_l_is_going k_l_is_going
  have b_l_is_going := F_l_is_going.binds (ps := P_l_is_going) fun _ _ _ _ _ _ us hl => match us, hl with | [_, _, _, _, _, _], _ => rfl
  have F_l_left_by_faded := fun_mk (st := s_l_left_by_faded) l_l_left_by_faded c_l_left_by_faded k_l_left_by_faded
  have b_l_left_by_faded := F_l_left_by_faded.binds (ps := P_l_left_by_faded) fun _ _ _ _ _ _ us hl => match us, hl with | [_, _, _, _, _], _ => rfl
  have F_l_left_by_rest := fun_mk (st := s_l_left_by_rest) l_l_left_by_rest c_l_left_by_rest k_l_left_by_rest
  have b_l_left_by_rest := F_l_left_by_rest.binds (ps := P_l_left_by_rest) fun _ _ _ _ _ _ us hl => match us, hl with | [_, _, _, _, _, _, _], _ => rfl
  have F_l_listed := fun_mk (st := s_l_listed) l_l_listed c_l_listed k_l_listed
  have b_l_listed := F_l_listed.binds (ps := P_l_listed) fun _ _ _ _ _ _ us hl => match us, hl with | [_, _, _, _], _ => rfl
  have F_l_walked := fun_mk (st := s_l_walked) l_l_walked c_l_walked k_l_walked
  have b_l_walked := F_l_walked.binds (ps := P_l_walked) fun _ _ _ _ _ _ us hl => match us, hl with | [_, _, _, _, _, _, _, _], _ => rfl
  have F_l_known := fun_mk (st := s_l_known) l_l_known c_l_known k_l_known
  have b_l_known := F_l_known.binds (ps := P_l_known) fun _ _ _ _ _ _ us hl => match us, hl with | [_, _, _, _, _], _ => rfl
  have F_l_seen := fun_mk (st := s_l_seen) l_l_seen c_l_seen k_l_seen
  have b_l_seen := F_l_seen.binds (ps := P_l_seen) fun _ _ _ _ _ _ us hl => match us, hl with | [_, _, _, _, _, _, _], _ => rfl
  have F_law := fun_mk (st := s_law) l_law c_law k_law
  have b_law := F_law.binds (ps := P_law) fun _ _ _ _ _ _ us hl => match us, hl with | [_], _ => rfl
  let T : Tx K mg := { f_within := f_within, fd_within := _, F_within := F_within, b_within := b_within, mg_within := PySem.W.mg_of X G a_within, f_want_number := f_want_number, fd_want_number := _, F_want_number := F_want_number, b_want_number := b_want_number, mg_want_number := PySem.W.mg_of X G a_want_number, f_want_name := f_want_name, fd_want_name := _, F_want_name := F_want_name, b_want_name := b_want_name, mg_want_name := PySem.W.mg_of X G a_want_name, f_want_rule := f_want_rule, fd_want_rule := _, F_want_rule := F_want_rule, b_want_rule := b_want_rule, mg_want_rule := PySem.W.mg_of X G a_want_rule, f_ageings := f_ageings, fd_ageings := _, F_ageings := F_ageings, b_ageings := b_ageings, mg_ageings := PySem.W.mg_of X G a_ageings, f_aged := f_aged, fd_aged := _, F_aged := F_aged, b_aged := b_aged, mg_aged := PySem.W.mg_of X G a_aged, f_Book_init := f_Book_init, fd_Book_init := _, F_Book_init := F_Book_init, b_Book_init := b_Book_init, f_Book_ask := f_Book_ask, fd_Book_ask := _, F_Book_ask := F_Book_ask, b_Book_ask := b_Book_ask, bd_Book_ask := bd_Book_ask, f_Book_rest := f_Book_rest, fd_Book_rest := _, F_Book_rest := F_Book_rest, b_Book_rest := b_Book_rest, f_Book_drop := f_Book_drop, fd_Book_drop := _, F_Book_drop := F_Book_drop, b_Book_drop := b_Book_drop, f_Book_spend := f_Book_spend, fd_Book_spend := _, F_Book_spend := F_Book_spend, b_Book_spend := b_Book_spend, f_Book_asked_at := f_Book_asked_at, fd_Book_asked_at := _, F_Book_asked_at := F_Book_asked_at, b_Book_asked_at := b_Book_asked_at, f_Book_came := f_Book_came, fd_Book_came := _, F_Book_came := F_Book_came, b_Book_came := b_Book_came, f_Book_gone := f_Book_gone, fd_Book_gone := _, F_Book_gone := F_Book_gone, b_Book_gone := b_Book_gone, f_Book_inside := f_Book_inside, fd_Book_inside := _, F_Book_inside := F_Book_inside, b_Book_inside := b_Book_inside, f_Book_rank := f_Book_rank, fd_Book_rank := _, F_Book_rank := F_Book_rank, b_Book_rank := b_Book_rank, f_Book_names := f_Book_names, fd_Book_names := _, F_Book_names := F_Book_names, b_Book_names := b_Book_names, f_Book_time_now := f_Book_time_now, fd_Book_time_now := _, F_Book_time_now := F_Book_time_now, b_Book_time_now := b_Book_time_now, f_Book_deeds_done := f_Book_deeds_done, fd_Book_deeds_done := _, F_Book_deeds_done := F_Book_deeds_done, b_Book_deeds_done := b_Book_deeds_done, f_Book_count_of := f_Book_count_of, fd_Book_count_of := _, F_Book_count_of := F_Book_count_of, b_Book_count_of := b_Book_count_of, f_Book_last_of := f_Book_last_of, fd_Book_last_of := _, F_Book_last_of := F_Book_last_of, b_Book_last_of := b_Book_last_of, f_Shelf_init := f_Shelf_init, fd_Shelf_init := _, F_Shelf_init := F_Shelf_init, b_Shelf_init := b_Shelf_init, f_Shelf_came := f_Shelf_came, fd_Shelf_came := _, F_Shelf_came := F_Shelf_came, b_Shelf_came := b_Shelf_came, f_Shelf_gone := f_Shelf_gone, fd_Shelf_gone := _, F_Shelf_gone := F_Shelf_gone, b_Shelf_gone := b_Shelf_gone, f_Shelf_inside := f_Shelf_inside, fd_Shelf_inside := _, F_Shelf_inside := F_Shelf_inside, b_Shelf_inside := b_Shelf_inside, f_Shelf_has := f_Shelf_has, fd_Shelf_has := _, F_Shelf_has := F_Shelf_has, b_Shelf_has := b_Shelf_has, f_Shelf_goings := f_Shelf_goings, fd_Shelf_goings := _, F_Shelf_goings := F_Shelf_goings, b_Shelf_goings := b_Shelf_goings, f_l_cell_at := f_l_cell_at, fd_l_cell_at := _, F_l_cell_at := F_l_cell_at, b_l_cell_at := b_l_cell_at, mg_l_cell_at := PySem.W.mg_of X G a_l_cell_at, f_l_whole := f_l_whole, fd_l_whole := _, F_l_whole := F_l_whole, b_l_whole := b_l_whole, mg_l_whole := PySem.W.mg_of X G a_l_whole, f_l_sign := f_l_sign, fd_l_sign := _, F_l_sign := F_l_sign, b_l_sign := b_l_sign, mg_l_sign := PySem.W.mg_of X G a_l_sign, f_l_names := f_l_names, fd_l_names := _, F_l_names := F_l_names, b_l_names := b_l_names, mg_l_names := PySem.W.mg_of X G a_l_names, f_l_many := f_l_many, fd_l_many := _, F_l_many := F_l_many, b_l_many := b_l_many, mg_l_many := PySem.W.mg_of X G a_l_many, f_l_span := f_l_span, fd_l_span := _, F_l_span := F_l_span, b_l_span := b_l_span, mg_l_span := PySem.W.mg_of X G a_l_span, f_l_part := f_l_part, fd_l_part := _, F_l_part := F_l_part, b_l_part := b_l_part, mg_l_part := PySem.W.mg_of X G a_l_part, f_l_places := f_l_places, fd_l_places := _, F_l_places := F_l_places, b_l_places := b_l_places, mg_l_places := PySem.W.mg_of X G a_l_places, f_l_deed := f_l_deed, fd_l_deed := _, F_l_deed := F_l_deed, b_l_deed := b_l_deed, mg_l_deed := PySem.W.mg_of X G a_l_deed, f_l_steps := f_l_steps, fd_l_steps := _, F_l_steps := F_l_steps, b_l_steps := b_l_steps, mg_l_steps := PySem.W.mg_of X G a_l_steps, f_l_do := f_l_do, fd_l_do := _, F_l_do := F_l_do, b_l_do := b_l_do, mg_l_do := PySem.W.mg_of X G a_l_do, f_l_aged := f_l_aged, fd_l_aged := _, F_l_aged := F_l_aged, b_l_aged := b_l_aged, mg_l_aged := PySem.W.mg_of X G a_l_aged, f_l_rested := f_l_rested, fd_l_rested := _, F_l_rested := F_l_rested, b_l_rested := b_l_rested, mg_l_rested := PySem.W.mg_of X G a_l_rested, f_l_kinds := f_l_kinds, fd_l_kinds := _, F_l_kinds := F_l_kinds, b_l_kinds := b_l_kinds, mg_l_kinds := PySem.W.mg_of X G a_l_kinds, f_l_is_going := f_l_is_going, fd_l_is_going := _, F_l_is_going := F_l_is_going, b_l_is_going := b_l_is_going, mg_l_is_going := PySem.W.mg_of X G a_l_is_going, f_l_left_by_faded := f_l_left_by_faded, fd_l_left_by_faded := _, F_l_left_by_faded := F_l_left_by_faded, b_l_left_by_faded := b_l_left_by_faded, mg_l_left_by_faded := PySem.W.mg_of X G a_l_left_by_faded, f_l_left_by_rest := f_l_left_by_rest, fd_l_left_by_rest := _, F_l_left_by_rest := F_l_left_by_rest, b_l_left_by_rest := b_l_left_by_rest, mg_l_left_by_rest := PySem.W.mg_of X G a_l_left_by_rest, f_l_listed := f_l_listed, fd_l_listed := _, F_l_listed := F_l_listed, b_l_listed := b_l_listed, mg_l_listed := PySem.W.mg_of X G a_l_listed, f_l_walked := f_l_walked, fd_l_walked := _, F_l_walked := F_l_walked, b_l_walked := b_l_walked, mg_l_walked := PySem.W.mg_of X G a_l_walked, f_l_known := f_l_known, fd_l_known := _, F_l_known := F_l_known, b_l_known := b_l_known, mg_l_known := PySem.W.mg_of X G a_l_known, f_l_seen := f_l_seen, fd_l_seen := _, F_l_seen := F_l_seen, b_l_seen := b_l_seen, mg_l_seen := PySem.W.mg_of X G a_l_seen, f_law := fa, fd_law := _, F_law := F_law, b_law := b_law, mg_law := PySem.W.mg_of X G a_law, n_any := PySem.W.mg_none_of X G z_any, n_bool := PySem.W.mg_none_of X G z_bool, n_dict := PySem.W.mg_none_of X G z_dict, n_enumerate := PySem.W.mg_none_of X G z_enumerate, n_int := PySem.W.mg_none_of X G z_int, n_isinstance := PySem.W.mg_none_of X G z_isinstance, n_len := PySem.W.mg_none_of X G z_len, n_list := PySem.W.mg_none_of X G z_list, n_min := PySem.W.mg_none_of X G z_min, n_range := PySem.W.mg_none_of X G z_range, n_sorted := PySem.W.mg_none_of X G z_sorted, n_str := PySem.W.mg_none_of X G z_str, n_tuple := PySem.W.mg_none_of X G z_tuple, c_MOST_SIGNS := ⟨t_MOST_SIGNS, PySem.W.mg_of X G g_MOST_SIGNS⟩, c_MOST_PLACES := ⟨t_MOST_PLACES, PySem.W.mg_of X G g_MOST_PLACES⟩, c_MOST_SPAN := ⟨t_MOST_SPAN, PySem.W.mg_of X G g_MOST_SPAN⟩, c_MOST_NUMBER := ⟨t_MOST_NUMBER, PySem.W.mg_of X G g_MOST_NUMBER⟩, C_Book := C_Book, mgC_Book := PySem.W.mg_of X G aC_Book, cls_Book := ⟨pg_Book, hd_Book, po_Book, sa_Book⟩, M_Book := ⟨mk_Book, a_Book_init, i_Book_init, kc_Book⟩, na_Book_span := na_Book_span, na_Book_part := na_Book_part, na_Book_time := na_Book_time, na_Book_deed := na_Book_deed, na_Book_counts := na_Book_counts, na_Book_lasts := na_Book_lasts, m_Book_ask := ⟨a_Book_ask, i_Book_ask, k_Book_ask⟩, m_Book_rest := ⟨a_Book_rest, i_Book_rest, k_Book_rest⟩, m_Book_drop := ⟨a_Book_drop, i_Book_drop, k_Book_drop⟩, m_Book_spend := ⟨a_Book_spend, i_Book_spend, k_Book_spend⟩, m_Book_asked_at := ⟨a_Book_asked_at, i_Book_asked_at, k_Book_asked_at⟩, bm_Book_asked_at := ⟨⟨a_Book_asked_at, i_Book_asked_at, k_Book_asked_at⟩, gg_asked_at, gt_asked_at, by decide +kernel, gf_asked_at⟩, m_Book_came := ⟨a_Book_came, i_Book_came, k_Book_came⟩, m_Book_gone := ⟨a_Book_gone, i_Book_gone, k_Book_gone⟩, m_Book_inside := ⟨a_Book_inside, i_Book_inside, k_Book_inside⟩, m_Book_rank := ⟨a_Book_rank, i_Book_rank, k_Book_rank⟩, bm_Book_rank := ⟨⟨a_Book_rank, i_Book_rank, k_Book_rank⟩, gg_rank, gt_rank, by decide +kernel, gf_rank⟩, m_Book_names := ⟨a_Book_names, i_Book_names, k_Book_names⟩, m_Book_time_now := ⟨a_Book_time_now, i_Book_time_now, k_Book_time_now⟩, m_Book_deeds_done := ⟨a_Book_deeds_done, i_Book_deeds_done, k_Book_deeds_done⟩, m_Book_count_of := ⟨a_Book_count_of, i_Book_count_of, k_Book_count_of⟩, m_Book_last_of := ⟨a_Book_last_of, i_Book_last_of, k_Book_last_of⟩, C_Shelf := C_Shelf, mgC_Shelf := PySem.W.mg_of X G aC_Shelf, cls_Shelf := ⟨pg_Shelf, hd_Shelf, po_Shelf, sa_Shelf⟩, M_Shelf := ⟨mk_Shelf, a_Shelf_init, i_Shelf_init, kc_Shelf⟩, na_Shelf_span := na_Shelf_span, na_Shelf_part := na_Shelf_part, na_Shelf_time := na_Shelf_time, na_Shelf_deed := na_Shelf_deed, na_Shelf_counts := na_Shelf_counts, na_Shelf_lasts := na_Shelf_lasts, na_Shelf_places := na_Shelf_places, na_Shelf_standing := na_Shelf_standing, na_Shelf_went := na_Shelf_went, m_Shelf_ask := ⟨fi_Shelf_ask, i_Book_ask, k_Book_ask⟩, m_Shelf_rest := ⟨fi_Shelf_rest, i_Book_rest, k_Book_rest⟩, m_Shelf_drop := ⟨fi_Shelf_drop, i_Book_drop, k_Book_drop⟩, m_Shelf_spend := ⟨fi_Shelf_spend, i_Book_spend, k_Book_spend⟩, m_Shelf_asked_at := ⟨fi_Shelf_asked_at, i_Book_asked_at, k_Book_asked_at⟩, bm_Shelf_asked_at := ⟨⟨fi_Shelf_asked_at, i_Book_asked_at, k_Book_asked_at⟩, gg_asked_at, gt_asked_at, by decide +kernel, gf_asked_at⟩, m_Shelf_came := ⟨a_Shelf_came, i_Shelf_came, k_Shelf_came⟩, m_Shelf_gone := ⟨a_Shelf_gone, i_Shelf_gone, k_Shelf_gone⟩, m_Shelf_inside := ⟨a_Shelf_inside, i_Shelf_inside, k_Shelf_inside⟩, m_Shelf_rank := ⟨fi_Shelf_rank, i_Book_rank, k_Book_rank⟩, bm_Shelf_rank := ⟨⟨fi_Shelf_rank, i_Book_rank, k_Book_rank⟩, gg_rank, gt_rank, by decide +kernel, gf_rank⟩, m_Shelf_names := ⟨fi_Shelf_names, i_Book_names, k_Book_names⟩, m_Shelf_time_now := ⟨fi_Shelf_time_now, i_Book_time_now, k_Book_time_now⟩, m_Shelf_deeds_done := ⟨fi_Shelf_deeds_done, i_Book_deeds_done, k_Book_deeds_done⟩, m_Shelf_count_of := ⟨fi_Shelf_count_of, i_Book_count_of, k_Book_count_of⟩, m_Shelf_last_of := ⟨fi_Shelf_last_of, i_Book_last_of, k_Book_last_of⟩, m_Shelf_has := ⟨a_Shelf_has, i_Shelf_has, k_Shelf_has⟩, m_Shelf_goings := ⟨a_Shelf_goings, i_Shelf_goings, k_Shelf_goings⟩, cdf := ⟨cd_rd, cd_ga, cd_at, k_Book_init⟩ }
  exact ⟨_, fun s v => .of_eq rfl, fun base _ _ => ok_law T⟩
theorem walk {l : PySem.W.OpenLaw} {q : Program} {loose : List Str} {XP : (Str → Option Value) → Heap → Prop} {YP : World → Heap → Prop} {d : DefRec} {K : Params → PySem.W.Frag} (hn : l.most = some 63) (hdf : d.params.defaults = [])
    (hY : ∀ (w : World) (h : Heap), YP w h → (K w.params).In h)
    (F : ∀ (w : World) (mg : Str → Option Value) (fa : Addr) (h : Heap), (K w.params).In h → h.Ns mainGlobals mg → mg d.name = some (.ref fa) →
      ∃ fd : FuncData, (∀ (s : Shared) (u : Value), BindsTo s fd ⟨[u], []⟩ [("_law_script", u)]) ∧ ∀ base : Heap, (K w.params).In base → base.Ns mainGlobals mg → FnOk l.prog w (K w.params) mg base CX0 13 fa fd P_law (spLaw (K w.params))) :
    PySem.W.WalkO q loose XP YP l.row.toRowW d [] (fun f vs => PySem.call f vs) :=
  L2.walk_of (n := 63) (k := 13) (x := "_law_script") (CX := fun _ => CX0) (sp := fun w => spLaw (K w.params)) hn (by decide) hdf ⟨rfl, by decide, by decide⟩ hY F (fun _ _ a ns hl _ hS => ⟨a, ns, rfl, hS, hl, fun _ => rfl⟩) fun _ _ _ _ _ z => z
end Own
open PySem PySem.W PyProof.Rows
set_option maxRecDepth 100000 in
set_option maxHeartbeats 0 in
theorem PySem.Challenge.cw_leastasked_k06_whole_goings_walked_holds : PySem.Challenge.rw_leastasked_k06_whole_goings_walked.Holds := by
  w_on; o_law; k_head; (case hw => w_witness2)
  k_fill
  refine Own.walk (l := PySem.Challenge.rw_leastasked_k06_whole_goings_walked) rfl rfl (fun w h Y => PySem.W.kIn_of Y) ?F
  case F =>
    intro w mg fa h KX G hmg
    refine' Own.all_mk KX G hmg ?aC_Shelf ?aC_Book ?a_within ?l_within ?c_within ?k_within ?a_want_number ?l_want_number ?c_want_number ?k_want_number ?a_want_name ?l_want_name ?c_want_name ?k_want_name ?a_want_rule ?l_want_rule ?c_want_rule ?k_want_rule ?a_ageings ?l_ageings ?c_ageings ?k_ageings ?a_aged ?l_aged ?c_aged ?k_aged ?a_Book_init ?l_Book_init ?c_Book_init ?k_Book_init ?i_Book_init ?a_Book_ask ?l_Book_ask ?c_Book_ask ?k_Book_ask ?i_Book_ask ?d_Book_ask ?a_Book_rest ?l_Book_rest ?c_Book_rest ?k_Book_rest ?i_Book_rest ?a_Book_drop ?l_Book_drop ?c_Book_drop ?k_Book_drop ?i_Book_drop ?a_Book_spend ?l_Book_spend ?c_Book_spend ?k_Book_spend ?i_Book_spend ?a_Book_asked_at ?l_Book_asked_at ?c_Book_asked_at ?k_Book_asked_at ?i_Book_asked_at ?a_Book_came ?l_Book_came ?c_Book_came ?k_Book_came ?i_Book_came ?a_Book_gone ?l_Book_gone ?c_Book_gone ?k_Book_gone ?i_Book_gone ?a_Book_inside ?l_Book_inside ?c_Book_inside ?k_Book_inside ?i_Book_inside ?a_Book_rank ?l_Book_rank ?c_Book_rank ?k_Book_rank ?i_Book_rank ?a_Book_names ?l_Book_names ?c_Book_names ?k_Book_names ?i_Book_names ?a_Book_time_now ?l_Book_time_now ?c_Book_time_now ?k_Book_time_now ?i_Book_time_now ?a_Book_deeds_done ?l_Book_deeds_done ?c_Book_deeds_done ?k_Book_deeds_done ?i_Book_deeds_done ?a_Book_count_of ?l_Book_count_of ?c_Book_count_of ?k_Book_count_of ?i_Book_count_of ?a_Book_last_of ?l_Book_last_of ?c_Book_last_of ?k_Book_last_of ?i_Book_last_of ?a_Shelf_init ?l_Shelf_init ?c_Shelf_init ?k_Shelf_init ?i_Shelf_init ?a_Shelf_came ?l_Shelf_came ?c_Shelf_came ?k_Shelf_came ?i_Shelf_came ?a_Shelf_gone ?l_Shelf_gone ?c_Shelf_gone ?k_Shelf_gone ?i_Shelf_gone ?a_Shelf_inside ?l_Shelf_inside ?c_Shelf_inside ?k_Shelf_inside ?i_Shelf_inside ?a_Shelf_has ?l_Shelf_has ?c_Shelf_has ?k_Shelf_has ?i_Shelf_has ?a_Shelf_goings ?l_Shelf_goings ?c_Shelf_goings ?k_Shelf_goings ?i_Shelf_goings ?a_l_cell_at ?l_l_cell_at ?c_l_cell_at ?k_l_cell_at ?a_l_whole ?l_l_whole ?c_l_whole ?k_l_whole ?a_l_sign ?l_l_sign ?c_l_sign ?k_l_sign ?a_l_names ?l_l_names ?c_l_names ?k_l_names ?a_l_many ?l_l_many ?c_l_many ?k_l_many ?a_l_span ?l_l_span ?c_l_span ?k_l_span ?a_l_part ?l_l_part ?c_l_part ?k_l_part ?a_l_places ?l_l_places ?c_l_places ?k_l_places ?a_l_deed ?l_l_deed ?c_l_deed ?k_l_deed ?a_l_steps ?l_l_steps ?c_l_steps ?k_l_steps ?a_l_do ?l_l_do ?c_l_do ?k_l_do ?a_l_aged ?l_l_aged ?c_l_aged ?k_l_aged ?a_l_rested ?l_l_rested ?c_l_rested ?k_l_rested ?a_l_kinds ?l_l_kinds ?c_l_kinds ?k_l_kinds ?a_l_is_going ?l_l_is_going ?c_l_is_going ?k_l_is_going ?a_l_left_by_faded ?l_l_left_by_faded ?c_l_left_by_faded ?k_l_left_by_faded ?a_l_left_by_rest ?l_l_left_by_rest ?c_l_left_by_rest ?k_l_left_by_rest ?a_l_listed ?l_l_listed ?c_l_listed ?k_l_listed ?a_l_walked ?l_l_walked ?c_l_walked ?k_l_walked ?a_l_known ?l_l_known ?c_l_known ?k_l_known ?a_l_seen ?l_l_seen ?c_l_seen ?k_l_seen ?a_law ?l_law ?c_law ?k_law ?z_any ?z_bool ?z_dict ?z_enumerate ?z_int ?z_isinstance ?z_len ?z_list ?z_min ?z_range ?z_sorted ?z_str ?z_tuple ?g_MOST_SIGNS ?g_MOST_PLACES ?g_MOST_SPAN ?g_MOST_NUMBER ?pg_Book ?hd_Book ?po_Book ?sa_Book ?mk_Book ?kc_Book ?na_Book_span ?na_Book_part ?na_Book_time ?na_Book_deed ?na_Book_counts ?na_Book_lasts ?pg_Shelf ?hd_Shelf ?po_Shelf ?sa_Shelf ?mk_Shelf ?kc_Shelf ?na_Shelf_span ?na_Shelf_part ?na_Shelf_time ?na_Shelf_deed ?na_Shelf_counts ?na_Shelf_lasts ?na_Shelf_places ?na_Shelf_standing ?na_Shelf_went ?fi_Shelf_ask ?fi_Shelf_rest ?fi_Shelf_drop ?fi_Shelf_spend ?fi_Shelf_asked_at ?fi_Shelf_rank ?fi_Shelf_names ?fi_Shelf_time_now ?fi_Shelf_deeds_done ?fi_Shelf_count_of ?fi_Shelf_last_of ?gg_rank ?gt_rank ?gf_rank ?gg_asked_at ?gt_asked_at ?gf_asked_at ?cd_rd ?cd_ga ?cd_at
    (case aC_Shelf => k_is)
    (case aC_Book => k_is)
    (case a_within => k_is)
    (case l_within => k_is)
    (case c_within => k_is)
    (case k_within => k_is)
    (case a_want_number => k_is)
    (case l_want_number => k_is)
    (case c_want_number => k_is)
    (case k_want_number => k_is)
    (case a_want_name => k_is)
    (case l_want_name => k_is)
    (case c_want_name => k_is)
    (case k_want_name => k_is)
    (case a_want_rule => k_is)
    (case l_want_rule => k_is)
    (case c_want_rule => k_is)
    (case k_want_rule => k_is)
    (case a_ageings => k_is)
    (case l_ageings => k_is)
    (case c_ageings => k_is)
    (case k_ageings => k_is)
    (case a_aged => k_is)
    (case l_aged => k_is)
    (case c_aged => k_is)
    (case k_aged => k_is)
    (case a_Book_init => k_is)
    (case l_Book_init => k_is)
    (case c_Book_init => k_is)
    (case k_Book_init => k_is)
    (case i_Book_init => k_is)
    (case a_Book_ask => k_is)
    (case l_Book_ask => k_is)
    (case c_Book_ask => k_is)
    (case k_Book_ask => k_is)
    (case i_Book_ask => k_is)
    (case d_Book_ask => k_is)
    (case a_Book_rest => k_is)
    (case l_Book_rest => k_is)
    (case c_Book_rest => k_is)
    (case k_Book_rest => k_is)
    (case i_Book_rest => k_is)
    (case a_Book_drop => k_is)
    (case l_Book_drop => k_is)
    (case c_Book_drop => k_is)
    (case k_Book_drop => k_is)
    (case i_Book_drop => k_is)
    (case a_Book_spend => k_is)
    (case l_Book_spend => k_is)
    (case c_Book_spend => k_is)
    (case k_Book_spend => k_is)
    (case i_Book_spend => k_is)
    (case a_Book_asked_at => k_is)
    (case l_Book_asked_at => k_is)
    (case c_Book_asked_at => k_is)
    (case k_Book_asked_at => k_is)
    (case i_Book_asked_at => k_is)
    (case a_Book_came => k_is)
    (case l_Book_came => k_is)
    (case c_Book_came => k_is)
    (case k_Book_came => k_is)
    (case i_Book_came => k_is)
    (case a_Book_gone => k_is)
    (case l_Book_gone => k_is)
    (case c_Book_gone => k_is)
    (case k_Book_gone => k_is)
    (case i_Book_gone => k_is)
    (case a_Book_inside => k_is)
    (case l_Book_inside => k_is)
    (case c_Book_inside => k_is)
    (case k_Book_inside => k_is)
    (case i_Book_inside => k_is)
    (case a_Book_rank => k_is)
    (case l_Book_rank => k_is)
    (case c_Book_rank => k_is)
    (case k_Book_rank => k_is)
    (case i_Book_rank => k_is)
    (case a_Book_names => k_is)
    (case l_Book_names => k_is)
    (case c_Book_names => k_is)
    (case k_Book_names => k_is)
    (case i_Book_names => k_is)
    (case a_Book_time_now => k_is)
    (case l_Book_time_now => k_is)
    (case c_Book_time_now => k_is)
    (case k_Book_time_now => k_is)
    (case i_Book_time_now => k_is)
    (case a_Book_deeds_done => k_is)
    (case l_Book_deeds_done => k_is)
    (case c_Book_deeds_done => k_is)
    (case k_Book_deeds_done => k_is)
    (case i_Book_deeds_done => k_is)
    (case a_Book_count_of => k_is)
    (case l_Book_count_of => k_is)
    (case c_Book_count_of => k_is)
    (case k_Book_count_of => k_is)
    (case i_Book_count_of => k_is)
    (case a_Book_last_of => k_is)
    (case l_Book_last_of => k_is)
    (case c_Book_last_of => k_is)
    (case k_Book_last_of => k_is)
    (case i_Book_last_of => k_is)
    (case a_Shelf_init => k_is)
    (case l_Shelf_init => k_is)
    (case c_Shelf_init => k_is)
    (case k_Shelf_init => k_is)
    (case i_Shelf_init => k_is)
    (case a_Shelf_came => k_is)
    (case l_Shelf_came => k_is)
    (case c_Shelf_came => k_is)
    (case k_Shelf_came => k_is)
    (case i_Shelf_came => k_is)
    (case a_Shelf_gone => k_is)
    (case l_Shelf_gone => k_is)
    (case c_Shelf_gone => k_is)
    (case k_Shelf_gone => k_is)
    (case i_Shelf_gone => k_is)
    (case a_Shelf_inside => k_is)
    (case l_Shelf_inside => k_is)
    (case c_Shelf_inside => k_is)
    (case k_Shelf_inside => k_is)
    (case i_Shelf_inside => k_is)
    (case a_Shelf_has => k_is)
    (case l_Shelf_has => k_is)
    (case c_Shelf_has => k_is)
    (case k_Shelf_has => k_is)
    (case i_Shelf_has => k_is)
    (case a_Shelf_goings => k_is)
    (case l_Shelf_goings => k_is)
    (case c_Shelf_goings => k_is)
    (case k_Shelf_goings => k_is)
    (case i_Shelf_goings => k_is)
    (case a_l_cell_at => k_is)
    (case l_l_cell_at => k_is)
    (case c_l_cell_at => k_is)
    (case k_l_cell_at => k_is)
    (case a_l_whole => k_is)
    (case l_l_whole => k_is)
    (case c_l_whole => k_is)
    (case k_l_whole => k_is)
    (case a_l_sign => k_is)
    (case l_l_sign => k_is)
    (case c_l_sign => k_is)
    (case k_l_sign => k_is)
    (case a_l_names => k_is)
    (case l_l_names => k_is)
    (case c_l_names => k_is)
    (case k_l_names => k_is)
    (case a_l_many => k_is)
    (case l_l_many => k_is)
    (case c_l_many => k_is)
    (case k_l_many => k_is)
    (case a_l_span => k_is)
    (case l_l_span => k_is)
    (case c_l_span => k_is)
    (case k_l_span => k_is)
    (case a_l_part => k_is)
    (case l_l_part => k_is)
    (case c_l_part => k_is)
    (case k_l_part => k_is)
    (case a_l_places => k_is)
    (case l_l_places => k_is)
    (case c_l_places => k_is)
    (case k_l_places => k_is)
    (case a_l_deed => k_is)
    (case l_l_deed => k_is)
    (case c_l_deed => k_is)
    (case k_l_deed => k_is)
    (case a_l_steps => k_is)
    (case l_l_steps => k_is)
    (case c_l_steps => k_is)
    (case k_l_steps => k_is)
    (case a_l_do => k_is)
    (case l_l_do => k_is)
    (case c_l_do => k_is)
    (case k_l_do => k_is)
    (case a_l_aged => k_is)
    (case l_l_aged => k_is)
    (case c_l_aged => k_is)
    (case k_l_aged => k_is)
    (case a_l_rested => k_is)
    (case l_l_rested => k_is)
    (case c_l_rested => k_is)
    (case k_l_rested => k_is)
    (case a_l_kinds => k_is)
    (case l_l_kinds => k_is)
    (case c_l_kinds => k_is)
    (case k_l_kinds => k_is)
    (case a_l_is_going => k_is)
    (case l_l_is_going => k_is)
    (case c_l_is_going => k_is)
    (case k_l_is_going => k_is)
    (case a_l_left_by_faded => k_is)
    (case l_l_left_by_faded => k_is)
    (case c_l_left_by_faded => k_is)
    (case k_l_left_by_faded => k_is)
    (case a_l_left_by_rest => k_is)
    (case l_l_left_by_rest => k_is)
    (case c_l_left_by_rest => k_is)
    (case k_l_left_by_rest => k_is)
    (case a_l_listed => k_is)
    (case l_l_listed => k_is)
    (case c_l_listed => k_is)
    (case k_l_listed => k_is)
    (case a_l_walked => k_is)
    (case l_l_walked => k_is)
    (case c_l_walked => k_is)
    (case k_l_walked => k_is)
    (case a_l_known => k_is)
    (case l_l_known => k_is)
    (case c_l_known => k_is)
    (case k_l_known => k_is)
    (case a_l_seen => k_is)
    (case l_l_seen => k_is)
    (case c_l_seen => k_is)
    (case k_l_seen => k_is)
    (case a_law => k_is)
    (case l_law => k_is)
    (case c_law => k_is)
    (case k_law => k_is)
    (case z_any => k_is)
    (case z_bool => k_is)
    (case z_dict => k_is)
    (case z_enumerate => k_is)
    (case z_int => k_is)
    (case z_isinstance => k_is)
    (case z_len => k_is)
    (case z_list => k_is)
    (case z_min => k_is)
    (case z_range => k_is)
    (case z_sorted => k_is)
    (case z_str => k_is)
    (case z_tuple => k_is)
    (case g_MOST_SIGNS => k_is)
    (case g_MOST_PLACES => k_is)
    (case g_MOST_SPAN => k_is)
    (case g_MOST_NUMBER => k_is)
    (case pg_Book => k_is)
    (case hd_Book => k_is)
    (case po_Book => k_is)
    (case sa_Book => k_is)
    (case mk_Book => k_is)
    (case kc_Book => k_is)
    (case na_Book_span => k_is)
    (case na_Book_part => k_is)
    (case na_Book_time => k_is)
    (case na_Book_deed => k_is)
    (case na_Book_counts => k_is)
    (case na_Book_lasts => k_is)
    (case pg_Shelf => k_is)
    (case hd_Shelf => k_is)
    (case po_Shelf => k_is)
    (case sa_Shelf => k_is)
    (case mk_Shelf => k_is)
    (case kc_Shelf => k_is)
    (case na_Shelf_span => k_is)
    (case na_Shelf_part => k_is)
    (case na_Shelf_time => k_is)
    (case na_Shelf_deed => k_is)
    (case na_Shelf_counts => k_is)
    (case na_Shelf_lasts => k_is)
    (case na_Shelf_places => k_is)
    (case na_Shelf_standing => k_is)
    (case na_Shelf_went => k_is)
    (case fi_Shelf_ask => k_is)
    (case fi_Shelf_rest => k_is)
    (case fi_Shelf_drop => k_is)
    (case fi_Shelf_spend => k_is)
    (case fi_Shelf_asked_at => k_is)
    (case fi_Shelf_rank => k_is)
    (case fi_Shelf_names => k_is)
    (case fi_Shelf_time_now => k_is)
    (case fi_Shelf_deeds_done => k_is)
    (case fi_Shelf_count_of => k_is)
    (case fi_Shelf_last_of => k_is)
    (case gg_rank => k_is)
    (case gt_rank => k_is)
    (case gf_rank => k_is)
    (case gg_asked_at => k_is)
    (case gt_asked_at => k_is)
    (case gf_asked_at => k_is)
    (case cd_rd => k_is)
    (case cd_ga => k_is)
    (case cd_at => k_is)
