import PyProof.Rows.All
import Wide.All
import OpenK.AllK
import Wide.FinOn
import HandS.ForMost
import HandS.Wide
import HandS.IsInst
import HandS.Evl
import HandS.SortInts
import HandS.SortKw
import HandS.More
import HandS.Conv
import KE.KMinKey
import KE.SortData
import HandS.ClsMeth
import HandS.Walk
import HandS.Defaults
import HandS.Style
import HandS.Strs
import HandS.ForExc
import HandS.ExcIs
import HandS.TryMany
import PySem.Challenge.RW_leastasked_k04_refused
set_option Elab.async false
set_option maxRecDepth 100000
set_option maxHeartbeats 4000000
set_option linter.all false
/-! ### sorted(x, key=self.m), m a method of one's own -/
namespace OwnS
open PySem L2 PyProof.Rows SrtO
section
variable {X : Cx} {CX : CXT} {k : Nat} {g a q : Addr} {fd : FuncData} {ps : List Str} {sp : Sp} {pins : List (Addr × Obj)} {σ : L2.St} {H : Hp} {s : Shared}
/-- a method of one's own as a value: e.m -/
def tBound (K : PySem.W.Frag) (C g : Addr) (m : Str) (te : TE) : TE := fun σ H Q => te σ H fun x H1 => ∃ a dx fs, x = .ref a ∧ H1 a = some (.ins C dx fs) ∧ fs.lookup m = none ∧ ∀ p, H1 p = none → Q (.ref p) (upd H1 p (.met g a))
theorem pe_bound {e : Expr} {te : TE} {m : Str} {pos : Pos} {C : Addr} (he : PE X e te) (c : Cls X.K C) (b : BMeth X.K C m g) (hb : attributeBase e m X.env (eval e X.env) = eval e X.env := by rfl) : PE X (.Attribute e m pos) (tBound X.K C g m te) := by
  refine ⟨fun pins s σ H Q I h => ?_⟩
  refine attr_of hb (thn (he.run pins s σ H _ I h) fun u s1 ⟨x, H1, I1, rx, a, dx, fs, ex, ea, l, q⟩ => ?_)
  subst ex
  obtain rfl : u = Value.ref a := rx
  exact op_getbound I1 ea c b l rfl q
/-- the call of a bound method of one's own, wherever one stands -/
theorem run_metA {A : Around} {E : Value → Shared → Prop} {Q : VK} {x : V} {u : Value} (F : FnOk X.prog X.w X.K X.mg X.base CX0 k g fd ps sp) (hr : Room k A) (hf : A.frames = X.A.frames) (hb : Binds X.K fd ps [])
    (I : Inv X pins σ H s) (e : H q = some (.met g a)) (r : RelV x u) (h : sp [.ref a, x] H Q E0) :
    wpAny (model X.prog X.w) A (call (.ref q) [u]) (EP X pins σ Q) E s := by
  have r2 : Vals [.ref a, x] [.ref a, u] := .cons rfl (.cons r .nil)
  have e0 := I.env0
  have e1 : Env0 X.prog X.w X.K X.mg X.base A X.stack s H := { e0 with frames := hf.trans e0.frames }
  have hl : ([.ref a, u] ++ [] : List Value).length = ps.length := by
    rw [List.append_nil, ← r2.length]
    exact F.len _ _ _ _ h
  have hb' := hb s [.ref a, u] I.kIn hl
  refine wpAny_call (call_met I e (codeAny_mono (F.run A X.stack s H ⟨[.ref a, u], []⟩ [.ref a, u] [.ref a, x] Q E0 hr e1 hb' r2 h) fun r s' hq => ?_))
  cases r with
  | error e => exact False.elim hq
  | ok fl =>
    cases fl with
    | ret u => exact I.after hq
    | next => exact False.elim hq
    | brk => exact False.elim hq
    | cont => exact False.elim hq
/-- an untracked list of ours, changed, is tracked from here on -/
theorem adopt {h' : Heap} {D : Addr} {ys : List V} {its : List Value} {n t' : Nat} (I : Inv X pins σ H s) (hn : H D = none) (h1 : X.s_0.heap.objs.size ≤ D) (h2 : D ≠ X.env.locals) (h3 : ∀ x c, X.env.cells.lookup x = some c → c ≠ D) (h4 : ∀ p ∈ X.pn ++ pins, p.1 ≠ D)
    (sb : ∀ b o, b ≠ D → s.heap.get? b = some o → h'.get? b = some o) (ho : h'.get? D = some (seqObj "list" its.toArray n)) (r : Vals ys its) (hz : ys.length ≤ sizeLine) :
    Inv X pins σ (upd H D (.lst ys)) { s with heap := h', toks := t' } := by
  refine I.step (g' := s.gens) (d' := s.drawn) (ch := [D]) (fun b hb => ?_) (fun b o _ _ hc e _ => sb b o (fun z => hc (by simp [z])) e) (fun b o _ _ hc e _ => ⟨o.slots, sb b o (fun z => hc (by simp [z])) e⟩) (fun b o hc _ n => ?_) (fun b o hc e => ⟨o, sb b o (fun z => hc (by simp [z])) e⟩)
    (fun b xs e => ?_) (fun b o u e => ?_) (fun b ps e => ⟨#[], ?_⟩) (fun m hm => ?_) (fun b u e => ?_) I.bare
  · have e : b = D := by simpa using hb
    subst e
    exact ⟨.inr h1, h2, h3, h4⟩
  · rw [upd_ne (fun z => hc (by simp [z]))]; exact n
  · rw [upd_ne (ne_of_none e hn)]; exact e
  · rw [upd_ne (ne_of_none e hn)]; exact e
  · rw [upd_ne (ne_of_none e hn), e]; simp
  · obtain ⟨o, es, ep, ho, r⟩ := hm
    exact ⟨o, es, ep, sb _ o h2.symm ho, r⟩
  · by_cases hb : b = D
    · subst hb
      rw [upd_same] at e
      cases e
      exact ⟨hz, its, n, r, ho⟩
    · rw [upd_ne hb] at e
      refine (I.hok b u e).stay (fun c v hc q => sb c v ?_ q) (fun c q => by rw [upd_ne (ne_of_none q hn)]; exact q) fun c xs q => by rw [upd_ne (ne_of_none q hn)]; exact q
      rcases hc with z | z
      · rw [z]; exact hb
      · exact fun y => by rw [y, hn] at z; cases z
/-- a new list at the heap's end is not the frame's, no cell, no pin -/
theorem new_facts {D : Addr} (I : Inv X pins σ H s) (hD : s.heap.objs.size ≤ D) : X.s_0.heap.objs.size ≤ D ∧ D ≠ X.env.locals ∧ (∀ x c, X.env.cells.lookup x = some c → c ≠ D) ∧ (∀ p ∈ X.pn ++ pins, p.1 ≠ D) ∧ D ∉ X.fs := by
  refine ⟨Nat.le_trans I.sz hD, Nat.ne_of_gt (Nat.lt_of_lt_of_le I.lt hD), fun x c e z => ?_, fun p hp z => ?_, I.nofs hD⟩
  · obtain ⟨v, o, ho, _⟩ := I.cell x c e
    rw [z] at ho
    exact absurd (Nat.lt_of_lt_of_le (Heap.lt_size ho) hD) (Nat.lt_irrefl _)
  · obtain ⟨e, _⟩ := I.pin p hp
    rw [z] at e
    exact absurd (Nat.lt_of_lt_of_le (Heap.lt_size e) hD) (Nat.lt_irrefl _)
/-- what keys are: their order, how they are told from a heap, their kind for the sort -/
structure KeyKd (X : Cx) (κ : Type) where
  lt : κ → κ → Bool
  swo : Swo lt
  KV : κ → V → Hp → Prop
  up : ∀ {c : κ} {v : V} {H H' : Hp}, KV c v H → (∀ b xs, H b = some (.tup xs) → H' b = some (.tup xs)) → KV c v H'
  uni : ∀ {c d : κ} {v : V} {H : Hp}, KV c v H → KV d v H → c = d
  /-- the keys' values us, at a state: a function of values says which key each is, their kind is found, two of them compare -/
  srt : ∀ {A : Around} {pins : List (Addr × Obj)} {σ : L2.St} {H : Hp} {s : Shared} {ks : List V} {us : List Value}, Inv X pins σ H s → Vals ks us → (∀ v ∈ ks, ∃ c, KV c v H) → 2 ≤ us.length →
    ∃ kf : Value → κ, (∀ v u c, v ∈ ks → RelV v u → KV c v H → kf u = c) ∧ ∃ kd, (∀ (Q : SortKind → Shared → Prop) (E : Value → Shared → Prop), Q kd s → wpAny (model X.prog X.w) A (keyKind' us.toArray) Q E s) ∧
      Cmp X.prog X.w A s kd (fun p => p.1 ∈ us) (lt2 fun v u => lt (kf v) (kf u))
theorem swo_I : Swo fun i j : Int => decide (i < j) := by
  refine ⟨fun x y h => ?_, fun x y z h1 h2 => ?_⟩
  · have := of_decide_eq_true h
    exact decide_eq_false (by omega)
  · have := of_decide_eq_false h1
    have := of_decide_eq_false h2
    exact decide_eq_false (by omega)
theorem ints_all : ∀ {ks : List V} {us : List Value}, Vals ks us → (∀ v ∈ ks, ∃ c : Int, v = .int c) → IntsAre us (us.map iv)
  | _, _, .nil, _ => .nil
  | _, _, .cons r t, h => by
    obtain ⟨c, e⟩ := h _ List.mem_cons_self
    subst e
    obtain ⟨tk, e2⟩ := r
    subst e2
    exact .cons c tk (ints_all t fun v m => h v (List.mem_cons_of_mem _ m))
/-- keys that are ints -/
def kdInt (X : Cx) : KeyKd X Int where
  lt := fun i j => decide (i < j)
  swo := swo_I
  KV := fun c v _ => v = .int c
  up := fun h _ => h
  uni := fun h h' => by
    rw [h] at h'
    exact V.int.inj h'
  srt := fun {A pins σ H s ks us} I r h h2 => by
    have hI := ints_all r h
    refine ⟨iv, fun v u c _ ru e => ?_, oneType', fun Q E hq => ?_, ?_⟩
    · subst e
      obtain ⟨t, rfl⟩ := ru
      rfl
    · have e : us.toArray.toList = us := by simp
      have := ksk_kind (keys := us.toArray) (kz := us.map iv) (by rw [e]; exact hI) (by rw [List.size_toArray]; exact h2)
      rw [this]
      exact wpAny_pure hq
    · exact int_cmp hI
theorem swo_L : Swo lexB := by
  refine ⟨fun x y h => ?_, fun x y z h1 h2 => ?_⟩
  · have a := lexB_iff.mp h
    refine lexB_no.mpr ?_
    omega
  · have a := lexB_no.mp h1
    have b := lexB_no.mp h2
    refine lexB_no.mpr ?_
    omega
def pairAt (H : Hp) : Value → Int × Int
  | .ref t => match H t with
    | some (.tup [.int i, .int j]) => (i, j)
    | _ => (0, 0)
  | _ => (0, 0)
/-- keys that are pairs of ints -/
def kdPair (X : Cx) : KeyKd X (Int × Int) where
  lt := lexB
  swo := swo_L
  KV := fun c v H => ∃ t, v = .ref t ∧ H t = some (.tup [.int c.1, .int c.2])
  up := fun ⟨t, e, h⟩ k => ⟨t, e, k _ _ h⟩
  uni := fun {c d v H} ⟨t, e, h⟩ ⟨t', e', h'⟩ => by
    rw [e] at e'
    cases e'
    rw [h] at h'
    obtain ⟨c1, c2⟩ := c
    obtain ⟨d1, d2⟩ := d
    simp at h'
    exact Prod.ext h'.1 h'.2
  srt := fun {A pins σ H s ks us} I r h h2 => by
    have kfe : ∀ (t : Addr) (c : Int × Int), H t = some (.tup [.int c.1, .int c.2]) → pairAt H (.ref t) = c := fun t c e => by
      show (match H t with | some (.tup [.int i, .int j]) => (i, j) | _ => (0, 0)) = c
      rw [e]
    have hp : ∀ v ∈ us, Srt.IsPair s.heap v (pairAt H v).1 (pairAt H v).2 := fun u hu => by
      obtain ⟨j, hj, ej⟩ := List.mem_iff_getElem.mp hu
      have hjk : j < ks.length := by rw [r.length]; exact hj
      obtain ⟨u', e1, ru⟩ := r.get (i := j) (x := ks[j]) (List.getElem?_eq_getElem hjk)
      rw [List.getElem?_eq_getElem hj, ej] at e1
      cases e1
      obtain ⟨c, t, ev, ht⟩ := h _ (List.getElem_mem hjk)
      rw [ev] at ru
      obtain rfl : u = Value.ref t := ru
      rw [kfe t c ht]
      obtain ⟨_, its2, r2, o, ho, hc, n, hd⟩ := I.hok _ _ ht
      obtain ⟨u1, u2, rfl, ri, rj⟩ := vals2 r2
      obtain ⟨t1, rfl⟩ := ri
      obtain ⟨t2, rfl⟩ := rj
      exact ⟨t, o, t1, t2, n, rfl, ho, hc, hd⟩
    refine ⟨pairAt H, fun v u c _ ru ⟨t, e, ht⟩ => ?_, tuples' true, fun Q E hq => ?_, pair_cmp hp⟩
    · subst e
      obtain rfl : u = Value.ref t := ru
      exact kfe t c ht
    · obtain ⟨fs, h1, h2', h3⟩ := Srt.firsts_of fun v hm => ⟨_, _, hp v hm⟩
      refine PySem.W.kat_kind (T := .type "int") h1 (by omega) (fun f hm => ?_) (by rfl) ?_
      · obtain ⟨x, t, rfl⟩ := h3 f hm
        exact PySem.W.Looks.now
      · have e : (Value.type "int" != Value.type "tuple") = true := by first | decide +kernel | rfl | decide
        rw [e]
        exact hq
/-- the items behind the sort: out a rearrangement in the keys' order -/
theorem sort_out {κ : Type} (kd : KeyKd X κ) {kf : V → κ} {H : Hp} {xs ks : List V} {its us : List Value} {kv : Value → κ} {arr : List Keyed} (rx : Vals xs its) (rk : Vals ks us) (hl : ks.length = xs.length) (hk : ∀ (i : Nat) (x v : V), xs[i]? = some x → ks[i]? = some v → kd.KV (kf x) v H)
    (hkv : ∀ v u c, v ∈ ks → RelV v u → kd.KV c v H → kv u = c) (hs : Srtd (lt2 fun v u => kd.lt (kv v) (kv u)) arr) (hp : arr.Perm (us.zip its)) :
    ∃ ys : List V, ys.Perm xs ∧ ys.Pairwise (fun x y => kd.lt (kf y) (kf x) = false) ∧ Vals ys (arr.map (·.2)) := by
  have absx : ∀ (i : Nat) (x : V) (u : Value), xs[i]? = some x → its[i]? = some u → absV u = some x := fun i x u e1 e2 => by
    obtain ⟨u', e3, r⟩ := rx.get e1
    rw [e2] at e3
    cases e3
    exact r.abs
  have key : ∀ p ∈ us.zip its, ∃ (i : Nat) (x : V), xs[i]? = some x ∧ RelV x p.2 ∧ kv p.1 = kf x := fun p hm => by
    obtain ⟨i, hi, e⟩ := List.mem_iff_getElem.mp hm
    rw [List.getElem_zip] at e
    rw [List.length_zip] at hi
    have l1 := rx.length
    have l2 := rk.length
    have hx : i < xs.length := by omega
    have hkk : i < ks.length := by omega
    obtain ⟨u1, e1, r1⟩ := rx.get (List.getElem?_eq_getElem hx)
    obtain ⟨u2, e2, r2⟩ := rk.get (List.getElem?_eq_getElem hkk)
    rw [List.getElem?_eq_getElem (by omega)] at e1 e2
    cases e1
    cases e2
    subst e
    exact ⟨i, xs[i], List.getElem?_eq_getElem hx, r1, hkv _ _ _ (List.getElem_mem hkk) r2 (hk i _ _ (List.getElem?_eq_getElem hx) (List.getElem?_eq_getElem hkk))⟩
  refine ⟨arr.map fun p => (absV p.2).getD .non, ?_, ?_, ?_⟩
  · have e : (us.zip its).map (fun p => (absV p.2).getD .non) = xs := by
      apply List.ext_getElem?
      intro i
      rw [List.getElem?_map]
      have l1 := rx.length
      have l2 := rk.length
      by_cases hi : i < xs.length
      · have h1 : (us.zip its)[i]? = some (us[i]'(by omega), its[i]'(by omega)) := by
          rw [List.getElem?_eq_getElem (by rw [List.length_zip]; omega), List.getElem_zip]
        rw [h1, List.getElem?_eq_getElem hi]
        show some ((absV (its[i]'(by omega))).getD .non) = some xs[i]
        rw [absx i _ _ (List.getElem?_eq_getElem hi) (List.getElem?_eq_getElem (by omega))]
        rfl
      · rw [List.getElem?_eq_none (by rw [List.length_zip]; omega), List.getElem?_eq_none (by omega)]
        rfl
    have := hp.map fun p : Keyed => (absV p.2).getD V.non
    rw [e] at this
    exact this
  · rw [List.pairwise_map]
    refine List.Pairwise.imp_of_mem (fun {p q} mp mq h => ?_) hs
    obtain ⟨i, x, _, rx', e1⟩ := key p (hp.mem_iff.mp mp)
    obtain ⟨j, y, _, ry', e2⟩ := key q (hp.mem_iff.mp mq)
    have h' : kd.lt (kv q.1) (kv p.1) = false := h
    rw [e1, e2] at h'
    rw [rx'.abs, ry'.abs]
    exact h'
  · clear hs
    have : ∀ l : List Keyed, (∀ p ∈ l, ∃ x, RelV x p.2) → Vals (l.map fun p => (absV p.2).getD .non) (l.map (·.2)) := by
      intro l
      induction l with
      | nil => intro _; exact .nil
      | cons p l ih =>
        intro h
        obtain ⟨x, r⟩ := h p List.mem_cons_self
        refine .cons ?_ (ih fun p' m => h p' (List.mem_cons_of_mem _ m))
        show L2.RelV ((absV p.2).getD V.non) p.2
        rw [r.abs]
        exact r
    exact this arr fun p m => by
      obtain ⟨i, x, _, r, _⟩ := key p (hp.mem_iff.mp m)
      exact ⟨x, r⟩
/-- what is sorted: a list, the keys of a dict -/
def SrcV (K : PySem.W.Frag) (H : Hp) (l : Addr) (xs : List V) : Prop := SqL K H l xs ∨ ∃ kvs, H l = some (.dK kvs) ∧ xs = kvs.map fun kv => kV kv.1
theorem collect_src {A : Around} {E : Value → Shared → Prop} {l : Addr} {xs : List V} {Q : List Value → Shared → Prop} (hh : A.handled = none) (I : Inv X pins σ H s) (h : SrcV X.K H l xs)
    (q : ∀ (h' : Heap) (tk : Nat) (its : List Value), (∀ b o, s.heap.get? b = some o → h'.get? b = some o) → Vals xs its → xs.length ≤ sizeLine → Q its { s with heap := h', toks := tk }) : wpAny (model X.prog X.w) A (collect (.ref l)) Q E s := by
  rcases h with h | ⟨kvs, h, rfl⟩
  · obtain ⟨its, rv, hl, hz⟩ := I.list h
    refine collect_list hl.isList ?_ (by rw [← rv.length]; exact hz)
    refine q _ s.toks its (fun b o e => ?_) rv hz
    have hlt : b < s.heap.objs.size := Heap.lt_size e
    rw [Heap.get?_update_ne _ _ _ _ (Nat.ne_of_lt hlt)]
    exact Heap.get?_push_of_some _ e
  · obtain ⟨z, lo, vs, rk, hd⟩ := (show ObjOk X.prog X.w H s.heap l (.dK kvs) from I.hok l _ h)
    obtain ⟨ep, hat⟩ := hd.dictAt
    have hl : kvs.length = vs.length := Paired.length rk
    refine PySem.W.kdu_collect (PySem.W.kdl_dict (knd := mixKind X.prog X.w) (kvs := vs) (ep := ep) lo) hh hat (by rw [← hl]; exact z) fun h' tk acc hk hacc => ?_
    refine q h' tk acc.toList hk ?_ (by rw [List.length_map]; exact z)
    have el : acc.toList.length = acc.size := by simp
    refine vals_of_at (by rw [List.length_map, el, hacc.1, hl]) fun j x w h1 h2 => ?_
    obtain ⟨k, y, hky, hi⟩ := hacc.2 j w (by rw [← Array.getElem?_toList]; exact h2)
    have e1 : (kvs.map (·.1))[j]? = some k := by
      rw [KV.keys rk, List.getElem?_map, hky] <;> rfl
    have e2 : (kvs.map fun kv => kV kv.1)[j]? = some (kV k) := by
      have e3 : (kvs.map fun kv => kV kv.1) = (kvs.map (·.1)).map kV := by rw [List.map_map] <;> rfl
      rw [e3, List.getElem?_map, e1] <;> rfl
    rw [e2] at h1
    cases h1
    exact keyIs_rel hi
/-- the keys, one call after another: they stand in the list kS -/
theorem keys_run {κ : Type} (kd : KeyKd X κ) {A : Around} {E : Value → Shared → Prop} {kf : V → κ} {xs : List V} {its : List Value} {kS : Addr} {b : Bool} {items : Array Value} {D e1 : Nat} {P : PySem.Fin → Shared → Prop} {H0 : Hp} (F : FnOk X.prog X.w X.K X.mg X.base CX0 k g fd ps sp) (hr : Room k A) (hf : A.frames = X.A.frames) (hb : Binds X.K fd ps [])
    (hq : H0 q = some (.met g a)) (h0 : H0 kS = none) (hsp : ∀ x ∈ xs, ∀ H1, Evl.Ex H0 H1 → ∀ Q : VK, (∀ v H2, Evl.Ex H1 H2 → kd.KV (kf x) v H2 → Q v H2) → sp [.ref a, x] H1 Q E0) (rx : Vals xs its) (hz : xs.length ≤ sizeLine)
    (I : Inv X pins σ (upd H0 kS (.lst [])) s)
    (hq2 : ∀ (s' : Shared) (H' : Hp) (ks : List V) (us : List Value), Inv X pins σ H' s' → Evl.Ex H0 H' → H' kS = some (.lst ks) → Vals ks us → ks.length = xs.length → (∀ (i : Nat) (x v : V), xs[i]? = some x → ks[i]? = some v → kd.KV (kf x) v H') →
      wpAny (model X.prog X.w) A (ksk_end D b items e1 (.ref kS) us.toArray) P E s') :
    wpAny (model X.prog X.w) A (do
      for x in its do
        match ← (call (.ref q) [x]).attempt with
        | .ok k => Builtin.List.listUpdate (.ref kS) (·.push k)
        | .error e =>
          rule "list.sort.key-raised"
          let made ← Builtin.List.listItems (.ref kS)
          Builtin.List.listUpdate (.ref kS) fun _ => #[]
          letGo made.toList.reverse [e]
          Builtin.List.listUpdate (.ref D) fun _ => items; throw e
      let keys ← Builtin.List.listItems (.ref kS)
      ksk_end D b items e1 (.ref kS) keys) P E s := by
  have neKS : ∀ c o, H0 c = some o → c ≠ kS := fun c o e z => by rw [z, h0] at e; cases e
  refine wpAny_bind (ksk_fold (fun i s' => ∃ H' ks, Inv X pins σ H' s' ∧ Evl.Ex H0 H' ∧ H' kS = some (.lst ks) ∧ ks.length = i ∧ ∀ (j : Nat) (x v : V), xs[j]? = some x → ks[j]? = some v → kd.KV (kf x) v H') its 0 s
    ⟨_, [], I, fun c o e => by rw [upd_ne (neKS c o e)]; exact e, upd_same, rfl, fun j x v _ e => by simp at e⟩ ?step ?done)
  case step =>
    rintro j u s' hu ⟨H', ks, I', ex, hk, hl, hK⟩
    have hj : j < its.length := (List.getElem?_eq_some_iff.mp hu).1
    have hjx : j < xs.length := by rw [rx.length]; exact hj
    obtain ⟨u', e1, ru⟩ := rx.get (List.getElem?_eq_getElem hjx)
    rw [hu] at e1
    cases e1
    refine wpAny_bind (wpAny_attempt (wpAny_mono (run_metA (E := fun _ _ => False) (Q := fun v H2 => Evl.Ex H' H2 ∧ kd.KV (kf xs[j]) v H2) F hr hf hb I' (ex q _ hq) ru (hsp _ (List.getElem_mem hjx) H' ex _ fun v H2 e2 kv => ⟨e2, kv⟩)) (fun kv s2 hh => ?_) fun _ _ hF => hF.elim))
    obtain ⟨v, H2, I2, rv, e2, hkv⟩ := hh
    try dsimp only
    have hk2 := e2 kS _ hk
    obtain ⟨zk, ki, n, rk, ho⟩ := (show ObjOk X.prog X.w H2 s2.heap kS (.lst ks) from I2.hok kS _ hk2)
    have hlk := rk.length
    have sb := Heap.SameBut.update s2.heap kS (Obj.mapSeq (·.push kv))
    obtain ⟨c2, hc2⟩ : ∃ c2, (s2.heap.update kS (Obj.mapSeq (·.push kv))).get? kS = some (seqObj "list" (ki.toArray.push kv) c2) := ⟨_, get?_update_seq ho (·.push kv)⟩
    refine wpAny_bind (listUpdate_at ho rfl ?_ (by rw [List.size_toArray]; omega) (by rw [Array.size_push, List.size_toArray]; omega))
    refine wpAny_pure ⟨rfl, upd H2 kS (.lst (ks ++ [v])), ks ++ [v], ?_, fun c o e => ?_, upd_same, by rw [List.length_append, hl]; rfl, fun i x w h1 h2 => ?_⟩
    · refine I2.write (t' := s2.toks) (by rw [hk2]; trivial) (.inl rfl) (fun b u hb e => (sb.2 b hb).trans e) ⟨_, hc2⟩ ⟨by rw [List.length_append, List.length_singleton]; omega, ki ++ [kv], c2, rk.append (.cons rv .nil), ?_⟩
      rw [hc2]
      simp
    · rw [upd_ne (neKS c o e)]
      exact e2 c o (ex c o e)
    · have up : ∀ b xs, H2 b = some (.tup xs) → (upd H2 kS (.lst (ks ++ [v]))) b = some (.tup xs) := fun b xs e => by
        rw [upd_ne (fun z => by rw [z, hk2] at e; cases e)]
        exact e
      refine kd.up ?_ up
      by_cases hi : i < ks.length
      · rw [List.getElem?_append_left hi] at h2
        exact kd.up (hK i x w h1 h2) fun b xs e => e2 b _ e
      · have hlt := (List.getElem?_eq_some_iff.mp h2).1
        rw [List.length_append, List.length_singleton] at hlt
        have ei : i = j := by omega
        subst ei
        rw [List.getElem?_append_right (by omega), hl] at h2
        have e0 : 0 + i - i = 0 := by omega
        simp at h2
        subst h2
        rw [List.getElem?_eq_getElem hjx] at h1
        cases h1
        exact hkv
  case done =>
    rintro s' ⟨H', ks, I', ex, hk, hl, hK⟩
    obtain ⟨zk, ki, n, rk, ho⟩ := (show ObjOk X.prog X.w H' s'.heap kS (.lst ks) from I'.hok kS _ hk)
    try dsimp only
    refine wpAny_bind (listItems_at ho rfl ?_)
    exact hq2 s' H' ks ki I' ex hk rk (by rw [hl, rx.length]; omega) hK
/-- sorted(e, key=self.m) -/
def rSortF {κ : Type} (K : PySem.W.Frag) (kd : KeyKd X κ) (g : Addr) (sp : Sp) : List V → List V → Hp → VK → Prop := fun vs zs H Q => ∃ (l q a : Addr) (xs : List V) (kf : V → κ), vs = [.ref l] ∧ zs = [.ref q] ∧ H q = some (.met g a) ∧ SrcV K H l xs ∧
  (∀ x ∈ xs, ∀ H1, Evl.Ex H H1 → ∀ Q : VK, (∀ v H2, Evl.Ex H1 H2 → kd.KV (kf x) v H2 → Q v H2) → sp [.ref a, x] H1 Q E0) ∧
  ∀ ys p H', ys.Perm xs → ys.Pairwise (fun x y => kd.lt (kf y) (kf x) = false) → Evl.Ex H H' → H p = none → H' p = some (.lst ys) → Q (.ref p) H'
theorem cr_sortedF {κ : Type} (kd : KeyKd X κ) (hc : X.calm = true) (F : FnOk X.prog X.w X.K X.mg X.base CX0 k g fd ps sp) (hr : Room (k + 2) X.A) (hb : Binds X.K fd ps []) : CallRK X (.builtin "sorted") [Str.ofString "key"] (rSortF X.K kd g sp) := by
  intro pins s σ H vs zs us ws Q I r rz h
  obtain ⟨l, q, a, xs, kf, rfl, rfl, hq, hsrc, hsp, hQ⟩ := h
  obtain rfl := Vals.ref1 r
  obtain rfl := Vals.ref1 rz
  show wpAny (model X.prog X.w) X.A (call (.builtin "sorted") [.ref l] [(Str.ofString "key", .ref q)]) (EP X pins σ Q) X.xe s
  refine call_function_entry_kw kind_sorted plain_sorted entry_sorted (ksk_s1 _ _) ?_
  unfold Builtin.«sorted»
  refine wpAny_bind (m := checkCount "sorted" 1 1 _) (wpAny_pure ?_)
  refine wpAny_bind (collect_src (I.ok.hd hc) I hsrc fun h1 tk1 its hk1 rx hz => ?_)
  have hzi : its.length ≤ sizeLine := by rw [← rx.length]; exact hz
  refine wpAny_bind (wpAny_newList ?_ hzi)
  have I1 : Inv X pins σ H { s with heap := h1, toks := tk1 } := I.kept hk1
  have hoL : (h1.push (seqObj "list" its.toArray 0)).get? h1.objs.size = some (seqObj "list" its.toArray 0) := Heap.get?_push_size _ rfl
  show wpAny _ _ _ _ _ { s with heap := h1.push (seqObj "list" its.toArray 0), toks := tk1 }
  refine wpAny_bind (wpAny_holding (wpAny_call_entry_kw slot_list_sort ⟨_, hoL, rfl⟩ entry_list_sort ?body (ksk_l1 _ _)))
  case body =>
    show wpAny (model X.prog X.w) X.A.in1.in1 (Builtin.«list.sort» ⟨[.ref h1.objs.size], [(Str.ofString "key", .ref q)]⟩) _ _ _
    rw [ksk_t1]
    unfold ksk_tree
    obtain ⟨e1, ho1⟩ : ∃ e1, ((h1.push (seqObj "list" its.toArray 0)).update h1.objs.size (Obj.mapSeq fun _ => (#[] : Array Value))).get? h1.objs.size = some (seqObj "list" #[] e1) := ⟨_, get?_update_seq hoL fun _ => #[]⟩
    refine wpAny_bind (listItems_at hoL rfl ?_)
    refine wpAny_bind (listUpdate_at hoL rfl ?_ (by rw [List.size_toArray]; exact hzi) (Nat.zero_le _))
    refine wpAny_bind (seqEpoch_at ho1 rfl ?_)
    refine wpAny_bind (wpAny_newTuple ?_ (by show its.length ≤ _; exact hzi))
    refine wpAny_bind (wpAny_newList ?_ (Nat.zero_le _))
    refine wpAny_holding ?_
    unfold ksk_rest
    refine wpAny_bind (wpAny_rule ?_)
    first
      | rw [List.forIn_toArray]
      | (rw [← Array.forIn_toList]; simp only [List.toList_toArray])
      | rw [← Array.forIn_toList]
    -- the heap with the emptied list, the held tuple, the list of keys
    generalize hh5 : ((((h1.push (seqObj "list" its.toArray 0)).update h1.objs.size (Obj.mapSeq fun _ => (#[] : Array Value))).push (seqObj "tuple" its.toArray 0)).push (seqObj "list" #[] 0)) = h5
    have hsz : (((h1.push (seqObj "list" its.toArray 0)).update h1.objs.size (Obj.mapSeq fun _ => (#[] : Array Value))).push (seqObj "tuple" its.toArray 0)).objs.size = h1.objs.size + 1 + 1 := by rw [size_push', Heap.size_update, size_push']
    have keep5 : ∀ b o, h1.get? b = some o → h5.get? b = some o := fun b o e => by
      have hlt : b < h1.objs.size := Heap.lt_size e
      rw [← hh5]
      refine Heap.get?_push_of_some _ (Heap.get?_push_of_some _ ?_)
      rw [Heap.get?_update_ne _ _ _ _ (Nat.ne_of_lt hlt)]
      exact Heap.get?_push_of_some _ e
    have hD5 : h5.get? h1.objs.size = some (seqObj "list" #[] e1) := by
      rw [← hh5]
      exact Heap.get?_push_of_some _ (Heap.get?_push_of_some _ ho1)
    have hk5 : h5.get? (h1.objs.size + 1 + 1) = some (seqObj "list" #[] 0) := by
      rw [← hh5, ← hsz]
      exact Heap.get?_push_size _ rfl
    have hDn : H h1.objs.size = none := I1.hok.fresh (Nat.le_refl _)
    have hkn : H (h1.objs.size + 1 + 1) = none := I1.hok.fresh (Nat.le_succ_of_le (Nat.le_succ _))
    obtain ⟨n1, n2, n3, n4, n5⟩ := new_facts (D := h1.objs.size) I1 (Nat.le_refl _)
    have I5 : Inv X pins σ (upd H (h1.objs.size + 1 + 1) (.lst [])) { s with heap := h5, toks := tk1 } :=
      I1.laid (t' := tk1) keep5 (Nat.le_succ_of_le (Nat.le_succ _)) ⟨Nat.zero_le _, [], 0, .nil, hk5⟩
    have neD : (h1.objs.size : Nat) ≠ h1.objs.size + 1 + 1 := Nat.ne_of_lt (Nat.lt_succ_of_lt (Nat.lt_succ_self _))
    have I6 : Inv X (pins ++ [(h1.objs.size, seqObj "list" #[] e1)]) σ (upd H (h1.objs.size + 1 + 1) (.lst [])) { s with heap := h5, toks := tk1 } := I5.pins_of fun p hp => by
      rcases List.mem_append.mp hp with hp | hp
      · exact I5.pin p (List.mem_append_right _ hp)
      · rw [List.mem_singleton.mp hp]
        refine ⟨hD5, ?_, n2, n5, fun v z => by cases z⟩
        rw [upd_ne (show h1.objs.size ≠ h1.objs.size + 1 + 1 from neD)]
        exact hDn
    have hr2 : Room k X.A.in1.in1 := Room.in1 (Room.in1 hr)
    rw [hsz]
    show wpAny (model X.prog X.w) X.A.in1.in1 _ _ _ { s with heap := h5, toks := tk1 }
    refine keys_run kd (A := X.A.in1.in1) (kf := kf) (xs := xs) (H0 := H) F hr2 rfl hb hq hkn hsp rx hz I6 fun s' H' ks us I' ex hks rk hlk hK => ?_
    -- the sort
    obtain ⟨hDs, hDn', _, _, _⟩ := I'.pin (h1.objs.size, seqObj "list" #[] e1) (List.mem_append_right _ (List.mem_append_right _ (List.mem_singleton.mpr rfl)))
    obtain ⟨zk, ki, n, rk', hok⟩ := (show ObjOk X.prog X.w H' s'.heap (h1.objs.size + 1 + 1) (.lst ks) from I'.hok _ _ hks)
    have hus : us.length = its.length := by rw [← rk.length, hlk, rx.length]
    have fin : ∀ (arr : List Keyed) (st : SortSt), (arrOf st).toList = arr → failedOf st = none → ∀ kv : Value → κ, (∀ v u c, v ∈ ks → RelV v u → kd.KV c v H' → kv u = c) → Srtd (lt2 fun v u => kd.lt (kv v) (kv u)) arr → arr.Perm (us.zip its) →
        wpAny (model X.prog X.w) X.A.in1.in1 (ksk_tail h1.objs.size false e1 (.ref (h1.objs.size + 1 + 1)) st) (fun fin s' => ∃ v, fin = .done (.ret v) ∧ wpAny (model X.prog X.w) X.A.in1 (ret (.ref h1.objs.size)) (fun fin s' => ∃ v, fin = .done (.ret v) ∧ EP X pins σ Q v s') X.xe s') X.xe s' := by
      intro arr st harr hf kv hkv hs hp
      obtain ⟨ys, p1, p2, p3⟩ := sort_out kd rx rk hlk hK hkv hs hp
      unfold ksk_tail
      try dsimp only
      refine wpAny_bind (listUpdate_at hok rfl ?_ (by rw [List.size_toArray, ← rk'.length]; exact zk) (Nat.zero_le _))
      refine wpAny_bind (wpAny_letGo ?_)
      have s1 := Heap.SameBut.update s'.heap (h1.objs.size + 1 + 1) (Obj.mapSeq fun _ => (#[] : Array Value))
      obtain ⟨c1, hc1⟩ : ∃ c1, (s'.heap.update (h1.objs.size + 1 + 1) (Obj.mapSeq fun _ => (#[] : Array Value))).get? (h1.objs.size + 1 + 1) = some (seqObj "list" #[] c1) := ⟨_, get?_update_seq hok fun _ => #[]⟩
      have hD1 : (s'.heap.update (h1.objs.size + 1 + 1) (Obj.mapSeq fun _ => (#[] : Array Value))).get? h1.objs.size = some (seqObj "list" #[] e1) := (s1.2 _ (show h1.objs.size ≠ h1.objs.size + 1 + 1 from neD)).trans hDs
      have I7 : Inv X pins σ (upd H' (h1.objs.size + 1 + 1) (.lst [])) { s' with heap := s'.heap.update (h1.objs.size + 1 + 1) (Obj.mapSeq fun _ => (#[] : Array Value)) } :=
        I'.unpinned.write (t' := s'.toks) (by rw [hks]; trivial) (.inl rfl) (fun b u hb e => (s1.2 b hb).trans e) ⟨_, hc1⟩ ⟨Nat.zero_le _, [], c1, .nil, hc1⟩
      refine wpAny_bind (seqEpoch_at hD1 rfl ?_)
      have hal : ((arrOf st).map (·.2)).toList = arr.map (·.2) := by rw [Array.toList_map, harr]
      have hylen : ys.length ≤ sizeLine := by rw [p1.length_eq]; exact hz
      have hsz2 : ((arrOf st).map (·.2)).size ≤ sizeLine + 1 := by
        rw [← Array.length_toList, hal, ← p3.length]
        omega
      refine wpAny_bind (listUpdate_at hD1 rfl ?_ (Nat.zero_le _) (by simpa using hsz2))
      rw [hf]
      simp only [bne_self_eq_false, Bool.false_eq_true, if_false]
      have s2 := Heap.SameBut.update (s'.heap.update (h1.objs.size + 1 + 1) (Obj.mapSeq fun _ => (#[] : Array Value))) h1.objs.size (Obj.mapSeq fun _ => (arrOf st).map (·.2))
      obtain ⟨c2, hc2⟩ : ∃ c2, ((s'.heap.update (h1.objs.size + 1 + 1) (Obj.mapSeq fun _ => (#[] : Array Value))).update h1.objs.size (Obj.mapSeq fun _ => (arrOf st).map (·.2))).get? h1.objs.size = some (seqObj "list" ((arrOf st).map (·.2)) c2) := ⟨_, get?_update_seq hD1 fun _ => (arrOf st).map (·.2)⟩
      have hDn7 : (upd H' (h1.objs.size + 1 + 1) (.lst [])) h1.objs.size = none := by
        rw [upd_ne (show h1.objs.size ≠ h1.objs.size + 1 + 1 from neD)]
        exact hDn'
      have I8 := adopt (t' := s'.toks) (ys := ys) (its := arr.map (·.2)) (n := c2) I7 hDn7 n1 n2 n3 n4 (fun b o hb e => (s2.2 b hb).trans e) (by rw [hc2, ← hal, Array.toArray_toList]) p3 hylen
      refine wpAny_pure ⟨_, rfl, wpAny_pure ⟨_, rfl, .ref h1.objs.size, _, I8, rfl, hQ ys _ _ p1 p2 (fun b o e => ?_) hDn upd_same⟩⟩
      have nb1 : b ≠ h1.objs.size := fun z => by rw [z, hDn] at e; cases e
      have nb2 : b ≠ h1.objs.size + 1 + 1 := fun z => by rw [z, hkn] at e; cases e
      rw [upd_ne nb1, upd_ne nb2]
      exact ex b o e
    unfold ksk_end
    try dsimp only
    simp only [Bool.false_eq_true, if_false]
    have ez : (us.toArray.zip its.toArray).toList = us.zip its := by simp
    by_cases h2 : its.toArray.size < 2
    · rw [if_pos h2, if_pos h2]
      rw [List.size_toArray] at h2
      refine wpAny_bind (wpAny_pure ?_)
      rw [StateT.run_pure]
      refine wpAny_bind (wpAny_pure ?_)
      try dsimp only
      refine fin _ (SortSt.mk' general' (us.toArray.zip its.toArray) #[] 7 none) rfl rfl (fun _ => kf (xs.headD .non)) (fun v u c hv ru hc => ?_) ?_ ?_
      · obtain ⟨i, hi, e⟩ := List.mem_iff_getElem.mp hv
        have hix : i < xs.length := by omega
        have hl1 := rx.length
        have e0 : i = 0 := by omega
        subst e0
        have hK0 := hK 0 _ v (List.getElem?_eq_getElem hix) (by rw [← e, List.getElem?_eq_getElem hi])
        refine kd.uni (v := v) (H := H') ?_ hc
        cases xs with
        | nil => exact absurd hix (Nat.not_lt_zero _)
        | cons x r => exact hK0
      · show Srtd _ (us.toArray.zip its.toArray).toList
        rw [ez]
        have hzl : (us.zip its).length < 2 := by rw [List.length_zip]; omega
        match us.zip its, hzl with
        | [], _ => exact List.Pairwise.nil
        | [p], _ => exact List.pairwise_singleton _ _
        | _ :: _ :: l, h => exact absurd h (by rw [List.length_cons, List.length_cons]; omega)
      · show (us.toArray.zip its.toArray).toList.Perm _
        rw [ez]
    · rw [if_neg h2, if_neg h2]
      rw [List.size_toArray] at h2
      obtain ⟨kv, hkv, kn, hkn2, hcmp⟩ := kd.srt (A := X.A.in1.in1) I' rk (fun v hv => by
        obtain ⟨i, hi, e⟩ := List.mem_iff_getElem.mp hv
        have hix : i < xs.length := by omega
        exact ⟨_, hK i _ v (List.getElem?_eq_getElem hix) (by rw [← e, List.getElem?_eq_getElem hi])⟩) (by omega)
      refine wpAny_bind (hkn2 _ _ ?_)
      have hall : AllL (fun p : Keyed => p.1 ∈ us) (us.toArray.zip its.toArray).toList := fun p hm => by
        rw [ez] at hm
        exact (List.of_mem_zip hm).1
      have O2 : Swo fun v u : Value => kd.lt (kv v) (kv u) := ⟨fun x y => kd.swo.asym _ _, fun x y z => kd.swo.tr _ _ _⟩
      refine wpAny_bind (wpAny_mono (wpS_sortO (st0 := SortSt.mk' kn (us.toArray.zip its.toArray) #[] 7 none)
        (Q := fun _ st' => Srtd (lt2 fun v u => kd.lt (kv v) (kv u)) (arrOf st').toList ∧ (arrOf st').toList.Perm (us.zip its) ∧ failedOf st' = none) (swo2 O2) hcmp rfl hall rfl rfl fun st' a1 a2 a3 => ⟨a1, by
          have := a2.perm
          rw [show (arrOf (SortSt.mk' kn (us.toArray.zip its.toArray) #[] 7 none)).toList = us.zip its from ez] at this
          exact this, a3⟩) ?_ fun _ _ e => e)
      rintro ⟨⟨⟩, st'⟩ s2 ⟨rfl, hp1, hp2, hf⟩
      exact fin _ st' rfl hf kv hkv hp1 hp2
end
end OwnS

/-! ### min(list, key=self.m), m a method that answers pairs of ints -/
namespace OwnS
open PySem L2 PyProof.Rows SrtO
section
variable {X : Cx} {k : Nat} {g a q : Addr} {fd : FuncData} {ps : List Str} {sp : Sp} {pins : List (Addr × Obj)} {σ : L2.St} {H : Hp} {s : Shared}
/-- two pairs of ints compared -/
theorem lt_pairs {A : Around} {E : Value → Shared → Prop} {Q : Value → Shared → Prop} {v w : V} {u u' : Value} {c d : Int × Int} (I : Inv X pins σ H s) (hu : A.units < cLine) (r : RelV v u) (r' : RelV w u') (hc : (kdPair X).KV c v H) (hd : (kdPair X).KV d w H) (h : Q (.bool (lexB c d)) s) :
    wpAny (model X.prog X.w) A (richCompare .Lt u u') Q E s := by
  obtain ⟨t, rfl, ht⟩ := hc
  obtain ⟨t', rfl, ht'⟩ := hd
  obtain rfl : u = Value.ref t := r
  obtain rfl : u' = Value.ref t' := r'
  obtain ⟨its, r1, p1, _⟩ := I.tuple (SqT.of ht)
  obtain ⟨its2, r2, p2, _⟩ := I.tuple (SqT.of ht')
  have i1 : IntsAre its.toArray.toList [c.1, c.2] := intsAre_of (ns := [c.1, c.2]) r1
  have i2 : IntsAre its2.toArray.toList [d.1, d.2] := intsAre_of (ns := [d.1, d.2]) r2
  have e : HT.lexLt [c.1, c.2] [d.1, d.2] = lexB c d := by
    unfold lexB
    rw [HT.lexLt_cons, HT.lexLt_cons, HT.lexLt_nil_nil]
    by_cases h1 : c.1 = d.1
    · rw [if_pos h1, if_pos h1]
      by_cases h2 : c.2 = d.2
      · rw [if_pos h2, h2]
        exact (decide_eq_false (Int.lt_irrefl _)).symm
      · rw [if_neg h2]
    · rw [if_neg h1, if_neg h1]
  exact HT.lt_tupInts p1 p2 i1 i2 hu (by rw [e]; exact h)
/-- what own records are: not the frame's, no cells, no pins, young -/
structure OwnR (X : Cx) (pins : List (Addr × Obj)) (D : Addr) : Prop where
  y : X.s_0.heap.objs.size ≤ D
  l : D ≠ X.env.locals
  c : ∀ x c, X.env.cells.lookup x = some c → c ≠ D
  p : ∀ p ∈ X.pn ++ pins, p.1 ≠ D
  f : D ∉ X.fs
theorem OwnR.turned {h' : Heap} {t' : Nat} {D : Addr} (o : OwnR X pins D) (I : Inv X pins σ H s) (hn : H D = none) (k : ∀ b o, b ≠ D → s.heap.get? b = some o → h'.get? b = some o) : Inv X pins σ H { s with heap := h', toks := t' } :=
  I.turned k hn o.l (.inr o.y) o.c o.p
theorem OwnR.pin2 {D D' : Addr} {ob ob' : Obj} (o : OwnR X pins D) (o' : OwnR X pins D') (I : Inv X pins σ H s) (hn : H D = none) (hn' : H D' = none) (h : s.heap.get? D = some ob) (h' : s.heap.get? D' = some ob') (hc : ∀ v, ob.data ≠ .cell v) (hc' : ∀ v, ob'.data ≠ .cell v) :
    Inv X (pins ++ [(D, ob), (D', ob')]) σ H s := I.pins_of fun p hp => by
  rcases List.mem_append.mp hp with hp | hp
  · exact I.pin p (List.mem_append_right _ hp)
  · rcases List.mem_cons.mp hp with rfl | hp
    · exact ⟨h, hn, o.l, o.f, hc⟩
    · rw [List.mem_singleton.mp hp]
      exact ⟨h', hn', o'.l, o'.f, hc'⟩
/-- what stands between two turns: j items are behind, the best of them is the i-th -/
structure MinAt (X : Cx) (pins : List (Addr × Obj)) (σ : L2.St) (H0 : Hp) (xs : List V) (kf : V → Int × Int) (l I S : Addr) (j : Nat) (x : V) (s : Shared) : Prop where
  ex : ∃ H' vb kb kv c oI, Inv X (pins ++ [(S, seqObj "list" #[vb, kb] c), (I, oI)]) σ H' s ∧ Evl.Ex H0 H' ∧ H' S = none ∧ H' I = none ∧ s.heap.IsListIter I l j ∧ RelV x vb ∧ RelV kv kb ∧ (kdPair X).KV (kf x) kv H'
  mem : x ∈ xs.take j
  best : ∀ y ∈ xs.take j, lexB (kf y) (kf x) = false
theorem min_loop {R : Result → Shared → Prop} {xs : List V} {kf : V → Int × Int} {l I S : Addr} {H0 : Hp} (F : FnOk X.prog X.w X.K X.mg X.base CX0 k g fd ps sp) (hr : Room (k + 2) X.A) (hb : Binds X.K fd ps [])
    (hh : X.A.handled = none) (hq : H0 q = some (.met g a)) (hl : SqL X.K H0 l xs) (hI0 : H0 I = none) (hS0 : H0 S = none) (oS : OwnR X pins S) (oI : OwnR X pins I) (hSI : S ≠ I) (hlI : l ≠ I)
    (hsp : ∀ x ∈ xs, ∀ H1, Evl.Ex H0 H1 → ∀ Q : VK, (∀ v H2, Evl.Ex H1 H2 → (kdPair X).KV (kf x) v H2 → Q v H2) → sp [.ref a, x] H1 Q E0)
    (hR : ∀ s' H' x vb, Inv X pins σ H' s' → Evl.Ex H0 H' → x ∈ xs → (∀ y ∈ xs, lexB (kf y) (kf x) = false) → RelV x vb → R (.ok (.ret vb)) s') :
    ∀ (r j : Nat) (x : V) (s : Shared), xs.length - j = r → j ≤ xs.length → MinAt X pins σ H0 xs kf l I S j x s → codeAny (model X.prog X.w) X.A (.builtin "min.loop" ⟨[.ref I, .ref q, .ref S], []⟩) R s := by
  have hname : (toString "min" ++ toString ".loop" : String) = "min.loop" := by decide
  have hh1 : X.A.in1.handled = none := hh
  intro r
  induction r with
  | zero =>
    intro j x s hrj hj M
    have ej : j = xs.length := by omega
    obtain ⟨⟨H', vb, kb, kv, c, ob, I1, ex, hS, hI, hit, rv, rk, hk⟩, hm, hbest⟩ := M
    have pS := I1.pin (S, seqObj "list" #[vb, kb] c) (List.mem_append_right _ (List.mem_append_right _ List.mem_cons_self))
    obtain ⟨its, rx, pl, hz⟩ := I1.list (Evl.ex_l ex hl)
    have W := Walks.list (prog := X.prog) (w := X.w) (A := X.A.in1) hh1 I l hlI its.toArray
    have hsz : its.toArray.size = xs.length := by rw [List.size_toArray, rx.length]
    refine codeAny_builtin PySem.F.entry_min_loop ?_
    rw [Around.under_plainId PySem.F.plain_min_loop _]
    show wpAny _ X.A.in1 (seqItems? (.ref S) >>= _) _ _ _
    refine wpAny_bind (wpAny_seqItems pS.1 rfl ?_)
    show wpAny _ X.A.in1 (tryCatch (pyNext (.ref I)) _ >>= _) _ _ _
    refine wpAny_bind (wpAny_tryCatch (W.done _ _ _ ⟨by rw [hsz, ← ej]; exact hit, pl.isList⟩ fun h' tk' hk' => ?_))
    have hk2 : ∀ b o, b ≠ I → s.heap.get? b = some o → h'.get? b = some o := fun b o hb e => hk' b o (by simpa using hb) e
    have J := oI.turned (t' := tk') I1.unpinned hI hk2
    have hS' := hk2 S _ hSI pS.1
    have s1 := Heap.SameBut.update h' S (Obj.mapSeq fun _ => (#[] : Array Value))
    show wpAny _ X.A.in1 (updateSeq S (fun _ => #[]) >>= _) _ _ _
    refine wpAny_bind ?_
    refine wpAny_updateSeq hS' rfl (wpAny_bind (wpAny_letGo (wpAny_pure ?_)))
    have J2 := oS.turned (t' := tk') J hS (fun b o hb e => (s1.2 b hb).trans e)
    have et : xs.take j = xs := by rw [ej, List.take_length]
    rw [et] at hm hbest
    exact hR _ H' x vb J2 ex hm hbest rv
  | succ r ih =>
    intro j x s hrj hj M
    have hlt : j < xs.length := by omega
    obtain ⟨⟨H', vb, kb, kv, c, ob, I1, ex, hS, hI, hit, rv, rk, hk⟩, hm, hbest⟩ := M
    have pS := I1.pin (S, seqObj "list" #[vb, kb] c) (List.mem_append_right _ (List.mem_append_right _ List.mem_cons_self))
    obtain ⟨its, rx, pl, hz⟩ := I1.list (Evl.ex_l ex hl)
    have W := Walks.list (prog := X.prog) (w := X.w) (A := X.A.in1) hh1 I l hlI its.toArray
    have hsz : its.toArray.size = xs.length := by rw [List.size_toArray, rx.length]
    refine codeAny_builtin PySem.F.entry_min_loop ?_
    rw [Around.under_plainId PySem.F.plain_min_loop _]
    show wpAny _ X.A.in1 (seqItems? (.ref S) >>= _) _ _ _
    refine wpAny_bind (wpAny_seqItems pS.1 rfl ?_)
    show wpAny _ X.A.in1 (tryCatch (pyNext (.ref I)) _ >>= _) _ _ _
    refine wpAny_bind (wpAny_tryCatch (W.item j _ _ _ (by rw [hsz]; exact hlt) ⟨hit, pl.isList⟩ fun v h' tk' hP hst' hk' => ?_))
    have hk2 : ∀ b o, b ≠ I → s.heap.get? b = some o → h'.get? b = some o := fun b o hb e => hk' b o (by simpa using hb) e
    have hv : its[j]? = some v := by simpa using hP
    obtain ⟨u', e1, ru⟩ := rx.get (List.getElem?_eq_getElem hlt)
    rw [hv] at e1
    cases e1
    obtain ⟨oI', hoI', hoc, hod⟩ := id hst'.1
    have J := oI.turned (t' := tk') I1.unpinned hI hk2
    have hS' := hk2 S _ hSI pS.1
    have J2 := oS.pin2 oI J hS hI hS' hoI' (fun v z => by cases z) (fun v z => by rw [hod] at z; cases z)
    show wpAny _ X.A.in1 (tryCatch (holding [v] (call (.ref q) [v])) _ >>= _) _ _ _
    refine wpAny_bind (wpAny_tryCatch (wpAny_holding (wpAny_mono (run_metA (E := fun _ _ => False) (Q := fun v H2 => Evl.Ex H' H2 ∧ (kdPair X).KV (kf xs[j]) v H2) F (Room.in1 (hr.mono (Nat.le_succ _))) rfl hb J2 (ex q _ hq) ru (hsp _ (List.getElem_mem hlt) H' ex _ fun v H2 e2 kv => ⟨e2, kv⟩)) (fun nk s2 hh => ?_) fun _ _ hF => hF.elim)))
    obtain ⟨nv, H2, I2, rnv, e2, hkv⟩ := hh
    have qS := I2.pin (S, seqObj "list" #[vb, kb] c) (List.mem_append_right _ (List.mem_append_right _ List.mem_cons_self))
    have qI := I2.pin (I, oI') (List.mem_append_right _ (List.mem_append_right _ (List.mem_cons_of_mem _ List.mem_cons_self)))
    have hS2 : H2 S = none := qS.2.1
    have hI2 : H2 I = none := qI.2.1
    have hit2 : s2.heap.IsListIter I l (j + 1) := ⟨oI', qI.1, hoc, hod⟩
    have hu1 : X.A.in1.units < cLine := by
      have := hr.units
      show X.A.units + 1 < cLine
      omega
    show wpAny _ X.A.in1 (tryCatch (holding [v, nk] (richCompare .Lt nk kb >>= _)) _ >>= _) _ _ _
    refine wpAny_bind (wpAny_tryCatch (wpAny_holding (wpAny_bind (lt_pairs I2 hu1 rnv rk hkv ((kdPair X).up hk fun b ys e => e2 b _ e) ?_))))
    refine wpAny_bind (wpAny_holding (wpAny_truthy_bool ?_))
    refine wpAny_bind (wpAny_letGo (wpAny_pure ?_))
    have tk1 : xs.take (j + 1) = xs.take j ++ [xs[j]] := by rw [List.take_add_one, List.getElem?_eq_getElem hlt]; rfl
    by_cases hb' : lexB (kf xs[j]) (kf x) = true
    · have s1 := Heap.SameBut.update s2.heap S (Obj.mapSeq fun _ => #[v, nk])
      obtain ⟨c2, hc2⟩ : ∃ c2, (s2.heap.update S (Obj.mapSeq fun _ => #[v, nk])).get? S = some (seqObj "list" #[v, nk] c2) := ⟨_, get?_update_seq qS.1 fun _ => #[v, nk]⟩
      simp only [hb', if_true]
      refine wpAny_bind ?_
      refine wpAny_updateSeq qS.1 rfl (wpAny_bind (wpAny_letGo ?_))
      rw [hname]
      have J3 := oS.turned (t' := s2.toks) I2.unpinned hS2 (fun b o hb e => (s1.2 b hb).trans e)
      have hI3 : (s2.heap.update S (Obj.mapSeq fun _ => #[v, nk])).get? I = some oI' := (s1.2 I hSI.symm).trans qI.1
      refine wpAny_pure ⟨plainId_quiet PySem.F.plain_min_loop _, ih (j + 1) xs[j] _ (by omega) hlt ⟨⟨H2, v, nk, nv, c2, oI', oS.pin2 oI J3 hS2 hI2 hc2 hI3 (fun v z => by cases z) (fun v z => by rw [hod] at z; cases z), ex.trans e2, hS2, hI2, ⟨oI', hI3, hoc, hod⟩, ru, rnv, hkv⟩, ?_, ?_⟩⟩
      · rw [tk1]
        exact List.mem_append_right _ List.mem_cons_self
      · intro y hy
        rw [tk1] at hy
        rcases List.mem_append.mp hy with hy | hy
        · have h1 := hbest y hy
          exact swo_L.tr _ _ _ (swo_L.asym _ _ hb') h1
        · rw [List.mem_singleton.mp hy]
          exact swo_L.refl _
    · have hb2 : lexB (kf xs[j]) (kf x) = false := by simpa using hb'
      simp only [hb2, Bool.false_eq_true, if_false]
      refine wpAny_bind (wpAny_letGo ?_)
      rw [hname]
      refine wpAny_pure ⟨plainId_quiet PySem.F.plain_min_loop _, ih (j + 1) x _ (by omega) hlt ⟨⟨H2, vb, kb, kv, c, oI', I2, ex.trans e2, hS2, hI2, hit2, rv, rk, (kdPair X).up hk fun b ys e => e2 b _ e⟩, ?_, ?_⟩⟩
      · rw [tk1]
        exact List.mem_append_left _ hm
      · intro y hy
        rw [tk1] at hy
        rcases List.mem_append.mp hy with hy | hy
        · exact hbest y hy
        · rw [List.mem_singleton.mp hy]
          exact hb2
theorem ownR_new {D : Addr} (I : Inv X pins σ H s) (hD : s.heap.objs.size ≤ D) : OwnR X pins D := by
  obtain ⟨n1, n2, n3, n4, n5⟩ := new_facts I hD
  exact ⟨n1, n2, n3, n4, n5⟩
/-- min(l, key=self.m) -/
def rMinF (K : PySem.W.Frag) (g : Addr) (sp : Sp) : List V → List V → Hp → VK → Prop := fun vs zs H Q => ∃ (l q a : Addr) (xs : List V) (kf : V → Int × Int), vs = [.ref l] ∧ zs = [.ref q] ∧ H q = some (.met g a) ∧ H l = some (.lst xs) ∧ xs ≠ [] ∧
  (∀ x ∈ xs, ∀ H1, Evl.Ex H H1 → ∀ Q : VK, (∀ v H2, Evl.Ex H1 H2 → (kdPair X).KV (kf x) v H2 → Q v H2) → sp [.ref a, x] H1 Q E0) ∧
  ∀ x H', x ∈ xs → (∀ y ∈ xs, lexB (kf y) (kf x) = false) → Evl.Ex H H' → Q x H'
theorem cr_minF (hc : X.calm = true) (F : FnOk X.prog X.w X.K X.mg X.base CX0 k g fd ps sp) (hr : Room (k + 2) X.A) (hb : Binds X.K fd ps []) : CallRK X (.builtin "min") [Str.ofString "key"] (rMinF (X := X) X.K g sp) := by
  intro pins s σ H vs zs us ws Q I r rz h
  obtain ⟨l, q, a, xs, kf, rfl, rfl, hq, hl, hne, hsp, hQ⟩ := h
  obtain rfl := Vals.ref1 r
  obtain rfl := Vals.ref1 rz
  show wpAny (model X.prog X.w) X.A (call (.builtin "min") [.ref l] [(Str.ofString "key", .ref q)]) (EP X pins σ Q) X.xe s
  have hname : (toString "min" ++ toString ".loop" : String) = "min.loop" := by decide
  have hh := I.ok.hd hc
  have hh1 : X.A.in1.handled = none := hh
  have hlen : 0 < xs.length := List.length_pos_iff.mpr hne
  obtain ⟨its, rx, pl, hz⟩ := I.list (SqL.of (K := X.K) hl)
  have hls : s.heap.IsList l its.toArray := pl.isList
  obtain ⟨ol, hol, _⟩ := id hls
  have hll : l < s.heap.objs.size := Heap.lt_size hol
  refine kmk_tree PySem.F.kind_min PySem.F.plain_min PySem.F.entry_min (kmk_min_key _ _) ?_
  show wpAny _ X.A.in1 (Builtin.Builtins.bindParams "min" ["key", "default"] 0 ⟨[], [(Str.ofString "key", .ref q)]⟩ >>= _) _ _ s
  refine wpAny_bind (wpAny_of_eq (show Builtin.Builtins.bindParams "min" ["key", "default"] 0 ⟨[], [(Str.ofString "key", .ref q)]⟩ = pure [some (.ref q), none] from rfl) ?_)
  refine wpAny_bind (wpAny_pure ?_)
  refine wpAny_bind (wpAny_pyIter_list hls ?_)
  refine wpAny_bind (wpAny_newList ?_ (Nat.zero_le _))
  rw [hname]
  have hS : (s.heap.push { cls := .type "list_iterator", data := .fields #[.ref l, .int 0 0] }).objs.size = s.heap.objs.size + 1 := size_push' ..
  have gI : ((s.heap.push { cls := .type "list_iterator", data := .fields #[.ref l, .int 0 0] }).push (seqObj "list" #[] 0)).get? s.heap.objs.size = some { cls := .type "list_iterator", data := .fields #[.ref l, .int 0 0] } :=
    Heap.get?_push_of_some _ (Heap.get?_push_size _ rfl)
  have gS : ((s.heap.push { cls := .type "list_iterator", data := .fields #[.ref l, .int 0 0] }).push (seqObj "list" #[] 0)).get? (s.heap.objs.size + 1) = some (seqObj "list" #[] 0) := by
    rw [← hS]; exact Heap.get?_push_size _ rfl
  rw [hS]
  have keep : ∀ b o, s.heap.get? b = some o → ((s.heap.push { cls := .type "list_iterator", data := .fields #[.ref l, .int 0 0] }).push (seqObj "list" #[] 0)).get? b = some o := fun b o e => Heap.get?_push_of_some _ (Heap.get?_push_of_some _ e)
  generalize hgen : ((s.heap.push { cls := .type "list_iterator", data := .fields #[.ref l, .int 0 0] }).push (seqObj "list" #[] 0)) = h2 at gI gS keep ⊢
  generalize hi : s.heap.objs.size = I0 at *
  have J : Inv X pins σ H { s with heap := h2 } := I.kept (t' := s.toks) keep
  have oI : OwnR X pins I0 := ownR_new I (by rw [hi]; exact Nat.le_refl _)
  have oS : OwnR X pins (I0 + 1) := ownR_new I (by rw [hi]; exact Nat.le_succ _)
  have hIn : H I0 = none := I.hok.fresh (by rw [hi]; exact Nat.le_refl _)
  have hSn : H (I0 + 1) = none := I.hok.fresh (by rw [hi]; exact Nat.le_succ _)
  have hSI : (I0 + 1 : Nat) ≠ I0 := Nat.succ_ne_self _
  have hlI : l ≠ I0 := Nat.ne_of_lt hll
  refine wpAny_pure ⟨plainId_quiet PySem.F.plain_min_loop _, ?_⟩
  have W := Walks.list (prog := X.prog) (w := X.w) (A := X.A.in1) hh1 I0 l hlI its.toArray
  have hsz : its.toArray.size = xs.length := by rw [List.size_toArray, rx.length]
  have hl2 : h2.IsList l its.toArray := by
    obtain ⟨o, e1, e2⟩ := hls
    exact ⟨o, keep _ _ e1, e2⟩
  refine codeAny_builtin PySem.F.entry_min_loop ?_
  rw [Around.under_plainId PySem.F.plain_min_loop _]
  show wpAny _ X.A.in1 (seqItems? (.ref (I0 + 1)) >>= _) _ _ { s with heap := h2 }
  refine wpAny_bind (wpAny_seqItems gS rfl ?_)
  show wpAny _ X.A.in1 (tryCatch (pyNext (.ref I0)) _ >>= _) _ _ _
  refine wpAny_bind (wpAny_tryCatch (W.item 0 _ _ _ (by rw [hsz]; exact hlen) ⟨⟨_, gI, rfl, rfl⟩, hl2⟩ fun v h' tk' hP hst' hk' => ?_))
  have hk2 : ∀ b o, b ≠ I0 → h2.get? b = some o → h'.get? b = some o := fun b o hb e => hk' b o (by simpa using hb) e
  have hv : its[0]? = some v := by simpa using hP
  obtain ⟨u', e1, ru⟩ := rx.get (List.getElem?_eq_getElem hlen)
  rw [hv] at e1
  cases e1
  obtain ⟨oI', hoI', hoc, hod⟩ := id hst'.1
  have J1 := oI.turned (t' := tk') J hIn hk2
  have hS' := hk2 _ _ hSI gS
  have J2 := oS.pin2 oI J1 hSn hIn hS' hoI' (fun v z => by cases z) (fun v z => by rw [hod] at z; cases z)
  show wpAny _ X.A.in1 (tryCatch (holding [v] (call (.ref q) [v])) _ >>= _) _ _ _
  refine wpAny_bind (wpAny_tryCatch (wpAny_holding (wpAny_mono (run_metA (E := fun _ _ => False) (Q := fun v H2 => Evl.Ex H H2 ∧ (kdPair X).KV (kf xs[0]) v H2) F (Room.in1 (hr.mono (Nat.le_succ _))) rfl hb J2 hq ru (hsp _ (List.getElem_mem hlen) H (Evl.Ex.refl _) _ fun v H2 e2 kv => ⟨e2, kv⟩)) (fun nk s2 hh => ?_) fun _ _ hF => hF.elim)))
  obtain ⟨nv, H2, I2, rnv, e2, hkv⟩ := hh
  have qS := I2.pin (I0 + 1, seqObj "list" #[] 0) (List.mem_append_right _ (List.mem_append_right _ List.mem_cons_self))
  have qI := I2.pin (I0, oI') (List.mem_append_right _ (List.mem_append_right _ (List.mem_cons_of_mem _ List.mem_cons_self)))
  have s1 := Heap.SameBut.update s2.heap (I0 + 1) (Obj.mapSeq fun _ => #[v, nk])
  obtain ⟨c2, hc2⟩ : ∃ c2, (s2.heap.update (I0 + 1) (Obj.mapSeq fun _ => #[v, nk])).get? (I0 + 1) = some (seqObj "list" #[v, nk] c2) := ⟨_, get?_update_seq qS.1 fun _ => #[v, nk]⟩
  show wpAny _ X.A.in1 (updateSeq (I0 + 1) (fun _ => #[v, nk]) >>= _) _ _ _
  refine wpAny_bind ?_
  refine wpAny_updateSeq qS.1 rfl ?_
  rw [hname]
  have J3 := oS.turned (t' := s2.toks) I2.unpinned qS.2.1 (fun b o hb e => (s1.2 b hb).trans e)
  have hI3 : (s2.heap.update (I0 + 1) (Obj.mapSeq fun _ => #[v, nk])).get? I0 = some oI' := (s1.2 I0 hSI.symm).trans qI.1
  have tk1 : xs.take 1 = [xs[0]] := by
    rw [show (1 : Nat) = 0 + 1 from rfl, List.take_add_one, List.getElem?_eq_getElem hlen]
    rfl
  refine wpAny_pure ⟨plainId_quiet PySem.F.plain_min_loop _, min_loop (xs := xs) (kf := kf) (H0 := H) F hr hb hh hq (SqL.of hl) hIn hSn oS oI hSI hlI hsp ?_ _ 1 xs[0] _ rfl hlen
    ⟨⟨H2, v, nk, nv, c2, oI', oS.pin2 oI J3 qS.2.1 qI.2.1 hc2 hI3 (fun v z => by cases z) (fun v z => by rw [hod] at z; cases z), e2, qS.2.1, qI.2.1, ⟨oI', hI3, hoc, hod⟩, ru, rnv, hkv⟩, ?_, ?_⟩⟩
  · intro s' H' x vb I' e' hm hbest rv
    exact ⟨x, H', I', rv, hQ x H' hm hbest e'⟩
  · rw [tk1]
    exact List.mem_cons_self
  · intro y hy
    rw [tk1] at hy
    rw [List.mem_singleton.mp hy]
    exact swo_L.refl _
end
end OwnS

/-! ### own rules: Base.__init__(self, ..); data sorted -/
namespace OwnS
open PySem L2 PyProof.Rows SrtO
section
variable {X : Cx} {CX : CXT} {k : Nat} {f C : Addr} {fd : FuncData} {ps : List Str} {sp : Sp} {dvs : List V} {ds : List Value} {E : XK} {m : Str} {pos apos : Pos} {e o : Expr} {es : List Expr} {ta : TE} {t : TA} {mc : Value}
/-- what a class must have that a plain def is read off it -/
structure CDef (K : PySem.W.Frag) (C : Addr) (mc : Value) (m : Str) (f : Addr) : Prop where
  rd : PySem.W.readsIn K C mc = true
  ga : PySem.W.specialIn K (.ref C) "__getattribute__" = some (some (.builtin "type.__getattribute__"))
  at_ : PySem.W.findCls K (.ref C) mc m = some (.val (.ref f))
  kp : PySem.W.keepIn K (.ref f) = true
/-- C.m(e, ..), C a class of one's own, m a plain def of it -/
def tClsCall (C : Addr) (sp : Sp) (dvs : List V) (E : XK) (ta : TE) (t : TA) : TE := fun σ H Q => ta σ H fun x H1 => x = .ref C ∧ t σ H1 fun vs H2 => sp (vs ++ dvs) H2 Q E
theorem pe_clsCall {pl : Sem Bool} (he : PE X o ta) (c : CDef X.K C mc m f) (F : FnOk X.prog X.w X.K X.mg X.base CX k f fd ps sp) (hr : Room k X.A) (hb : Binds X.K fd ps ds) (hd : Vals dvs ds) (hx : Passes CX X E) (ha : PA X (e :: es) t)
    (hst : starEach (e :: es) X.env = (false, eval e X.env) :: starEach es X.env := by rfl) (hpl : (backTo pos (starEach es X.env)).any (·.1) = false := by rfl)
    (ht : eval (.Call (.Attribute o m apos) (e :: es) [] pos) X.env = (do
      let ov ← eval o X.env
      standAt apos.atName
      let (f, first) ← holding [ov] (getMethod ov m pl)
      callWith pos f first (backTo pos (starEach (e :: es) X.env)) (backToKw pos (keywordEach [] X.env))) := by rfl) :
    PE X (.Call (.Attribute o m apos) (e :: es) [] pos) (tClsCall C sp dvs E ta t) := by
  refine ⟨fun pins s σ H Q I h => ?_⟩
  refine PySem.W.methodCall_KW (pl := pl) (thn (he.run pins s σ H _ I h) fun u s1 ⟨x, H1, I1, rx, ex, q⟩ => ?_) ht
  subst ex
  obtain rfl : u = Value.ref C := rx
  refine PySem.W.method_cls I1.kIn c.ga (PySem.W.cls_value I1.kIn c.rd c.at_ rfl ?_)
  have I2 := I1.tok (s1.toks + 1)
  refine PySem.W.callWith_K (first := []) (h₀ := X.base) I.ok.mod.kin c.kp (thn (ha.run pos pins _ σ H1 _ I2 q) fun us s2 ⟨vs, H2, I3, r, q2⟩ => ⟨I3.kIn, ?_⟩) hst hpl
  exact run_fn F hr hb hd hx I3 r q2
/-- sorted(l), l a list of data of one kind (tuples, texts) -/
def rSortD (K : PySem.W.Frag) : List V → Hp → VK → Prop := fun vs H Q => ∃ (l : Addr) (xs : List V) (ds : List PyData), vs = [.ref l] ∧ SqL K H l xs ∧ DpAll K H xs ds ∧ PySem.W.AllAlike ds ∧ PySem.W.Sortable ds ∧ (∀ d ∈ ds, d.depth ≤ 20) ∧
  ∀ ys p, DpAll K H ys (ds.mergeSort (PySem.W.dataLe false id)) → H p = none → Q (.ref p) (upd H p (.lst ys))
theorem dpAll_len {K : PySem.W.Frag} {H : Hp} : ∀ {xs : List V} {ds : List PyData}, DpAll K H xs ds → xs.length = ds.length
  | _, _, .nil => rfl
  | _, _, .cons _ t => by rw [List.length_cons, List.length_cons, dpAll_len t]
theorem cr_sortedD (hu : X.A.units + 64 < cLine) : CallR X (.builtin "sorted") (rSortD X.K) := by
  intro pins s σ H vs us Q I r h
  obtain ⟨l, xs, ds, rfl, hs, hD, hal, hk, hdp, hQ⟩ := h
  obtain rfl := Vals.ref1 r
  obtain ⟨its, rx, pl, hz⟩ := I.list hs
  have e1 : ∀ {xs : List V} {its : List Value} {ds : List PyData}, Vals xs its → DpAll X.K H xs ds → PySem.W.EachIs (fun u d => ∃ v, RelV v u ∧ Dp X.K H v d) its ds := by
    intro xs its ds r
    induction r generalizing ds with
    | nil => intro h; cases h; exact .nil
    | cons r t ih =>
      intro h
      cases h with
      | cons h1 h2 => exact .cons ⟨_, r, h1⟩ (ih h2)
  have eR := e1 rx hD
  have eR2 : PySem.W.EachIs (fun u d => ∃ as, Reads s.heap u (id d) as) its ds := eR.mono fun u d ⟨v, r, h⟩ => Dp.reads I d v u h r
  have hl : ds.length = xs.length := (dpAll_len hD).symm
  refine PySem.W.sorted_data (bs := ds) (enc := id) (R := fun u d => ∃ v, RelV v u ∧ Dp X.K H v d) pl.isList eR eR2 (by rw [List.map_id]; exact hal) (by rw [List.map_id]; exact hk) (by rw [hl]; exact hz) (fun b hb => ?_) fun out ho eo => ?_
  · have := hdp b hb
    show X.A.units + 2 + b.depth < cLine
    omega
  · have e2 : ∀ {out : List Value} {ds : List PyData}, PySem.W.EachIs (fun u d => ∃ v, RelV v u ∧ Dp X.K H v d) out ds → ∃ ys, Vals ys out ∧ DpAll X.K H ys ds := by
      intro out ds h
      induction h with
      | nil => exact ⟨[], .nil, .nil⟩
      | cons h t ih =>
        obtain ⟨ys, r, hd⟩ := ih
        obtain ⟨v, rv, hv⟩ := h
        exact ⟨v :: ys, .cons rv r, .cons hv hd⟩
    obtain ⟨ys, r, hd⟩ := e2 eo
    obtain ⟨ep, he'⟩ := PyProof.Rows.sortedAll_at s.heap its out.toArray
    have hlen : ys.length ≤ sizeLine := by rw [r.length, ho, hl]; exact hz
    exact ⟨.ref _, upd H (s.heap.objs.size + 1) (.lst ys), I.laid (t' := s.toks) (fun _ _ => PyProof.Rows.sortedAll_old) (Nat.le_succ _) ⟨hlen, out, ep, r, he'⟩, rfl, hQ ys _ hd (I.hok.fresh (Nat.le_succ _))⟩
end
end OwnS

/-! ### the mirror: what a book, a shelf, a row hold; plain Lean -/
namespace Own
open PySem L2
inductive Kd where | book | shelf | row
  deriving DecidableEq
abbrev Ent := Str × Int × Int
structure Going where
  deed : Int
  name : Str
  reason : Str
  count : Int
  last : Int
structure Th where
  span : Int
  part : Int
  time : Int
  deed : Nat
  es : List Ent
  places : Int
  st : List Str
  went : List Going
  laid : List (Option Str)
  depths : List (Option Int)
/-! tables of entries -/
def look (es : List Ent) (n : Str) : Option (Int × Int) := (es.find? fun e => decide (e.1 = n)).map (·.2)
def dOf (f : Int × Int → V) (es : List Ent) : List (Key × V) := es.map fun e => (Sum.inr e.1, f e.2)
def cV : Int × Int → V := fun p => .int p.1
def lV : Int × Int → V := fun p => .int p.2
def putE (es : List Ent) (n : Str) (p : Int × Int) : List Ent := if (es.any fun e => decide (e.1 = n)) = true then es.map (fun e => if e.1 = n then (e.1, p) else e) else es ++ [(n, p)]
def setC (es : List Ent) (n : Str) (c : Int) : List Ent := es.map fun e => if e.1 = n then (e.1, c, e.2.2) else e
def dropE (es : List Ent) (n : Str) : List Ent := es.filter fun e => decide (e.1 ≠ n)
theorem key_iff {a b : Str} : ((Sum.inr a : Key) = Sum.inr b) ↔ a = b := ⟨fun h => Sum.inr.inj h, fun h => by rw [h]⟩
theorem valV_dOf (f : Int × Int → V) (n : Str) : ∀ es : List Ent, valV (dOf f es) (Sum.inr n : Key) = (look es n).map f
  | [] => rfl
  | e :: r => by
    by_cases h : e.1 = n
    · rw [show dOf f (e :: r) = (Sum.inr e.1, f e.2) :: dOf f r from rfl, valV_pos (p := (Sum.inr e.1, f e.2)) (by rw [h])]
      simp [look, h]
    · rw [show dOf f (e :: r) = (Sum.inr e.1, f e.2) :: dOf f r from rfl, valV_neg (p := (Sum.inr e.1, f e.2)) (fun q => h (Sum.inr.inj q)), valV_dOf f n r]
      simp [look, h]
theorem look_isSome (n : Str) : ∀ es : List Ent, (look es n).isSome = es.any fun e => decide (e.1 = n)
  | [] => rfl
  | e :: r => by
    by_cases h : e.1 = n
    · simp [look, h]
    · have := look_isSome n r
      simpa [look, h] using this
theorem look_mem {n : Str} {es : List Ent} : (look es n).isSome = true ↔ n ∈ es.map (·.1) := by
  rw [look_isSome, List.any_eq_true, List.mem_map]
  constructor
  · rintro ⟨e, h1, h2⟩
    exact ⟨e, h1, of_decide_eq_true h2⟩
  · rintro ⟨e, h1, h2⟩
    exact ⟨e, h1, decide_eq_true h2⟩
theorem dOf_any (f : Int × Int → V) (n : Str) (es : List Ent) : ((dOf f es).any fun kv => decide (kv.1 = (Sum.inr n : Key))) = es.any fun e => decide (e.1 = n) := by
  unfold dOf
  rw [List.any_map]
  congr 1
  funext e
  by_cases h : e.1 = n
  · simp [h]
  · simp [h]
theorem putK_dOf (f : Int × Int → V) (es : List Ent) (n : Str) (p : Int × Int) : putK (dOf f es) (Sum.inr n : Key) (f p) = dOf f (putE es n p) := by
  unfold putK putE
  rw [dOf_any]
  split
  · unfold dOf
    rw [List.map_map, List.map_map]
    congr 1
    funext e
    by_cases h : e.1 = n
    · simp [h]
    · simp [h]
  · unfold dOf
    rw [List.map_append]
    rfl
theorem dropK_dOf (f : Int × Int → V) (es : List Ent) (n : Str) : dropK (dOf f es) (Sum.inr n : Key) = dOf f (dropE es n) := by
  unfold dropK dropE dOf
  rw [List.filter_map]
  congr 1
  apply List.filter_congr
  intro e _
  by_cases h : e.1 = n
  · simp [h]
  · simp [h]
theorem setC_put {es : List Ent} {n : Str} (c : Int) (h : (look es n).isSome = true) : putK (dOf cV es) (Sum.inr n : Key) (.int c) = dOf cV (setC es n c) := by
  unfold putK
  rw [dOf_any, ← look_isSome, if_pos h]
  unfold dOf setC
  rw [List.map_map, List.map_map]
  congr 1
  funext e
  by_cases h : e.1 = n
  · simp [h, cV]
  · simp [h]
theorem setC_lasts (es : List Ent) (n : Str) (c : Int) : dOf lV (setC es n c) = dOf lV es := by
  unfold dOf setC
  rw [List.map_map]
  congr 1
  funext e
  by_cases h : e.1 = n
  · simp [h, lV]
  · simp [h]
theorem setC_keys (es : List Ent) (n : Str) (c : Int) : (setC es n c).map (·.1) = es.map (·.1) := by
  unfold setC
  rw [List.map_map]
  congr 1
  funext e
  by_cases h : e.1 = n
  · simp [h]
  · simp [h]
theorem setC_ls (es : List Ent) (n : Str) (c : Int) : (setC es n c).map (fun e => e.2.2) = es.map (fun e => e.2.2) := by
  unfold setC
  rw [List.map_map]
  congr 1
  funext e
  by_cases h : e.1 = n
  · simp [h]
  · simp [h]
theorem look_setC (n m : Str) (c : Int) : ∀ es : List Ent, look (setC es n c) m = if m = n then (look es m).map (fun p => (c, p.2)) else look es m
  | [] => by
    by_cases h : m = n <;> simp [setC, look, h]
  | e :: r => by
    have ih := look_setC n m c r
    by_cases h1 : e.1 = m
    · by_cases h2 : m = n
      · have h3 : e.1 = n := h1.trans h2
        simp [setC, look, h2, h3]
      · have h3 : ¬ e.1 = n := fun q => h2 (h1.symm.trans q)
        simp [setC, look, h2, h3, h1]
    · have e0 : look (setC (e :: r) n c) m = look (setC r n c) m := by
        by_cases h3 : e.1 = n
        · simp [setC, look, h3, show ¬ n = m from fun q => h1 (h3.trans q)]
        · simp [setC, look, h3, h1]
      have e1 : look (e :: r) m = look r m := by simp [look, h1]
      rw [e0, e1, ih]
theorem look_dropE (n m : Str) : ∀ es : List Ent, look (dropE es n) m = if m = n then none else look es m
  | [] => by
    by_cases h : m = n <;> simp [dropE, look, h]
  | e :: r => by
    have ih := look_dropE n m r
    by_cases h1 : e.1 = n
    · have e0 : dropE (e :: r) n = dropE r n := by simp [dropE, h1]
      rw [e0, ih]
      by_cases h2 : m = n
      · rw [if_pos h2, if_pos h2]
      · rw [if_neg h2, if_neg h2]
        have : ¬ e.1 = m := fun q => h2 (q.symm.trans h1)
        simp [look, this]
    · have e0 : dropE (e :: r) n = e :: dropE r n := by simp [dropE, h1]
      rw [e0]
      by_cases h3 : e.1 = m
      · have : ¬ m = n := fun q => h1 (h3.trans q)
        rw [if_neg this]
        simp [look, h3]
      · have e1 : look (e :: dropE r n) m = look (dropE r n) m := by simp [look, h3]
        have e2 : look (e :: r) m = look r m := by simp [look, h3]
        rw [e1, e2, ih]
theorem look_putE (n m : Str) (p : Int × Int) : ∀ es : List Ent, look (putE es n p) m = if m = n then some p else look es m := by
  intro es
  unfold putE
  split
  · rename_i h
    induction es with
    | nil => simp at h
    | cons e r ih =>
      by_cases h1 : e.1 = n
      · by_cases h2 : m = n
        · simp [look, h1, h2]
        · rw [if_neg h2]
          have h3 : ¬ n = m := fun q => h2 q.symm
          have : ∀ l : List Ent, look (l.map fun e => if e.1 = n then (e.1, p) else e) m = look l m := by
            intro l
            induction l with
            | nil => rfl
            | cons a l ih2 =>
              by_cases h4 : a.1 = n
              · have h5 : ¬ a.1 = m := fun q => h2 (q.symm.trans h4)
                simp only [List.map_cons, h4, if_true]
                have e1 : look ((n, p) :: l.map fun e => if e.1 = n then (e.1, p) else e) m = look (l.map fun e => if e.1 = n then (e.1, p) else e) m := by simp [look, h3]
                have e2 : look (a :: l) m = look l m := by simp [look, h5]
                rw [e1, e2, ih2]
              · simp only [List.map_cons, h4, if_false]
                by_cases h5 : a.1 = m
                · simp [look, h5]
                · have e1 : look (a :: l.map fun e => if e.1 = n then (e.1, p) else e) m = look (l.map fun e => if e.1 = n then (e.1, p) else e) m := by simp [look, h5]
                  have e2 : look (a :: l) m = look l m := by simp [look, h5]
                  rw [e1, e2, ih2]
          exact this (e :: r)
      · have hr : (r.any fun e => decide (e.1 = n)) = true := by simpa [h1] using h
        have ih := ih hr
        simp only [List.map_cons, h1, if_false]
        by_cases h5 : e.1 = m
        · have : ¬ m = n := fun q => h1 (h5.trans q)
          simp [look, h5, this]
        · have e1 : look (e :: r.map fun e => if e.1 = n then (e.1, p) else e) m = look (r.map fun e => if e.1 = n then (e.1, p) else e) m := by simp [look, h5]
          have e2 : look (e :: r) m = look r m := by simp [look, h5]
          rw [e1, e2, ih]
  · rename_i h
    have hn : look es n = none := by
      have := look_isSome n es
      rw [Bool.eq_false_iff.mpr h] at this
      simpa using this
    by_cases h2 : m = n
    · subst h2
      rw [if_pos rfl]
      have : es.find? (fun e => decide (e.1 = m)) = none := by
        unfold look at hn
        simpa using hn
      unfold look
      rw [List.find?_append, this]
      simp
    · rw [if_neg h2]
      unfold look
      rw [List.find?_append]
      have : ¬ n = m := fun q => h2 q.symm
      simp [this]
theorem look_of_mem {es : List Ent} (hn : (es.map (·.1)).Nodup) {e : Ent} (h : e ∈ es) : look es e.1 = some e.2 := by
  induction es with
  | nil => cases h
  | cons a r ih =>
    rw [List.map_cons, List.nodup_cons] at hn
    rcases List.mem_cons.mp h with rfl | h
    · simp [look]
    · have : ¬ a.1 = e.1 := fun q => hn.1 (by rw [q]; exact List.mem_map.mpr ⟨e, h, rfl⟩)
      have e2 : look (a :: r) e.1 = look r e.1 := by simp [look, this]
      rw [e2]
      exact ih hn.2 h
theorem mem_of_look {es : List Ent} {n : Str} {p : Int × Int} (h : look es n = some p) : (n, p) ∈ es := by
  unfold look at h
  cases hf : es.find? (fun e => decide (e.1 = n)) with
  | none => rw [hf] at h; cases h
  | some e =>
    rw [hf] at h
    have h1 := List.find?_some hf
    have h2 := List.mem_of_find?_eq_some hf
    have h3 : e.1 = n := of_decide_eq_true h1
    have h4 : e.2 = p := Option.some.inj h
    rw [← h3, ← h4]
    exact h2
def cntE (es : List Ent) (n : Str) : Int := ((look es n).map (·.1)).getD 0
def lstE (es : List Ent) (n : Str) : Int := ((look es n).map (·.2)).getD 0
/-! orders -/
def lexQ (p q : Int × Int) : Bool := if p.1 = q.1 then decide (p.2 < q.2) else decide (p.1 < q.1)
theorem lexQ_iff {p q : Int × Int} : lexQ p q = true ↔ p.1 < q.1 ∨ (p.1 = q.1 ∧ p.2 < q.2) := by
  unfold lexQ
  by_cases h : p.1 = q.1
  · rw [if_pos h, decide_eq_true_eq]; omega
  · rw [if_neg h, decide_eq_true_eq]; omega
theorem lexQ_no {p q : Int × Int} : lexQ p q = false ↔ ¬ (p.1 < q.1 ∨ (p.1 = q.1 ∧ p.2 < q.2)) := by
  rw [← lexQ_iff]
  cases lexQ p q <;> simp
/-- two lists in one order with the same members -/
theorem sorted_uniq {α β : Type} {lt : β → β → Bool} {f : α → β} : ∀ {l m : List α}, l.Perm m → l.Pairwise (fun x y => lt (f y) (f x) = false) → m.Pairwise (fun x y => lt (f y) (f x) = false) →
    (∀ x ∈ l, ∀ y ∈ l, lt (f x) (f y) = false → lt (f y) (f x) = false → x = y) → l = m
  | [], m, h, _, _, _ => (List.Perm.eq_nil h.symm).symm
  | x :: l, [], h, _, _, _ => absurd h.length_eq (by simp)
  | x :: l, y :: m, h, hl, hm, an => by
    have hy : y ∈ x :: l := h.mem_iff.mpr List.mem_cons_self
    have hx : x ∈ y :: m := h.mem_iff.mp List.mem_cons_self
    have e : x = y := by
      rcases List.mem_cons.mp hx with e | hx'
      · exact e
      · rcases List.mem_cons.mp hy with e | hy'
        · exact e.symm
        · exact an x List.mem_cons_self y hy ((List.pairwise_cons.mp hm).1 x hx') ((List.pairwise_cons.mp hl).1 y hy')
    subst e
    rw [sorted_uniq h.cons_inv (List.pairwise_cons.mp hl).2 (List.pairwise_cons.mp hm).2 fun a ha b hb => an a (List.mem_cons_of_mem _ ha) b (List.mem_cons_of_mem _ hb)]
def rankE (es : List Ent) (n : Str) : Int × Int := (cntE es n, lstE es n)
def sortR (es : List Ent) (ns : List Str) : List Str := ns.mergeSort fun a b => !lexQ (rankE es b) (rankE es a)
def byLast (es : List Ent) : List Str := (es.map (·.1)).mergeSort fun a b => decide (lstE es a ≤ lstE es b)
theorem sortR_perm (es : List Ent) (ns : List Str) : (sortR es ns).Perm ns := List.mergeSort_perm _ _
theorem sortR_sorted (es : List Ent) (ns : List Str) : (sortR es ns).Pairwise (fun x y => lexQ (rankE es y) (rankE es x) = false) := by
  have := List.pairwise_mergeSort (le := fun a b => !lexQ (rankE es b) (rankE es a)) (fun a b c h1 h2 => by
    rw [Bool.not_eq_true', lexQ_no] at h1 h2 ⊢
    omega) (fun a b => by
    cases h : lexQ (rankE es b) (rankE es a) with
    | false => rfl
    | true =>
      cases h2 : lexQ (rankE es a) (rankE es b) with
      | false => rfl
      | true =>
        rw [lexQ_iff] at h h2
        omega) ns
  exact this.imp fun h => by rwa [Bool.not_eq_true'] at h
theorem byLast_perm (es : List Ent) : (byLast es).Perm (es.map (·.1)) := List.mergeSort_perm _ _
theorem byLast_sorted (es : List Ent) : (byLast es).Pairwise (fun x y => decide (lstE es y < lstE es x) = false) := by
  have := List.pairwise_mergeSort (le := fun a b => decide (lstE es a ≤ lstE es b)) (fun a b c h1 h2 => by
    simp only [decide_eq_true_eq] at h1 h2 ⊢
    omega) (fun a b => by
    by_cases h : lstE es a ≤ lstE es b
    · simp [h]
    · simp [show lstE es b ≤ lstE es a by omega]) (es.map (·.1))
  exact this.imp fun h => decide_eq_false (by have := of_decide_eq_true h; omega)
/-! the deeds -/
def agedI (c p t : Int) : Int := c / p ^ t.toNat
def Kd.inside (k : Kd) (s : Th) : List Str := match k with
  | .book => s.es.map (·.1)
  | .shelf => s.st
  | .row => s.laid.filterMap id
def trim (l : List (Option Str)) : List (Option Str) := (l.reverse.dropWhile (·.isNone)).reverse
def idx (l : List (Option Str)) (n : Str) : Nat := l.findIdx fun o => decide (o = some n)
def takeOff (l : List (Option Str)) (n : Str) : List (Option Str) := l.set (idx l n) none
def carryGo (rk : Str → Int × Int) : List (Option Str) → Str → List (Option Str)
  | [], n => [some n]
  | none :: r, n => some n :: r
  | some m :: r, n => if lexQ (rk m) (rk n) = true then some n :: carryGo rk r m else some m :: carryGo rk r n
def carry (rk : Str → Int × Int) : List (Option Str) → Str → List (Option Str)
  | some m :: r, n => some n :: carryGo rk r m
  | none :: r, n => some n :: r
  | [], n => [some n]
def Kd.gone (k : Kd) (s : Th) (n r : Str) : Bool × Th := match k with
  | .book => (false, s)
  | .shelf => if n ∈ s.st then (true, { s with st := s.st.filter (fun m => decide (m ≠ n)), went := s.went ++ [⟨s.deed, n, r, cntE s.es n, lstE s.es n⟩] }) else (false, s)
  | .row => if some n ∈ s.laid then (true, { s with laid := trim (takeOff s.laid n) }) else (false, s)
def weakest (s : Th) : Str := (sortR s.es s.st).headD ""
def Kd.came (k : Kd) (s : Th) (n : Str) : V × Th := match k with
  | .book => (.bl (decide (n ∈ s.es.map (·.1))), s)
  | .shelf => if n ∈ s.st then (.bl true, s) else
      let s1 := if (s.st.length : Int) = s.places then (Kd.gone .shelf s (weakest s) "crowded").2 else s
      (.bl false, { s1 with st := s1.st ++ [n] })
  | .row => if some n ∈ s.laid then (.int ((idx s.laid n : Int) + 1), { s with depths := s.depths ++ [some ((idx s.laid n : Int) + 1)], laid := trim (carry (rankE s.es) (takeOff s.laid n) n) })
      else (.non, { s with depths := s.depths ++ [none], laid := trim (carry (rankE s.es) s.laid n) })
def Kd.ageStep (k : Kd) (t : Int) (s : Th) (n : Str) : Th :=
  if agedI (cntE s.es n) s.part t = 0 then
    { (k.gone { s with es := setC s.es n (agedI (cntE s.es n) s.part t) } n "faded").2 with es := dropE s.es n }
  else { s with es := setC s.es n (agedI (cntE s.es n) s.part t) }
def Th.times (s : Th) (steps : Int) : Int := (s.time + steps) / s.span - s.time / s.span
def Kd.spend (k : Kd) (s : Th) (steps : Int) : Th :=
  if 0 < s.times steps then (byLast s.es).foldl (k.ageStep (s.times steps)) { s with time := s.time + steps } else { s with time := s.time + steps }
def Th.next (s : Th) : Th := { s with deed := s.deed + 1 }
def Kd.ask (k : Kd) (s : Th) (n : Str) (w : Int) : V × Th :=
  let c := k.came (k.spend s.next 1) n
  (c.1, { c.2 with es := putE c.2.es n (cntE c.2.es n + w, (c.2.deed : Int)) })
def Kd.rest (k : Kd) (s : Th) (steps : Int) : Int × Th := (s.next.times steps, k.spend s.next steps)
def Kd.drop (k : Kd) (s : Th) (n : Str) : Bool × Th := k.gone s.next n "dropped"
def Kd.names (k : Kd) (s : Th) : List Str := sortR s.es (k.inside s)
/-- what always holds -/
structure WF (k : Kd) (s : Th) : Prop where
  kb : k ≠ .shelf → s.st = [] ∧ s.went = []
  kr : k ≠ .row → s.laid = [] ∧ s.depths = []
  sp : 0 < s.span
  sp2 : s.span < 10 ^ 80
  pt : 2 ≤ s.part
  pt2 : s.part < 10 ^ 80
  nd : (s.es.map (·.1)).Nodup
  cn : ∀ e ∈ s.es, 0 ≤ e.2.1
  ls : (s.es.map fun e => e.2.2).Nodup
  lr : ∀ e ∈ s.es, e.2.2 ≤ (s.deed : Int)
  sz : s.es.length ≤ s.deed
  snd : s.st.Nodup
  sin : ∀ n ∈ s.st, n ∈ s.es.map (·.1)
  ssz : s.st.length + s.went.length ≤ s.deed
  lin : ∀ n, some n ∈ s.laid → n ∈ s.es.map (·.1)
  lnd : (s.laid.filterMap id).Nodup
  lsz : s.laid.length ≤ s.deed
  dsz : s.depths.length ≤ s.deed
  pl : k = .shelf → 1 ≤ s.places
/-! ### what always holds is kept -/
theorem keys_dropE (es : List Ent) (n : Str) : (dropE es n).map (·.1) = (es.map (·.1)).filter fun m => decide (m ≠ n) := by
  unfold dropE
  rw [List.filter_map]
  rfl
theorem mem_keys_dropE {es : List Ent} {n m : Str} : m ∈ (dropE es n).map (·.1) ↔ m ∈ es.map (·.1) ∧ m ≠ n := by
  rw [keys_dropE, List.mem_filter, decide_eq_true_eq]
theorem keys_putE (es : List Ent) (n : Str) (p : Int × Int) : (putE es n p).map (·.1) = if n ∈ es.map (·.1) then es.map (·.1) else es.map (·.1) ++ [n] := by
  unfold putE
  by_cases h : n ∈ es.map (·.1)
  · rw [if_pos (by rw [← look_isSome]; exact look_mem.mpr h), if_pos h, List.map_map]
    congr 1
    funext e
    by_cases h : e.1 = n <;> simp [h]
  · rw [if_neg (by rw [← look_isSome]; exact fun q => h (look_mem.mp q)), if_neg h, List.map_append]
    rfl
theorem nodup_filter {α : Type} {l : List α} (p : α → Bool) (h : l.Nodup) : (l.filter p).Nodup := h.sublist List.filter_sublist
theorem mem_tw {α : Type} {p : α → Bool} : ∀ (l : List α) {o : α}, o ∈ l.takeWhile p → p o = true
  | [], _, h => by cases h
  | a :: l, o, h => by
    rw [List.takeWhile_cons] at h
    by_cases e : p a = true
    · rw [if_pos e] at h
      rcases List.mem_cons.mp h with q | q
      · rw [q]; exact e
      · exact mem_tw l q
    · rw [if_neg e] at h; cases h
theorem trim_sub (l : List (Option Str)) : ∃ r, l = trim l ++ r ∧ ∀ o ∈ r, o = none := by
  unfold trim
  refine ⟨(l.reverse.takeWhile (·.isNone)).reverse, ?_, ?_⟩
  · rw [← List.reverse_append, List.takeWhile_append_dropWhile, List.reverse_reverse]
  · intro o ho
    rw [List.mem_reverse] at ho
    have := mem_tw _ ho
    simpa using this
theorem trim_len (l : List (Option Str)) : (trim l).length ≤ l.length := by
  obtain ⟨r, e, _⟩ := trim_sub l
  have := congrArg List.length e
  rw [List.length_append] at this
  omega
theorem trim_map (l : List (Option Str)) : (trim l).filterMap id = l.filterMap id := by
  obtain ⟨r, e, h⟩ := trim_sub l
  have hr : r.filterMap id = [] := by
    rw [List.filterMap_eq_nil_iff]
    intro o ho
    rw [h o ho]
    rfl
  have := congrArg (List.filterMap id) e
  rw [List.filterMap_append, hr, List.append_nil] at this
  exact this.symm
theorem mem_fm {l : List (Option Str)} {n : Str} : n ∈ l.filterMap id ↔ some n ∈ l := by
  rw [List.mem_filterMap]
  constructor
  · rintro ⟨o, h1, h2⟩
    have : o = some n := h2
    rw [← this]
    exact h1
  · intro h
    exact ⟨some n, h, rfl⟩
/-- the first place of a name -/
theorem idx_lt {l : List (Option Str)} {n : Str} (h : some n ∈ l) : idx l n < l.length := List.findIdx_lt_length_of_exists ⟨some n, h, by simp⟩
theorem idx_at {l : List (Option Str)} {n : Str} (h : some n ∈ l) : l[idx l n]? = some (some n) := by
  have h1 := idx_lt h
  rw [List.getElem?_eq_getElem h1]
  have := List.findIdx_getElem (xs := l) (p := fun o => decide (o = some n)) (w := h1)
  exact congrArg some (of_decide_eq_true this)
theorem takeOff_map : ∀ {l : List (Option Str)} {n : Str}, (l.filterMap id).Nodup → some n ∈ l → (takeOff l n).filterMap id = (l.filterMap id).filter fun m => decide (m ≠ n)
  | [], n, _, h => by cases h
  | o :: r, n, hd, h => by
    by_cases e : o = some n
    · subst e
      have e1 : takeOff (some n :: r) n = none :: r := by simp [takeOff, idx, List.findIdx_cons]
      have e2 : (some n :: r).filterMap id = n :: r.filterMap id := rfl
      rw [e2, List.nodup_cons] at hd
      rw [e1, e2]
      show r.filterMap id = _
      rw [List.filter_cons, if_neg (by simp)]
      symm
      rw [List.filter_eq_self]
      intro m hm
      exact decide_eq_true fun q => hd.1 (by rw [← q]; exact hm)
    · have hr : some n ∈ r := by
        rcases List.mem_cons.mp h with q | q
        · exact absurd q.symm e
        · exact q
      have e1 : takeOff (o :: r) n = o :: takeOff r n := by simp [takeOff, idx, List.findIdx_cons, e]
      rw [e1]
      cases o with
      | none => exact takeOff_map (l := r) hd hr
      | some m =>
        have e2 : (some m :: r).filterMap id = m :: r.filterMap id := rfl
        rw [e2, List.nodup_cons] at hd
        have e3 : (some m :: takeOff r n).filterMap id = m :: (takeOff r n).filterMap id := rfl
        have ne : m ≠ n := fun q => e (by rw [q])
        rw [e2, e3, takeOff_map hd.2 hr]
        simp [ne]
theorem WF.gone {k : Kd} {s : Th} (w : WF k s) (n r : Str) : WF k (k.gone s n r).2 := by
  cases k with
  | book => exact w
  | shelf =>
    unfold Kd.gone
    dsimp only
    split
    · rename_i hn
      refine { w with kb := fun h => absurd rfl h, snd := nodup_filter _ w.snd, sin := fun m hm => w.sin m (List.mem_filter.mp hm).1, ssz := ?_ }
      show (s.st.filter _).length + (s.went ++ [_]).length ≤ s.deed
      have h1 := w.ssz
      have h2 : (s.st.filter fun m => decide (m ≠ n)).length < s.st.length := by
        rw [List.length_filter_lt_length_iff_exists]
        exact ⟨n, hn, by simp⟩
      rw [List.length_append, List.length_singleton]
      omega
    · exact w
  | row =>
    unfold Kd.gone
    dsimp only
    split
    · rename_i hn
      refine { w with kr := fun h => absurd rfl h, lin := fun m hm => ?_, lnd := ?_, lsz := ?_ }
      · show m ∈ s.es.map (·.1)
        have hm' : m ∈ (trim (takeOff s.laid n)).filterMap id := mem_fm.mpr hm
        rw [trim_map, takeOff_map w.lnd hn] at hm'
        exact w.lin m (mem_fm.mp (List.mem_filter.mp hm').1)
      · show ((trim (takeOff s.laid n)).filterMap id).Nodup
        rw [trim_map, takeOff_map w.lnd hn]
        exact nodup_filter _ w.lnd
      · show (trim (takeOff s.laid n)).length ≤ s.deed
        have h1 := trim_len (takeOff s.laid n)
        have h2 : (takeOff s.laid n).length = s.laid.length := List.length_set
        have := w.lsz
        omega
    · exact w
/-- behind a going the name stands nowhere -/
theorem gone_off {k : Kd} {s : Th} (w : WF k s) (n r : Str) : n ∉ (k.gone s n r).2.st ∧ some n ∉ (k.gone s n r).2.laid := by
  cases k with
  | book =>
    have h1 := (w.kb (by decide)).1
    have h2 := (w.kr (by decide)).1
    refine ⟨?_, ?_⟩
    · show n ∉ s.st
      rw [h1]; simp
    · show some n ∉ s.laid
      rw [h2]; simp
  | shelf =>
    have h2 := (w.kr (by decide)).1
    unfold Kd.gone
    dsimp only
    split
    · refine ⟨?_, ?_⟩
      · show n ∉ s.st.filter _
        simp
      · show some n ∉ s.laid
        rw [h2]; simp
    · rename_i h
      refine ⟨h, ?_⟩
      show some n ∉ s.laid
      rw [h2]; simp
  | row =>
    have h1 := (w.kb (by decide)).1
    unfold Kd.gone
    dsimp only
    split
    · rename_i hn
      refine ⟨?_, ?_⟩
      · show n ∉ s.st
        rw [h1]; simp
      · show some n ∉ trim (takeOff s.laid n)
        intro q
        have := mem_fm.mpr q
        rw [trim_map, takeOff_map w.lnd hn] at this
        simpa using (List.mem_filter.mp this).2
    · rename_i h
      refine ⟨?_, h⟩
      show n ∉ s.st
      rw [h1]; simp
theorem gone_core (k : Kd) (s : Th) (n r : Str) : (k.gone s n r).2.es = s.es ∧ (k.gone s n r).2.span = s.span ∧ (k.gone s n r).2.part = s.part ∧ (k.gone s n r).2.time = s.time ∧ (k.gone s n r).2.deed = s.deed ∧ (k.gone s n r).2.places = s.places := by
  cases k with
  | book => exact ⟨rfl, rfl, rfl, rfl, rfl, rfl⟩
  | shelf =>
    unfold Kd.gone
    dsimp only
    split <;> exact ⟨rfl, rfl, rfl, rfl, rfl, rfl⟩
  | row =>
    unfold Kd.gone
    dsimp only
    split <;> exact ⟨rfl, rfl, rfl, rfl, rfl, rfl⟩
theorem gone_mem {k : Kd} {s : Th} {n r m : Str} (w : WF k s) : (m ∈ (k.gone s n r).2.st → m ∈ s.st) ∧ (some m ∈ (k.gone s n r).2.laid → some m ∈ s.laid) := by
  cases k with
  | book => exact ⟨id, id⟩
  | shelf =>
    unfold Kd.gone
    dsimp only
    split
    · exact ⟨fun h => (List.mem_filter.mp h).1, id⟩
    · exact ⟨id, id⟩
  | row =>
    unfold Kd.gone
    dsimp only
    split
    · rename_i hn
      refine ⟨id, fun q => ?_⟩
      have := mem_fm.mpr q
      rw [trim_map, takeOff_map w.lnd hn] at this
      exact mem_fm.mp (List.mem_filter.mp this).1
    · exact ⟨id, id⟩
theorem agedI_nn {c p t : Int} (hc : 0 ≤ c) (hp : 2 ≤ p) : 0 ≤ agedI c p t := Int.ediv_nonneg hc (Int.le_of_lt (Int.pow_pos (by omega)))
theorem cntE_nn {es : List Ent} (h : ∀ e ∈ es, 0 ≤ e.2.1) (n : Str) : 0 ≤ cntE es n := by
  unfold cntE
  cases e : look es n with
  | none => exact Int.le_refl _
  | some p => exact h _ (mem_of_look e)
theorem WF.setC {k : Kd} {s : Th} (w : WF k s) (n : Str) {c : Int} (hc : 0 ≤ c) : WF k { s with es := setC s.es n c } := by
  refine { w with nd := ?_, cn := fun e he => ?_, ls := ?_, lr := fun e he => ?_, sz := ?_, sin := ?_, lin := ?_ }
  · show ((Own.setC s.es n c).map (·.1)).Nodup
    rw [setC_keys]; exact w.nd
  · obtain ⟨a, ha, rfl⟩ := List.mem_map.mp he
    by_cases h : a.1 = n
    · simp only [h, if_true]; exact hc
    · simp only [h, if_false]; exact w.cn a ha
  · show ((Own.setC s.es n c).map fun e => e.2.2).Nodup
    rw [setC_ls]; exact w.ls
  · obtain ⟨a, ha, rfl⟩ := List.mem_map.mp he
    by_cases h : a.1 = n
    · simp only [h, if_true]; exact w.lr a ha
    · simp only [h, if_false]; exact w.lr a ha
  · show (Own.setC s.es n c).length ≤ s.deed
    unfold Own.setC
    rw [List.length_map]; exact w.sz
  · show ∀ m ∈ s.st, m ∈ (Own.setC s.es n c).map (·.1)
    rw [setC_keys]; exact w.sin
  · show ∀ m, some m ∈ s.laid → m ∈ (Own.setC s.es n c).map (·.1)
    rw [setC_keys]; exact w.lin
theorem WF.dropE {k : Kd} {s : Th} (w : WF k s) {n : Str} (h1 : n ∉ s.st) (h2 : some n ∉ s.laid) : WF k { s with es := dropE s.es n } := by
  have sub : (Own.dropE s.es n).Sublist s.es := List.filter_sublist
  refine { w with nd := ?_, cn := fun e he => w.cn e (sub.subset he), ls := ?_, lr := fun e he => w.lr e (sub.subset he), sz := ?_, sin := fun m hm => ?_, lin := fun m hm => ?_ }
  · show ((Own.dropE s.es n).map (·.1)).Nodup
    exact w.nd.sublist (sub.map _)
  · show ((Own.dropE s.es n).map fun e => e.2.2).Nodup
    exact w.ls.sublist (sub.map _)
  · show (Own.dropE s.es n).length ≤ s.deed
    have := sub.length_le
    have := w.sz
    omega
  · exact mem_keys_dropE.mpr ⟨w.sin m hm, fun q => h1 (by rw [← q]; exact hm)⟩
  · exact mem_keys_dropE.mpr ⟨w.lin m hm, fun q => h2 (by rw [← q]; exact hm)⟩
theorem WF.ageStep {k : Kd} {s : Th} (w : WF k s) (t : Int) (n : Str) : WF k (k.ageStep t s n) := by
  have hc : 0 ≤ agedI (cntE s.es n) s.part t := Own.agedI_nn (cntE_nn w.cn n) w.pt
  have w1 := w.setC n hc
  unfold Kd.ageStep
  split
  · have w2 := w1.gone n "faded"
    have off := gone_off w1 n "faded"
    have c := gone_core k { s with es := Own.setC s.es n (agedI (cntE s.es n) s.part t) } n "faded"
    have w3 := w2.dropE off.1 off.2
    rw [c.1] at w3
    have w4 : ∀ es0, WF k { (k.gone { s with es := Own.setC s.es n (agedI (cntE s.es n) s.part t) } n "faded").2 with es := Own.dropE es0 n } → es0 = Own.setC s.es n (agedI (cntE s.es n) s.part t) → True := fun _ _ _ => trivial
    have e1 : Own.dropE (Own.setC s.es n (agedI (cntE s.es n) s.part t)) n = Own.dropE s.es n := by
      unfold Own.dropE Own.setC
      rw [List.filter_map]
      have : (fun e : Ent => decide (e.1 ≠ n)) ∘ (fun e => if e.1 = n then (e.1, agedI (cntE s.es n) s.part t, e.2.2) else e) = fun e : Ent => decide (e.1 ≠ n) := by
        funext e
        by_cases h : e.1 = n <;> simp [h]
      rw [this]
      have : ∀ l : List Ent, (∀ e ∈ l, e.1 ≠ n) → l.map (fun e => if e.1 = n then (e.1, agedI (cntE s.es n) s.part t, e.2.2) else e) = l := by
        intro l hl
        induction l with
        | nil => rfl
        | cons a l ih =>
          rw [List.map_cons, ih fun e he => hl e (List.mem_cons_of_mem _ he), if_neg (hl a List.mem_cons_self)]
      exact this _ fun e he => of_decide_eq_true (List.mem_filter.mp he).2
    rw [e1] at w3
    exact w3
  · exact w1
theorem WF.time {k : Kd} {s : Th} (w : WF k s) (t : Int) : WF k { s with time := t } := { w with }
theorem WF.next {k : Kd} {s : Th} (w : WF k s) : WF k s.next :=
  { w with lr := fun e he => by have := w.lr e he; show e.2.2 ≤ ((s.deed + 1 : Nat) : Int); omega, sz := by have := w.sz; show s.es.length ≤ s.deed + 1; omega, ssz := by have := w.ssz; show s.st.length + s.went.length ≤ s.deed + 1; omega, lsz := by have := w.lsz; show s.laid.length ≤ s.deed + 1; omega, dsz := by have := w.dsz; show s.depths.length ≤ s.deed + 1; omega }
theorem WF.fold {k : Kd} (t : Int) : ∀ (ns : List Str) {s : Th}, WF k s → WF k (ns.foldl (k.ageStep t) s)
  | [], _, w => w
  | n :: r, _, w => WF.fold t r (w.ageStep t n)
theorem WF.spend {k : Kd} {s : Th} (w : WF k s) (steps : Int) : WF k (k.spend s steps) := by
  unfold Kd.spend
  split
  · exact WF.fold _ _ (w.time _)
  · exact w.time _
end Own

/-! ### the mirror, further; plain Lean -/
namespace Own
open PySem L2
theorem dropE_setC (es : List Ent) (n : Str) (c : Int) : dropE (setC es n c) n = dropE es n := by
  unfold dropE setC
  rw [List.filter_map]
  have : (fun e : Ent => decide (e.1 ≠ n)) ∘ (fun e => if e.1 = n then (e.1, c, e.2.2) else e) = fun e : Ent => decide (e.1 ≠ n) := by
    funext e
    by_cases h : e.1 = n <;> simp [h]
  rw [this]
  have : ∀ l : List Ent, (∀ e ∈ l, e.1 ≠ n) → l.map (fun e => if e.1 = n then (e.1, c, e.2.2) else e) = l := by
    intro l hl
    induction l with
    | nil => rfl
    | cons a l ih =>
      rw [List.map_cons, ih fun e he => hl e (List.mem_cons_of_mem _ he), if_neg (hl a List.mem_cons_self)]
  exact this _ fun e he => of_decide_eq_true (List.mem_filter.mp he).2
/-! what a step of ageing leaves room for -/
def Slack (s : Th) (d : Nat) : Prop := s.es.length ≤ d ∧ s.st.length + s.went.length ≤ d ∧ s.laid.length ≤ d ∧ s.depths.length ≤ d
theorem WF.slack {k : Kd} {s : Th} (w : WF k s) : Slack s s.deed := ⟨w.sz, w.ssz, w.lsz, w.dsz⟩
theorem Slack.gone {k : Kd} {s : Th} {d : Nat} (h : Slack s d) (n r : Str) : Slack (k.gone s n r).2 d := by
  obtain ⟨h1, h2, h3, h4⟩ := h
  cases k with
  | book => exact ⟨h1, h2, h3, h4⟩
  | shelf =>
    unfold Kd.gone
    dsimp only
    split
    · rename_i hn
      refine ⟨h1, ?_, h3, h4⟩
      show (s.st.filter _).length + (s.went ++ [_]).length ≤ d
      have : (s.st.filter fun m => decide (m ≠ n)).length < s.st.length := by
        rw [List.length_filter_lt_length_iff_exists]
        exact ⟨n, hn, by simp⟩
      rw [List.length_append, List.length_singleton]
      omega
    · exact ⟨h1, h2, h3, h4⟩
  | row =>
    unfold Kd.gone
    dsimp only
    split
    · refine ⟨h1, h2, ?_, h4⟩
      show (trim (takeOff s.laid n)).length ≤ d
      have a := trim_len (takeOff s.laid n)
      have b : (takeOff s.laid n).length = s.laid.length := List.length_set
      omega
    · exact ⟨h1, h2, h3, h4⟩
theorem Slack.ageStep {k : Kd} {s : Th} {d : Nat} (h : Slack s d) (t : Int) (n : Str) : Slack (k.ageStep t s n) d := by
  have h0 : Slack { s with es := setC s.es n (agedI (cntE s.es n) s.part t) } d := ⟨by show (setC _ _ _).length ≤ d; unfold setC; rw [List.length_map]; exact h.1, h.2.1, h.2.2.1, h.2.2.2⟩
  unfold Kd.ageStep
  split
  · have h1 := h0.gone (k := k) n "faded"
    refine ⟨?_, h1.2.1, h1.2.2.1, h1.2.2.2⟩
    show (dropE s.es n).length ≤ d
    have := (List.filter_sublist (l := s.es) (p := fun e => decide (e.1 ≠ n))).length_le
    have := h.1
    unfold dropE
    omega
  · exact h0
theorem Slack.spend {k : Kd} {s : Th} {d : Nat} (h : Slack s d) (steps : Int) : Slack (k.spend s steps) d := by
  have fold : ∀ (t : Int) (ns : List Str) (s : Th), Slack s d → Slack (ns.foldl (k.ageStep t) s) d := by
    intro t ns
    induction ns with
    | nil => intro s h; exact h
    | cons n r ih => intro s h; exact ih _ (h.ageStep t n)
  have h0 : Slack { s with time := s.time + steps } d := h
  unfold Kd.spend
  split
  · exact fold _ _ _ h0
  · exact h0
theorem ageStep_core (k : Kd) (t : Int) (s : Th) (n : Str) : (k.ageStep t s n).span = s.span ∧ (k.ageStep t s n).part = s.part ∧ (k.ageStep t s n).time = s.time ∧ (k.ageStep t s n).deed = s.deed ∧ (k.ageStep t s n).places = s.places := by
  unfold Kd.ageStep
  split
  · have c := gone_core k { s with es := setC s.es n (agedI (cntE s.es n) s.part t) } n "faded"
    exact ⟨c.2.1, c.2.2.1, c.2.2.2.1, c.2.2.2.2.1, c.2.2.2.2.2⟩
  · exact ⟨rfl, rfl, rfl, rfl, rfl⟩
theorem fold_core (k : Kd) (t : Int) : ∀ (ns : List Str) (s : Th), (ns.foldl (k.ageStep t) s).span = s.span ∧ (ns.foldl (k.ageStep t) s).part = s.part ∧ (ns.foldl (k.ageStep t) s).time = s.time ∧ (ns.foldl (k.ageStep t) s).deed = s.deed ∧ (ns.foldl (k.ageStep t) s).places = s.places
  | [], _ => ⟨rfl, rfl, rfl, rfl, rfl⟩
  | n :: r, s => by
    obtain ⟨a, b, c, d, e⟩ := fold_core k t r (k.ageStep t s n)
    obtain ⟨a', b', c', d', e'⟩ := ageStep_core k t s n
    exact ⟨a.trans a', b.trans b', c.trans c', d.trans d', e.trans e'⟩
theorem spend_core (k : Kd) (s : Th) (steps : Int) : (k.spend s steps).span = s.span ∧ (k.spend s steps).part = s.part ∧ (k.spend s steps).time = s.time + steps ∧ (k.spend s steps).deed = s.deed ∧ (k.spend s steps).places = s.places := by
  unfold Kd.spend
  split
  · exact fold_core k _ _ _
  · exact ⟨rfl, rfl, rfl, rfl, rfl⟩
/-- the names ahead of a turn are still there at it -/
theorem keys_ageStep {k : Kd} {s : Th} {t : Int} {n m : Str} (h : m ∈ s.es.map (·.1)) (ne : m ≠ n) : m ∈ (k.ageStep t s n).es.map (·.1) := by
  unfold Kd.ageStep
  split
  · exact mem_keys_dropE.mpr ⟨h, ne⟩
  · show m ∈ (setC _ _ _).map (·.1)
    rw [setC_keys]; exact h
theorem keys_fold {k : Kd} {t : Int} {m : Str} : ∀ (ns : List Str) (s : Th), m ∈ s.es.map (·.1) → m ∉ ns → m ∈ (ns.foldl (k.ageStep t) s).es.map (·.1)
  | [], _, h, _ => h
  | n :: r, s, h, hn => keys_fold r _ (keys_ageStep h fun q => hn (by rw [q]; exact List.mem_cons_self)) fun q => hn (List.mem_cons_of_mem _ q)
/-! lasts below a bound -/
def LB (s : Th) (d : Int) : Prop := ∀ e ∈ s.es, e.2.2 ≤ d
theorem LB.ageStep {k : Kd} {s : Th} {d : Int} (h : LB s d) (t : Int) (n : Str) : LB (k.ageStep t s n) d := by
  unfold Kd.ageStep
  split
  · exact fun e he => h e ((List.filter_sublist (l := s.es)).subset he)
  · intro e he
    obtain ⟨a, ha, rfl⟩ := List.mem_map.mp he
    by_cases q : a.1 = n
    · simp only [q, if_true]; exact h a ha
    · simp only [q, if_false]; exact h a ha
theorem LB.fold {k : Kd} {d : Int} (t : Int) : ∀ (ns : List Str) {s : Th}, LB s d → LB (ns.foldl (k.ageStep t) s) d
  | [], _, h => h
  | n :: r, _, h => LB.fold t r (h.ageStep t n)
theorem LB.spend {k : Kd} {s : Th} {d : Int} (h : LB s d) (steps : Int) : LB (k.spend s steps) d := by
  unfold Kd.spend
  split
  · exact LB.fold _ _ h
  · exact h
/-! carrying -/
theorem carryGo_perm (rk : Str → Int × Int) : ∀ (l : List (Option Str)) (n : Str), ((carryGo rk l n).filterMap id).Perm (n :: l.filterMap id)
  | [], n => List.Perm.refl _
  | none :: r, n => List.Perm.refl _
  | some m :: r, n => by
    unfold carryGo
    split
    · have := carryGo_perm rk r m
      exact List.Perm.cons n this
    · have := carryGo_perm rk r n
      exact (List.Perm.cons m this).trans (List.Perm.swap _ _ _)
theorem carry_perm (rk : Str → Int × Int) (l : List (Option Str)) (n : Str) : ((carry rk l n).filterMap id).Perm (n :: l.filterMap id) := by
  cases l with
  | nil => exact List.Perm.refl _
  | cons o r =>
    cases o with
    | none => exact List.Perm.refl _
    | some m => exact List.Perm.cons n (carryGo_perm rk r m)
theorem carryGo_len (rk : Str → Int × Int) : ∀ (l : List (Option Str)) (n : Str), (carryGo rk l n).length ≤ l.length + 1
  | [], n => by simp [carryGo]
  | none :: r, n => by simp [carryGo]
  | some m :: r, n => by
    unfold carryGo
    split
    · have := carryGo_len rk r m
      simp only [List.length_cons]
      omega
    · have := carryGo_len rk r n
      simp only [List.length_cons]
      omega
theorem carry_len (rk : Str → Int × Int) (l : List (Option Str)) (n : Str) : (carry rk l n).length ≤ l.length + 1 := by
  cases l with
  | nil => simp [carry]
  | cons o r =>
    cases o with
    | none => simp [carry]
    | some m =>
      have := carryGo_len rk r m
      simp only [carry, List.length_cons]
      omega
theorem came_core (k : Kd) (s : Th) (n : Str) : (k.came s n).2.es = s.es ∧ (k.came s n).2.span = s.span ∧ (k.came s n).2.part = s.part ∧ (k.came s n).2.time = s.time ∧ (k.came s n).2.deed = s.deed ∧ (k.came s n).2.places = s.places := by
  cases k with
  | book => exact ⟨rfl, rfl, rfl, rfl, rfl, rfl⟩
  | shelf =>
    unfold Kd.came
    dsimp only
    split
    · exact ⟨rfl, rfl, rfl, rfl, rfl, rfl⟩
    · split
      · exact gone_core .shelf s (weakest s) "crowded"
      · exact ⟨rfl, rfl, rfl, rfl, rfl, rfl⟩
  | row =>
    unfold Kd.came
    dsimp only
    split <;> exact ⟨rfl, rfl, rfl, rfl, rfl, rfl⟩
theorem Slack.le {s : Th} {d e : Nat} (h : Slack s d) (he : d ≤ e) : Slack s e := ⟨Nat.le_trans h.1 he, Nat.le_trans h.2.1 he, Nat.le_trans h.2.2.1 he, Nat.le_trans h.2.2.2 he⟩
/-- the state of an ask, from one where the deed is new -/
theorem WF.cameAsk {k : Kd} {s : Th} (w : WF k s) {d : Nat} (hd : s.deed = d + 1) (sl : Slack s d) (lb : LB s d) (n : Str) {c : Int} (hc : 0 ≤ c) : WF k { (k.came s n).2 with es := putE s.es n (c, (s.deed : Int)) } := by
  have core := came_core k s n
  have hkeys := keys_putE s.es n (c, (s.deed : Int))
  have nd : ((putE s.es n (c, (s.deed : Int))).map (·.1)).Nodup := by
    rw [hkeys]
    split
    · exact w.nd
    · rename_i h
      rw [List.nodup_append]
      exact ⟨w.nd, by simp, fun a ha b hb => by rw [List.mem_singleton.mp hb]; exact fun q => h (q ▸ ha)⟩
  have hmem : ∀ e ∈ putE s.es n (c, (s.deed : Int)), e = (n, c, (s.deed : Int)) ∨ (e ∈ s.es ∧ e.1 ≠ n) := by
    intro e he
    unfold putE at he
    split at he
    · obtain ⟨a, ha, rfl⟩ := List.mem_map.mp he
      by_cases q : a.1 = n
      · left; simp only [q, if_true]
      · right; simp only [q, if_false]; exact ⟨ha, q⟩
    · rename_i hn
      rcases List.mem_append.mp he with h | h
      · right
        refine ⟨h, fun q => hn ?_⟩
        rw [List.any_eq_true]
        exact ⟨e, h, decide_eq_true q⟩
      · left; exact List.mem_singleton.mp h
  have hlsd : ((putE s.es n (c, (s.deed : Int))).map fun e => e.2.2).Nodup := by
    have hnew : ∀ e ∈ s.es, e.2.2 ≠ (s.deed : Int) := fun e he => by have := lb e he; omega
    unfold putE
    split
    · rw [List.map_map]
      have h1 := w.ls
      have h2 := w.nd
      have : ∀ l : List Ent, (l.map (·.1)).Nodup → (l.map fun e => e.2.2).Nodup → (∀ e ∈ l, e.2.2 ≠ (s.deed : Int)) → (l.map ((fun e : Ent => e.2.2) ∘ fun e => if e.1 = n then (e.1, c, (s.deed : Int)) else e)).Nodup := by
        intro l
        induction l with
        | nil => intro _ _ _; exact List.nodup_nil
        | cons a l ih =>
          intro h2 h1 h3
          rw [List.map_cons, List.nodup_cons] at h1 h2 ⊢
          refine ⟨fun q => ?_, ih h2.2 h1.2 fun e he => h3 e (List.mem_cons_of_mem _ he)⟩
          obtain ⟨b, hb, e⟩ := List.mem_map.mp q
          simp only [Function.comp] at e
          by_cases qa : a.1 = n
          · by_cases qb : b.1 = n
            · exact h2.1 (List.mem_map.mpr ⟨b, hb, qb.trans qa.symm⟩)
            · rw [if_pos qa, if_neg qb] at e
              exact h3 b (List.mem_cons_of_mem _ hb) e
          · by_cases qb : b.1 = n
            · rw [if_neg qa, if_pos qb] at e
              exact h3 a List.mem_cons_self e.symm
            · rw [if_neg qa, if_neg qb] at e
              exact h1.1 (List.mem_map.mpr ⟨b, hb, e⟩)
      exact this s.es h2 h1 hnew
    · rw [List.map_append, List.nodup_append]
      refine ⟨w.ls, by simp, fun a ha b hb => ?_⟩
      obtain ⟨e, he, rfl⟩ := List.mem_map.mp ha
      rw [show b = (s.deed : Int) from List.mem_singleton.mp hb]
      exact hnew e he
  have hlen : (putE s.es n (c, (s.deed : Int))).length ≤ d + 1 := by
    have h1 := sl.1
    unfold putE
    split
    · rw [List.length_map]; omega
    · rw [List.length_append, List.length_singleton]; omega
  have hin : ∀ m, m ∈ s.es.map (·.1) ∨ m = n → m ∈ (putE s.es n (c, (s.deed : Int))).map (·.1) := by
    intro m hm
    rw [hkeys]
    split
    · rename_i h
      rcases hm with h1 | rfl
      · exact h1
      · exact h
    · rcases hm with h1 | rfl
      · exact List.mem_append_left _ h1
      · exact List.mem_append_right _ List.mem_cons_self
  have hcn : ∀ e ∈ putE s.es n (c, (s.deed : Int)), 0 ≤ e.2.1 := fun e he => by
    rcases hmem e he with rfl | ⟨h, _⟩
    · exact hc
    · exact w.cn e h
  have hlr : ∀ e ∈ putE s.es n (c, (s.deed : Int)), e.2.2 ≤ (s.deed : Int) := fun e he => by
    rcases hmem e he with rfl | ⟨h, _⟩
    · exact Int.le_refl _
    · exact w.lr e h
  obtain ⟨_, sl2, sl3, sl4⟩ := sl
  cases k with
  | book => exact { w with nd := nd, cn := hcn, ls := hlsd, lr := hlr, sz := by rw [← hd] at hlen; exact hlen, sin := fun m hm => hin m (.inl (w.sin m hm)), lin := fun m hm => hin m (.inl (w.lin m hm)) }
  | shelf =>
    have hr := w.kr (by decide)
    by_cases hn : n ∈ s.st
    · have e1 : Kd.came .shelf s n = (.bl true, s) := by unfold Kd.came; dsimp only; rw [if_pos hn]
      rw [e1]
      exact { w with nd := nd, cn := hcn, ls := hlsd, lr := hlr, sz := by rw [← hd] at hlen; exact hlen, sin := fun m hm => hin m (.inl (w.sin m hm)), lin := fun m hm => hin m (.inl (w.lin m hm)) }
    · have e1 : (Kd.came .shelf s n).2 = { (if (s.st.length : Int) = s.places then (Kd.gone .shelf s (weakest s) "crowded").2 else s) with st := (if (s.st.length : Int) = s.places then (Kd.gone .shelf s (weakest s) "crowded").2 else s).st ++ [n] } := by
        unfold Kd.came; dsimp only; rw [if_neg hn]
      rw [e1]
      have w1 : WF .shelf (if (s.st.length : Int) = s.places then (Kd.gone .shelf s (weakest s) "crowded").2 else s) := by
        split
        · exact w.gone _ _
        · exact w
      have sl1 : Slack (if (s.st.length : Int) = s.places then (Kd.gone .shelf s (weakest s) "crowded").2 else s) d := by
        split
        · exact Slack.gone (k := .shelf) ⟨‹_›, sl2, sl3, sl4⟩ _ _
        · exact ⟨‹_›, sl2, sl3, sl4⟩
      have hsub : ∀ m, m ∈ (if (s.st.length : Int) = s.places then (Kd.gone .shelf s (weakest s) "crowded").2 else s).st → m ∈ s.st := by
        intro m
        split
        · exact (gone_mem w).1
        · exact id
      have hco : (if (s.st.length : Int) = s.places then (Kd.gone .shelf s (weakest s) "crowded").2 else s).es = s.es ∧ (if (s.st.length : Int) = s.places then (Kd.gone .shelf s (weakest s) "crowded").2 else s).deed = s.deed := by
        split
        · have := gone_core .shelf s (weakest s) "crowded"
          exact ⟨this.1, this.2.2.2.2.1⟩
        · exact ⟨rfl, rfl⟩
      generalize (if (s.st.length : Int) = s.places then (Kd.gone .shelf s (weakest s) "crowded").2 else s) = s1 at w1 sl1 hsub hco
      refine { w1 with kb := fun h => absurd rfl h, nd := nd, cn := hcn, ls := hlsd, lr := ?_, sz := ?_, snd := ?_, sin := ?_, ssz := ?_, lin := ?_ }
      · show ∀ e ∈ putE s.es n (c, (s.deed : Int)), e.2.2 ≤ (s1.deed : Int)
        rw [hco.2]; exact hlr
      · show (putE s.es n (c, (s.deed : Int))).length ≤ s1.deed
        have := hco.2
        omega
      · show (s1.st ++ [n]).Nodup
        rw [List.nodup_append]
        exact ⟨w1.snd, by simp, fun a ha b hb => by rw [List.mem_singleton.mp hb]; exact fun q => hn (q ▸ hsub a ha)⟩
      · intro m hm
        rcases List.mem_append.mp (show m ∈ s1.st ++ [n] from hm) with h | h
        · exact hin m (.inl (w.sin m (hsub m h)))
        · exact hin m (.inr (List.mem_singleton.mp h))
      · show (s1.st ++ [n]).length + s1.went.length ≤ s1.deed
        have := sl1.2.1
        rw [hco.2, hd, List.length_append, List.length_singleton]
        omega
      · intro m hm
        have := (w1.kr (by decide)).1
        rw [show s1.laid = [] from this] at hm
        cases hm
  | row =>
    have hb := w.kb (by decide)
    have key : ∀ (l : List (Option Str)) (o : Option Int), (l.filterMap id).Nodup → n ∉ l.filterMap id → (∀ m, m ∈ l.filterMap id → m ∈ s.es.map (·.1)) → l.length ≤ d → WF .row { s with depths := s.depths ++ [o], laid := trim (carry (rankE s.es) l n), es := putE s.es n (c, (s.deed : Int)) } := by
      intro l o h1 h2 h3 h4
      have hp : ((trim (carry (rankE s.es) l n)).filterMap id).Perm (n :: l.filterMap id) := by
        rw [trim_map]; exact carry_perm _ _ _
      refine { w with kr := fun h => absurd rfl h, nd := nd, cn := hcn, ls := hlsd, lr := hlr, sz := by rw [← hd] at hlen; exact hlen, sin := fun m hm => hin m (.inl (w.sin m hm)), lin := fun m hm => ?_, lnd := ?_, lsz := ?_, dsz := ?_ }
      · have := hp.mem_iff.mp (mem_fm.mpr hm)
        rcases List.mem_cons.mp this with q | q
        · exact hin m (.inr q)
        · exact hin m (.inl (h3 m q))
      · exact hp.nodup_iff.mpr (List.nodup_cons.mpr ⟨h2, h1⟩)
      · show (trim (carry (rankE s.es) l n)).length ≤ s.deed
        have a1 := trim_len (carry (rankE s.es) l n)
        have a2 := carry_len (rankE s.es) l n
        omega
      · show (s.depths ++ [o]).length ≤ s.deed
        rw [List.length_append, List.length_singleton]
        omega
    by_cases hn : some n ∈ s.laid
    · have e1 : (Kd.came .row s n).2 = { s with depths := s.depths ++ [some ((idx s.laid n : Int) + 1)], laid := trim (carry (rankE s.es) (takeOff s.laid n) n) } := by
        unfold Kd.came; dsimp only; rw [if_pos hn]
      rw [e1]
      have tm := takeOff_map w.lnd hn
      refine key (takeOff s.laid n) _ ?_ ?_ ?_ ?_
      · rw [tm]; exact nodup_filter _ w.lnd
      · rw [tm]; simp
      · intro m hm
        rw [tm] at hm
        exact w.lin m (mem_fm.mp (List.mem_filter.mp hm).1)
      · have : (takeOff s.laid n).length = s.laid.length := List.length_set
        omega
    · have e1 : (Kd.came .row s n).2 = { s with depths := s.depths ++ [none], laid := trim (carry (rankE s.es) s.laid n) } := by
        unfold Kd.came; dsimp only; rw [if_neg hn]
      rw [e1]
      refine key s.laid _ w.lnd (fun q => hn (mem_fm.mp q)) (fun m hm => w.lin m (mem_fm.mp hm)) ?_
      omega
theorem WF.ask {k : Kd} {s : Th} (w : WF k s) (n : Str) {c : Int} (hc : 0 ≤ c) : WF k (k.ask s n c).2 := by
  have w1 := w.next.spend 1
  have c1 := spend_core k s.next 1
  have sl : Slack (k.spend s.next 1) s.deed := Slack.spend (s := s.next) w.slack 1
  have lb : LB (k.spend s.next 1) s.deed := LB.spend (s := s.next) w.lr 1
  have cc := came_core k (k.spend s.next 1) n
  have := w1.cameAsk (d := s.deed) (by rw [c1.2.2.2.1]; rfl) sl lb n (c := cntE (k.spend s.next 1).es n + c) (by have := cntE_nn w1.cn n; omega)
  have e : putE (k.came (k.spend s.next 1) n).2.es n (cntE (k.came (k.spend s.next 1) n).2.es n + c, ((k.came (k.spend s.next 1) n).2.deed : Int)) = putE (k.spend s.next 1).es n (cntE (k.spend s.next 1).es n + c, ((k.spend s.next 1).deed : Int)) := by
    rw [cc.1, cc.2.2.2.2.1]
  unfold Kd.ask
  dsimp only
  rw [e]
  exact this
theorem WF.rest {k : Kd} {s : Th} (w : WF k s) (n : Int) : WF k (k.rest s n).2 := w.next.spend n
theorem WF.drop {k : Kd} {s : Th} (w : WF k s) (n : Str) : WF k (k.drop s n).2 := w.next.gone n _
theorem WF.inside {k : Kd} {s : Th} (w : WF k s) : ∀ n ∈ k.inside s, n ∈ s.es.map (·.1) := by
  cases k with
  | book => exact fun n h => h
  | shelf => exact w.sin
  | row => exact fun n h => w.lin n (mem_fm.mp h)
theorem ask_core (k : Kd) (s : Th) (n : Str) (c : Int) : (k.ask s n c).2.span = s.span ∧ (k.ask s n c).2.part = s.part ∧ (k.ask s n c).2.time = s.time + 1 ∧ (k.ask s n c).2.deed = s.deed + 1 ∧ (k.ask s n c).2.places = s.places := by
  have c1 := spend_core k s.next 1
  have c2 := came_core k (k.spend s.next 1) n
  exact ⟨c2.2.1.trans c1.1, c2.2.2.1.trans c1.2.1, c2.2.2.2.1.trans c1.2.2.1, c2.2.2.2.2.1.trans c1.2.2.2.1, c2.2.2.2.2.2.trans c1.2.2.2.2⟩
theorem rest_core (k : Kd) (s : Th) (n : Int) : (k.rest s n).2.span = s.span ∧ (k.rest s n).2.part = s.part ∧ (k.rest s n).2.time = s.time + n ∧ (k.rest s n).2.deed = s.deed + 1 ∧ (k.rest s n).2.places = s.places := spend_core k s.next n
theorem drop_core (k : Kd) (s : Th) (n : Str) : (k.drop s n).2.span = s.span ∧ (k.drop s n).2.part = s.part ∧ (k.drop s n).2.time = s.time ∧ (k.drop s n).2.deed = s.deed + 1 ∧ (k.drop s n).2.places = s.places := by
  have c := gone_core k s.next n "dropped"
  exact ⟨c.2.1, c.2.2.1, c.2.2.2.1, c.2.2.2.2.1, c.2.2.2.2.2⟩
/-- a new thing -/
def th0 (span part places : Int) : Th := ⟨span, part, 0, 0, [], places, [], [], [], []⟩
theorem wf0 {k : Kd} {span part places : Int} (h1 : 0 < span) (h2 : span < 10 ^ 80) (h3 : 2 ≤ part) (h4 : part < 10 ^ 80) (h5 : k = .shelf → 1 ≤ places) : WF k (th0 span part places) where
  pl := h5
  kb := fun _ => ⟨rfl, rfl⟩
  kr := fun _ => ⟨rfl, rfl⟩
  sp := h1
  sp2 := h2
  pt := h3
  pt2 := h4
  nd := List.nodup_nil
  cn := fun e he => by cases he
  ls := List.nodup_nil
  lr := fun e he => by cases he
  sz := Nat.le_refl _
  snd := List.nodup_nil
  sin := fun e he => by cases he
  ssz := Nat.le_refl _
  lin := fun e he => by cases he
  lnd := List.nodup_nil
  lsz := Nat.le_refl _
  dsz := Nat.le_refl _
end Own

/-! ### signs and names; plain Lean -/
namespace Own
open PySem L2
def GoodName (n : Str) : Prop := 1 ≤ n.length ∧ n.length ≤ 40 ∧ ∀ c ∈ n.cps.toList, 32 ≤ c ∧ c ≤ 126
def someA : Str := Str.ofString " !\"#$&'()*+,-./0123456789:;<=>?@ABCDEFGHIJKLMNOPQRSTUVWXYZ[\\]^_`"
def someB : Str := Str.ofString "abcdefghijklmnopqrstuvwxyz{|}~"
def someL : List Nat := someA.cps.toList ++ someB.cps.toList
theorem some_len : someL.length = 94 := by decide +kernel
theorem some_nd : someL.Nodup := by decide +kernel
theorem some_rg : ∀ c ∈ someL, 32 ≤ c ∧ c ≤ 126 := by decide +kernel
theorem someS_list : (someA ++ someB).cps.toList = someL := by
  show (someA.cps ++ someB.cps).toList = _
  rw [Array.toList_append]
  rfl
theorem someS_len : (someA ++ someB).length = 94 := by
  show (someA ++ someB).cps.size = 94
  rw [← Array.length_toList, someS_list, some_len]
def sg (n : Int) : Nat := someL.getD (n % 94).toNat 32
theorem sg_at (n : Int) : someL[(n % 94).toNat]? = some (sg n) := by
  have h1 := Int.emod_nonneg n (show (94 : Int) ≠ 0 by decide)
  have h2 := Int.emod_lt_of_pos n (show (0 : Int) < 94 by decide)
  have h3 : (n % 94).toNat < someL.length := by rw [some_len]; omega
  unfold sg
  rw [List.getD_eq_getElem?_getD, List.getElem?_eq_getElem h3]
  rfl
theorem sg_good (n : Int) : 32 ≤ sg n ∧ sg n ≤ 126 := some_rg _ (List.mem_of_getElem? (sg_at n))
theorem sg_inj {n m : Int} (h : sg n = sg m) : n % 94 = m % 94 := by
  have h1 := sg_at n
  have h2 := sg_at m
  rw [h] at h1
  obtain ⟨a1, b1⟩ := List.getElem?_eq_some_iff.mp h1
  obtain ⟨a2, b2⟩ := List.getElem?_eq_some_iff.mp h2
  have := (List.getElem_inj some_nd).mp (b1.trans b2.symm)
  have g1 := Int.emod_nonneg n (show (94 : Int) ≠ 0 by decide)
  have g2 := Int.emod_nonneg m (show (94 : Int) ≠ 0 by decide)
  omega
def mkS (l : List Nat) : Str := ⟨l.toArray⟩
theorem mkS_list (l : List Nat) : (mkS l).cps.toList = l := rfl
theorem mkS_len (l : List Nat) : (mkS l).length = l.length := by
  show l.toArray.size = l.length
  exact List.size_toArray
theorem mkS_inj {l m : List Nat} (h : mkS l = mkS m) : l = m := congrArg (fun s : Str => s.cps.toList) h
theorem mkS_app (l m : List Nat) : mkS l ++ mkS m = mkS (l ++ m) := by
  show (⟨l.toArray ++ m.toArray⟩ : Str) = ⟨(l ++ m).toArray⟩
  rw [List.append_toArray]
theorem join_ones (l : List Nat) : Txt.join (Str.ofString "") (l.map fun c => mkS [c]) = mkS l := by
  rw [TL.join_eq, show Str.ofString "" = mkS [] from by decide +kernel]
  induction l with
  | nil => rfl
  | cons a l ih =>
    cases l with
    | nil => rfl
    | cons b r =>
      show mkS [a] ++ mkS [] ++ Str.join (mkS []) ((b :: r).map fun c => mkS [c]) = _
      rw [ih, mkS_app, mkS_app]
      rfl
theorem cut_take (l : List Nat) (k : Nat) (h : k ≤ l.length) : cutS (mkS l) none (some (k : Int)) = mkS (l.take k) := by
  unfold cutS
  rw [mkS_len, HT.sIx_none, HT.sIx_nat, Nat.min_eq_left h, mkS_list]
  rfl
theorem cut_drop (l : List Nat) (k : Nat) (h : k ≤ l.length) : cutS (mkS l) (some (k : Int)) none = mkS (l.drop k) := by
  unfold cutS
  rw [mkS_len, HT.sIx_none, HT.sIx_nat, Nat.min_eq_left h, mkS_list]
  show mkS _ = _
  rw [List.take_of_length_le (by rw [List.length_drop]; omega)]
/-- names: so many, none twice, all good -/
structure Names (ns : List Str) (m : Nat) : Prop where
  len : ns.length = m
  nd : ns.Nodup
  good : ∀ n ∈ ns, GoodName n
/-- beginnings of one text -/
def namesA (b : List Nat) (m : Nat) : List Str := (List.range m).map fun k => mkS (b.take (1 + k))
theorem names_a {b : List Nat} {m : Nat} (hb : b.length = 40) (hm : m ≤ 40) (hc : ∀ c ∈ b, 32 ≤ c ∧ c ≤ 126) : Names (namesA b m) m where
  len := by unfold namesA; rw [List.length_map, List.length_range]
  nd := by
    unfold namesA
    rw [List.nodup_iff_pairwise_ne, List.pairwise_map]
    refine (List.nodup_range (n := m)).imp_of_mem fun {i j} hi hj hne q => hne ?_
    rw [List.mem_range] at hi hj
    have := congrArg List.length (mkS_inj q)
    rw [List.length_take, List.length_take, hb] at this
    omega
  good := by
    intro n hn
    obtain ⟨k, hk, rfl⟩ := List.mem_map.mp hn
    rw [List.mem_range] at hk
    refine ⟨?_, ?_, fun c h => hc c ?_⟩
    · rw [mkS_len, List.length_take, hb]; omega
    · rw [mkS_len, List.length_take, hb]; omega
    · rw [mkS_list] at h
      exact List.mem_of_mem_take h
/-- alike but at one place -/
def namesB (b : List Nat) (at_ : Nat) (f : Nat → Nat) (m : Nat) : List Str := (List.range m).map fun k => mkS (b.take at_ ++ [f k] ++ b.drop (at_ + 1))
theorem names_b {b : List Nat} {at_ m : Nat} {f : Nat → Nat} (hb : at_ < b.length) (h40 : b.length ≤ 40) (hc : ∀ c ∈ b, 32 ≤ c ∧ c ≤ 126) (hf : ∀ k, 32 ≤ f k ∧ f k ≤ 126) (inj : ∀ i j, i < m → j < m → f i = f j → i = j) : Names (namesB b at_ f m) m where
  len := by unfold namesB; rw [List.length_map, List.length_range]
  nd := by
    unfold namesB
    rw [List.nodup_iff_pairwise_ne, List.pairwise_map]
    refine (List.nodup_range (n := m)).imp_of_mem fun {i j} hi hj hne q => hne ?_
    rw [List.mem_range] at hi hj
    have e := mkS_inj q
    rw [List.append_assoc, List.append_assoc] at e
    have e2 := List.append_cancel_left e
    exact inj i j hi hj (List.cons.inj e2).1
  good := by
    intro n hn
    obtain ⟨k, hk, rfl⟩ := List.mem_map.mp hn
    have hl : (mkS (b.take at_ ++ [f k] ++ b.drop (at_ + 1))).length = b.length := by
      rw [mkS_len, List.length_append, List.length_append, List.length_take, List.length_drop, List.length_singleton]
      omega
    refine ⟨by rw [hl]; omega, by rw [hl]; exact h40, fun c h => ?_⟩
    rw [mkS_list, List.mem_append, List.mem_append, List.mem_singleton] at h
    rcases h with (h | h) | h
    · exact hc c (List.mem_of_mem_take h)
    · rw [h]; exact hf k
    · exact hc c (List.mem_of_mem_drop h)
theorem Names.mem {ns : List Str} {m : Nat} (h : Names ns m) {k : Nat} (hk : k < m) : ∃ n, ns[k]? = some n ∧ n ∈ ns := by
  have hk' : k < ns.length := by rw [h.len]; exact hk
  exact ⟨ns[k], List.getElem?_eq_getElem hk', List.getElem_mem hk'⟩
/-! deeds -/
inductive Deed where
  | ask (n : Str) (w : Int)
  | drop (n : Str)
  | rest (t : Int)
def Deed.V : Deed → List V
  | .ask n w => [.str "ask", .str n, .int w]
  | .drop n => [.str "drop", .str n, .int 0]
  | .rest t => [.str "rest", .str "", .int t]
def Deed.Good (ns : List Str) : Deed → Prop
  | .ask n w => n ∈ ns ∧ 1 ≤ w ∧ w ≤ 1000000000000000000000000000000
  | .drop n => n ∈ ns
  | .rest t => 0 ≤ t ∧ t ≤ 1000000000000000000000000000000
def Deed.steps : Deed → Int
  | .ask _ _ => 1
  | .drop _ => 0
  | .rest t => t
/-- the answer and the thing behind a deed -/
def Kd.act (k : Kd) (s : Th) : Deed → L2.V × Th
  | .ask n w => k.ask s n w
  | .drop n => (.bl (k.drop s n).1, (k.drop s n).2)
  | .rest t => (.int (k.rest s t).1, (k.rest s t).2)
theorem WF.act {k : Kd} {s : Th} (w : WF k s) {ns : List Str} {d : Deed} (h : d.Good ns) : WF k (k.act s d).2 := by
  cases d with
  | ask n c => exact w.ask n (by have := h.2.1; omega)
  | drop n => exact w.drop n
  | rest t => exact w.rest t
theorem act_core (k : Kd) (s : Th) (d : Deed) : (k.act s d).2.span = s.span ∧ (k.act s d).2.part = s.part ∧ (k.act s d).2.time = s.time + d.steps ∧ (k.act s d).2.deed = s.deed + 1 ∧ (k.act s d).2.places = s.places := by
  cases d with
  | ask n c => exact ask_core k s n c
  | drop n =>
    have := drop_core k s n
    refine ⟨this.1, this.2.1, ?_, this.2.2.2⟩
    show _ = s.time + 0
    rw [Int.add_zero]
    exact this.2.2.1
  | rest t => exact rest_core k s t
end Own

namespace Own
open PySem L2 PyProof.Rows Evl OwnS
/-! ### Evl, more: own lemmas and the tactic walk_at "ev" -/
section
variable {K : PySem.W.Frag} {σ : L2.St} {H H' : Hp} {t u : TT} {ta tb te : TE} {x y z v : V} {D : Ends} {tu tw tz : TS}
theorem ev_isi {t u : Value} {c : V} {b : Bool} (ha : Ev ta σ H x) (hb : Ev tb σ H c) (hc : ClsV c u) (ht : ∀ H1, Ex H H1 → TyX K H1 x t) (hk : PySem.W.kitOne K t u = some b) :
    Ev (tCB (rIsi K) (tCons ta (tCons tb tNil))) σ H (.bl b) := fun H1 e Q q =>
  ha H1 e _ fun H2 e2 => hb H2 (e.trans e2) _ fun H3 e3 => ⟨x, c, t, u, b, rfl, hc, ht H3 ((e.trans e2).trans e3), hk, q H3 (e2.trans e3)⟩
theorem isi_int_int {i : Int} : PySem.W.kitOne K (.type "int") (.type "int") = some true := kit_ty (by decide +kernel)
theorem isi_int_bool {i : Int} : PySem.W.kitOne K (.type "int") (.type "bool") = some false := kit_ty (by decide +kernel)
/-- isinstance(n, int), isinstance(n, bool) of an int -/
theorem ev_isInt {i : Int} (ha : Ev ta σ H (.int i)) : Ev (tCB (rIsi K) (tCons ta (tCons (tC (.ty "int")) tNil))) σ H (.bl true) := ev_isi ha ev_c (.ty _) (fun _ _ => .base (.int _)) (kit_ty (by decide +kernel))
theorem ev_isBoolI {i : Int} (ha : Ev ta σ H (.int i)) : Ev (tCB (rIsi K) (tCons ta (tCons (tC (.ty "bool")) tNil))) σ H (.bl false) := ev_isi ha ev_c (.ty _) (fun _ _ => .base (.int _)) (kit_ty (by decide +kernel))
theorem ev_isIntB {b : Bool} (ha : Ev ta σ H (.bl b)) : Ev (tCB (rIsi K) (tCons ta (tCons (tC (.ty "int")) tNil))) σ H (.bl true) := ev_isi ha ev_c (.ty _) (fun _ _ => .base (.bl _)) (kit_ty (by decide +kernel))
theorem ev_isBoolB {b : Bool} (ha : Ev ta σ H (.bl b)) : Ev (tCB (rIsi K) (tCons ta (tCons (tC (.ty "bool")) tNil))) σ H (.bl true) := ev_isi ha ev_c (.ty _) (fun _ _ => .base (.bl _)) (kit_ty (by decide +kernel))
/-- name = an int: a letter for it -/
theorem q_asgZ {i : Nat} {n : Int} (h : Ev te σ H (.int n)) (k : ∀ H1, Ex H H1 → ∀ z, z = n → tz D (σ.set i (some (.int z))) H1) : tSeq (tAsg te (gName i)) tz D σ H := q_asg h fun H1 e => k H1 e n rfl
/-- if c: name = an int -/
theorem q_ifZ {b : Bool} {i : Nat} {n m : Int} (hold : σ.set i (some (.int n)) = σ) (h : EvT t σ H b) (h1 : Ev te σ H (.int m)) (k : ∀ H1, Ex H H1 → ∀ z, (b = true → z = m) → (b = false → z = n) → tz D (σ.set i (some (.int z))) H1) : tSeq (tIfS t (tAsg te (gName i)) tNext) tz D σ H :=
  q_when h (fun hb H1 e1 => s_asg (D := { D with nx := tz D }) (h1.mono e1) fun H2 e2 => k H2 (e1.trans e2) m (fun _ => rfl) (fun q => by rw [hb] at q; cases q)) (fun hb H1 e1 => by
    have g := k H1 e1 n (fun q => by rw [hb] at q; cases q) (fun _ => rfl)
    rw [hold] at g
    exact g)
theorem ev_callI {sp : Sp} {dvs vs : List V} {E : XK} {ta : TA} {w : V} (h : EvA ta σ H vs) (hs : SpV sp (vs ++ dvs) H w) : Ev (tCall sp dvs E ta) σ H w := ev_call h hs
theorem spv_of {sp : Sp} {vs : List V} {w : V} (h : ∀ (H1 : Hp) (Q : VK) (E : XK), Ex H H1 → RetV w H1 Q → sp vs H1 Q E) : SpV sp vs H w := fun H1 e Q q E => h H1 Q E e q
/-- a call without defaults -/
theorem ev_call0 {sp : Sp} {vs : List V} {E : XK} {ta : TA} {w : V} (h : EvA ta σ H vs) (hs : SpV sp vs H w) : Ev (tCall sp [] E ta) σ H w := ev_call h (by rw [List.append_nil]; exact hs)
/-- what evaluates to some value of which P holds (P may speak of the heap behind it) -/
def EvP (te : TE) (σ : L2.St) (H : Hp) (P : V → Hp → Prop) : Prop := ∀ H1, Ex H H1 → ∀ Q : VK, (∀ v H2, Ex H1 H2 → P v H2 → Q v H2) → te σ H1 Q
def SpP (sp : Sp) (vs : List V) (H : Hp) (P : V → Hp → Prop) : Prop := ∀ H1, Ex H H1 → ∀ Q : VK, (∀ v H2, Ex H1 H2 → P v H2 → Q v H2) → ∀ E : XK, sp vs H1 Q E
def RetP (P : V → Hp → Prop) (H : Hp) (Q : VK) : Prop := ∀ v H2, Ex H H2 → P v H2 → Q v H2
theorem ev_callP {sp : Sp} {vs : List V} {E : XK} {ta : TA} {P : V → Hp → Prop} (h : EvA ta σ H vs) (hs : SpP sp vs H P) : EvP (tCall sp [] E ta) σ H P := fun H1 e Q q =>
  h H1 e _ fun H2 e2 => by
    rw [List.append_nil]
    exact hs H2 (e.trans e2) Q (fun v H3 e3 p => q v H3 (e2.trans e3) p) E
theorem q_asgP {i : Nat} {P : V → Hp → Prop} (h : EvP te σ H P) (k : ∀ v H1, Ex H H1 → P v H1 → tz D (σ.set i (some v)) H1) : tSeq (tAsg te (gName i)) tz D σ H := h H (Ex.refl H) _ fun v H1 e p => k v H1 e p
theorem s_retP {P : V → Hp → Prop} (h : EvP te σ H P) (k : ∀ v H1, Ex H H1 → P v H1 → D.rt v H1) : tRet te D σ H := h H (Ex.refl H) _ fun v H1 e p => k v H1 e p
theorem dec_i {i j : Int} : decide (V.int i = V.int j) = decide (i = j) := by
  by_cases h : i = j
  · rw [h, decide_eq_true rfl, decide_eq_true rfl]
  · rw [decide_eq_false h, decide_eq_false (fun q => h (V.int.inj q))]
/-- and, or where the first value decides -/
theorem ev_and0 (h1 : Ev ta σ H (.bl false)) : Ev (tAndV ta tb) σ H (.bl false) := ev_andV (b := false) h1 (fun q => nomatch q)
theorem ev_and1 {b : Bool} (h1 : Ev ta σ H (.bl true)) (h2 : Ev tb σ H (.bl b)) : Ev (tAndV ta tb) σ H (.bl b) := ev_is (ev_andV h1 fun _ => h2) rfl
end
def Pos9 (j : Int) : Prop := 0 < j ∧ j < 10 ^ 80
theorem Pos9.d {i j : Int} (h : Pos9 j) : CDivW i j := wide_div (b := 300) h.1 (by have h1 := h.1; have h2 := h.2; omega) (by decide) (by decide)
theorem pos9 {i j : Int} (h : 0 < j) (h2 : j < 10 ^ 80) : CDivW i j := Pos9.d ⟨h, h2⟩
/-- a condition of arithmetic -/
local macro_rules | `(tactic| walk_at "side") => `(tactic| first
  | assumption
  | (show _ ∧ _; omega)
  | (apply pos9 <;> omega)
  | (show (0 : Int) < _; omega)
  | (show _ ∨ _; omega)
  | decide
  | omega)
local macro_rules | `(tactic| walk_at "fn") => `(tactic| fail "no fn")
local macro_rules | `(tactic| walk_at "ev") => `(tactic| first
  | ((with_reducible apply ev_var) ; exact rfl)
  | with_reducible exact ev_c
  | ((with_reducible apply ev_op) <;> walk_at "ev")
  | with_reducible exact rv_I0
  | ((with_reducible apply rv_I) ; walk_at "side")
  | ((with_reducible apply rv_eq) ; rfl)
  | ((with_reducible apply rv_ne) ; rfl)
  | ((with_reducible apply ev_isInt) ; walk_at "ev")
  | ((with_reducible apply ev_isBoolI) ; walk_at "ev")
  | ((with_reducible apply ev_isIntB) ; walk_at "ev")
  | ((with_reducible apply ev_isBoolB) ; walk_at "ev")
  | ((with_reducible apply ev_notV) ; walk_at "ev")
  | ((with_reducible apply et_test) ; walk_at "ev")
  | ((with_reducible apply et_B) ; walk_at "ev")
  | ((with_reducible apply et_not) ; walk_at "ev")
  | with_reducible exact ea_nil
  | ((with_reducible apply ea_cons) <;> walk_at "ev")
  | ((with_reducible apply ev_call0) <;> walk_at "ev")
  | ((with_reducible show SpV _ _ _ _); walk_at "fn"))

/-! ### Evl, further: fields, dicts, methods, walks -/
section
variable {K : PySem.W.Frag} {σ : L2.St} {H H' : Hp} {t u : TT} {ta tb te tx td ty tv : TE} {x y z v : V} {D : Ends} {tu tw tz : TS}
/-- all that is no list is as it was -/
def Nl (H H' : Hp) : Prop := ∀ b o, H b = some o → (∀ xs, o ≠ .lst xs) → H' b = some o
theorem Nl.of (e : Ex H H') : Nl H H' := fun b o h _ => e b o h
theorem Nl.trans {H1 H2 H3 : Hp} (a : Nl H1 H2) (b : Nl H2 H3) : Nl H1 H3 := fun c o h n => b c o (a c o h n) n
theorem Nl.upd {H : Hp} {p : Addr} {xs : List V} {o : HO} (h : H p = some (.lst xs)) : Nl H (upd H p o) := fun b u e n => by
  have : b ≠ p := fun q => by rw [q, h] at e; cases e; exact n _ rfl
  rw [upd_ne this]
  exact e
theorem Nl.new {H : Hp} {p : Addr} {o : HO} (h : H p = none) : Nl H (L2.upd H p o) := Nl.of (Ex.new h)
theorem Nl.sqT {a : Addr} {xs : List V} (e : Nl H H') (h : SqT K H a xs) : SqT K H' a xs := by
  rcases h with (h | ⟨o, h⟩) | h
  · exact .inl (.inl (e _ _ h fun _ q => by cases q))
  · exact .inl (.inr ⟨o, e _ _ h fun _ q => by cases q⟩)
  · exact .inr h
/-! fields -/
theorem ev_fld {p C dx : Addr} {fs : List (Str × V)} {f : Str} (h : Ev te σ H (.ref p)) (ho : H p = some (.ins C dx fs)) (hc : Cls K C) (hn : NoAttr K C f) (hl : fs.lookup f = some v) : Ev (tFld K te f) σ H v := fun H1 e Q q =>
  h H1 e _ fun H2 e2 => ⟨p, C, dx, fs, v, rfl, e2 p _ (e p _ ho), hc, hn, hl, q H2 e2⟩
theorem q_fldaug {p C dx : Addr} {fs : List (Str × V)} {f : Str} {rd : V → V → Hp → VK → Prop} {a b w : V} (ha : Ev ta σ H (.ref p)) (ho : H p = some (.ins C dx fs)) (hc : Cls K C) (hn : NoAttr K C f) (hl : fs.lookup f = some a) (hv : Ev tv σ H b) (hr : ∀ (H1 : Hp) (Q : VK), Q w H1 → rd a b H1 Q)
    (hz : fs.length < 1000) (k : ∀ H1, Ex H H1 → tz D σ (upd H1 p (.ins C dx (putF f w fs)))) : tSeq (sFldAug K ta tv rd f) tz D σ H := by
  refine ha H (Ex.refl H) _ fun H1 e1 => ?_
  refine ⟨p, C, dx, fs, a, rfl, e1 p _ ho, hc, hn, hl, ?_⟩
  refine hv H1 e1 _ fun H2 e2 => ?_
  exact hr H2 _ ⟨dx, fs, e2 p _ (e1 p _ ho), hz, k H2 (e1.trans e2)⟩
theorem add_rd {i j : Int} (H1 : Hp) (Q : VK) (q : Q (.int (i + j)) H1) : rAdd (.int i) (.int j) H1 Q := ⟨i, j, rfl, rfl, q⟩
theorem q_fld {p C dx : Addr} {fs : List (Str × V)} {f : Str} {w : V} (hv : Ev tv σ H w) (ha : Ev ta σ H (.ref p)) (ho : H p = some (.ins C dx fs)) (hc : Cls K C) (hn : NoAttr K C f) (hz : fs.length < 1000) (k : ∀ H1, Ex H H1 → tz D σ (upd H1 p (.ins C dx (putF f w fs)))) : tSeq (sFld K ta tv f) tz D σ H := by
  refine hv H (Ex.refl H) _ fun H1 e1 => ?_
  refine ha H1 e1 _ fun H2 e2 => ?_
  exact ⟨p, C, dx, fs, rfl, e2 p _ (e1 p _ ho), hc, hn, hz, k H2 (e1.trans e2)⟩
/-! dicts with text keys -/
theorem ev_din {d : Addr} {kvs : List (Key × V)} {n : Str} (hy : Ev ty σ H (.str n)) (hd : Ev td σ H (.ref d)) (h : H d = some (.dK kvs)) : Ev (tDIn ty td) σ H (.bl (valV kvs (Sum.inr n : Key)).isSome) := fun H1 e Q q =>
  hy H1 e _ fun H2 e2 => hd H2 (e.trans e2) _ fun H3 e3 => ⟨d, _, rfl, DGet.k (k := Sum.inr n) (((e.trans e2).trans e3) d _ h), q H3 (e2.trans e3)⟩
theorem ev_dnotin {d : Addr} {kvs : List (Key × V)} {n : Str} (hy : Ev ty σ H (.str n)) (hd : Ev td σ H (.ref d)) (h : H d = some (.dK kvs)) : Ev (tDNotIn ty td) σ H (.bl (!(valV kvs (Sum.inr n : Key)).isSome)) := fun H1 e Q q =>
  hy H1 e _ fun H2 e2 => hd H2 (e.trans e2) _ fun H3 e3 => ⟨d, _, rfl, DGet.k (k := Sum.inr n) (((e.trans e2).trans e3) d _ h), q H3 (e2.trans e3)⟩
theorem ev_dget {d : Addr} {kvs : List (Key × V)} {n : Str} (hd : Ev td σ H (.ref d)) (hy : Ev ty σ H (.str n)) (h : H d = some (.dK kvs)) (hv : valV kvs (Sum.inr n : Key) = some v) : Ev (tDGet td ty) σ H v := fun H1 e Q q =>
  hd H1 e _ fun H2 e2 => hy H2 (e.trans e2) _ fun H3 e3 => ⟨d, v, rfl, by rw [← hv]; exact DGet.k (k := Sum.inr n) (((e.trans e2).trans e3) d _ h), q H3 (e2.trans e3)⟩
theorem ev_dget1 {d : Addr} {kvs : List (Key × V)} {n : Str} (hd : Ev td σ H (.ref d)) (hy : Ev ty σ H (.str n)) (h : H d = some (.dK kvs)) : Ev (tDGet1 td ty) σ H ((valV kvs (Sum.inr n : Key)).getD .non) := fun H1 e Q q =>
  hd H1 e _ fun H2 e2 => ⟨d, rfl, .inl ⟨kvs, .inl (e2 d _ (e d _ h))⟩, hy H2 (e.trans e2) _ fun H3 e3 => ⟨_, DGet.k (k := Sum.inr n) (((e.trans e2).trans e3) d _ h), q H3 (e2.trans e3)⟩⟩
theorem ev_dget2 {d : Addr} {kvs : List (Key × V)} {n : Str} (hd : Ev td σ H (.ref d)) (hy : Ev ty σ H (.str n)) (hx : Ev tx σ H x) (h : H d = some (.dK kvs)) : Ev (tDGet2 td ty tx) σ H ((valV kvs (Sum.inr n : Key)).getD x) := fun H1 e Q q =>
  hd H1 e _ fun H2 e2 => ⟨d, rfl, .inl ⟨kvs, .inl (e2 d _ (e d _ h))⟩, hy H2 (e.trans e2) _ fun H3 e3 => hx H3 ((e.trans e2).trans e3) _ fun H4 e4 => ⟨_, DGet.k (k := Sum.inr n) ((((e.trans e2).trans e3).trans e4) d _ h), q H4 ((e2.trans e3).trans e4)⟩⟩
theorem ev_lenD {d : Addr} {kvs : List (Key × V)} (hd : Ev td σ H (.ref d)) (h : H d = some (.dK kvs)) : Ev (tCB (fun xs H Q => ∃ a kvs, xs = [V.ref a] ∧ H a = some (.dK kvs) ∧ Q (.int kvs.length) H) (tCons td tNil)) σ H (.int kvs.length) := fun H1 e Q q =>
  hd H1 e _ fun H2 e2 => ⟨d, kvs, rfl, e2 d _ (e d _ h), q H2 e2⟩
theorem el_listD {d : Addr} {kvs : List (Key × V)} (hd : Ev td σ H (.ref d)) (h : H d = some (.dK kvs)) : EvL (tCB rListD (tCons td tNil)) σ H (kvs.map fun kv => kV kv.1) := fun H1 e Q q =>
  hd H1 e _ fun H2 e2 => ⟨d, kvs, rfl, e2 d _ (e d _ h), fun p hp => q p _ (fresh_back e2 hp) (e2.trans (Ex.new hp)) upd_same⟩
theorem q_dput {d : Addr} {kvs : List (Key × V)} {n : Str} (hv : Ev tv σ H v) (hd : Ev td σ H (.ref d)) (hy : Ev ty σ H (.str n)) (h : H d = some (.dK kvs)) (hz : kvs.length < 100000) (k : ∀ H1, Ex H H1 → tz D σ (upd H1 d (.dK (putK kvs (Sum.inr n) v)))) : tSeq (sDPut td ty tv) tz D σ H := by
  refine hv H (Ex.refl H) _ fun H1 e1 => ?_
  refine hd H1 e1 _ fun H2 e2 => ?_
  refine hy H2 (e1.trans e2) _ fun H3 e3 => ?_
  exact ⟨d, _, rfl, DPut.k (k := Sum.inr n) (((e1.trans e2).trans e3) d _ h) (sz_lt hz), k H3 ((e1.trans e2).trans e3)⟩
theorem s_dput {d : Addr} {kvs : List (Key × V)} {n : Str} (hv : Ev tv σ H v) (hd : Ev td σ H (.ref d)) (hy : Ev ty σ H (.str n)) (h : H d = some (.dK kvs)) (hz : kvs.length < 100000) (k : ∀ H1, Ex H H1 → D.nx σ (upd H1 d (.dK (putK kvs (Sum.inr n) v)))) : sDPut td ty tv D σ H :=
  q_dput (D := D) (tz := fun _ σ H => D.nx σ H) hv hd hy h hz k
/-- d.pop(n) as a statement -/
theorem q_dpop {d : Addr} {kvs : List (Key × V)} {n : Str} (hd : Ev td σ H (.ref d)) (hy : Ev ty σ H (.str n)) (h : H d = some (.dK kvs)) (hv : valV kvs (Sum.inr n : Key) = some v) (k : ∀ H1, Ex H H1 → tz D σ (upd H1 d (.dK (dropK kvs (Sum.inr n))))) : tSeq (tDrop (tDPop1 td ty)) tz D σ H := by
  refine hd H (Ex.refl H) _ fun H1 e1 => ?_
  refine ⟨d, rfl, .inl ⟨kvs, .inl (e1 d _ h)⟩, ?_⟩
  refine hy H1 e1 _ fun H2 e2 => ?_
  exact ⟨kvs, Sum.inr n, v, (e1.trans e2) d _ h, rfl, hv, k H2 (e1.trans e2)⟩
theorem s_dpop {d : Addr} {kvs : List (Key × V)} {n : Str} (hd : Ev td σ H (.ref d)) (hy : Ev ty σ H (.str n)) (h : H d = some (.dK kvs)) (hv : valV kvs (Sum.inr n : Key) = some v) (k : ∀ H1, Ex H H1 → D.nx σ (upd H1 d (.dK (dropK kvs (Sum.inr n))))) : tDrop (tDPop1 td ty) D σ H :=
  q_dpop (D := D) (tz := fun _ σ H => D.nx σ H) hd hy h hv k
/-! calls that may change what stands: a promise's end at hand -/
/-- o.m(..): the arguments are evaluated, then the promise -/
theorem ev_methR {C p dx : Addr} {fs : List (Str × V)} {m : Str} {sp : Sp} {dvs vs : List V} {E : XK} {tr : TA} {Q : VK} (ho : Ev ta σ H (.ref p)) (hp : H p = some (.ins C dx fs)) (hm : fs.lookup m = none) (ha : EvA tr σ H vs) (k : ∀ H1, Ex H H1 → sp (.ref p :: (vs ++ dvs)) H1 Q E) : tMeth C m sp dvs E ta tr σ H Q := by
  refine ho H (Ex.refl H) _ fun H1 e1 => ?_
  refine ⟨p, dx, fs, rfl, e1 p _ hp, hm, ?_⟩
  exact ha H1 e1 _ fun H2 e2 => k H2 (e1.trans e2)
theorem ev_callR {sp : Sp} {vs dvs : List V} {E : XK} {tr : TA} {Q : VK} (ha : EvA tr σ H vs) (k : ∀ H1, Ex H H1 → sp (vs ++ dvs) H1 Q E) : tCall sp dvs E tr σ H Q := ha H (Ex.refl H) _ fun H1 e1 => k H1 e1
/-- a method whose promise is a value and an extension -/
theorem ev_meth {C p dx : Addr} {fs : List (Str × V)} {m : Str} {sp : Sp} {vs : List V} {E : XK} {tr : TA} (ho : Ev ta σ H (.ref p)) (hp : H p = some (.ins C dx fs)) (hm : fs.lookup m = none) (ha : EvA tr σ H vs) (hs : SpV sp (.ref p :: vs) H v) : Ev (tMeth C m sp [] E ta tr) σ H v := fun H1 e Q q =>
  ev_methR (ho.mono e) (e p _ hp) hm (ha.mono e) fun H2 e2 => by
    rw [List.append_nil]
    exact hs H2 (e.trans e2) Q (fun H3 e3 => q H3 (e2.trans e3)) E
theorem ev_methP {C p dx : Addr} {fs : List (Str × V)} {m : Str} {sp : Sp} {vs : List V} {E : XK} {tr : TA} {P : V → Hp → Prop} (ho : Ev ta σ H (.ref p)) (hp : H p = some (.ins C dx fs)) (hm : fs.lookup m = none) (ha : EvA tr σ H vs) (hs : SpP sp (.ref p :: vs) H P) : EvP (tMeth C m sp [] E ta tr) σ H P := fun H1 e Q q =>
  ev_methR (ho.mono e) (e p _ hp) hm (ha.mono e) fun H2 e2 => by
    rw [List.append_nil]
    exact hs H2 (e.trans e2) Q (fun v H3 e3 p => q v H3 (e2.trans e3) p) E
/-! walks -/
def EvI (wi : TI) (σ : L2.St) (H : Hp) (n : Nat) (Y : Nat → Hp → V → Hp → Prop) : Prop := ∀ H1, Ex H H1 → ∀ R, (∀ J H2, Ex H1 H2 → Walk J n (fun H' => Ex H2 H') Y → R J H2) → wi σ H1 R
theorem ei_list {a : Addr} {xs : List V} (h : Ev ta σ H (.ref a)) (hx : SqL K H a xs) : EvI (iList K ta) σ H xs.length (YAt xs) := fun H1 e R q =>
  h H1 e _ fun H2 e2 => ⟨a, rfl, ⟨xs, ex_l (e.trans e2) hx⟩, q _ H2 e2 (walk_list.mono (fun H3 e3 => ex_l e3 (ex_l (e.trans e2) hx)) fun _ _ _ _ _ _ y => y)⟩
theorem ei_listN {xs : List V} (h : EvL ta σ H xs) : EvI (iList K ta) σ H xs.length (YAt xs) := fun H1 e R q =>
  h H1 e _ fun p H2 _ e2 h2 => ⟨p, rfl, ⟨xs, sq_of h2⟩, q _ H2 e2 (walk_list.mono (fun H3 e3 => sq_of (e3 p _ h2)) fun _ _ _ _ _ _ y => y)⟩
theorem ei_range {tr : TA} {n : Int} (h : EvA tr σ H [.int n]) (hn : 0 ≤ n ∧ n ≤ 100000) : EvI (iRng1 tr) σ H n.toNat (YFn fun i => .int (i : Nat)) := fun H1 e R q =>
  h H1 e _ fun H2 e2 => ⟨n, rfl, by omega, by omega, q _ H2 e2 (walk_range.mono (fun _ _ => trivial) fun i H x H' _ _ y => ⟨y.1, y.2.trans (by show V.int (0 + (i : Int)) = V.int i; rw [Int.zero_add])⟩)⟩
theorem ei_str {z : Str} (h : Ev te σ H (.str z)) : EvI (iStr te) σ H z.cps.size (fun i H v H' => H' = H ∧ ∃ c, z.cps[i]? = some c ∧ v = .str ⟨#[c]⟩) := fun H1 e R q =>
  h H1 e _ fun H2 e2 => ⟨z, rfl, q _ H2 e2 (walk_str.mono (fun _ _ => trivial) fun _ _ _ _ _ _ y => y)⟩
theorem ei_enum {tr : TA} {a : Addr} {xs : List V} (h : EvA tr σ H [.ref a]) (hx : SqL K H a xs) : EvI (iEnum K tr) σ H xs.length (YPair (fun i => some (.int (i : Nat))) (fun i => xs[i]?)) := fun H1 e R q =>
  h H1 e _ fun H2 e2 => ⟨a, xs, rfl, ex_l (e.trans e2) hx, q _ H2 e2 (walk_enum.mono (fun H3 e3 => ex_l e3 (ex_l (e.trans e2) hx)) fun _ _ _ _ _ _ y => y)⟩
theorem ei_enumN {xs : List V} (h : EvL ta σ H xs) : EvI (iEnum K (tCons ta tNil)) σ H xs.length (YPair (fun i => some (.int (i : Nat))) (fun i => xs[i]?)) := fun H1 e R q =>
  h H1 e _ fun p H2 _ e2 h2 => ⟨p, xs, rfl, sq_of h2, q _ H2 e2 (walk_enum.mono (fun H3 e3 => sq_of (e3 p _ h2)) fun _ _ _ _ _ _ y => y)⟩
/-- a target that stores what it is given and leaves the heap -/
def GoT (g : TG) (x : V) (σ : L2.St) (H : Hp) (σ2 : L2.St) : Prop := ∀ Q : L2.St → Hp → Prop, Q σ2 H → g x σ H Q
theorem got_name {j : Nat} : GoT (gName j) x σ H (σ.set j (some x)) := fun _ q => q
theorem got_pair {i j : Nat} {T : Addr} (h : SqT K H T [x, y]) : GoT (gTup K 2 (gCons (gName i) (gCons (gName j) gNil))) (.ref T) σ H ((σ.set i (some x)).set j (some y)) := fun _ q => ⟨T, _, rfl, h, rfl, x, _, rfl, y, _, rfl, rfl, q⟩
theorem got_trip {i j l : Nat} {T : Addr} (h : SqT K H T [x, y, z]) : GoT (gTup K 3 (gCons (gName i) (gCons (gName j) (gCons (gName l) gNil)))) (.ref T) σ H (((σ.set i (some x)).set j (some y)).set l (some z)) := fun _ q => ⟨T, _, rfl, h, rfl, x, _, rfl, y, _, rfl, z, _, rfl, rfl, q⟩
/-- a new list whose items P tells -/
def EvLP (te : TE) (σ : L2.St) (H : Hp) (P : List V → Hp → Prop) : Prop := ∀ H1, Ex H H1 → ∀ Q : VK, (∀ p ys H2, H1 p = none → Ex H1 H2 → H2 p = some (.lst ys) → P ys H2 → Q (.ref p) H2) → te σ H1 Q
theorem EvLP.of {xs : List V} (h : EvL te σ H xs) : EvLP te σ H (fun ys _ => ys = xs) := fun H1 e Q q => h H1 e Q fun p H2 hp e2 h2 => q p xs H2 hp e2 h2 rfl
theorem EvLP.val {P : List V → Hp → Prop} (h : EvLP te σ H P) : EvP te σ H (fun v H' => ∃ p ys, v = .ref p ∧ H' p = some (.lst ys) ∧ P ys H') := fun H1 e Q q => h H1 e Q fun p ys H2 _ e2 h2 hp => q _ H2 e2 ⟨p, ys, rfl, h2, hp⟩
theorem q_asgLP {i : Nat} {P : List V → Hp → Prop} (h : EvLP te σ H P) (k : ∀ p ys H1, H p = none → Ex H H1 → H1 p = some (.lst ys) → P ys H1 → tz D (σ.set i (some (.ref p))) H1) : tSeq (tAsg te (gName i)) tz D σ H := h H (Ex.refl H) _ fun p ys H1 hp e h1 hP => k p ys H1 hp e h1 hP
theorem s_retLP {P : List V → Hp → Prop} (h : EvLP te σ H P) (k : ∀ p ys H1, H p = none → Ex H H1 → H1 p = some (.lst ys) → P ys H1 → D.rt (.ref p) H1) : tRet te D σ H := h H (Ex.refl H) _ fun p ys H1 hp e h1 hP => k p ys H1 hp e h1 hP
theorem paired_snoc {α β : Type} {F : α → β → Prop} {a : α} {b : β} (r : F a b) : ∀ {l : List α} {m : List β}, Paired F l m → Paired F (l ++ [a]) (m ++ [b])
  | _, _, .nil => .cons r .nil
  | _, _, .cons r' t => .cons r' (paired_snoc r t)
/-- a comprehension: which turns give (f), and what of each (P) -/
theorem elp_lc {wi : TI} {n : Nat} {Y : Nat → Hp → V → Hp → Prop} {g : TG} {vs : List Nat} (f : Nat → Bool) (P : Nat → V → Hp → Prop) (hI : EvI wi σ H n Y) (hz : n ≤ 40000)
    (up : ∀ i v H1 H2, P i v H1 → Nl H1 H2 → P i v H2)
    (ht : ∀ i H1 x H2, i < n → Ex H H1 → Y i H1 x H2 → Ex H1 H2 ∧ ∃ σ2, GoT g x (wipe σ vs) H2 σ2 ∧ wipe σ2 vs = wipe σ vs ∧ EvT t σ2 H2 (f i) ∧ (f i = true → EvP te σ2 H2 (P i))) :
    EvLP (tLc wi g t te vs) σ H (fun ys H' => Paired (fun i y => P i y H') ((List.range n).filter f) ys) := fun H0 e Q q => hI H0 e _ fun J H1 e1 w => fun Dl hD => by
  have hD0 : H0 Dl = none := fresh_back e1 hD
  refine lc_it w (fun i H' => Ex H1 H' ∧ ∃ ys, H' Dl = some (.lst ys) ∧ ys.length ≤ i ∧ Paired (fun j y => P j y H') ((List.range i).filter f) ys) ⟨Ex.new hD, [], upd_same, Nat.le_refl _, .nil⟩ (fun i H' _ p => p.1) ?_ fun H' p => ?_
  · rintro i x H2 H3 hi ⟨ex, ys, hl, hlen, hp⟩ hy
    obtain ⟨e3, σ2, hg, hw, hf, he⟩ := ht i H2 x H3 hi (e.trans (e1.trans ex)) hy
    refine hg _ ⟨hw, ?_⟩
    refine hf H3 (Ex.refl _) _ fun H4 e4 => ?_
    have r1 : (List.range (i + 1)).filter f = (List.range i).filter f ++ (if f i = true then [i] else []) := by
      rw [List.range_succ, List.filter_append, List.filter_cons]
      rfl
    cases hb : f i with
    | true =>
      show te σ2 H4 fun y H4 => ∃ acc, H4 Dl = some (.lst acc) ∧ acc.length < sizeLine ∧ _
      refine he hb H4 e4 _ fun y H5 e5 py => ?_
      have hl5 := e5 Dl _ (e4 Dl _ (e3 Dl _ hl))
      have nl : Nl H5 (upd H5 Dl (.lst (ys ++ [y]))) := Nl.upd hl5
      refine ⟨ys, hl5, sz_lt (by omega), Ex.mut (((ex.trans e3).trans e4).trans e5) hD, ys ++ [y], upd_same, by rw [List.length_append, List.length_singleton]; omega, ?_⟩
      rw [r1, if_pos hb]
      have hp' : Paired (fun j z => P j z (upd H5 Dl (.lst (ys ++ [y])))) ((List.range i).filter f) ys := L2.Paired.mapP hp fun j v h => up j v _ _ h ((Nl.of ((e3.trans e4).trans e5)).trans nl)
      exact paired_snoc (F := fun j z => P j z (upd H5 Dl (.lst (ys ++ [y])))) (up _ _ _ _ py nl) hp'
    | false =>
      show Ex H1 H4 ∧ _
      refine ⟨(ex.trans e3).trans e4, ys, e4 Dl _ (e3 Dl _ hl), by omega, ?_⟩
      rw [r1, if_neg (by rw [hb]; decide), List.append_nil]
      exact L2.Paired.mapP hp fun j v h => up j v _ _ h (Nl.of (e3.trans e4))
  · obtain ⟨ex, ys, hl, _, hp⟩ := p
    exact q Dl ys H' hD0 (e1.trans ex) hl hp
/-- .. all turns give, flat values -/
theorem el_lc {wi : TI} {n : Nat} {Y : Nat → Hp → V → Hp → Prop} {g : TG} {vs : List Nat} (v : Nat → V) (hI : EvI wi σ H n Y) (hz : n ≤ 40000)
    (ht : ∀ i H1 x H2, i < n → Ex H H1 → Y i H1 x H2 → Ex H1 H2 ∧ ∃ σ2, GoT g x (wipe σ vs) H2 σ2 ∧ wipe σ2 vs = wipe σ vs ∧ Ev te σ2 H2 (v i)) :
    EvL (tLc wi g tYes te vs) σ H ((List.range n).map v) := fun H1 e Q q =>
  elp_lc (t := tYes) (fun _ => true) (fun i y _ => y = v i) hI hz (fun _ _ _ _ h _ => h) (fun i H1 x H2 hi e hy => by
    obtain ⟨e2, σ2, hg, hw, hv⟩ := ht i H1 x H2 hi e hy
    exact ⟨e2, σ2, hg, hw, fun H3 _ Q q => q H3 (Ex.refl _), fun _ H3 e3 Q q => hv H3 e3 Q fun H4 e4 => q _ H4 e4 rfl⟩) H1 e Q fun p ys H2 hp e2 h2 hP => by
    have : ys = (List.range n).map v := by
      have hf : (List.range n).filter (fun _ => true) = List.range n := List.filter_eq_self.mpr fun _ _ => rfl
      rw [hf] at hP
      clear h2
      generalize List.range n = l at hP ⊢
      induction hP with
      | nil => rfl
      | cons r _ ih => rw [List.map_cons, ← ih, r]
    rw [this] at h2
    exact q p H2 hp e2 h2
/-- any, all of a new list of bools -/
theorem ev_any {bs : List Bool} (h : EvL te σ H (bs.map V.bl)) : Ev (tCB (rAny K) (tCons te tNil)) σ H (.bl (bs.any id)) := fun H1 e Q q =>
  h H1 e _ fun p H2 _ e2 h2 => ⟨p, bs, rfl, sq_of h2, q H2 e2⟩
theorem ev_all {bs : List Bool} (h : EvL te σ H (bs.map V.bl)) : Ev (tCB (rAll K) (tCons te tNil)) σ H (.bl (bs.all id)) := fun H1 e Q q =>
  h H1 e _ fun p H2 _ e2 h2 => ⟨p, bs, rfl, sq_of h2, q H2 e2⟩
/-- a comprehension of bools -/
theorem el_lcB {wi : TI} {n : Nat} {Y : Nat → Hp → V → Hp → Prop} {g : TG} {vs : List Nat} (v : Nat → Bool) (hI : EvI wi σ H n Y) (hz : n ≤ 40000)
    (ht : ∀ i H1 x H2, i < n → Ex H H1 → Y i H1 x H2 → Ex H1 H2 ∧ ∃ σ2, GoT g x (wipe σ vs) H2 σ2 ∧ wipe σ2 vs = wipe σ vs ∧ Ev te σ2 H2 (.bl (v i))) :
    EvL (tLc wi g tYes te vs) σ H (((List.range n).map v).map V.bl) := by
  rw [List.map_map]
  exact el_lc (fun i => V.bl (v i)) hI hz ht
end

end Own
namespace Own
open PySem L2 PyProof.Rows Evl OwnS
/-! ### more for Evl: sorted, min by a method; methods as statements -/
section
variable {X : Cx} {σ : L2.St} {H H' : Hp} {ta tb te tx : TE} {D : Ends} {tz : TS}
theorem EvLP.toL {P : List V → Hp → Prop} {xs : List V} (h : EvLP te σ H P) (he : ∀ ys H', P ys H' → ys = xs) : EvL te σ H xs := fun H1 e Q q => h H1 e Q fun p ys H2 hp e2 h2 hP => by
  have := he ys H2 hP
  subst this
  exact q p H2 hp e2 h2
theorem elp_sortF {κ : Type} {kd : KeyKd X κ} {g p l C dx : Addr} {fs : List (Str × V)} {m : Str} {sp : Sp} {xs : List V} {kf : V → κ} (hx : Ev tx σ H (.ref l)) (hs : SrcV X.K H l xs) (ho : Ev ta σ H (.ref p)) (hp : H p = some (.ins C dx fs)) (hm : fs.lookup m = none)
    (hsp : ∀ x ∈ xs, SpP sp [.ref p, x] H (fun v H2 => kd.KV (kf x) v H2)) :
    EvLP (tCKw (rSortF X.K kd g sp) (tCons tx tNil) (tCons (tBound X.K C g m ta) tNil)) σ H (fun ys _ => ys.Perm xs ∧ ys.Pairwise (fun x y => kd.lt (kf y) (kf x) = false)) := fun H1 e Q q =>
  hx H1 e _ fun H2 e2 => ho H2 (e.trans e2) _ fun H3 e3 => ⟨p, dx, fs, rfl, ((e.trans e2).trans e3) p _ hp, hm, fun b hb => by
    have E3 := (e.trans e2).trans e3
    have E4 : Ex H3 (upd H3 b (.met g p)) := Ex.new hb
    refine ⟨l, b, p, xs, kf, rfl, rfl, upd_same, ?_, fun x hx' H4 e4 Q' q' => hsp x hx' H4 (E3.trans (E4.trans e4)) Q' q' E0, fun ys r H4 hp1 hp2 e4 hr hl => q r ys H4 (fresh_back ((e2.trans e3).trans E4) hr) (((e2.trans e3).trans E4).trans e4) hl ⟨hp1, hp2⟩⟩
    rcases hs with hs | ⟨kvs, hs, hk⟩
    · exact .inl (ex_l (E3.trans E4) hs)
    · exact .inr ⟨kvs, E4 _ _ (E3 _ _ hs), hk⟩⟩
theorem elp_sortFN {κ : Type} {kd : KeyKd X κ} {g p C dx : Addr} {fs : List (Str × V)} {m : Str} {sp : Sp} {xs : List V} {kf : V → κ} (hx : EvL tx σ H xs) (ho : Ev ta σ H (.ref p)) (hp : H p = some (.ins C dx fs)) (hm : fs.lookup m = none)
    (hsp : ∀ x ∈ xs, SpP sp [.ref p, x] H (fun v H2 => kd.KV (kf x) v H2)) :
    EvLP (tCKw (rSortF X.K kd g sp) (tCons tx tNil) (tCons (tBound X.K C g m ta) tNil)) σ H (fun ys _ => ys.Perm xs ∧ ys.Pairwise (fun x y => kd.lt (kf y) (kf x) = false)) := fun H1 e Q q =>
  hx H1 e _ fun l H2 hl0 e2 hl => ho H2 (e.trans e2) _ fun H3 e3 => ⟨p, dx, fs, rfl, ((e.trans e2).trans e3) p _ hp, hm, fun b hb => by
    have E3 := (e.trans e2).trans e3
    have E4 : Ex H3 (upd H3 b (.met g p)) := Ex.new hb
    exact ⟨l, b, p, xs, kf, rfl, rfl, upd_same, .inl (sq_of (E4 _ _ (e3 _ _ hl))), fun x hx' H4 e4 Q' q' => hsp x hx' H4 (E3.trans (E4.trans e4)) Q' q' E0, fun ys r H4 hp1 hp2 e4 hr hl => q r ys H4 (fresh_back ((e2.trans e3).trans E4) hr) (((e2.trans e3).trans E4).trans e4) hl ⟨hp1, hp2⟩⟩⟩
theorem evp_minF {g p C dx : Addr} {fs : List (Str × V)} {m : Str} {sp : Sp} {xs : List V} {kf : V → Int × Int} (hx : EvL tx σ H xs) (hne : xs ≠ []) (ho : Ev ta σ H (.ref p)) (hp : H p = some (.ins C dx fs)) (hm : fs.lookup m = none)
    (hsp : ∀ x ∈ xs, SpP sp [.ref p, x] H (fun v H2 => (kdPair X).KV (kf x) v H2)) :
    EvP (tCKw (rMinF (X := X) X.K g sp) (tCons tx tNil) (tCons (tBound X.K C g m ta) tNil)) σ H (fun v _ => v ∈ xs ∧ ∀ y ∈ xs, SrtO.lexB (kf y) (kf v) = false) := fun H1 e Q q =>
  hx H1 e _ fun l H2 hl0 e2 hl => ho H2 (e.trans e2) _ fun H3 e3 => ⟨p, dx, fs, rfl, ((e.trans e2).trans e3) p _ hp, hm, fun b hb => by
    have E3 := (e.trans e2).trans e3
    have E4 : Ex H3 (upd H3 b (.met g p)) := Ex.new hb
    exact ⟨l, b, p, xs, kf, rfl, rfl, upd_same, E4 _ _ (e3 _ _ hl), hne, fun x hx' H4 e4 Q' q' => hsp x hx' H4 (E3.trans (E4.trans e4)) Q' q' E0, fun x H4 h1 h2 e4 => q x H4 (((e2.trans e3).trans E4).trans e4) ⟨h1, h2⟩⟩⟩
/-- a method called as a statement, its value kept, returned -/
theorem q_dropM {C p dx : Addr} {fs : List (Str × V)} {m : Str} {sp : Sp} {vs : List V} {E : XK} {tr : TA} (ho : Ev ta σ H (.ref p)) (hp : H p = some (.ins C dx fs)) (hm : fs.lookup m = none) (ha : EvA tr σ H vs) (k : ∀ H1, Ex H H1 → sp (.ref p :: vs) H1 (fun _ H2 => tz D σ H2) E) :
    tSeq (tDrop (tMeth C m sp [] E ta tr)) tz D σ H := ev_methR (Q := fun _ H2 => tz D σ H2) ho hp hm ha fun H1 e => by rw [List.append_nil]; exact k H1 e
theorem q_asgM {i : Nat} {C p dx : Addr} {fs : List (Str × V)} {m : Str} {sp : Sp} {vs : List V} {E : XK} {tr : TA} (ho : Ev ta σ H (.ref p)) (hp : H p = some (.ins C dx fs)) (hm : fs.lookup m = none) (ha : EvA tr σ H vs) (k : ∀ H1, Ex H H1 → sp (.ref p :: vs) H1 (fun v H2 => tz D (σ.set i (some v)) H2) E) :
    tSeq (tAsg (tMeth C m sp [] E ta tr) (gName i)) tz D σ H := ev_methR (Q := fun v H2 => tz D (σ.set i (some v)) H2) ho hp hm ha fun H1 e => by rw [List.append_nil]; exact k H1 e
theorem s_retM {C p dx : Addr} {fs : List (Str × V)} {m : Str} {sp : Sp} {vs : List V} {E : XK} {tr : TA} (ho : Ev ta σ H (.ref p)) (hp : H p = some (.ins C dx fs)) (hm : fs.lookup m = none) (ha : EvA tr σ H vs) (k : ∀ H1, Ex H H1 → sp (.ref p :: vs) H1 D.rt E) :
    tRet (tMeth C m sp [] E ta tr) D σ H := ev_methR (Q := D.rt) ho hp hm ha fun H1 e => by rw [List.append_nil]; exact k H1 e
theorem s_dropM {C p dx : Addr} {fs : List (Str × V)} {m : Str} {sp : Sp} {vs : List V} {E : XK} {tr : TA} (ho : Ev ta σ H (.ref p)) (hp : H p = some (.ins C dx fs)) (hm : fs.lookup m = none) (ha : EvA tr σ H vs) (k : ∀ H1, Ex H H1 → sp (.ref p :: vs) H1 (fun _ H2 => D.nx σ H2) E) :
    tDrop (tMeth C m sp [] E ta tr) D σ H := q_dropM (D := D) (tz := fun _ σ H => D.nx σ H) ho hp hm ha k
/-- Base.__init__(self, ..) as a statement -/
theorem q_dropCls {C : Addr} {sp : Sp} {vs : List V} {E : XK} {tr : TA} (ha : EvA tr σ H vs) (k : ∀ H1, Ex H H1 → sp vs H1 (fun _ H2 => tz D σ H2) E) : tSeq (tDrop (tClsCall C sp [] E (tC (.ref C)) tr)) tz D σ H :=
  ⟨rfl, ha H (Ex.refl H) _ fun H2 e2 => by
    rw [List.append_nil]
    exact k H2 e2⟩
/-- a method that hands back a new list -/
theorem el_meth {C p dx : Addr} {fs : List (Str × V)} {m : Str} {sp : Sp} {vs xs : List V} {E : XK} {tr : TA} (ho : Ev ta σ H (.ref p)) (hp : H p = some (.ins C dx fs)) (hm : fs.lookup m = none) (ha : EvA tr σ H vs) (hs : SpL sp (.ref p :: vs) H xs) : EvL (tMeth C m sp [] E ta tr) σ H xs := fun H1 e Q q =>
  ev_methR (ho.mono e) (e p _ hp) hm (ha.mono e) fun H2 e2 => by
    rw [List.append_nil]
    exact hs H2 (e.trans e2) Q (fun l H3 hl e3 h3 => q l H3 (fresh_back e2 hl) (e2.trans e3) h3) E
theorem s_forNLn {K : PySem.W.Frag} {tu : TS} {xs : List V} {tl : TE} {j : Nat} (h : EvL tl σ H xs) (Pv : Addr → Nat → L2.St → Hp → Prop) (h0 : ∀ p H1, H p = none → Ex H H1 → H1 p = some (.lst xs) → Pv p 0 σ H1) (hl : ∀ p i σ' H', i ≤ xs.length → Pv p i σ' H' → SqL K H' p xs)
    (hs : ∀ p i x σ' H', xs[i]? = some x → Pv p i σ' H' → tu { D with nx := Pv p (i + 1), ct := Pv p (i + 1), bk := D.nx } (σ'.set j (some x)) H') (hd : ∀ p σ' H', Pv p xs.length σ' H' → D.nx σ' H') : tFor (iList K tl) (gName j) tu D σ H :=
  s_forNL h Pv h0 hl hs hd
theorem s_drop0 {v : V} (h : Ev te σ H v) (k : ∀ H1, Ex H H1 → tz D σ H1) : tSeq (tDrop te) tz D σ H := q_drop h k
end
section
variable {K : PySem.W.Frag} {σ : L2.St} {H H' : Hp} {ta tb te tx tv : TE} {D : Ends} {tz : TS}
/-- o.f = {} -/
theorem q_fldNew {p C dx : Addr} {fs : List (Str × V)} {f : Str} (ha : Ev ta σ H (.ref p)) (ho : H p = some (.ins C dx fs)) (hc : Cls K C) (hn : NoAttr K C f) (hz : fs.length < 1000) (k : ∀ d H1, H d = none → Ex H H1 → H1 d = some (.dK []) → tz D σ (upd H1 p (.ins C dx (putF f (.ref d) fs)))) : tSeq (sFld K ta tDNewK f) tz D σ H :=
  fun d hd => ha (upd H d _) (Ex.new hd) _ fun H2 e2 => ⟨p, C, dx, fs, rfl, e2 p _ (Ex.new hd p _ ho), hc, hn, hz, k d H2 hd ((Ex.new hd).trans e2) (e2 d _ upd_same)⟩
theorem s_fldNew {p C dx : Addr} {fs : List (Str × V)} {f : Str} (ha : Ev ta σ H (.ref p)) (ho : H p = some (.ins C dx fs)) (hc : Cls K C) (hn : NoAttr K C f) (hz : fs.length < 1000) (k : ∀ d H1, H d = none → Ex H H1 → H1 d = some (.dK []) → D.nx σ (upd H1 p (.ins C dx (putF f (.ref d) fs)))) : sFld K ta tDNewK f D σ H :=
  q_fldNew (D := D) (tz := fun _ σ H => D.nx σ H) ha ho hc hn hz k
/-- o.f = a new list -/
theorem q_fldL {p C dx : Addr} {fs : List (Str × V)} {f : Str} {xs : List V} (hv : EvL tv σ H xs) (ha : Ev ta σ H (.ref p)) (ho : H p = some (.ins C dx fs)) (hc : Cls K C) (hn : NoAttr K C f) (hz : fs.length < 1000) (k : ∀ d H1, H d = none → Ex H H1 → H1 d = some (.lst xs) → tz D σ (upd H1 p (.ins C dx (putF f (.ref d) fs)))) : tSeq (sFld K ta tv f) tz D σ H :=
  hv H (Ex.refl H) _ fun d H1 hd e1 h1 => ha H1 e1 _ fun H2 e2 => ⟨p, C, dx, fs, rfl, e2 p _ (e1 p _ ho), hc, hn, hz, k d H2 hd (e1.trans e2) (e2 d _ h1)⟩
theorem s_fldL {p C dx : Addr} {fs : List (Str × V)} {f : Str} {xs : List V} (hv : EvL tv σ H xs) (ha : Ev ta σ H (.ref p)) (ho : H p = some (.ins C dx fs)) (hc : Cls K C) (hn : NoAttr K C f) (hz : fs.length < 1000) (k : ∀ d H1, H d = none → Ex H H1 → H1 d = some (.lst xs) → D.nx σ (upd H1 p (.ins C dx (putF f (.ref d) fs)))) : sFld K ta tv f D σ H :=
  q_fldL (D := D) (tz := fun _ σ H => D.nx σ H) hv ha ho hc hn hz k
end
/-- the rule for a def with defaults from which no exception leaves -/
theorem okN {P : Program} {w : World} {K : PySem.W.Frag} {mg : Str → Option Value} {base : Heap} {x qual : Str} {params : Arguments} {body : List Stmt} {scope : Scope} {dvs : List V} {kws : List (Str × V)} {f : Addr} {fd : FuncData}
    {N ps : List Str} {k : Nat} {sp : Sp} (F : FunD K x qual params body scope dvs kws f fd) (S : FnScope N ps scope) (len : ∀ vs H Q E, sp vs H Q E → vs.length = ps.length)
    (hbody : ∀ (cdv : Value) (A : Around) (outer : List Env) (s : Shared) (H : Hp) (vs : List V) (Q : VK) (E : XK), Room k (A.deeper (envOfC qual scope s.heap.objs.size f cdv)) → sp vs H Q E →
      ∃ t, PSs (cxOf CX0 P w K mg base N qual scope f cdv A outer s H E).nox body t ∧ t { nx := fun _ H' => Q .non H', rt := Q } (L2.start N vs) H) : FnOk P w K mg base CX0 (k + 1) f fd ps sp :=
  F.ok S len fun cdv A outer s H vs Q E hr hsp => by
    obtain ⟨t, h, q⟩ := hbody cdv A outer s H vs Q E hr hsp
    exact ⟨t, h.nox, q⟩
end Own

/-! ### what stands in the heap for a book, a shelf, a row -/
namespace Own
open PySem L2 PyProof.Rows Evl OwnS
structure Ad where
  p : Addr
  dx : Addr
  c : Addr
  l : Addr
  x1 : Addr
  x2 : Addr
def flds (k : Kd) (ad : Ad) (s : Th) : List (Str × V) :=
  ("span", .int s.span) :: ("part", .int s.part) :: ("time", .int s.time) :: ("deed", .int (s.deed : Int)) :: ("counts", .ref ad.c) :: ("lasts", .ref ad.l) ::
  (match k with
    | .book => []
    | .shelf => [("places", .int s.places), ("standing", .ref ad.x1), ("went", .ref ad.x2)]
    | .row => [("laid", .ref ad.x1), ("depths", .ref ad.x2)])
def own (k : Kd) (ad : Ad) : List Addr := match k with
  | .book => [ad.p, ad.c, ad.l]
  | _ => [ad.p, ad.c, ad.l, ad.x1, ad.x2]
def stV (st : List Str) : List (Key × V) := st.map fun n => (Sum.inr n, V.bl true)
def oV : Option Str → V
  | some n => .str n
  | none => .non
def oI : Option Int → V
  | some i => .int i
  | none => .non
def gV (g : Going) : List V := [.int g.deed, .str g.name, .str g.reason, .int g.count, .int g.last]
def X1 (k : Kd) (ad : Ad) (H : Hp) (s : Th) : Prop := match k with
  | .book => True
  | .shelf => H ad.x1 = some (.dK (stV s.st)) ∧ ad.x1 ≠ ad.c ∧ ad.x1 ≠ ad.l
  | .row => H ad.x1 = some (.lst (s.laid.map oV))
def X2 (k : Kd) (ad : Ad) (H : Hp) (s : Th) : Prop := match k with
  | .book => True
  | .shelf => ∃ ts : List Addr, H ad.x2 = some (.lst (ts.map V.ref)) ∧ Paired (fun t g => H t = some (.tup (gV g))) ts s.went
  | .row => H ad.x2 = some (.lst (s.depths.map oI)) ∧ ad.x1 ≠ ad.x2
structure At (k : Kd) (C : Addr) (ad : Ad) (H : Hp) (s : Th) : Prop where
  ob : H ad.p = some (.ins C ad.dx (flds k ad s))
  ct : H ad.c = some (.dK (dOf cV s.es))
  ls : H ad.l = some (.dK (dOf lV s.es))
  cl : ad.c ≠ ad.l
  x1 : X1 k ad H s
  x2 : X2 k ad H s
/-- all that is not the thing's own is as it was -/
def Kp (k : Kd) (ad : Ad) (H H' : Hp) : Prop := ∀ b o, H b = some o → b ∉ own k ad → H' b = some o
theorem Kp.refl {k : Kd} {ad : Ad} {H : Hp} : Kp k ad H H := fun _ _ h _ => h
theorem Kp.trans {k : Kd} {ad : Ad} {H H1 H2 : Hp} (a : Kp k ad H H1) (b : Kp k ad H1 H2) : Kp k ad H H2 := fun c o h n => b c o (a c o h n) n
theorem Kp.ex {k : Kd} {ad : Ad} {H H1 : Hp} (e : Ex H H1) : Kp k ad H H1 := fun c o h _ => e c o h
theorem Kp.upd {k : Kd} {ad : Ad} {H : Hp} {b : Addr} {o : HO} (hb : b ∈ own k ad) : Kp k ad H (upd H b o) := fun c u h n => by
  rw [upd_ne (fun q => n (by rw [q]; exact hb))]
  exact h
section
variable {k : Kd} {C : Addr} {ad : Ad} {H H' : Hp} {s : Th}
theorem own_p : ad.p ∈ own k ad := by cases k <;> simp [own]
theorem own_c : ad.c ∈ own k ad := by cases k <;> simp [own]
theorem own_l : ad.l ∈ own k ad := by cases k <;> simp [own]
theorem own_x1 (h : k ≠ .book) : ad.x1 ∈ own k ad := by cases k <;> simp [own] at h ⊢
theorem own_x2 (h : k ≠ .book) : ad.x2 ∈ own k ad := by cases k <;> simp [own] at h ⊢
/-- carried over by what keeps the own things and the tuples -/
theorem At.keep (A : At k C ad H s) (h : ∀ b o, H b = some o → (b ∈ own k ad ∨ ∃ xs, o = .tup xs) → H' b = some o) : At k C ad H' s where
  ob := h _ _ A.ob (.inl own_p)
  ct := h _ _ A.ct (.inl own_c)
  ls := h _ _ A.ls (.inl own_l)
  cl := A.cl
  x1 := by
    have := A.x1
    cases k with
    | book => trivial
    | shelf => exact ⟨h _ _ this.1 (.inl (own_x1 (by decide))), this.2⟩
    | row => exact h _ _ this (.inl (own_x1 (by decide)))
  x2 := by
    have := A.x2
    cases k with
    | book => trivial
    | shelf =>
      obtain ⟨ts, h1, h2⟩ := this
      exact ⟨ts, h _ _ h1 (.inl (own_x2 (by decide))), L2.Paired.mapP h2 fun t g e => h _ _ e (.inr ⟨_, rfl⟩)⟩
    | row => exact ⟨h _ _ this.1 (.inl (own_x2 (by decide))), this.2⟩
theorem At.ex (A : At k C ad H s) (e : Ex H H') : At k C ad H' s := A.keep fun b o h _ => e b o h
/-- none of the own things is a tuple -/
theorem At.noTup (A : At k C ad H s) {b : Addr} (hb : b ∈ own k ad) : ∃ o, H b = some o ∧ ∀ xs, o ≠ .tup xs := by
  have h1 := A.x1
  have h2 := A.x2
  cases k with
  | book =>
    simp only [own, List.mem_cons, List.not_mem_nil, or_false] at hb
    rcases hb with rfl | rfl | rfl
    · exact ⟨_, A.ob, fun _ q => by cases q⟩
    · exact ⟨_, A.ct, fun _ q => by cases q⟩
    · exact ⟨_, A.ls, fun _ q => by cases q⟩
  | shelf =>
    obtain ⟨ts, h3, _⟩ := h2
    simp only [own, List.mem_cons, List.not_mem_nil, or_false] at hb
    rcases hb with rfl | rfl | rfl | rfl | rfl
    · exact ⟨_, A.ob, fun _ q => by cases q⟩
    · exact ⟨_, A.ct, fun _ q => by cases q⟩
    · exact ⟨_, A.ls, fun _ q => by cases q⟩
    · exact ⟨_, h1.1, fun _ q => by cases q⟩
    · exact ⟨_, h3, fun _ q => by cases q⟩
  | row =>
    simp only [own, List.mem_cons, List.not_mem_nil, or_false] at hb
    rcases hb with rfl | rfl | rfl | rfl | rfl
    · exact ⟨_, A.ob, fun _ q => by cases q⟩
    · exact ⟨_, A.ct, fun _ q => by cases q⟩
    · exact ⟨_, A.ls, fun _ q => by cases q⟩
    · exact ⟨_, h1, fun _ q => by cases q⟩
    · exact ⟨_, h2.1, fun _ q => by cases q⟩
/-- another thing is as it was -/
theorem At.other {k2 : Kd} {C2 : Addr} {ad2 : Ad} {s2 : Th} (A : At k C ad H s) (B : At k2 C2 ad2 H s2) (hk : Kp k2 ad2 H H') (hd : ∀ b ∈ own k ad, b ∉ own k2 ad2) : At k C ad H' s := A.keep fun b o h hb => by
  refine hk b o h ?_
  rcases hb with hb | ⟨xs, rfl⟩
  · exact hd b hb
  · intro q
    obtain ⟨o, h1, h2⟩ := B.noTup q
    rw [h] at h1
    exact h2 xs (Option.some.inj h1).symm
theorem At.pc (A : At k C ad H s) : ad.p ≠ ad.c := ne_of A.ob A.ct (by intro q; cases q)
theorem At.pl (A : At k C ad H s) : ad.p ≠ ad.l := ne_of A.ob A.ls (by intro q; cases q)
theorem x1_upd {b : Addr} {o : HO} (h : X1 k ad H s) (hb : k ≠ .book → b ≠ ad.x1) : X1 k ad (upd H b o) s := by
  cases k with
  | book => trivial
  | shelf => exact ⟨by rw [upd_ne (hb (by decide)).symm]; exact h.1, h.2⟩
  | row => exact (upd_ne (hb (by decide)).symm).trans h
theorem x2_upd {b : Addr} {o : HO} (h : X2 k ad H s) (hb : k ≠ .book → b ≠ ad.x2) (ht : ∀ xs, H b ≠ some (.tup xs)) : X2 k ad (upd H b o) s := by
  cases k with
  | book => trivial
  | shelf =>
    obtain ⟨ts, h1, h2⟩ := h
    exact ⟨ts, by rw [upd_ne (hb (by decide)).symm]; exact h1, L2.Paired.mapP h2 fun t g e => by rw [upd_ne (fun q => ht _ (by rw [← q]; exact e))]; exact e⟩
  | row => exact ⟨(upd_ne (hb (by decide)).symm).trans h.1, h.2⟩
theorem At.px1 (A : At k C ad H s) (hk : k ≠ .book) : ad.p ≠ ad.x1 := by
  have h := A.x1
  cases k with
  | book => exact absurd rfl hk
  | shelf => exact ne_of A.ob h.1 (by intro q; cases q)
  | row => exact ne_of A.ob h (by intro q; cases q)
theorem At.px2 (A : At k C ad H s) (hk : k ≠ .book) : ad.p ≠ ad.x2 := by
  have h := A.x2
  cases k with
  | book => exact absurd rfl hk
  | shelf => obtain ⟨ts, h1, _⟩ := h; exact ne_of A.ob h1 (by intro q; cases q)
  | row => exact ne_of A.ob h.1 (by intro q; cases q)
theorem At.cx1 (A : At k C ad H s) (hk : k ≠ .book) : ad.c ≠ ad.x1 := by
  have h := A.x1
  cases k with
  | book => exact absurd rfl hk
  | shelf => exact h.2.1.symm
  | row => exact ne_of A.ct h (by intro q; cases q)
theorem At.lx1 (A : At k C ad H s) (hk : k ≠ .book) : ad.l ≠ ad.x1 := by
  have h := A.x1
  cases k with
  | book => exact absurd rfl hk
  | shelf => exact h.2.2.symm
  | row => exact ne_of A.ls h (by intro q; cases q)
theorem At.cx2 (A : At k C ad H s) (hk : k ≠ .book) : ad.c ≠ ad.x2 := by
  have h := A.x2
  cases k with
  | book => exact absurd rfl hk
  | shelf => obtain ⟨ts, h1, _⟩ := h; exact ne_of A.ct h1 (by intro q; cases q)
  | row => exact ne_of A.ct h.1 (by intro q; cases q)
theorem At.lx2 (A : At k C ad H s) (hk : k ≠ .book) : ad.l ≠ ad.x2 := by
  have h := A.x2
  cases k with
  | book => exact absurd rfl hk
  | shelf => obtain ⟨ts, h1, _⟩ := h; exact ne_of A.ls h1 (by intro q; cases q)
  | row => exact ne_of A.ls h.1 (by intro q; cases q)
theorem noTup_of {b : Addr} {o : HO} (h : H b = some o) (n : ∀ xs, o ≠ .tup xs) : ∀ xs, H b ≠ some (.tup xs) := fun xs q => by
  rw [h] at q
  exact n xs (Option.some.inj q)
/-- the instance's own attributes are stored -/
theorem At.upP {s2 : Th} {fs : List (Str × V)} (A : At k C ad H s) (e : fs = flds k ad s2) (h1 : s2.es = s.es) (h2 : s2.st = s.st) (h3 : s2.went = s.went) (h4 : s2.laid = s.laid) (h5 : s2.depths = s.depths) : At k C ad (upd H ad.p (.ins C ad.dx fs)) s2 where
  ob := by rw [e]; exact upd_same
  ct := by rw [upd_ne A.pc.symm, h1]; exact A.ct
  ls := by rw [upd_ne A.pl.symm, h1]; exact A.ls
  cl := A.cl
  x1 := by
    have := x1_upd (b := ad.p) (o := .ins C ad.dx fs) A.x1 fun h => A.px1 h
    cases k with
    | book => trivial
    | shelf => rw [show X1 .shelf ad _ s2 = (_ ∧ _) from rfl, h2]; exact this
    | row => rw [show X1 .row ad _ s2 = (_ = _) from rfl, h4]; exact this
  x2 := by
    have := x2_upd (b := ad.p) (o := .ins C ad.dx fs) A.x2 (fun h => A.px2 h) (noTup_of A.ob fun _ q => by cases q)
    cases k with
    | book => trivial
    | shelf => rw [show X2 .shelf ad _ s2 = (∃ ts, _ ∧ _) from rfl, h3]; exact this
    | row => rw [show X2 .row ad _ s2 = (_ ∧ _) from rfl, h5]; exact this
/-- both tables are stored -/
theorem At.upE {es : List Ent} (A : At k C ad H s) : At k C ad (upd (upd H ad.c (.dK (dOf cV es))) ad.l (.dK (dOf lV es))) { s with es := es } where
  ob := by rw [upd_ne A.pl, upd_ne A.pc]; exact A.ob
  ct := by rw [upd_ne A.cl]; exact upd_same
  ls := upd_same
  cl := A.cl
  x1 := x1_upd (k := k) (s := { s with es := es }) (x1_upd (k := k) (s := { s with es := es }) A.x1 fun h => A.cx1 h) fun h => A.lx1 h
  x2 := x2_upd (k := k) (s := { s with es := es }) (x2_upd (k := k) (s := { s with es := es }) A.x2 (fun h => A.cx2 h) (noTup_of A.ct fun _ q => by cases q)) (fun h => A.lx2 h) (noTup_of (by rw [upd_ne A.cl.symm]; exact A.ls) fun _ q => by cases q)
theorem upd_comm {a b : Addr} {o u : HO} (h : a ≠ b) : upd (upd H a o) b u = upd (upd H b u) a o := by
  funext c
  unfold upd
  by_cases h1 : c = a
  · by_cases h2 : c = b
    · exact absurd (h1.symm.trans h2) h
    · rw [if_neg h2, if_pos h1, if_pos h1]
  · by_cases h2 : c = b
    · rw [if_pos h2, if_neg h1, if_pos h2]
    · rw [if_neg h2, if_neg h1, if_neg h1, if_neg h2]
/-- the counts alone -/
theorem At.upC {es : List Ent} (A : At k C ad H s) (hl : dOf lV es = dOf lV s.es) : At k C ad (upd H ad.c (.dK (dOf cV es))) { s with es := es } where
  ob := by rw [upd_ne A.pc]; exact A.ob
  ct := upd_same
  ls := by rw [upd_ne A.cl.symm, hl]; exact A.ls
  cl := A.cl
  x1 := x1_upd (k := k) (s := { s with es := es }) A.x1 fun h => A.cx1 h
  x2 := x2_upd (k := k) (s := { s with es := es }) A.x2 (fun h => A.cx2 h) (noTup_of A.ct fun _ q => by cases q)
/-! the attributes by name -/
theorem fl_span : (flds k ad s).lookup ("span" : Str) = some (.int s.span) := by cases k <;> kernel_rfl
theorem fl_part : (flds k ad s).lookup ("part" : Str) = some (.int s.part) := by cases k <;> kernel_rfl
theorem fl_time : (flds k ad s).lookup ("time" : Str) = some (.int s.time) := by cases k <;> kernel_rfl
theorem fl_deed : (flds k ad s).lookup ("deed" : Str) = some (.int (s.deed : Int)) := by cases k <;> kernel_rfl
theorem fl_counts : (flds k ad s).lookup ("counts" : Str) = some (.ref ad.c) := by cases k <;> kernel_rfl
theorem fl_lasts : (flds k ad s).lookup ("lasts" : Str) = some (.ref ad.l) := by cases k <;> kernel_rfl
theorem fl_places : (flds .shelf ad s).lookup ("places" : Str) = some (.int s.places) := by kernel_rfl
theorem fl_standing : (flds .shelf ad s).lookup ("standing" : Str) = some (.ref ad.x1) := by kernel_rfl
theorem fl_went : (flds .shelf ad s).lookup ("went" : Str) = some (.ref ad.x2) := by kernel_rfl
theorem fl_laid : (flds .row ad s).lookup ("laid" : Str) = some (.ref ad.x1) := by kernel_rfl
theorem fl_depths : (flds .row ad s).lookup ("depths" : Str) = some (.ref ad.x2) := by kernel_rfl
theorem fl_putTime (z : Int) : putF "time" (.int z) (flds k ad s) = flds k ad { s with time := z } := by cases k <;> kernel_rfl
theorem fl_putDeed (z : Nat) : putF "deed" (.int (z : Int)) (flds k ad s) = flds k ad { s with deed := z } := by cases k <;> kernel_rfl
theorem fl_len : (flds k ad s).length < 1000 := by cases k <;> simp [flds]
end
/-- both tables, from any heap where they stand so -/
theorem At.upE2 {k : Kd} {C : Addr} {ad : Ad} {H : Hp} {s : Th} {es : List Ent} (A : At k C ad H s) {c l : List (Key × V)} (hc : c = dOf cV es) (hl : l = dOf lV es) : At k C ad (upd (upd H ad.c (.dK c)) ad.l (.dK l)) { s with es := es } := by
  rw [hc, hl]
  exact A.upE
/-- the counts, then the lasts, stored one behind the other -/
theorem At.upE3 {k : Kd} {C : Addr} {ad : Ad} {H H' : Hp} {s : Th} {es : List Ent} (A : At k C ad H s) {c l : List (Key × V)} (e : Ex (upd H ad.c (.dK c)) H') (hc : c = dOf cV es) (hl : l = dOf lV es) : At k C ad (upd H' ad.l (.dK l)) { s with es := es } := by
  have ob : H' ad.p = some (.ins C ad.dx (flds k ad s)) := e _ _ (by rw [upd_ne A.pc]; exact A.ob)
  have ct : H' ad.c = some (.dK c) := e _ _ upd_same
  have ls : H' ad.l = some (.dK (dOf lV s.es)) := e _ _ (by rw [upd_ne A.cl.symm]; exact A.ls)
  have x1 : X1 k ad (upd H ad.c (.dK c)) { s with es := es } := x1_upd (k := k) (s := { s with es := es }) A.x1 fun h => A.cx1 h
  have x2 : X2 k ad (upd H ad.c (.dK c)) { s with es := es } := x2_upd (k := k) (s := { s with es := es }) A.x2 (fun h => A.cx2 h) (noTup_of A.ct fun _ q => by cases q)
  have x1' : X1 k ad H' { s with es := es } := by
    cases k with
    | book => trivial
    | shelf => exact ⟨e _ _ x1.1, x1.2⟩
    | row => exact e _ _ x1
  have x2' : X2 k ad H' { s with es := es } := by
    cases k with
    | book => trivial
    | shelf =>
      obtain ⟨ts, h1, h2⟩ := x2
      exact ⟨ts, e _ _ h1, L2.Paired.mapP h2 fun t g q => e _ _ q⟩
    | row => exact ⟨e _ _ x2.1, x2.2⟩
  refine ⟨by rw [upd_ne A.pl]; exact ob, by rw [upd_ne A.cl, ct, hc], by rw [hl]; exact upd_same, A.cl, x1_upd (k := k) x1' fun h => A.lx1 h, x2_upd (k := k) x2' (fun h => A.lx2 h) (noTup_of ls fun _ q => by cases q)⟩
/-! what stands on a shelf, what went -/
theorem At.upX1 {C : Addr} {ad : Ad} {H : Hp} {s : Th} {st : List Str} (A : At .shelf C ad H s) : At .shelf C ad (upd H ad.x1 (.dK (stV st))) { s with st := st } where
  ob := by rw [upd_ne (A.px1 (by decide))]; exact A.ob
  ct := by rw [upd_ne (A.cx1 (by decide))]; exact A.ct
  ls := by rw [upd_ne (A.lx1 (by decide))]; exact A.ls
  cl := A.cl
  x1 := ⟨upd_same, A.x1.2⟩
  x2 := by
    obtain ⟨ts, h1, h2⟩ := A.x2
    refine ⟨ts, ?_, L2.Paired.mapP h2 fun t g e => ?_⟩
    · rw [upd_ne (fun q => by rw [q, A.x1.1] at h1; cases h1)]; exact h1
    · rw [upd_ne (fun q => by rw [q, A.x1.1] at e; cases e)]; exact e
theorem At.upX2 {C : Addr} {ad : Ad} {H : Hp} {s : Th} {ts : List Addr} {q : Addr} {g : Going} (A : At .shelf C ad H s) (h1 : H ad.x2 = some (.lst (ts.map V.ref))) (h2 : Paired (fun t g => H t = some (.tup (gV g))) ts s.went) (hq : H q = some (.tup (gV g))) : At .shelf C ad (upd H ad.x2 (.lst (ts.map V.ref ++ [.ref q]))) { s with went := s.went ++ [g] } where
  ob := by rw [upd_ne (A.px2 (by decide))]; exact A.ob
  ct := by rw [upd_ne (A.cx2 (by decide))]; exact A.ct
  ls := by rw [upd_ne (A.lx2 (by decide))]; exact A.ls
  cl := A.cl
  x1 := ⟨by rw [upd_ne (fun q => by have := A.x1.1; rw [q, h1] at this; cases this)]; exact A.x1.1, A.x1.2⟩
  x2 := by
    refine ⟨ts ++ [q], by rw [upd_same, List.map_append]; rfl, ?_⟩
    refine paired_snoc (F := fun t g => (upd H ad.x2 (.lst (ts.map V.ref ++ [.ref q]))) t = some (.tup (gV g))) ?_ (L2.Paired.mapP h2 fun t g e => ?_)
    · rw [upd_ne (fun r => by rw [r, h1] at hq; cases hq)]; exact hq
    · rw [upd_ne (fun r => by rw [r, h1] at e; cases e)]; exact e
theorem val_st (n : Str) : ∀ st : List Str, valV (stV st) (Sum.inr n : Key) = if n ∈ st then some (V.bl true) else none
  | [] => by rw [if_neg (by simp)]; rfl
  | m :: r => by
    by_cases h : m = n
    · rw [show stV (m :: r) = (Sum.inr m, V.bl true) :: stV r from rfl, valV_pos (p := (Sum.inr m, V.bl true)) (by rw [h]), if_pos (by rw [h]; exact List.mem_cons_self)]
    · rw [show stV (m :: r) = (Sum.inr m, V.bl true) :: stV r from rfl, valV_neg (p := (Sum.inr m, V.bl true)) (fun q => h (Sum.inr.inj q)), val_st n r]
      by_cases h2 : n ∈ r
      · rw [if_pos h2, if_pos (List.mem_cons_of_mem _ h2)]
      · rw [if_neg h2, if_neg (fun q => (List.mem_cons.mp q).elim (fun e => h e.symm) h2)]
theorem val_st_some (n : Str) (st : List Str) : (valV (stV st) (Sum.inr n : Key)).isSome = decide (n ∈ st) := by
  rw [val_st]
  by_cases h : n ∈ st
  · rw [if_pos h, decide_eq_true h]; rfl
  · rw [if_neg h, decide_eq_false h]; rfl
theorem drop_st (n : Str) (st : List Str) : dropK (stV st) (Sum.inr n : Key) = stV (st.filter fun m => decide (m ≠ n)) := by
  unfold dropK stV
  rw [List.filter_map]
  congr 1
  apply List.filter_congr
  intro m _
  by_cases h : m = n <;> simp [h]
theorem put_st {n : Str} {st : List Str} (h : n ∉ st) : putK (stV st) (Sum.inr n : Key) (V.bl true) = stV (st ++ [n]) := by
  unfold putK
  have : ((stV st).any fun kv => decide (kv.1 = (Sum.inr n : Key))) = false := by
    rw [List.any_eq_false]
    intro kv hkv
    obtain ⟨m, hm, rfl⟩ := List.mem_map.mp hkv
    simp only [decide_eq_true_eq]
    exact fun q => h (by rw [← Sum.inr.inj q]; exact hm)
  rw [this, if_neg (by decide)]
  unfold stV
  rw [List.map_append]
  rfl
end Own

/-! ### Evl, more: data compared, kinds of things, walks that change the heap -/
namespace Own
open PySem L2 PyProof.Rows Evl OwnS
section
variable {K : PySem.W.Frag} {σ : L2.St} {H H' : Hp} {ta tb te tx tv : TE} {D : Ends} {tz tu : TS}
mutual
theorem dp_ex (e : Ex H H') : ∀ (d : PyData) (v : V), Dp K H v d → Dp K H' v d
  | .none, _, h => by cases h; exact .non
  | .bool b, _, h => by cases h; exact .bl _
  | .int i, _, h => by cases h; exact .int _
  | .str x, _, h => by cases h; exact .str _
  | .list xs, _, h => by
    cases h with
    | lst h1 h2 => exact .lst (ex_l e h1) (dpAll_ex e xs _ h2)
  | .tuple xs, _, h => by
    cases h with
    | tup h1 h2 => exact .tup (ex_t e h1) (dpAll_ex e xs _ h2)
  | .dict _, _, h => by cases h
theorem dpAll_ex (e : Ex H H') : ∀ (ds : List PyData) (vs : List V), DpAll K H vs ds → DpAll K H' vs ds
  | [], _, h => by cases h; exact .nil
  | d :: ds, _, h => by
    cases h with
    | cons h1 h2 => exact .cons (dp_ex e d _ h1) (dpAll_ex e ds _ h2)
end
/-- flat values as data -/
def fdV : V → PyData
  | .int i => .int i
  | .str s => .str s
  | .bl b => .bool b
  | _ => .none
inductive FlatV : V → Prop where
  | int (i : Int) : FlatV (.int i)
  | bl (b : Bool) : FlatV (.bl b)
  | non : FlatV .non
  | str (s : Str) (h : PyData.strOk s = true) : FlatV (.str s)
theorem FlatV.dp {v : V} (h : FlatV v) : Dp K H v (fdV v) := by cases h <;> constructor
theorem FlatV.can {v : V} (h : FlatV v) : (fdV v).canLay0 = true := by
  cases h with
  | str s h => exact h
  | _ => rfl
theorem FlatV.dep {v : V} (h : FlatV v) : (fdV v).depth = 0 := by cases h <;> rfl
theorem dpAll_flat : ∀ {xs : List V}, (∀ x ∈ xs, FlatV x) → DpAll K H xs (xs.map fdV)
  | [], _ => .nil
  | x :: xs, h => .cons (h x List.mem_cons_self).dp (dpAll_flat fun y hy => h y (List.mem_cons_of_mem _ hy))
theorem can_flat : ∀ {xs : List V}, (∀ x ∈ xs, FlatV x) → PyData.canLayAll0 (xs.map fdV) = true
  | [], _ => rfl
  | x :: xs, h => by
    rw [List.map_cons, PyData.canLayAll0, (h x List.mem_cons_self).can, can_flat fun y hy => h y (List.mem_cons_of_mem _ hy)]
    rfl
theorem dep_flat : ∀ {xs : List V}, (∀ x ∈ xs, FlatV x) → PyData.depthAll (xs.map fdV) = 0
  | [], _ => rfl
  | x :: xs, h => by
    rw [List.map_cons, PyData.depthAll, (h x List.mem_cons_self).dep, dep_flat fun y hy => h y (List.mem_cons_of_mem _ hy)]
    rfl
theorem shaped_list {xs : List V} (h : ∀ x ∈ xs, FlatV x) : SeqAt.shaped (.list (xs.map fdV)) = true := by
  unfold SeqAt.shaped
  rw [Bool.and_eq_true]
  refine ⟨can_flat h, decide_eq_true ?_⟩
  rw [PyData.depth, dep_flat h]
  decide
theorem shaped_tup {xs : List V} (h : ∀ x ∈ xs, FlatV x) : SeqAt.shaped (.tuple (xs.map fdV)) = true := by
  unfold SeqAt.shaped
  rw [Bool.and_eq_true]
  refine ⟨can_flat h, decide_eq_true ?_⟩
  rw [PyData.depth, dep_flat h]
  decide
/-- what evaluates to such data -/
def EvD (K : PySem.W.Frag) (te : TE) (σ : L2.St) (H : Hp) (d : PyData) : Prop := ∀ H1, Ex H H1 → ∀ Q : VK, (∀ v H2, Ex H1 H2 → Dp K H2 v d → Q v H2) → te σ H1 Q
theorem ed_L {xs : List V} (h : EvL te σ H xs) (hf : ∀ x ∈ xs, FlatV x) : EvD K te σ H (.list (xs.map fdV)) := fun H1 e Q q => h H1 e Q fun p H2 hp e2 h2 => q _ H2 e2 (.lst (sq_of h2) (dpAll_flat hf))
theorem ed_R {v : V} {d : PyData} (h : Ev te σ H v) (hd : Dp K H v d) : EvD K te σ H d := fun H1 e Q q => h H1 e Q fun H2 e2 => q _ H2 e2 (dp_ex (e.trans e2) d v hd)
theorem ev_eqD {d : PyData} (ha : EvD K ta σ H d) (hb : EvD K tb σ H d) (hs : SeqAt.shaped d = true) : Ev (tOp (rEqD K) ta tb) σ H (.bl true) := fun H1 e Q q =>
  ha H1 e _ fun u H2 e2 hu => hb H2 (e.trans e2) _ fun v H3 e3 hv => ⟨d, d, dp_ex e3 d u hu, hv, hs, hs, by
    rw [SeqAt.eqv_refl d (SeqAt.canLay_of_shaped hs)]
    exact q H3 (e2.trans e3)⟩
theorem ev_neD {d : PyData} (ha : EvD K ta σ H d) (hb : EvD K tb σ H d) (hs : SeqAt.shaped d = true) : Ev (tOp (rNeD K) ta tb) σ H (.bl false) := fun H1 e Q q =>
  ha H1 e _ fun u H2 e2 hu => hb H2 (e.trans e2) _ fun v H3 e3 hv => ⟨d, d, dp_ex e3 d u hu, hv, hs, hs, by
    rw [SeqAt.eqv_refl d (SeqAt.canLay_of_shaped hs)]
    exact q H3 (e2.trans e3)⟩
theorem dp_list {p : Addr} {xs : List V} (h : H p = some (.lst xs)) (hf : ∀ x ∈ xs, FlatV x) : Dp K H (.ref p) (.list (xs.map fdV)) := .lst (sq_of h) (dpAll_flat hf)
/-! kinds -/
theorem ev_isList {p : Addr} {xs : List V} (ha : Ev ta σ H (.ref p)) (h : H p = some (.lst xs)) : Ev (tCB (rIsi K) (tCons ta (tCons (tC (.ty "list")) tNil))) σ H (.bl true) := ev_isi ha ev_c (.ty _) (fun _ e => .base (.lst (e _ _ h))) (kit_ty (by decide +kernel))
theorem ev_isTup {p : Addr} {xs : List V} (ha : Ev ta σ H (.ref p)) (h : H p = some (.tup xs)) : Ev (tCB (rIsi K) (tCons ta (tCons (tC (.ty "tuple")) tNil))) σ H (.bl true) := ev_isi ha ev_c (.ty _) (fun _ e => .base (.tup (e _ _ h))) (kit_ty (by decide +kernel))
/-- is None of a value -/
theorem rv_isN {x : V} : RV (fun x y H Q => y = .non ∧ Q (.bl (decide (x = .non))) H) x .non H (.bl (decide (x = .non))) := fun H1 _ Q q => ⟨rfl, q H1 (Ex.refl H1)⟩
theorem rv_notN {x : V} : RV (fun x y H Q => y = .non ∧ Q (.bl (!decide (x = .non))) H) x .non H (.bl (!decide (x = .non))) := fun H1 _ Q q => ⟨rfl, q H1 (Ex.refl H1)⟩
/-! walks that change the heap -/
theorem s_forE {a : Addr} {xs : List V} {tr : TA} {i j : Nat} (h : EvA tr σ H [.ref a]) (hx : SqL K H a xs) (Pv : Nat → L2.St → Hp → Prop) (h0 : ∀ H1, Ex H H1 → Pv 0 σ H1) (hl : ∀ i σ' H', i ≤ xs.length → Pv i σ' H' → SqL K H' a xs)
    (hs : ∀ (t : Nat) x σ' H' H2, xs[t]? = some x → Pv t σ' H' → Ex H' H2 → tu { D with nx := Pv (t + 1), ct := Pv (t + 1), bk := D.nx } ((σ'.set i (some (.int (t : Int)))).set j (some x)) H2) (hd : ∀ σ' H', Pv xs.length σ' H' → D.nx σ' H') :
    tFor (iEnum K tr) (gTup K 2 (gCons (gName i) (gCons (gName j) gNil))) tu D σ H :=
  h H (Ex.refl H) _ fun H1 e => ⟨a, xs, rfl, ex_l e hx, for_it walk_enum Pv (h0 H1 e) hl (fun t x σ' H' H2 ht hp hy => by
    obtain ⟨T, u, v, rfl, hT, rfl, h1, h2⟩ := hy
    cases h1
    exact got_pair (SqT.of upd_same) _ (hs t v σ' H' _ h2 hp (Ex.new hT))) hd⟩
theorem q_forE {a : Addr} {xs : List V} {tr : TA} {i j : Nat} (h : EvA tr σ H [.ref a]) (hx : SqL K H a xs) (Pv : Nat → L2.St → Hp → Prop) (h0 : ∀ H1, Ex H H1 → Pv 0 σ H1) (hl : ∀ i σ' H', i ≤ xs.length → Pv i σ' H' → SqL K H' a xs)
    (hs : ∀ (t : Nat) x σ' H' H2, xs[t]? = some x → Pv t σ' H' → Ex H' H2 → tu { D with nx := Pv (t + 1), ct := Pv (t + 1), bk := tz D } ((σ'.set i (some (.int (t : Int)))).set j (some x)) H2) (hd : ∀ σ' H', Pv xs.length σ' H' → tz D σ' H') :
    tSeq (tFor (iEnum K tr) (gTup K 2 (gCons (gName i) (gCons (gName j) gNil))) tu) tz D σ H := s_forE (D := { D with nx := tz D }) h hx Pv h0 hl hs hd
theorem s_forEN {xs : List V} {i j : Nat} (h : EvL te σ H xs) (Pv : Addr → Nat → L2.St → Hp → Prop) (h0 : ∀ p H1, H p = none → Ex H H1 → H1 p = some (.lst xs) → Pv p 0 σ H1) (hl : ∀ p i σ' H', i ≤ xs.length → Pv p i σ' H' → SqL K H' p xs)
    (hs : ∀ p (t : Nat) x σ' H' H2, xs[t]? = some x → Pv p t σ' H' → Ex H' H2 → tu { D with nx := Pv p (t + 1), ct := Pv p (t + 1), bk := D.nx } ((σ'.set i (some (.int (t : Int)))).set j (some x)) H2) (hd : ∀ p σ' H', Pv p xs.length σ' H' → D.nx σ' H') :
    tFor (iEnum K (tCons te tNil)) (gTup K 2 (gCons (gName i) (gCons (gName j) gNil))) tu D σ H :=
  h H (Ex.refl H) _ fun p H1 hp e h1 => ⟨p, xs, rfl, sq_of h1, for_it walk_enum (Pv p) (h0 p H1 hp e h1) (hl p) (fun t x σ' H' H2 ht hP hy => by
    obtain ⟨T, u, v, rfl, hT, rfl, g1, g2⟩ := hy
    cases g1
    exact got_pair (SqT.of upd_same) _ (hs p t v σ' H' _ g2 hP (Ex.new hT))) (hd p)⟩
theorem q_forEN {xs : List V} {i j : Nat} (h : EvL te σ H xs) (Pv : Addr → Nat → L2.St → Hp → Prop) (h0 : ∀ p H1, H p = none → Ex H H1 → H1 p = some (.lst xs) → Pv p 0 σ H1) (hl : ∀ p i σ' H', i ≤ xs.length → Pv p i σ' H' → SqL K H' p xs)
    (hs : ∀ p (t : Nat) x σ' H' H2, xs[t]? = some x → Pv p t σ' H' → Ex H' H2 → tu { D with nx := Pv p (t + 1), ct := Pv p (t + 1), bk := tz D } ((σ'.set i (some (.int (t : Int)))).set j (some x)) H2) (hd : ∀ p σ' H', Pv p xs.length σ' H' → tz D σ' H') :
    tSeq (tFor (iEnum K (tCons te tNil)) (gTup K 2 (gCons (gName i) (gCons (gName j) gNil))) tu) tz D σ H := s_forEN (D := { D with nx := tz D }) h Pv h0 hl hs hd
/-- a locked dict: within, it holds .frz -/
theorem elp_lock {d : Addr} {kvs : List (Key × V)} {P : List V → Hp → Prop} (hd : H d = some (.dK kvs)) (up : ∀ ys H' o, H' d = some (.frz o (.dK kvs)) → P ys H' → P ys (L2.upd H' d (.dK kvs))) (h : ∀ H1, Ex H H1 → ∀ o, EvLP te σ (L2.upd H1 d (.frz o (.dK kvs))) P) : EvLP (tLockE te) σ H P := fun H1 e Q q =>
  ⟨d, _, e _ _ hd, trivial, fun o => h H1 e o _ (Ex.refl _) _ fun p ys H2 hp e2 h2 hP => by
    have hf := e2 d _ upd_same
    have hpd : p ≠ d := fun r => by rw [r, upd_same] at hp; cases hp
    refine ⟨hf, q p ys _ ?_ ?_ ?_ (up ys H2 o hf hP)⟩
    · rw [upd_ne hpd] at hp; exact hp
    · intro b u hb
      by_cases r : b = d
      · rw [r] at hb ⊢
        rw [upd_same, ← hb, e _ _ hd]
      · rw [upd_ne r]
        exact e2 b u (by rw [upd_ne r]; exact hb)
    · rw [upd_ne hpd]; exact h2⟩
theorem ei_items {d : Addr} {o : Obj} {kvs : List (Key × V)} (h : Ev te σ H (.ref d)) (hd : H d = some (.frz o (.dK kvs))) : EvI (iItems te) σ H kvs.length (YPair (fun i => kvs[i]?.map fun kv => kV kv.1) (fun i => kvs[i]?.map Prod.snd)) := fun H1 e R q =>
  h H1 e _ fun H2 e2 => ⟨d, o, kvs, rfl, e2 _ _ (e _ _ hd), q _ H2 e2 (walk_items.mono (fun H3 e3 => e3 _ _ (e2 _ _ (e _ _ hd))) fun _ _ _ _ _ _ y => y)⟩
end
/-- what stood before a thing was made still stands -/
theorem Ex.kp {k : Kd} {ad : Ad} {H0 H H' : Hp} (e : Ex H0 H) (off : ∀ x ∈ own k ad, H0 x = none) (kp : Kp k ad H H') : Ex H0 H' := fun b o h => kp b o (e b o h) fun q => by
  rw [off b q] at h
  cases h
end Own

/-! ### lists of tuples in the heap; more statements -/
namespace Own
open PySem L2 PyProof.Rows Evl OwnS
/-- a list of new tuples -/
def TupsAt (H : Hp) (p : Addr) (rows : List (List V)) : Prop := ∃ vs : List V, H p = some (.lst vs) ∧ vs.length = rows.length ∧ ∀ (i : Nat) (r : List V), rows[i]? = some r → ∃ q, vs[i]? = some (.ref q) ∧ H q = some (.tup r)
theorem TupsAt.ex {H H' : Hp} {p : Addr} {rows : List (List V)} (h : TupsAt H p rows) (e : Ex H H') : TupsAt H' p rows := by
  obtain ⟨vs, h1, h2, h3⟩ := h
  refine ⟨vs, e _ _ h1, h2, fun i r hr => ?_⟩
  obtain ⟨q, a, b⟩ := h3 i r hr
  exact ⟨q, a, e _ _ b⟩
theorem TupsAt.nil {H : Hp} {p : Addr} (h : H p = some (.lst [])) : TupsAt H p [] := ⟨[], h, rfl, fun i r hr => by cases hr⟩
theorem TupsAt.push {H : Hp} {p q : Addr} {rows : List (List V)} {r : List V} {vs : List V} (h1 : H p = some (.lst vs)) (h2 : vs.length = rows.length) (h3 : ∀ (i : Nat) (r : List V), rows[i]? = some r → ∃ q, vs[i]? = some (.ref q) ∧ H q = some (.tup r)) (hq : H q = some (.tup r)) : TupsAt (upd H p (.lst (vs ++ [.ref q]))) p (rows ++ [r]) := by
  have ne : ∀ {a : Addr} {x : List V}, H a = some (.tup x) → a ≠ p := fun ha e => by rw [e, h1] at ha; cases ha
  refine ⟨_, upd_same, by rw [List.length_append, List.length_append, h2]; rfl, fun i r' hr => ?_⟩
  by_cases hi : i < rows.length
  · rw [List.getElem?_append_left hi] at hr
    obtain ⟨a, x, y⟩ := h3 i r' hr
    exact ⟨a, by rw [List.getElem?_append_left (by omega)]; exact x, by rw [upd_ne (ne y)]; exact y⟩
  · rw [List.getElem?_append_right (by omega)] at hr
    have hi0 : i - rows.length = 0 := by
      by_cases z : i - rows.length = 0
      · exact z
      · rw [List.getElem?_eq_none (by simp only [List.length_singleton]; omega)] at hr
        cases hr
    rw [hi0] at hr
    have : r = r' := Option.some.inj hr
    subst this
    exact ⟨q, by rw [List.getElem?_append_right (by omega), h2, hi0]; rfl, by rw [upd_ne (ne hq)]; exact hq⟩
/-- paired lists by places -/
theorem paired_at {α β : Type} {F : α → β → Prop} : ∀ {l : List α} {m : List β}, Paired F l m → l.length = m.length ∧ ∀ (i : Nat) (a : α), l[i]? = some a → ∃ b, m[i]? = some b ∧ F a b
  | _, _, .nil => ⟨rfl, fun i a h => by cases h⟩
  | _, _, .cons r t => by
    obtain ⟨h1, h2⟩ := paired_at t
    refine ⟨by rw [List.length_cons, List.length_cons, h1], fun i a h => ?_⟩
    cases i with
    | zero => cases h; exact ⟨_, rfl, r⟩
    | succ i => exact h2 i a h
theorem dpAll_at {K : PySem.W.Frag} {H : Hp} : ∀ {vs : List V} {ds : List PyData}, DpAll K H vs ds → vs.length = ds.length ∧ ∀ (i : Nat) (d : PyData), ds[i]? = some d → ∃ v, vs[i]? = some v ∧ Dp K H v d
  | _, _, .nil => ⟨rfl, fun i a h => by cases h⟩
  | _, _, .cons r t => by
    obtain ⟨h1, h2⟩ := dpAll_at t
    refine ⟨by rw [List.length_cons, List.length_cons, h1], fun i a h => ?_⟩
    cases i with
    | zero => cases h; exact ⟨_, rfl, r⟩
    | succ i => exact h2 i a h
section
variable {K : PySem.W.Frag} {σ : L2.St} {H H' : Hp} {ta tb te tx tv td ty : TE} {D : Ends} {tz tu : TS}
theorem q_appU {p : Addr} {xs vs : List V} (ho : Ev ta σ H (.ref p)) (h : H p = some (.lst xs)) (hv : EvU tv σ H vs) (hz : xs.length < 100000) (k : ∀ q H1, H q = none → Ex H H1 → H1 q = some (.tup vs) → H1 p = some (.lst xs) → tz D σ (upd H1 p (.lst (xs ++ [.ref q])))) : tSeq (tDrop (tBM K "list" rAppend ta (tCons tv tNil))) tz D σ H :=
  ho H (Ex.refl H) _ fun H1 e1 => ⟨.inl ⟨rfl, _, SqL.of (e1 _ _ h)⟩, hv H1 e1 _ fun q H2 hq e2 h2 => ⟨p, xs, _, rfl, rfl, e2 _ _ (e1 _ _ h), sz_lt hz, k q H2 (fresh_back e1 hq) (e1.trans e2) h2 (e2 _ _ (e1 _ _ h))⟩⟩
theorem s_appU {p : Addr} {xs vs : List V} (ho : Ev ta σ H (.ref p)) (h : H p = some (.lst xs)) (hv : EvU tv σ H vs) (hz : xs.length < 100000) (k : ∀ q H1, H q = none → Ex H H1 → H1 q = some (.tup vs) → H1 p = some (.lst xs) → D.nx σ (upd H1 p (.lst (xs ++ [.ref q])))) : tDrop (tBM K "list" rAppend ta (tCons tv tNil)) D σ H :=
  q_appU (D := D) (tz := fun _ σ H => D.nx σ H) ho h hv hz k
theorem q_app {p : Addr} {xs : List V} {v : V} (ho : Ev ta σ H (.ref p)) (h : H p = some (.lst xs)) (hv : Ev tv σ H v) (hz : xs.length < 100000) (k : ∀ H1, Ex H H1 → H1 p = some (.lst xs) → tz D σ (upd H1 p (.lst (xs ++ [v])))) : tSeq (tDrop (tBM K "list" rAppend ta (tCons tv tNil))) tz D σ H :=
  ho H (Ex.refl H) _ fun H1 e1 => ⟨.inl ⟨rfl, _, SqL.of (e1 _ _ h)⟩, hv H1 e1 _ fun H2 e2 => ⟨p, xs, _, rfl, rfl, e2 _ _ (e1 _ _ h), sz_lt hz, k H2 (e1.trans e2) (e2 _ _ (e1 _ _ h))⟩⟩
theorem s_app {p : Addr} {xs : List V} {v : V} (ho : Ev ta σ H (.ref p)) (h : H p = some (.lst xs)) (hv : Ev tv σ H v) (hz : xs.length < 100000) (k : ∀ H1, Ex H H1 → H1 p = some (.lst xs) → D.nx σ (upd H1 p (.lst (xs ++ [v])))) : tDrop (tBM K "list" rAppend ta (tCons tv tNil)) D σ H :=
  q_app (D := D) (tz := fun _ σ H => D.nx σ H) ho h hv hz k
theorem q_lockLP {d : Addr} {kvs : List (Key × V)} {i : Nat} {P : List V → Hp → Prop} (hd : H d = some (.dK kvs)) (up : ∀ ys H' o, H' d = some (.frz o (.dK kvs)) → P ys H' → P ys (L2.upd H' d (.dK kvs))) (h : ∀ o, EvLP te σ (L2.upd H d (.frz o (.dK kvs))) P)
    (k : ∀ p ys H1, H p = none → Ex H H1 → H1 p = some (.lst ys) → P ys H1 → tz D (σ.set i (some (.ref p))) H1) : tSeq (tLock (tAsg te (gName i))) tz D σ H :=
  ⟨d, _, hd, trivial, fun o => h o _ (Ex.refl _) _ fun p ys H2 hp e2 h2 hP => by
    have hf := e2 d _ upd_same
    have hpd : p ≠ d := fun r => by rw [r, upd_same] at hp; cases hp
    refine ⟨hf, k p ys _ ?_ ?_ ?_ (up ys H2 o hf hP)⟩
    · rw [upd_ne hpd] at hp; exact hp
    · intro b u hb
      by_cases r : b = d
      · rw [r] at hb ⊢
        rw [upd_same, ← hb, hd]
      · rw [upd_ne r]
        exact e2 b u (by rw [upd_ne r]; exact hb)
    · rw [upd_ne hpd]; exact h2⟩
theorem q_dputP {d : Addr} {kvs : List (Key × V)} {n : Str} {P : V → Hp → Prop} (hv : EvP tv σ H P) (hd : Ev td σ H (.ref d)) (hy : Ev ty σ H (.str n)) (h : H d = some (.dK kvs)) (hz : kvs.length < 100000) (up : ∀ v H1 H2, P v H1 → Ex H1 H2 → P v H2) (k : ∀ v H1, Ex H H1 → P v H1 → tz D σ (upd H1 d (.dK (putK kvs (Sum.inr n) v)))) : tSeq (sDPut td ty tv) tz D σ H :=
  hv H (Ex.refl H) _ fun v H1 e1 p1 => hd H1 e1 _ fun H2 e2 => hy H2 (e1.trans e2) _ fun H3 e3 => ⟨d, _, rfl, DPut.k (k := Sum.inr n) (((e1.trans e2).trans e3) d _ h) (sz_lt hz), k v H3 ((e1.trans e2).trans e3) (up v H1 H3 p1 (e2.trans e3))⟩
theorem s_dputP {d : Addr} {kvs : List (Key × V)} {n : Str} {P : V → Hp → Prop} (hv : EvP tv σ H P) (hd : Ev td σ H (.ref d)) (hy : Ev ty σ H (.str n)) (h : H d = some (.dK kvs)) (hz : kvs.length < 100000) (up : ∀ v H1 H2, P v H1 → Ex H1 H2 → P v H2) (k : ∀ v H1, Ex H H1 → P v H1 → D.nx σ (upd H1 d (.dK (putK kvs (Sum.inr n) v)))) : sDPut td ty tv D σ H :=
  q_dputP (D := D) (tz := fun _ σ H => D.nx σ H) hv hd hy h hz up k
theorem ev_intB {b : Bool} (h : Ev te σ H (.bl b)) : Ev (tCB (fun xs H Q => (∃ i, xs = [.int i] ∧ Q (.int i) H) ∨ ∃ k, xs = [.bl k] ∧ Q (.int (if k then 1 else 0)) H) (tCons te tNil)) σ H (.int (if b then 1 else 0)) := fun H1 e Q q =>
  h H1 e _ fun H2 e2 => .inr ⟨b, rfl, q H2 e2⟩
/-- a walk over a new list whose items are told -/
theorem ei_listP {n : Nat} {P : List V → Hp → Prop} {R : Nat → Hp → V → Prop} (h : EvLP ta σ H P) (hn : ∀ ys H', P ys H' → ys.length = n ∧ ∀ (i : Nat) (x : V), ys[i]? = some x → R i H' x) (up : ∀ i H1 H2 x, Ex H1 H2 → R i H1 x → R i H2 x) : EvI (iList K ta) σ H n (fun i H x H' => H' = H ∧ R i H x) := fun H1 e T q =>
  h H1 e _ fun p ys H2 _ e2 h2 hP => ⟨p, rfl, ⟨ys, sq_of h2⟩, by
    obtain ⟨h3, h4⟩ := hn ys H2 hP
    refine q _ H2 e2 ?_
    rw [← h3]
    exact walk_list.mono (fun H3 e3 => sq_of (e3 p _ h2)) fun i H3 x H4 hi e3 y => ⟨y.1, up i H2 H3 x e3 (h4 i x y.2)⟩⟩
/-- a tuple's place; a list's place -/
theorem ev_ixT {p : Addr} {xs : List V} {i : Nat} {v : V} (h : Ev ta σ H (.ref p)) (hx : H p = some (.tup xs)) (ha : xs[i]? = some v) : Ev (tOp (rIxT K) ta (tC (.int (i : Int)))) σ H v := ev_op h ev_c (rv_ixT (SqT.of hx) (by rw [show ((i : Int)) = ((i : Nat) : Int) from rfl]; exact atI_nat ha))
theorem ev_ixLn {p : Addr} {xs : List V} {z : Int} {i : Nat} {v : V} (h : Ev ta σ H (.ref p)) (hb : Ev tb σ H (.int z)) (hz : z = (i : Int)) (hx : H p = some (.lst xs)) (ha : xs[i]? = some v) : Ev (tOp (rIxL K) ta tb) σ H v := ev_op h hb (rv_ixL (SqL.of hx) (by rw [hz]; exact atI_nat ha))
theorem ev_not {b : Bool} (h : Ev ta σ H (.bl b)) : EvT (fun σ H Q => ta σ H fun x H' => ∃ k, x = .bl k ∧ Q (!k) H') σ H (!b) := fun H1 e Q q => h H1 e _ fun H2 e2 => ⟨b, rfl, q H2 e2⟩
theorem ev_isBoolV {b : Bool} (ha : Ev ta σ H (.bl b)) : Ev (tCB (rIsi K) (tCons ta (tCons (tC (.ty "bool")) tNil))) σ H (.bl true) := ev_isBoolB ha
theorem ev_isBl {a b : Bool} (ha : Ev ta σ H (.bl a)) (hb : Ev tb σ H (.bl b)) : Ev (tOp rIsB ta tb) σ H (.bl (decide (a = b))) := ev_op ha hb fun H1 _ Q q => ⟨a, b, rfl, rfl, q H1 (Ex.refl H1)⟩
/-- sorted(..) of a new list of data -/
theorem elp_sortD {P : List V → Hp → Prop} {ds : List PyData} (h : EvLP te σ H P) (hD : ∀ ys H', P ys H' → DpAll K H' ys ds) (al : PySem.W.AllAlike ds) (so : PySem.W.Sortable ds) (dp : ∀ d ∈ ds, d.depth ≤ 20) :
    EvLP (tCB (rSortD K) (tCons te tNil)) σ H (fun ys H' => DpAll K H' ys (ds.mergeSort (PySem.W.dataLe false id))) := fun H1 e Q q =>
  h H1 e _ fun p ys H2 hp e2 h2 hP => ⟨p, ys, ds, rfl, sq_of h2, hD ys H2 hP, al, so, dp, fun zs r hz hr => q r zs _ (fresh_back e2 hr) (e2.trans (Ex.new hr)) upd_same (dpAll_ex (Ex.new hr) _ _ hz)⟩
theorem elp_sortDr {l : Addr} {xs : List V} {ds : List PyData} (hx : Ev te σ H (.ref l)) (h : H l = some (.lst xs)) (hD : DpAll K H xs ds) (al : PySem.W.AllAlike ds) (so : PySem.W.Sortable ds) (dp : ∀ d ∈ ds, d.depth ≤ 20) :
    EvLP (tCB (rSortD K) (tCons te tNil)) σ H (fun ys H' => DpAll K H' ys (ds.mergeSort (PySem.W.dataLe false id))) := fun H1 e Q q =>
  hx H1 e _ fun H2 e2 => ⟨l, xs, ds, rfl, sq_of (e2 _ _ (e _ _ h)), dpAll_ex (e.trans e2) _ _ hD, al, so, dp, fun zs r hz hr => q r zs _ (fresh_back e2 hr) (e2.trans (Ex.new hr)) upd_same (dpAll_ex (Ex.new hr) _ _ hz)⟩
/-- name = f(x, y), y told by P -/
theorem q_asgC2P {i : Nat} {t1 t2 : TE} {sp : Sp} {E : XK} {x : V} {P : V → Hp → Prop} (h1 : Ev t1 σ H x) (h2 : EvP t2 σ H P) (k : ∀ v H1, Ex H H1 → P v H1 → sp [x, v] H1 (fun r H2 => tz D (σ.set i (some r)) H2) E) : tSeq (tAsg (tCall sp [] E (tCons t1 (tCons t2 tNil))) (gName i)) tz D σ H :=
  h1 H (Ex.refl H) _ fun H1 e1 => h2 H1 e1 _ fun v H2 e2 p => k v H2 (e1.trans e2) p
/-- name = f(..), by the promise itself -/
theorem q_asgC {i : Nat} {tr : TA} {sp : Sp} {E : XK} {vs : List V} (h : EvA tr σ H vs) (k : ∀ H1, Ex H H1 → sp vs H1 (fun r H2 => tz D (σ.set i (some r)) H2) E) : tSeq (tAsg (tCall sp [] E tr) (gName i)) tz D σ H :=
  h H (Ex.refl H) _ fun H1 e1 => by
    rw [List.append_nil]
    exact k H1 e1
theorem q_asgNew {i : Nat} (k : ∀ d H1, H d = none → Ex H H1 → H1 d = some (.dK []) → tz D (σ.set i (some (.ref d))) H1) : tSeq (tAsg tDNewK (gName i)) tz D σ H := fun d hd => k d _ hd (Ex.new hd) upd_same
/-- f(x, a new list) -/
theorem ev_callVL {sp : Sp} {E : XK} {x v : V} {xs : List V} (ha : Ev ta σ H x) (hb : EvL tb σ H xs) (hs : ∀ p H1, Ex H H1 → H1 p = some (.lst xs) → SpV sp [x, .ref p] H1 v) : Ev (tCall sp [] E (tCons ta (tCons tb tNil))) σ H v := fun H1 e Q q =>
  ha H1 e _ fun H2 e2 => hb H2 (e.trans e2) _ fun p H3 _ e3 h3 => hs p H3 ((e.trans e2).trans e3) h3 H3 (Ex.refl _) Q (fun H4 e4 => q H4 ((e2.trans e3).trans e4)) E
theorem el_call0 {sp : Sp} {vs xs : List V} {E : XK} {tr : TA} (h : EvA tr σ H vs) (hs : SpL sp vs H xs) : EvL (tCall sp [] E tr) σ H xs := el_call h (by rw [List.append_nil]; exact hs)
theorem el_eq {xs ys : List V} (h : EvL te σ H xs) (e : xs = ys) : EvL te σ H ys := by
  rw [← e]
  exact h
/-- a new list's own method, thrown away with it -/
theorem s_clearN {xs : List V} (h : EvL te σ H xs) (k : ∀ H1, Ex H H1 → D.nx σ H1) : tDrop (tBM0 K "list" rClear te) D σ H :=
  h H (Ex.refl H) _ fun p H1 hp e1 h1 => ⟨.inl ⟨rfl, _, SqL.of h1⟩, p, xs, rfl, rfl, h1, k _ (e1.mut hp)⟩
theorem s_reverseN {xs : List V} (h : EvL te σ H xs) (k : ∀ H1, Ex H H1 → D.nx σ H1) : tDrop (tBM0 K "list" rReverse te) D σ H :=
  h H (Ex.refl H) _ fun p H1 hp e1 h1 => ⟨.inl ⟨rfl, _, SqL.of h1⟩, p, xs, rfl, rfl, h1, k _ (e1.mut hp)⟩
/-- a call as a statement, nothing that stands is changed -/
theorem s_drop0' {v : V} (h : Ev te σ H v) (k : ∀ H1, Ex H H1 → D.nx σ H1) : tDrop te D σ H := h H (Ex.refl H) _ fun H1 e1 => k H1 e1
/-- if not f(a call that changes things, y): .. -/
theorem q_notCall2 {t1 t2 : TE} {sp : Sp} {E : XK} {R : V → Hp → Prop} (h1 : ∀ Q : VK, (∀ x H1, R x H1 → Q x H1) → t1 σ H Q) (h2 : ∀ x H1, R x H1 → ∃ y, Ev t2 σ H1 y ∧ SpV sp [x, y] H1 (.bl true) ∧ ∀ H2, Ex H1 H2 → tz D σ H2) : tSeq (tIfS (tNot (tB (tCall sp [] E (tCons t1 (tCons t2 tNil))))) tu tNext) tz D σ H :=
  h1 _ fun x H1 r => by
    obtain ⟨y, h3, h4, h5⟩ := h2 x H1 r
    exact h3 H1 (Ex.refl _) _ fun H2 e2 => h4 H2 e2 _ (fun H3 e3 => ⟨true, rfl, h5 H3 (e2.trans e3)⟩) E
end
end Own

/-! ### counts by history; plain Lean -/
namespace Own
open PySem L2
/-- what so many ageings leave of an entry -/
def ag (p t : Int) (o : Option (Int × Int)) : Option (Int × Int) := o.bind fun q => if agedI q.1 p t = 0 then none else some (agedI q.1 p t, q.2)
def Pos1 (s : Th) : Prop := ∀ e ∈ s.es, 1 ≤ e.2.1
theorem look_ageStep (k : Kd) (t : Int) (s : Th) (n m : Str) : look (k.ageStep t s n).es m = if m = n then ag s.part t (look s.es m) else look s.es m := by
  unfold Kd.ageStep
  by_cases h0 : agedI (cntE s.es n) s.part t = 0
  · rw [if_pos h0]
    show look (dropE s.es n) m = _
    rw [look_dropE]
    by_cases h : m = n
    · rw [if_pos h, if_pos h, h]
      unfold ag
      unfold cntE at h0
      cases e : look s.es n with
      | none => rfl
      | some q =>
        rw [e] at h0
        have h0 : agedI q.1 s.part t = 0 := h0
        show none = if _ then _ else _
        rw [if_pos h0]
    · rw [if_neg h, if_neg h]
  · rw [if_neg h0]
    show look (setC s.es n _) m = _
    rw [look_setC]
    by_cases h : m = n
    · rw [if_pos h, if_pos h, h]
      unfold ag
      unfold cntE at h0 ⊢
      cases e : look s.es n with
      | none => rfl
      | some q =>
        rw [e] at h0
        have h0 : ¬ agedI q.1 s.part t = 0 := h0
        show some _ = if _ then _ else _
        rw [if_neg h0]
        rfl
    · rw [if_neg h, if_neg h]
theorem look_fold (k : Kd) (t : Int) (m : Str) : ∀ (ns : List Str) (s : Th), ns.Nodup → look (ns.foldl (k.ageStep t) s).es m = if m ∈ ns then ag s.part t (look s.es m) else look s.es m
  | [], s, _ => by rw [if_neg (by simp)]; rfl
  | n :: r, s, hd => by
    rw [List.nodup_cons] at hd
    have ih := look_fold k t m r (k.ageStep t s n) hd.2
    have hp := (ageStep_core k t s n).2.1
    rw [List.foldl_cons, ih, look_ageStep, hp]
    by_cases h1 : m = n
    · have h2 : m ∉ r := by rw [h1]; exact hd.1
      rw [if_neg h2, if_pos h1, if_pos (by rw [h1]; exact List.mem_cons_self)]
    · rw [if_neg h1]
      by_cases h2 : m ∈ r
      · rw [if_pos h2, if_pos (List.mem_cons_of_mem _ h2)]
      · rw [if_neg h2, if_neg (fun q => (List.mem_cons.mp q).elim h1 h2)]
theorem pos_look {s : Th} (h : Pos1 s) {m : Str} {q : Int × Int} (e : look s.es m = some q) : 1 ≤ q.1 := h _ (mem_of_look e)
theorem agedI_0 (c p : Int) : agedI c p 0 = c := by
  unfold agedI
  show c / p ^ 0 = c
  rw [Int.pow_zero, Int.ediv_one]
theorem ag_0 {s : Th} (h : Pos1 s) (p : Int) (m : Str) : ag p 0 (look s.es m) = look s.es m := by
  unfold ag
  cases e : look s.es m with
  | none => rfl
  | some q =>
    have := pos_look h e
    show (if _ then _ else _) = _
    rw [agedI_0, if_neg (by omega)]
theorem times_nn {s : Th} (h : 0 < s.span) {n : Int} (hn : 0 ≤ n) : 0 ≤ s.times n := by
  unfold Th.times
  have := Int.ediv_le_ediv h (show s.time ≤ s.time + n by omega)
  omega
theorem look_spend {k : Kd} {s : Th} (w : WF k s) (hp : Pos1 s) {n : Int} (hn : 0 ≤ n) (m : Str) : look (k.spend s n).es m = ag s.part (s.times n) (look s.es m) := by
  unfold Kd.spend
  by_cases h : 0 < s.times n
  · rw [if_pos h, look_fold _ _ _ _ _ ((byLast_perm s.es).nodup_iff.mpr w.nd)]
    show (if m ∈ byLast s.es then ag s.part (s.times n) (look s.es m) else look s.es m) = _
    by_cases hm : m ∈ byLast s.es
    · rw [if_pos hm]
    · rw [if_neg hm]
      have h1 : m ∉ s.es.map (·.1) := fun q => hm ((byLast_perm s.es).mem_iff.mpr q)
      cases e : look s.es m with
      | none => rfl
      | some q => exact absurd (look_mem.mp (by rw [e]; rfl)) h1
  · rw [if_neg h]
    have : s.times n = 0 := by have := times_nn w.sp hn; omega
    rw [this]
    exact (ag_0 hp _ _).symm
theorem Pos1.ageStep {k : Kd} {s : Th} (h : Pos1 s) (w : WF k s) (t : Int) (n : Str) : Pos1 (k.ageStep t s n) := by
  unfold Kd.ageStep
  split
  · exact fun e he => h e ((List.filter_sublist (l := s.es)).subset he)
  · rename_i h0
    intro e he
    have nn := agedI_nn (t := t) (cntE_nn w.cn n) w.pt
    obtain ⟨a, ha, rfl⟩ := List.mem_map.mp he
    by_cases q : a.1 = n
    · simp only [q, if_true]
      omega
    · simp only [q, if_false]
      exact h a ha
theorem Pos1.fold {k : Kd} (t : Int) : ∀ (ns : List Str) {s : Th}, Pos1 s → WF k s → Pos1 (ns.foldl (k.ageStep t) s)
  | [], _, h, _ => h
  | n :: r, _, h, w => Pos1.fold t r (h.ageStep w t n) (w.ageStep t n)
theorem Pos1.spend {k : Kd} {s : Th} (h : Pos1 s) (w : WF k s) (n : Int) : Pos1 (k.spend s n) := by
  unfold Kd.spend
  split
  · exact Pos1.fold _ _ (s := { s with time := s.time + n }) h (w.time _)
  · exact h
theorem Pos1.act {k : Kd} {s : Th} (h : Pos1 s) (w : WF k s) {ns : List Str} {d : Deed} (g : d.Good ns) : Pos1 (k.act s d).2 := by
  cases d with
  | rest t => exact Pos1.spend (s := s.next) h w.next t
  | drop n =>
    have c := gone_core k s.next n "dropped"
    unfold Pos1
    show ∀ e ∈ (k.gone s.next n "dropped").2.es, _
    rw [c.1]
    exact h
  | ask n x =>
    have h1 := Pos1.spend (s := s.next) h w.next 1
    have w1 := w.next.spend 1
    have c := came_core k (k.spend s.next 1) n
    intro e he
    have he' : e ∈ putE (k.came (k.spend s.next 1) n).2.es n (cntE (k.came (k.spend s.next 1) n).2.es n + x, ((k.came (k.spend s.next 1) n).2.deed : Int)) := he
    rw [c.1] at he'
    have nn := cntE_nn w1.cn n
    have hx : 1 ≤ x := g.2.1
    unfold putE at he'
    split at he'
    · obtain ⟨a, ha, rfl⟩ := List.mem_map.mp he'
      by_cases q : a.1 = n
      · simp only [q, if_true]
        omega
      · simp only [q, if_false]
        exact h1 a ha
    · rcases List.mem_append.mp he' with q | q
      · exact h1 e q
      · rw [List.mem_singleton.mp q]
        show 1 ≤ _ + x
        omega
theorem pos0 (a b c : Int) : Pos1 (th0 a b c) := fun e he => by cases he
/-- one deed, one name -/
def nextO (p t : Int) (j : Int) (d : Deed) (m : Str) (o : Option (Int × Int)) : Option (Int × Int) :=
  match d with
  | .ask n w => if m = n then some (((ag p t o).map (·.1)).getD 0 + w, j) else ag p t o
  | _ => ag p t o
theorem look_act {k : Kd} {s : Th} (w : WF k s) (hp : Pos1 s) {ns : List Str} {d : Deed} (g : d.Good ns) (m : Str) : look (k.act s d).2.es m = nextO s.part (s.times d.steps) ((s.deed : Int) + 1) d m (look s.es m) := by
  cases d with
  | rest t => exact look_spend (s := s.next) w.next hp g.1 m
  | drop n =>
    have c := gone_core k s.next n "dropped"
    show look (k.gone s.next n "dropped").2.es m = ag s.part (s.times 0) (look s.es m)
    rw [c.1]
    have : s.times 0 = 0 := by unfold Th.times; rw [Int.add_zero]; omega
    rw [this, ag_0 hp]
    rfl
  | ask n x =>
    have l1 := fun m => look_spend (s := s.next) w.next hp (show (0 : Int) ≤ 1 by decide) m
    have c := came_core k (k.spend s.next 1) n
    have sc := spend_core k s.next 1
    show look (putE (k.came (k.spend s.next 1) n).2.es n (cntE (k.came (k.spend s.next 1) n).2.es n + x, ((k.came (k.spend s.next 1) n).2.deed : Int))) m = _
    rw [c.1, c.2.2.2.2.1, sc.2.2.2.1, look_putE]
    show _ = if m = n then some (((ag s.part (s.times 1) (look s.es m)).map (·.1)).getD 0 + x, (s.deed : Int) + 1) else ag s.part (s.times 1) (look s.es m)
    by_cases h : m = n
    · rw [if_pos h, if_pos h]
      unfold cntE
      rw [l1 n, h]
      rfl
    · rw [if_neg h, if_neg h]
      exact l1 m
/-- the states of a history -/
def runTo (k : Kd) (s0 : Th) (ds : List Deed) : Th := ds.foldl (fun s d => (k.act s d).2) s0
theorem runTo_succ {k : Kd} {s0 : Th} {ds : List Deed} {i : Nat} {d : Deed} (h : ds[i]? = some d) : runTo k s0 (ds.take (i + 1)) = (k.act (runTo k s0 (ds.take i)) d).2 := by
  unfold runTo
  rw [List.take_add_one, h, List.foldl_append]
  rfl
structure Fine (k : Kd) (s0 s : Th) (i : Nat) : Prop where
  wf : WF k s
  pos : Pos1 s
  deed : s.deed = s0.deed + i
  span : s.span = s0.span
  part : s.part = s0.part
  places : s.places = s0.places
theorem fine {k : Kd} {s0 : Th} (w : WF k s0) (hp : Pos1 s0) {ns : List Str} {ds : List Deed} (g : ∀ d ∈ ds, d.Good ns) : ∀ i, i ≤ ds.length → Fine k s0 (runTo k s0 (ds.take i)) i
  | 0, _ => ⟨w, hp, rfl, rfl, rfl, rfl⟩
  | i + 1, h => by
    obtain ⟨d, hd⟩ : ∃ d, ds[i]? = some d := ⟨_, List.getElem?_eq_getElem (by omega)⟩
    have f := fine w hp g i (by omega)
    have gd := g d (List.mem_of_getElem? hd)
    have c := act_core k (runTo k s0 (ds.take i)) d
    rw [runTo_succ hd]
    exact ⟨f.wf.act gd, f.pos.act f.wf gd, by rw [c.2.2.2.1, f.deed]; omega, c.1.trans f.span, c.2.1.trans f.part, c.2.2.2.2.trans f.places⟩
/-! counts and last askings by entries -/
def lastO : Option (Int × Int) → V
  | some p => .int p.2
  | none => .non
def lastV (es : List Ent) (n : Str) : V := lastO (look es n)
theorem cnt_ag (p t : Int) (o : Option (Int × Int)) : ((ag p t o).map (·.1)).getD 0 = agedI ((o.map (·.1)).getD 0) p t := by
  cases o with
  | none => show (0 : Int) = agedI 0 p t; unfold agedI; rw [Int.zero_ediv]
  | some q =>
    show ((if agedI q.1 p t = 0 then none else some (agedI q.1 p t, q.2) : Option (Int × Int)).map (·.1)).getD 0 = agedI q.1 p t
    by_cases h : agedI q.1 p t = 0
    · rw [if_pos h, h]; rfl
    · rw [if_neg h]; rfl
theorem last_ag (p t : Int) (o : Option (Int × Int)) : lastO (ag p t o) = if agedI ((o.map (·.1)).getD 0) p t = 0 then .non else lastO o := by
  cases o with
  | none =>
    have : agedI 0 p t = 0 := by unfold agedI; rw [Int.zero_ediv]
    show V.non = if agedI 0 p t = 0 then V.non else _
    rw [if_pos this]
  | some q =>
    show lastO (if agedI q.1 p t = 0 then none else some (agedI q.1 p t, q.2)) = if agedI q.1 p t = 0 then .non else _
    by_cases h : agedI q.1 p t = 0
    · rw [if_pos h, if_pos h]; rfl
    · rw [if_neg h, if_neg h]; rfl
/-- what is left of a name's count when the ageings of a deed are done -/
def beh (s : Th) (d : Deed) (n : Str) : Int := agedI (cntE s.es n) s.part (s.times d.steps)
theorem beh_nn {k : Kd} {s : Th} (w : WF k s) (d : Deed) (n : Str) : 0 ≤ beh s d n := agedI_nn (cntE_nn w.cn n) w.pt
theorem cnt_act {k : Kd} {s : Th} (w : WF k s) (hp : Pos1 s) {ns : List Str} {d : Deed} (g : d.Good ns) (n : Str) : cntE (k.act s d).2.es n = match d with
    | .ask m x => if n = m then beh s d n + x else beh s d n
    | _ => beh s d n := by
  unfold cntE
  rw [look_act w hp g]
  unfold nextO beh
  cases d with
  | ask m x =>
    dsimp only
    by_cases h : n = m
    · rw [if_pos h, if_pos h]
      show ((ag s.part (s.times 1) (look s.es n)).map (·.1)).getD 0 + x = _
      rw [cnt_ag]
      rfl
    · rw [if_neg h, if_neg h, cnt_ag]
      rfl
  | drop m => exact cnt_ag _ _ _
  | rest t => exact cnt_ag _ _ _
theorem last_act {k : Kd} {s : Th} (w : WF k s) (hp : Pos1 s) {ns : List Str} {d : Deed} (g : d.Good ns) (n : Str) : lastV (k.act s d).2.es n = match d with
    | .ask m _ => if n = m then .int ((s.deed : Int) + 1) else if beh s d n = 0 then .non else lastV s.es n
    | _ => if beh s d n = 0 then .non else lastV s.es n := by
  unfold lastV
  rw [look_act w hp g]
  unfold nextO beh cntE
  cases d with
  | ask m x =>
    dsimp only
    by_cases h : n = m
    · rw [if_pos h, if_pos h]; rfl
    · rw [if_neg h, if_neg h]
      exact last_ag _ _ _
  | drop m => exact last_ag _ _ _
  | rest t => exact last_ag _ _ _
theorem cnt0 (a b c : Int) (n : Str) : cntE (th0 a b c).es n = 0 := rfl
theorem last0 (a b c : Int) (n : Str) : lastV (th0 a b c).es n = .non := rfl
/-- the rows of a name's life -/
def lifeRow (k : Kd) (s : Th) (d : Deed) (n : Str) : List V := [.int (beh s d n), .int (cntE (k.act s d).2.es n), lastV (k.act s d).2.es n]
def lifeRows (k : Kd) (s0 : Th) (ds : List Deed) (n : Str) : List (List V) := (List.range ds.length).map fun i => match ds[i]? with
  | some d => lifeRow k (runTo k s0 (ds.take i)) d n
  | none => []
theorem lifeRows_at {k : Kd} {s0 : Th} {ds : List Deed} {n : Str} {i : Nat} {d : Deed} (h : ds[i]? = some d) : (lifeRows k s0 ds n)[i]? = some (lifeRow k (runTo k s0 (ds.take i)) d n) := by
  have hi : i < ds.length := (List.getElem?_eq_some_iff.mp h).1
  unfold lifeRows
  rw [List.getElem?_map, List.getElem?_range hi, Option.map_some, h]
theorem lifeRows_len {k : Kd} {s0 : Th} {ds : List Deed} {n : Str} : (lifeRows k s0 ds n).length = ds.length := by
  unfold lifeRows
  rw [List.length_map, List.length_range]
/-- who is there has a count -/
theorem pos_iff {s : Th} (hp : Pos1 s) (n : Str) : 0 < cntE s.es n ↔ n ∈ s.es.map (·.1) := by
  unfold cntE
  constructor
  · intro h
    cases e : look s.es n with
    | none => rw [e] at h; exact absurd h (by decide)
    | some q => exact look_mem.mp (by rw [e]; rfl)
  · intro h
    have := look_mem.mpr h
    cases e : look s.es n with
    | none => rw [e] at this; cases this
    | some q => exact pos_look hp e
theorem last_mem {s : Th} {n : Str} (h : n ∈ s.es.map (·.1)) : lastV s.es n = .int (lstE s.es n) := by
  have := look_mem.mpr h
  unfold lastV lstE
  cases e : look s.es n with
  | none => rw [e] at this; cases this
  | some q => rfl
end Own

/-! ### tuples sorted; plain Lean -/
namespace Own
open PySem L2
def trip (es : List Ent) (n : Str) : PyData := .tuple [.int (cntE es n), .int (lstE es n), .str n]
theorem alike_i (a b : Int) : PySem.W.alike (.int a) (.int b) = true := by simp only [PySem.W.alike]
theorem alike_s (a b : Str) : PySem.W.alike (.str a) (.str b) = true := by simp only [PySem.W.alike]
theorem lt_trip (c l c' l' : Int) (n n' : Str) : PySem.W.dataLt (.tuple [.int c, .int l, .str n]) (.tuple [.int c', .int l', .str n']) = if c = c' then (if l = l' then (if n = n' then false else decide (n.cps.toList < n'.cps.toList)) else decide (l < l')) else decide (c < c') := by
  rw [PySem.W.dataLt_tuple, PySem.W.dataLt_cons (alike_i _ _), PySem.W.dataLt_cons (alike_i _ _), PySem.W.dataLt_cons (alike_s _ _), PySem.W.dataLt_int, PySem.W.dataLt_int, PySem.W.dataLt_str]
  have e : PyProof.Rows.lexLt PyProof.Rows.itemOrd (PySem.W.keyToksAll []) (PySem.W.keyToksAll []) = false := PyProof.Rows.lex_irrefl _
  rw [e]
  have e1 : ∀ a b : Int, (PyData.eqv (.int a) (.int b) = true) = (a = b) := fun a b => by simp [PyData.eqv]
  have e2 : ∀ a b : Str, (PyData.eqv (.str a) (.str b) = true) = (a = b) := fun a b => by simp [PyData.eqv]
  simp only [e1, e2]
theorem le_sorted (l : List PyData) : (l.mergeSort (PySem.W.dataLe false id)).Pairwise fun x y => PySem.W.dataLt y x = false := by
  have t := PySem.W.sortLe_total (PyProof.Rows.listOrd PyProof.Rows.itemOrd) false (fun b : PyData => PySem.W.keyToks b)
  have := List.pairwise_mergeSort (le := PySem.W.dataLe false id) (fun a b c h1 h2 => t.trans a b c h1 h2) (fun a b => (Bool.or_eq_true _ _).mpr (t.total a b)) l
  exact this.imp fun {a b} h => by
    have h' : (!PySem.W.dataLt b a) = true := h
    rwa [Bool.not_eq_true'] at h'
theorem sort_trip {es : List Ent} (inj : ∀ m n, m ∈ es.map (·.1) → n ∈ es.map (·.1) → lstE es m = lstE es n → m = n) {ns : List Str} (hn : ∀ n ∈ ns, n ∈ es.map (·.1)) : (ns.map (trip es)).mergeSort (PySem.W.dataLe false id) = (sortR es ns).map (trip es) := by
  have p1 : ((ns.map (trip es)).mergeSort (PySem.W.dataLe false id)).Perm (ns.map (trip es)) := List.mergeSort_perm _ _
  have p2 : ((sortR es ns).map (trip es)).Perm (ns.map (trip es)) := (sortR_perm es ns).map _
  refine sorted_uniq (lt := PySem.W.dataLt) (f := id) (p1.trans p2.symm) (le_sorted _) ?_ fun x hx y hy a b => ?_
  · rw [List.pairwise_map]
    refine (sortR_sorted es ns).imp_of_mem fun {a b} ha hb h => ?_
    show PySem.W.dataLt (trip es b) (trip es a) = false
    unfold trip
    rw [lt_trip]
    rw [lexQ_no] at h
    unfold rankE at h
    dsimp only at h
    by_cases h1 : cntE es b = cntE es a
    · rw [if_pos h1]
      by_cases h2 : lstE es b = lstE es a
      · rw [if_pos h2, if_pos (inj b a (hn _ ((sortR_perm es ns).mem_iff.mp hb)) (hn _ ((sortR_perm es ns).mem_iff.mp ha)) h2)]
      · rw [if_neg h2, decide_eq_false_iff_not]
        omega
    · rw [if_neg h1, decide_eq_false_iff_not]
      omega
  · obtain ⟨m, hm, rfl⟩ := List.mem_map.mp (p1.mem_iff.mp hx)
    obtain ⟨n, hn', rfl⟩ := List.mem_map.mp (p1.mem_iff.mp hy)
    have a : PySem.W.dataLt (trip es m) (trip es n) = false := a
    have b : PySem.W.dataLt (trip es n) (trip es m) = false := b
    unfold trip at a b
    rw [lt_trip] at a b
    have h1 : cntE es m = cntE es n := by
      by_cases q : cntE es m = cntE es n
      · exact q
      · rw [if_neg q, decide_eq_false_iff_not] at a
        rw [if_neg (fun r => q r.symm), decide_eq_false_iff_not] at b
        omega
    have h2 : lstE es m = lstE es n := by
      by_cases q : lstE es m = lstE es n
      · exact q
      · rw [if_pos h1, if_neg q, decide_eq_false_iff_not] at a
        rw [if_pos h1.symm, if_neg (fun r => q r.symm), decide_eq_false_iff_not] at b
        omega
    rw [inj m n (hn _ hm) (hn _ hn') h2]
end Own

/-! ### what a spending does to a shelf; plain Lean -/
namespace Own
open PySem L2
/-- the name fades -/
def fadesB (s : Th) (t : Int) (n : Str) : Bool := decide (agedI (cntE s.es n) s.part t = 0)
def fadeG (s : Th) (n : Str) : Going := ⟨s.deed, n, "faded", 0, lstE s.es n⟩
theorem cnt_step {k : Kd} {t : Int} {s : Th} {n m : Str} (h : m ≠ n) : cntE (k.ageStep t s n).es m = cntE s.es m ∧ lstE (k.ageStep t s n).es m = lstE s.es m := by
  unfold cntE lstE
  rw [look_ageStep, if_neg h]
  exact ⟨rfl, rfl⟩
theorem step_st {t : Int} {s : Th} {n : Str} : (Kd.shelf.ageStep t s n).st = s.st.filter fun m => !(decide (m = n) && fadesB s t m) := by
  unfold Kd.ageStep fadesB
  by_cases h0 : agedI (cntE s.es n) s.part t = 0
  · rw [if_pos h0]
    show (Kd.shelf.gone { s with es := setC s.es n (agedI (cntE s.es n) s.part t) } n "faded").2.st = _
    unfold Kd.gone
    dsimp only
    by_cases hn : n ∈ s.st
    · rw [if_pos hn]
      show s.st.filter _ = _
      apply List.filter_congr
      intro m _
      by_cases q : m = n
      · simp [q, h0]
      · simp [q]
    · rw [if_neg hn]
      show s.st = _
      symm
      rw [List.filter_eq_self]
      intro m hm
      have : m ≠ n := fun q => hn (q ▸ hm)
      simp [this]
  · rw [if_neg h0]
    show s.st = _
    symm
    rw [List.filter_eq_self]
    intro m hm
    by_cases q : m = n
    · simp [q, h0]
    · simp [q]
theorem step_went {t : Int} {s : Th} {n : Str} (hn : n ∈ s.es.map (·.1)) : (Kd.shelf.ageStep t s n).went = s.went ++ (if (fadesB s t n && decide (n ∈ s.st)) = true then [fadeG s n] else []) := by
  unfold Kd.ageStep fadesB
  by_cases h0 : agedI (cntE s.es n) s.part t = 0
  · rw [if_pos h0, decide_eq_true h0]
    show (Kd.shelf.gone { s with es := setC s.es n (agedI (cntE s.es n) s.part t) } n "faded").2.went = _
    unfold Kd.gone
    dsimp only
    by_cases hs : n ∈ s.st
    · rw [if_pos hs, decide_eq_true hs, if_pos (show (true && true) = true from rfl)]
      show s.went ++ [_] = _
      congr 2
      unfold fadeG cntE lstE
      rw [look_setC, if_pos rfl]
      have := look_mem.mpr hn
      unfold cntE at h0
      cases e : look s.es n with
      | none => rw [e] at this; cases this
      | some q =>
        rw [e] at h0
        show (⟨s.deed, n, "faded", agedI q.1 s.part t, q.2⟩ : Going) = ⟨s.deed, n, "faded", 0, q.2⟩
        rw [show agedI q.1 s.part t = 0 from h0]
    · rw [if_neg hs, decide_eq_false hs, if_neg (by simp)]
      show s.went = _
      rw [List.append_nil]
  · rw [if_neg h0, decide_eq_false h0, if_neg (by simp)]
    show s.went = _
    rw [List.append_nil]
theorem fold_shelf (t : Int) : ∀ (ns : List Str) (s : Th), ns.Nodup → (∀ n ∈ ns, n ∈ s.es.map (·.1)) →
    (ns.foldl (Kd.shelf.ageStep t) s).st = s.st.filter (fun m => !(decide (m ∈ ns) && fadesB s t m)) ∧ (ns.foldl (Kd.shelf.ageStep t) s).went = s.went ++ (ns.filter fun n => fadesB s t n && decide (n ∈ s.st)).map (fadeG s)
  | [], s, _, _ => ⟨(List.filter_eq_self.mpr fun m _ => by simp).symm, by simp⟩
  | n :: r, s, hd, hin => by
    rw [List.nodup_cons] at hd
    have hr : ∀ m ∈ r, m ≠ n := fun m hm q => hd.1 (q ▸ hm)
    have core := ageStep_core .shelf t s n
    obtain ⟨h1, h2⟩ := fold_shelf t r (Kd.shelf.ageStep t s n) hd.2 (fun m hm => keys_ageStep (hin m (List.mem_cons_of_mem _ hm)) (hr m hm))
    have hn := hin n List.mem_cons_self
    have hf : ∀ m, m ≠ n → fadesB (Kd.shelf.ageStep t s n) t m = fadesB s t m := fun m hm => by
      unfold fadesB
      rw [(cnt_step hm).1, core.2.1]
    have hg : ∀ m, m ≠ n → fadeG (Kd.shelf.ageStep t s n) m = fadeG s m := fun m hm => by
      unfold fadeG
      rw [(cnt_step hm).2, core.2.2.2.1]
    refine ⟨?_, ?_⟩
    · rw [List.foldl_cons, h1, step_st, List.filter_filter]
      apply List.filter_congr
      intro m _
      by_cases q : m = n
      · simp [q, hd.1]
      · simp [q, hf m q]
    · rw [List.foldl_cons, h2, step_went hn, List.append_assoc]
      congr 1
      rw [List.filter_cons]
      have e1 : (r.filter fun m => fadesB (Kd.shelf.ageStep t s n) t m && decide (m ∈ (Kd.shelf.ageStep t s n).st)).map (fadeG (Kd.shelf.ageStep t s n)) = (r.filter fun m => fadesB s t m && decide (m ∈ s.st)).map (fadeG s) := by
        have e2 : (r.filter fun m => fadesB (Kd.shelf.ageStep t s n) t m && decide (m ∈ (Kd.shelf.ageStep t s n).st)) = r.filter fun m => fadesB s t m && decide (m ∈ s.st) := by
          apply List.filter_congr
          intro m hm
          rw [hf m (hr m hm), step_st]
          congr 1
          rw [decide_eq_decide, List.mem_filter]
          simp [hr m hm]
        rw [e2]
        apply List.map_congr_left
        intro m hm
        exact hg m (hr m (List.mem_filter.mp hm).1)
      rw [e1]
      split
      · rfl
      · rfl
theorem fades_0 {s : Th} (hp : Pos1 s) {m : Str} (hm : m ∈ s.es.map (·.1)) : fadesB s 0 m = false := by
  unfold fadesB
  rw [agedI_0, decide_eq_false_iff_not]
  have := (pos_iff hp m).mpr hm
  omega
/-- a shelf's spending: what stands, what went -/
theorem spend_shelf {s : Th} (w : WF .shelf s) (hp : Pos1 s) {n : Int} (hn : 0 ≤ n) :
    (Kd.shelf.spend s n).st = s.st.filter (fun m => !fadesB s (s.times n) m) ∧ (Kd.shelf.spend s n).went = s.went ++ ((byLast s.es).filter fun m => fadesB s (s.times n) m && decide (m ∈ s.st)).map (fadeG s) := by
  unfold Kd.spend
  by_cases h : 0 < s.times n
  · rw [if_pos h]
    obtain ⟨h1, h2⟩ := fold_shelf (s.times n) (byLast s.es) { s with time := s.time + n } ((byLast_perm s.es).nodup_iff.mpr w.nd) (fun m hm => (byLast_perm s.es).mem_iff.mp hm)
    refine ⟨?_, h2⟩
    rw [h1]
    show s.st.filter _ = _
    apply List.filter_congr
    intro m hm
    have : m ∈ byLast s.es := (byLast_perm s.es).mem_iff.mpr (w.sin m hm)
    rw [decide_eq_true this]
    rfl
  · rw [if_neg h]
    have h0 : s.times n = 0 := by have := times_nn w.sp hn; omega
    rw [h0]
    refine ⟨?_, ?_⟩
    · show s.st = _
      symm
      rw [List.filter_eq_self]
      intro m hm
      rw [fades_0 hp (w.sin m hm)]
      rfl
    · show s.went = _
      have : ((byLast s.es).filter fun m => fadesB s 0 m && decide (m ∈ s.st)) = [] := by
        rw [List.filter_eq_nil_iff]
        intro m hm
        rw [fades_0 hp ((byLast_perm s.es).mem_iff.mp hm)]
        simp
      rw [this]
      simp
/-- one, then more: together -/
theorem times_add (s : Th) (a b : Int) : s.times (a + b) = s.times a + { s with time := s.time + a }.times b := by
  unfold Th.times
  show (s.time + (a + b)) / s.span - s.time / s.span = (s.time + a) / s.span - s.time / s.span + ((s.time + a + b) / s.span - (s.time + a) / s.span)
  rw [← Int.add_assoc]
  omega
theorem agedI_add {c p a b : Int} (hc : 0 ≤ c) (hp : 2 ≤ p) (ha : 0 ≤ a) (hb : 0 ≤ b) : agedI (agedI c p a) p b = agedI c p (a + b) := by
  unfold agedI
  rw [Int.ediv_ediv_of_nonneg (Int.le_of_lt (Int.pow_pos (by omega))), ← Int.pow_add]
  congr 2
  omega
theorem ag_add {p a b : Int} {o : Option (Int × Int)} (hc : ∀ q, o = some q → 0 ≤ q.1) (hp : 2 ≤ p) (ha : 0 ≤ a) (hb : 0 ≤ b) : ag p b (ag p a o) = ag p (a + b) o := by
  cases o with
  | none => rfl
  | some q =>
    have h0 := hc q rfl
    have e := agedI_add h0 hp ha hb
    show ag p b (if agedI q.1 p a = 0 then none else some (agedI q.1 p a, q.2)) = if agedI q.1 p (a + b) = 0 then none else some (agedI q.1 p (a + b), q.2)
    by_cases h : agedI q.1 p a = 0
    · rw [if_pos h]
      rw [h] at e
      have z : agedI 0 p b = 0 := by unfold agedI; rw [Int.zero_ediv]
      rw [z] at e
      rw [if_pos e.symm]
      rfl
    · rw [if_neg h]
      show (if agedI (agedI q.1 p a) p b = 0 then none else some (agedI (agedI q.1 p a) p b, q.2)) = _
      rw [e]
end Own

/-! ### two shelves that differ by their deeds' numbers alone; plain Lean -/
namespace Own
open PySem L2
structure Rel (s t : Th) : Prop where
  span : s.span = t.span
  part : s.part = t.part
  time : s.time = t.time
  places : s.places = t.places
  st : s.st = t.st
  cnt : ∀ m, (look s.es m).map (·.1) = (look t.es m).map (·.1)
  ord : ∀ m n, m ∈ s.es.map (·.1) → n ∈ s.es.map (·.1) → (lstE s.es m < lstE s.es n ↔ lstE t.es m < lstE t.es n)
def tri (g : Going) : Str × Str × Int := (g.name, g.reason, g.count)
theorem Rel.c {s t : Th} (r : Rel s t) (m : Str) : cntE s.es m = cntE t.es m := by
  unfold cntE
  rw [r.cnt]
theorem Rel.k {s t : Th} (r : Rel s t) (m : Str) : m ∈ s.es.map (·.1) ↔ m ∈ t.es.map (·.1) := by
  have h := congrArg Option.isSome (r.cnt m)
  rw [Option.isSome_map, Option.isSome_map] at h
  rw [← look_mem, ← look_mem, h]
theorem Rel.lex {s t : Th} (r : Rel s t) {m n : Str} (hm : m ∈ s.es.map (·.1)) (hn : n ∈ s.es.map (·.1)) : lexQ (rankE s.es m) (rankE s.es n) = lexQ (rankE t.es m) (rankE t.es n) := by
  unfold lexQ rankE
  dsimp only
  rw [r.c m, r.c n]
  have := r.ord m n hm hn
  split
  · exact decide_eq_decide.mpr this
  · rfl
theorem lst_one {k : Kd} {s : Th} (w : WF k s) {m n : Str} (hm : m ∈ s.es.map (·.1)) (hn : n ∈ s.es.map (·.1)) (h : lstE s.es m = lstE s.es n) : m = n := by
  obtain ⟨a, ha, rfl⟩ := List.mem_map.mp hm
  obtain ⟨b, hb, rfl⟩ := List.mem_map.mp hn
  have e1 : lstE s.es a.1 = a.2.2 := by unfold lstE; rw [look_of_mem w.nd ha]; rfl
  have e2 : lstE s.es b.1 = b.2.2 := by unfold lstE; rw [look_of_mem w.nd hb]; rfl
  rw [e1, e2] at h
  have : ∀ {l : List Ent}, (l.map fun e => e.2.2).Nodup → ∀ {a b : Ent}, a ∈ l → b ∈ l → a.2.2 = b.2.2 → a = b := by
    intro l
    induction l with
    | nil => intro _ a b ha; cases ha
    | cons c l ih =>
      intro hd a b ha' hb' he
      rw [List.map_cons, List.nodup_cons] at hd
      rcases List.mem_cons.mp ha' with q1 | q1
      · rcases List.mem_cons.mp hb' with q2 | q2
        · rw [q1, q2]
        · rw [q1] at he
          exact absurd (List.mem_map.mpr ⟨b, q2, he.symm⟩) hd.1
      · rcases List.mem_cons.mp hb' with q2 | q2
        · rw [q2] at he
          exact absurd (List.mem_map.mpr ⟨a, q1, he⟩) hd.1
        · exact ih hd.2 q1 q2 he
  rw [this w.ls ha hb h]
theorem Rel.sort {k : Kd} {s t : Th} (r : Rel s t) (w : WF k s) {ns : List Str} (hn : ∀ n ∈ ns, n ∈ s.es.map (·.1)) : sortR s.es ns = sortR t.es ns := by
  refine sorted_uniq (lt := lexQ) (f := rankE s.es) ((sortR_perm s.es ns).trans (sortR_perm t.es ns).symm) (sortR_sorted s.es ns) ?_ fun x hx y hy a b => ?_
  · refine (sortR_sorted t.es ns).imp_of_mem fun {x y} hx hy h => ?_
    rw [r.lex (hn _ ((sortR_perm t.es ns).mem_iff.mp hy)) (hn _ ((sortR_perm t.es ns).mem_iff.mp hx))]
    exact h
  · rw [lexQ_no] at a b
    have e : (rankE s.es x).2 = (rankE s.es y).2 := by omega
    exact lst_one w (hn _ ((sortR_perm s.es ns).mem_iff.mp hx)) (hn _ ((sortR_perm s.es ns).mem_iff.mp hy)) e
theorem Rel.weak {s t : Th} (r : Rel s t) (w : WF .shelf s) : weakest s = weakest t := by
  unfold weakest
  rw [r.sort w w.sin, r.st]
theorem Rel.fades {s t : Th} (r : Rel s t) (n : Int) (m : Str) : fadesB s n m = fadesB t n m := by
  unfold fadesB
  rw [r.c, r.part]
theorem map_ag {p n : Int} {o o2 : Option (Int × Int)} (h : o.map (·.1) = o2.map (·.1)) : (ag p n o).map (·.1) = (ag p n o2).map (·.1) := by
  cases o with
  | none =>
    cases o2 with
    | none => rfl
    | some q => cases h
  | some q =>
    cases o2 with
    | none => cases h
    | some q2 =>
      have h : q.1 = q2.1 := Option.some.inj h
      show (if agedI q.1 p n = 0 then none else some (agedI q.1 p n, q.2) : Option (Int × Int)).map _ = (if agedI q2.1 p n = 0 then none else some (agedI q2.1 p n, q2.2) : Option (Int × Int)).map _
      rw [h]
      split <;> rfl
theorem ag_snd {p n : Int} {o : Option (Int × Int)} (h : (ag p n o).isSome = true) : ((ag p n o).map (·.2)).getD 0 = (o.map (·.2)).getD 0 ∧ o.isSome = true := by
  cases o with
  | none => cases h
  | some q =>
    have h : (if agedI q.1 p n = 0 then none else some (agedI q.1 p n, q.2) : Option (Int × Int)).isSome = true := h
    show ((if agedI q.1 p n = 0 then none else some (agedI q.1 p n, q.2) : Option (Int × Int)).map _).getD 0 = q.2 ∧ _
    by_cases e : agedI q.1 p n = 0
    · rw [if_pos e] at h; cases h
    · rw [if_neg e]; exact ⟨rfl, rfl⟩
/-- look told for both: related again -/
theorem rel_of {s t s2 t2 : Th} (r : Rel s t) {p n : Int} (h1 : s2.span = s.span ∧ s2.part = s.part ∧ s2.places = s.places) (h2 : t2.span = t.span ∧ t2.part = t.part ∧ t2.places = t.places) (ht : s2.time = t2.time) (hst : s2.st = t2.st)
    (l1 : ∀ m, look s2.es m = ag p n (look s.es m)) (l2 : ∀ m, look t2.es m = ag p n (look t.es m)) : Rel s2 t2 where
  span := h1.1.trans (r.span.trans h2.1.symm)
  part := h1.2.1.trans (r.part.trans h2.2.1.symm)
  time := ht
  places := h1.2.2.trans (r.places.trans h2.2.2.symm)
  st := hst
  cnt := fun m => by rw [l1, l2]; exact map_ag (r.cnt m)
  ord := fun m n' hm hn => by
    have k1 := look_mem.mpr hm
    have k2 := look_mem.mpr hn
    have key : ∀ {m}, (look s2.es m).isSome = true → lstE s2.es m = lstE s.es m ∧ lstE t2.es m = lstE t.es m ∧ m ∈ s.es.map (·.1) := by
      intro m hm
      have h3 := hm
      rw [l1] at h3
      have a := ag_snd h3
      have h4 : (ag p n (look t.es m)).isSome = true := by
        have := congrArg Option.isSome (map_ag (p := p) (n := n) (r.cnt m))
        rw [Option.isSome_map, Option.isSome_map] at this
        rw [← this]
        exact h3
      have b := ag_snd h4
      refine ⟨?_, ?_, look_mem.mp a.2⟩
      · unfold lstE; rw [l1]; exact a.1
      · unfold lstE; rw [l2]; exact b.1
    obtain ⟨a1, a2, a3⟩ := key k1
    obtain ⟨b1, b2, b3⟩ := key k2
    rw [a1, a2, b1, b2]
    exact r.ord m n' a3 b3
theorem Rel.deed {s t : Th} (r : Rel s t) (i j : Nat) : Rel { s with deed := i } { t with deed := j } := ⟨r.span, r.part, r.time, r.places, r.st, r.cnt, r.ord⟩
theorem Rel.spend {s t : Th} (r : Rel s t) (w : WF .shelf s) (v : WF .shelf t) (p : Pos1 s) (q : Pos1 t) {n : Int} (hn : 0 ≤ n) : Rel (Kd.shelf.spend s n) (Kd.shelf.spend t n) := by
  have c1 := spend_core .shelf s n
  have c2 := spend_core .shelf t n
  have ht : s.times n = t.times n := by unfold Th.times; rw [r.span, r.time]
  refine rel_of r (p := s.part) (n := s.times n) ⟨c1.1, c1.2.1, c1.2.2.2.2⟩ ⟨c2.1, c2.2.1, c2.2.2.2.2⟩ (by rw [c1.2.2.1, c2.2.2.1, r.time]) ?_ (look_spend w p hn) (fun m => by rw [look_spend v q hn, r.part, ht])
  rw [(spend_shelf w p hn).1, (spend_shelf v q hn).1, r.st, ht]
  apply List.filter_congr
  intro m _
  rw [r.fades]
/-- what fades, by name -/
def fadeL (s : Th) (n : Int) : List Going := ((byLast s.es).filter fun m => fadesB s (s.times n) m && decide (m ∈ s.st)).map (fadeG s)
theorem fadeL_perm {s : Th} (w : WF .shelf s) (n : Int) : ((fadeL s n).map tri).Perm ((s.st.filter fun m => fadesB s (s.times n) m).map fun m => (m, ("faded" : Str), (0 : Int))) := by
  unfold fadeL
  rw [List.map_map]
  have h : ((byLast s.es).filter fun m => fadesB s (s.times n) m && decide (m ∈ s.st)).Perm (s.st.filter fun m => fadesB s (s.times n) m) := by
    refine (List.perm_ext_iff_of_nodup (nodup_filter _ ((byLast_perm s.es).nodup_iff.mpr w.nd)) (nodup_filter _ w.snd)).mpr fun m => ?_
    rw [List.mem_filter, List.mem_filter, Bool.and_eq_true, decide_eq_true_eq]
    exact ⟨fun h => ⟨h.2.2, h.2.1⟩, fun h => ⟨(byLast_perm s.es).mem_iff.mpr (w.sin m h.1), h.2, h.1⟩⟩
  exact h.map _
/-- a rest at once, and in two parts -/
theorem rest_two {s t : Th} (r : Rel s t) (w : WF .shelf s) (v : WF .shelf t) (p : Pos1 s) (q : Pos1 t) {a b : Int} (ha : 0 ≤ a) (hb : 0 ≤ b) :
    Rel (Kd.shelf.rest s (a + b)).2 (Kd.shelf.rest (Kd.shelf.rest t a).2 b).2 ∧ (Kd.shelf.rest s (a + b)).1 = (Kd.shelf.rest t a).1 + (Kd.shelf.rest (Kd.shelf.rest t a).2 b).1 ∧
    ∃ A B : List Going, (Kd.shelf.rest s (a + b)).2.went = s.went ++ A ∧ (Kd.shelf.rest (Kd.shelf.rest t a).2 b).2.went = t.went ++ B ∧ (A.map tri).Perm (B.map tri) := by
  have w1 := w.next
  have v1 := v.next
  have v2 : WF .shelf (Kd.shelf.spend t.next a) := v1.spend a
  have v3 := v2.next
  have q1 : Pos1 t.next := q
  have q2 : Pos1 (Kd.shelf.spend t.next a) := q1.spend v1 a
  have q3 : Pos1 (Kd.shelf.spend t.next a).next := q2
  have p1 : Pos1 s.next := p
  have c0 := spend_core .shelf s.next (a + b)
  have c1 := spend_core .shelf t.next a
  have c2 := spend_core .shelf (Kd.shelf.spend t.next a).next b
  have e1 : (Kd.shelf.spend t.next a).next.times b = { t with time := t.time + a }.times b := by
    unfold Th.times
    show ((Kd.shelf.spend t.next a).time + b) / (Kd.shelf.spend t.next a).span - (Kd.shelf.spend t.next a).time / (Kd.shelf.spend t.next a).span = _
    rw [c1.1, c1.2.2.1]
    rfl
  have e0 : s.next.times (a + b) = t.next.times a + (Kd.shelf.spend t.next a).next.times b := by
    rw [e1]
    have : s.next.times (a + b) = t.times (a + b) := by
      unfold Th.times
      show (s.time + (a + b)) / s.span - s.time / s.span = _
      rw [r.span, r.time]
    rw [this, times_add]
    rfl
  have n1 : 0 ≤ t.next.times a := times_nn v1.sp ha
  have n2 : 0 ≤ (Kd.shelf.spend t.next a).next.times b := times_nn v3.sp hb
  have pos : ∀ m q, look t.es m = some q → 0 ≤ q.1 := fun m q' h => by have := pos_look q h; omega
  have lk : ∀ m, look (Kd.shelf.spend (Kd.shelf.spend t.next a).next b).es m = ag s.part (s.next.times (a + b)) (look t.es m) := fun m => by
    rw [look_spend v3 q3 hb]
    show ag (Kd.shelf.spend t.next a).part _ (look (Kd.shelf.spend t.next a).es m) = _
    rw [look_spend v1 q1 ha, c1.2.1]
    show ag t.part _ (ag t.part _ (look t.es m)) = _
    rw [ag_add (pos m) v.pt n1 n2, e0, r.part]
  have sp1 := spend_shelf w1 p1 (show (0 : Int) ≤ a + b by omega)
  have sp2 := spend_shelf v1 q1 ha
  have sp3 := spend_shelf v3 q3 hb
  have f1 : ∀ m, fadesB s.next (s.next.times (a + b)) m = decide (agedI (cntE t.es m) t.part (t.next.times a + (Kd.shelf.spend t.next a).next.times b) = 0) := fun m => by
    unfold fadesB
    rw [e0]
    show decide (agedI (cntE s.es m) s.part _ = 0) = _
    rw [r.c, r.part]
  have f2 : ∀ m, fadesB t.next (t.next.times a) m = decide (agedI (cntE t.es m) t.part (t.next.times a) = 0) := fun m => rfl
  have f3 : ∀ m, fadesB (Kd.shelf.spend t.next a).next ((Kd.shelf.spend t.next a).next.times b) m = decide (agedI (cntE t.es m) t.part (t.next.times a + (Kd.shelf.spend t.next a).next.times b) = 0) := fun m => by
    unfold fadesB
    show decide (agedI (cntE (Kd.shelf.spend t.next a).es m) (Kd.shelf.spend t.next a).part _ = 0) = _
    have : cntE (Kd.shelf.spend t.next a).es m = agedI (cntE t.es m) t.part (t.next.times a) := by
      unfold cntE
      rw [look_spend v1 q1 ha, cnt_ag]
      rfl
    rw [this, c1.2.1]
    show decide (agedI (agedI (cntE t.es m) t.part (t.next.times a)) t.part _ = 0) = _
    rw [agedI_add (cntE_nn v.cn m) v.pt n1 n2]
  have imp : ∀ m, fadesB t.next (t.next.times a) m = true → fadesB s.next (s.next.times (a + b)) m = true := fun m h => by
    rw [f2, decide_eq_true_eq] at h
    rw [f1, decide_eq_true_eq, ← agedI_add (cntE_nn v.cn m) v.pt n1 n2, h]
    unfold agedI
    rw [Int.zero_ediv]
  have f13 : ∀ m, fadesB (Kd.shelf.spend t.next a).next ((Kd.shelf.spend t.next a).next.times b) m = fadesB s.next (s.next.times (a + b)) m := fun m => by rw [f1, f3]
  have hst : (Kd.shelf.rest s (a + b)).2.st = (Kd.shelf.rest (Kd.shelf.rest t a).2 b).2.st := by
    show (Kd.shelf.spend s.next (a + b)).st = (Kd.shelf.spend (Kd.shelf.spend t.next a).next b).st
    rw [sp1.1, sp3.1]
    show s.st.filter _ = (Kd.shelf.spend t.next a).st.filter _
    rw [sp2.1, List.filter_filter, r.st]
    show t.st.filter _ = t.st.filter _
    apply List.filter_congr
    intro m _
    rw [f13]
    cases h : fadesB t.next (t.next.times a) m with
    | false => simp
    | true => rw [imp m h]; rfl
  refine ⟨rel_of r (p := s.part) (n := s.next.times (a + b)) ⟨c0.1, c0.2.1, c0.2.2.2.2⟩ ⟨c2.1.trans c1.1, c2.2.1.trans c1.2.1, c2.2.2.2.2.trans c1.2.2.2.2⟩ ?_ hst (look_spend w1 p1 (by omega)) lk, ?_, fadeL s.next (a + b), fadeL t.next a ++ fadeL (Kd.shelf.spend t.next a).next b, sp1.2, ?_, ?_⟩
  · show (Kd.shelf.spend s.next (a + b)).time = (Kd.shelf.spend (Kd.shelf.spend t.next a).next b).time
    rw [c0.2.2.1, c2.2.2.1]
    show s.time + (a + b) = (Kd.shelf.spend t.next a).time + b
    rw [c1.2.2.1]
    show s.time + (a + b) = t.time + a + b
    rw [r.time]
    omega
  · exact e0
  · show (Kd.shelf.spend (Kd.shelf.spend t.next a).next b).went = _
    rw [sp3.2]
    show (Kd.shelf.spend t.next a).went ++ _ = _
    rw [sp2.2, List.append_assoc]
    rfl
  · refine (fadeL_perm w1 _).trans (List.Perm.trans ?_ (((fadeL_perm v1 a).append (fadeL_perm v3 b)).symm.trans (by rw [List.map_append])))
    rw [← List.map_append]
    apply List.Perm.map
    show (s.st.filter _).Perm (t.st.filter _ ++ (Kd.shelf.spend t.next a).st.filter _)
    rw [sp2.1, List.filter_filter, r.st]
    show (t.st.filter _).Perm (t.st.filter _ ++ t.st.filter _)
    have e : (t.st.filter fun m => fadesB (Kd.shelf.spend t.next a).next ((Kd.shelf.spend t.next a).next.times b) m && !fadesB t.next (t.next.times a) m) = (t.st.filter fun m => fadesB s.next (s.next.times (a + b)) m).filter fun m => !fadesB t.next (t.next.times a) m := by
      rw [List.filter_filter]
      apply List.filter_congr
      intro m _
      rw [f13, Bool.and_comm]
    have e2 : (t.st.filter fun m => fadesB t.next (t.next.times a) m) = (t.st.filter fun m => fadesB s.next (s.next.times (a + b)) m).filter fun m => fadesB t.next (t.next.times a) m := by
      rw [List.filter_filter]
      apply List.filter_congr
      intro m _
      cases h : fadesB t.next (t.next.times a) m with
      | false => rfl
      | true => rw [imp m h]; rfl
    rw [e, e2]
    exact (List.filter_append_perm _ _).symm
theorem gone_two {s t : Th} (r : Rel s t) (n why : Str) : Rel (Kd.shelf.gone s n why).2 (Kd.shelf.gone t n why).2 ∧ (Kd.shelf.gone s n why).1 = (Kd.shelf.gone t n why).1 ∧
    ∃ A B : List Going, (Kd.shelf.gone s n why).2.went = s.went ++ A ∧ (Kd.shelf.gone t n why).2.went = t.went ++ B ∧ A.map tri = B.map tri := by
  unfold Kd.gone
  dsimp only
  by_cases h : n ∈ s.st
  · have h2 : n ∈ t.st := by rw [← r.st]; exact h
    rw [if_pos h, if_pos h2]
    refine ⟨⟨r.span, r.part, r.time, r.places, by show s.st.filter _ = t.st.filter _; rw [r.st], r.cnt, r.ord⟩, rfl, [⟨s.deed, n, why, cntE s.es n, lstE s.es n⟩], [⟨t.deed, n, why, cntE t.es n, lstE t.es n⟩], rfl, rfl, ?_⟩
    show [(n, why, cntE s.es n)] = [(n, why, cntE t.es n)]
    rw [r.c]
  · have h2 : ¬ n ∈ t.st := by rw [← r.st]; exact h
    rw [if_neg h, if_neg h2]
    exact ⟨r, rfl, [], [], (List.append_nil _).symm, (List.append_nil _).symm, rfl⟩
theorem came_two {s t : Th} (r : Rel s t) (w : WF .shelf s) (n : Str) : Rel (Kd.shelf.came s n).2 (Kd.shelf.came t n).2 ∧ (Kd.shelf.came s n).1 = (Kd.shelf.came t n).1 ∧
    ∃ A B : List Going, (Kd.shelf.came s n).2.went = s.went ++ A ∧ (Kd.shelf.came t n).2.went = t.went ++ B ∧ A.map tri = B.map tri := by
  unfold Kd.came
  dsimp only
  by_cases h : n ∈ s.st
  · have h2 : n ∈ t.st := by rw [← r.st]; exact h
    rw [if_pos h, if_pos h2]
    exact ⟨r, rfl, [], [], (List.append_nil _).symm, (List.append_nil _).symm, rfl⟩
  · have h2 : ¬ n ∈ t.st := by rw [← r.st]; exact h
    rw [if_neg h, if_neg h2]
    by_cases f : (s.st.length : Int) = s.places
    · have f2 : (t.st.length : Int) = t.places := by rw [← r.st, ← r.places]; exact f
      rw [if_pos f, if_pos f2, ← r.weak w]
      obtain ⟨g, _, A, B, a1, a2, a3⟩ := gone_two r (weakest s) "crowded"
      exact ⟨⟨g.span, g.part, g.time, g.places, by show _ ++ [n] = _ ++ [n]; rw [g.st], g.cnt, g.ord⟩, rfl, A, B, a1, a2, a3⟩
    · have f2 : ¬ (t.st.length : Int) = t.places := by rw [← r.st, ← r.places]; exact f
      rw [if_neg f, if_neg f2]
      exact ⟨⟨r.span, r.part, r.time, r.places, by show s.st ++ [n] = t.st ++ [n]; rw [r.st], r.cnt, r.ord⟩, rfl, [], [], (List.append_nil _).symm, (List.append_nil _).symm, rfl⟩
theorem put_two {s t : Th} (r : Rel s t) {n : Str} {c d e : Int} (ls : ∀ x ∈ s.es, x.2.2 < d) (lt : ∀ x ∈ t.es, x.2.2 < e) : Rel { s with es := putE s.es n (c, d) } { t with es := putE t.es n (c, e) } where
  span := r.span
  part := r.part
  time := r.time
  places := r.places
  st := r.st
  cnt := fun m => by
    show (look (putE s.es n (c, d)) m).map _ = (look (putE t.es n (c, e)) m).map _
    rw [look_putE, look_putE]
    by_cases h : m = n
    · rw [if_pos h, if_pos h]; rfl
    · rw [if_neg h, if_neg h]; exact r.cnt m
  ord := fun a b ha hb => by
    have l1 : ∀ m, lstE (putE s.es n (c, d)) m = if m = n then d else lstE s.es m := fun m => by
      unfold lstE
      rw [look_putE]
      by_cases h : m = n
      · rw [if_pos h, if_pos h]; rfl
      · rw [if_neg h, if_neg h]
    have l2 : ∀ m, lstE (putE t.es n (c, e)) m = if m = n then e else lstE t.es m := fun m => by
      unfold lstE
      rw [look_putE]
      by_cases h : m = n
      · rw [if_pos h, if_pos h]; rfl
      · rw [if_neg h, if_neg h]
    have bs : ∀ m, m ∈ s.es.map (·.1) → lstE s.es m < d := fun m hm => by
      have := look_mem.mpr hm
      unfold lstE
      cases q : look s.es m with
      | none => rw [q] at this; cases this
      | some x => exact ls _ (mem_of_look q)
    have bt : ∀ m, m ∈ t.es.map (·.1) → lstE t.es m < e := fun m hm => by
      have := look_mem.mpr hm
      unfold lstE
      cases q : look t.es m with
      | none => rw [q] at this; cases this
      | some x => exact lt _ (mem_of_look q)
    have key : ∀ {m}, m ∈ (putE s.es n (c, d)).map (·.1) → m ≠ n → m ∈ s.es.map (·.1) := fun {m} hm hne => by
      rw [keys_putE] at hm
      split at hm
      · exact hm
      · rcases List.mem_append.mp hm with h | h
        · exact h
        · exact absurd (List.mem_singleton.mp h) hne
    show lstE (putE s.es n (c, d)) a < lstE (putE s.es n (c, d)) b ↔ lstE (putE t.es n (c, e)) a < lstE (putE t.es n (c, e)) b
    rw [l1, l1, l2, l2]
    by_cases h1 : a = n
    · rw [if_pos h1, if_pos h1]
      by_cases h2 : b = n
      · rw [if_pos h2, if_pos h2]
        exact ⟨fun h => absurd h (Int.lt_irrefl _), fun h => absurd h (Int.lt_irrefl _)⟩
      · rw [if_neg h2, if_neg h2]
        have x := bs b (key hb h2)
        have y := bt b ((r.k b).mp (key hb h2))
        constructor <;> intro h <;> omega
    · rw [if_neg h1, if_neg h1]
      by_cases h2 : b = n
      · rw [if_pos h2, if_pos h2]
        have x := bs a (key ha h1)
        have y := bt a ((r.k a).mp (key ha h1))
        constructor <;> intro h <;> omega
      · rw [if_neg h2, if_neg h2]
        exact r.ord a b (key ha h1) (key hb h2)
theorem ask_two {s t : Th} (r : Rel s t) (w : WF .shelf s) (v : WF .shelf t) (p : Pos1 s) (q : Pos1 t) (n : Str) (c : Int) : Rel (Kd.shelf.ask s n c).2 (Kd.shelf.ask t n c).2 ∧ (Kd.shelf.ask s n c).1 = (Kd.shelf.ask t n c).1 ∧
    ∃ A B : List Going, (Kd.shelf.ask s n c).2.went = s.went ++ A ∧ (Kd.shelf.ask t n c).2.went = t.went ++ B ∧ (A.map tri).Perm (B.map tri) := by
  have r1 : Rel s.next t.next := ⟨r.span, r.part, r.time, r.places, r.st, r.cnt, r.ord⟩
  have w1 := w.next.spend 1
  have v1 := v.next.spend 1
  have r2 := r1.spend w.next v.next p q (show (0 : Int) ≤ 1 by decide)
  obtain ⟨r3, ans, A, B, a1, a2, a3⟩ := came_two r2 w1 n
  have cs := came_core .shelf (Kd.shelf.spend s.next 1) n
  have ct := came_core .shelf (Kd.shelf.spend t.next 1) n
  have ss := spend_core .shelf s.next 1
  have st := spend_core .shelf t.next 1
  have lbs : LB (Kd.shelf.spend s.next 1) s.deed := LB.spend (s := s.next) w.lr 1
  have lbt : LB (Kd.shelf.spend t.next 1) t.deed := LB.spend (s := t.next) v.lr 1
  have ds : ((Kd.shelf.came (Kd.shelf.spend s.next 1) n).2.deed : Int) = (s.deed : Int) + 1 := by rw [cs.2.2.2.2.1, ss.2.2.2.1]; rfl
  have dt : ((Kd.shelf.came (Kd.shelf.spend t.next 1) n).2.deed : Int) = (t.deed : Int) + 1 := by rw [ct.2.2.2.2.1, st.2.2.2.1]; rfl
  refine ⟨?_, ans, fadeL s.next 1 ++ A, fadeL t.next 1 ++ B, ?_, ?_, ?_⟩
  · have := put_two r3 (n := n) (c := cntE (Kd.shelf.came (Kd.shelf.spend s.next 1) n).2.es n + c) (d := ((Kd.shelf.came (Kd.shelf.spend s.next 1) n).2.deed : Int)) (e := ((Kd.shelf.came (Kd.shelf.spend t.next 1) n).2.deed : Int)) (fun x hx => by
      rw [cs.1] at hx
      have := lbs x hx
      omega) (fun x hx => by
      rw [ct.1] at hx
      have := lbt x hx
      omega)
    have e : cntE (Kd.shelf.came (Kd.shelf.spend s.next 1) n).2.es n = cntE (Kd.shelf.came (Kd.shelf.spend t.next 1) n).2.es n := r3.c n
    unfold Kd.ask
    dsimp only
    rw [← e]
    exact this
  · show (Kd.shelf.came (Kd.shelf.spend s.next 1) n).2.went = _
    rw [a1, (spend_shelf w.next p (show (0 : Int) ≤ 1 by decide)).2, List.append_assoc]
    rfl
  · show (Kd.shelf.came (Kd.shelf.spend t.next 1) n).2.went = _
    rw [a2, (spend_shelf v.next q (show (0 : Int) ≤ 1 by decide)).2, List.append_assoc]
    rfl
  · rw [List.map_append, List.map_append, a3]
    refine List.Perm.append_right _ ((fadeL_perm w.next 1).trans (List.Perm.trans ?_ (fadeL_perm v.next 1).symm))
    have e : (s.next.st.filter fun m => fadesB s.next (s.next.times 1) m) = t.next.st.filter fun m => fadesB t.next (t.next.times 1) m := by
      show s.st.filter _ = t.st.filter _
      rw [r.st]
      apply List.filter_congr
      intro m _
      have ht : s.next.times 1 = t.next.times 1 := by
        unfold Th.times
        show (s.time + 1) / s.span - s.time / s.span = (t.time + 1) / t.span - t.time / t.span
        rw [r.span, r.time]
      rw [r1.fades, ht]
    rw [e]
theorem drop_two {s t : Th} (r : Rel s t) (n : Str) : Rel (Kd.shelf.drop s n).2 (Kd.shelf.drop t n).2 ∧ (Kd.shelf.drop s n).1 = (Kd.shelf.drop t n).1 ∧
    ∃ A B : List Going, (Kd.shelf.drop s n).2.went = s.went ++ A ∧ (Kd.shelf.drop t n).2.went = t.went ++ B ∧ A.map tri = B.map tri :=
  gone_two (s := s.next) (t := t.next) ⟨r.span, r.part, r.time, r.places, r.st, r.cnt, r.ord⟩ n "dropped"
/-! what the log holds -/
def OkG (ns : List Str) (g : Going) : Prop := g.name ∈ ns ∧ (g.reason = "faded" ∨ g.reason = "crowded" ∨ g.reason = "dropped")
def OkW (ns : List Str) (s : Th) : Prop := ∀ g ∈ s.went, OkG ns g
theorem okW_gone {ns : List Str} {s : Th} (h : OkW ns s) {n r : Str} (hn : n ∈ ns) (hr : r = "faded" ∨ r = "crowded" ∨ r = "dropped") : OkW ns (Kd.shelf.gone s n r).2 := by
  unfold Kd.gone
  dsimp only
  split
  · intro g hg
    rcases List.mem_append.mp (show g ∈ s.went ++ [_] from hg) with q | q
    · exact h g q
    · rw [List.mem_singleton.mp q]
      exact ⟨hn, hr⟩
  · exact h
theorem okW_spend {ns : List Str} {s : Th} (w : WF .shelf s) (p : Pos1 s) (h : OkW ns s) (hk : ∀ m ∈ s.es.map (·.1), m ∈ ns) {n : Int} (hn : 0 ≤ n) : OkW ns (Kd.shelf.spend s n) := by
  intro g hg
  rw [(spend_shelf w p hn).2] at hg
  rcases List.mem_append.mp hg with q | q
  · exact h g q
  · obtain ⟨m, hm, rfl⟩ := List.mem_map.mp q
    exact ⟨hk m ((byLast_perm s.es).mem_iff.mp (List.mem_filter.mp hm).1), .inl rfl⟩
/-- names that a history may have -/
def KeysIn (ns : List Str) (s : Th) : Prop := ∀ m ∈ s.es.map (·.1), m ∈ ns
theorem keysIn_spend {k : Kd} {ns : List Str} {s : Th} (w : WF k s) (p : Pos1 s) (h : KeysIn ns s) {n : Int} (hn : 0 ≤ n) : KeysIn ns (k.spend s n) := fun m hm => by
  have := look_mem.mpr hm
  rw [look_spend w p hn] at this
  exact h m (look_mem.mp (ag_snd this).2)
theorem keysIn_act {k : Kd} {ns : List Str} {s : Th} (w : WF k s) (p : Pos1 s) (h : KeysIn ns s) {d : Deed} (g : d.Good ns) : KeysIn ns (k.act s d).2 := fun m hm => by
  by_cases hns : m ∈ ns
  · exact hns
  · have h0 : look s.es m = none := by
      cases e : look s.es m with
      | none => rfl
      | some q => exact absurd (h m (look_mem.mp (by rw [e]; rfl))) hns
    have := look_mem.mpr hm
    rw [look_act w p g, h0] at this
    unfold nextO at this
    cases d with
    | ask n x =>
      dsimp only at this
      rw [if_neg (fun q => hns (by rw [q]; exact g.1))] at this
      cases this
    | drop n => cases this
    | rest t => cases this
theorem weak_mem {s : Th} (h : s.st ≠ []) : weakest s ∈ s.st := by
  unfold weakest
  have hp := sortR_perm s.es s.st
  cases e : sortR s.es s.st with
  | nil =>
    rw [e] at hp
    exact absurd hp.symm.eq_nil h
  | cons a r =>
    rw [e] at hp
    exact hp.mem_iff.mp List.mem_cons_self
theorem okW_act {ns : List Str} {s : Th} (w : WF .shelf s) (p : Pos1 s) (h : OkW ns s) (hk : KeysIn ns s) {d : Deed} (g : d.Good ns) : OkW ns (Kd.shelf.act s d).2 := by
  cases d with
  | rest t => exact okW_spend w.next p h hk g.1
  | drop n => exact okW_gone (s := s.next) h g (.inr (.inr rfl))
  | ask n x =>
    have h1 : OkW ns (Kd.shelf.spend s.next 1) := okW_spend w.next p h hk (show (0 : Int) ≤ 1 by decide)
    have w1 := w.next.spend 1
    have k1 : KeysIn ns (Kd.shelf.spend s.next 1) := keysIn_spend w.next p hk (show (0 : Int) ≤ 1 by decide)
    show OkW ns { (Kd.shelf.came (Kd.shelf.spend s.next 1) n).2 with es := _ }
    show ∀ g ∈ (Kd.shelf.came (Kd.shelf.spend s.next 1) n).2.went, OkG ns g
    unfold Kd.came
    dsimp only
    split
    · exact h1
    · split
      · rename_i hf
        have hne : (Kd.shelf.spend s.next 1).st ≠ [] := fun q => by
          rw [q] at hf
          have := w1.pl rfl
          simp at hf
          omega
        exact okW_gone h1 (k1 _ (w1.sin _ (weak_mem hne))) (.inr (.inl rfl))
      · exact h1
/-- what holds of a shelf in a history -/
structure Hist (ns : List Str) (s : Th) : Prop where
  wf : WF .shelf s
  pos : Pos1 s
  keys : KeysIn ns s
  log : OkW ns s
theorem Hist.act {ns : List Str} {s : Th} (h : Hist ns s) {d : Deed} (g : d.Good ns) : Hist ns (Kd.shelf.act s d).2 := ⟨h.wf.act g, h.pos.act h.wf g, keysIn_act h.wf h.pos h.keys g, okW_act h.wf h.pos h.log h.keys g⟩
end Own

/-! ### a small shelf within a great one; plain Lean -/
namespace Own
open PySem L2
structure Inc (k : Nat) (s t : Th) : Prop where
  es : s.es = t.es
  span : s.span = t.span
  part : s.part = t.part
  time : s.time = t.time
  deed : s.deed = t.deed
  pl : t.places = s.places + (k : Int)
  sub : ∀ n ∈ s.st, n ∈ t.st
  ls : (s.st.length : Int) ≤ s.places
  lt : (t.st.length : Int) ≤ t.places
  gap : t.st.length ≤ s.st.length + k
theorem filter_split {s t : List Str} (hs : s.Nodup) (ht : t.Nodup) (h : ∀ n ∈ s, n ∈ t) : t.Perm (s ++ t.filter fun n => decide (n ∉ s)) := by
  refine (List.perm_ext_iff_of_nodup ht ?_).mpr fun n => ?_
  · rw [List.nodup_append]
    refine ⟨hs, nodup_filter _ ht, fun a ha b hb q => ?_⟩
    have := (List.mem_filter.mp hb).2
    rw [decide_eq_true_eq] at this
    exact this (q ▸ ha)
  · rw [List.mem_append, List.mem_filter, decide_eq_true_eq]
    by_cases q : n ∈ s
    · exact ⟨fun _ => .inl q, fun _ => h n q⟩
    · exact ⟨fun m => .inr ⟨m, q⟩, fun m => m.elim (h n) (·.1)⟩
theorem gap_filter {s t : List Str} (hs : s.Nodup) (ht : t.Nodup) (h : ∀ n ∈ s, n ∈ t) (p : Str → Bool) : (t.filter p).length + s.length ≤ t.length + (s.filter p).length := by
  have h1 := filter_split hs ht h
  have h2 := (h1.filter p).length_eq
  have h3 := h1.length_eq
  rw [List.filter_append, List.length_append] at h2
  rw [List.length_append] at h3
  have := List.length_filter_le p (t.filter fun n => decide (n ∉ s))
  omega
theorem len_sub {s t : List Str} (hs : s.Nodup) (ht : t.Nodup) (h : ∀ n ∈ s, n ∈ t) : s.length ≤ t.length := by
  have h3 := (filter_split hs ht h).length_eq
  rw [List.length_append] at h3
  omega
theorem remove_len {l : List Str} (hd : l.Nodup) {n : Str} (h : n ∈ l) : (l.filter fun m => decide (m ≠ n)).length + 1 = l.length := by
  have p : l.Perm (n :: l.filter fun m => decide (m ≠ n)) := by
    refine (List.perm_ext_iff_of_nodup hd (List.nodup_cons.mpr ⟨by simp, nodup_filter _ hd⟩)).mpr fun m => ?_
    rw [List.mem_cons, List.mem_filter, decide_eq_true_eq]
    by_cases q : m = n
    · exact ⟨fun _ => .inl q, fun _ => q ▸ h⟩
    · exact ⟨fun a => .inr ⟨a, q⟩, fun a => a.elim (fun e => absurd e q) (·.1)⟩
  have := p.length_eq
  rw [List.length_cons] at this
  omega
/-- the entries do not hang on what stands -/
theorem es_step {s t : Th} (h : s.es = t.es) (hp : s.part = t.part) (x : Int) (n : Str) : (Kd.shelf.ageStep x s n).es = (Kd.shelf.ageStep x t n).es := by
  unfold Kd.ageStep
  rw [h, hp]
  split
  · rfl
  · rfl
theorem es_fold (x : Int) : ∀ (ns : List Str) {s t : Th}, s.es = t.es → s.part = t.part → (ns.foldl (Kd.shelf.ageStep x) s).es = (ns.foldl (Kd.shelf.ageStep x) t).es
  | [], _, _, h, _ => h
  | n :: r, s, t, h, hp => es_fold x r (es_step h hp x n) (by rw [(ageStep_core .shelf x s n).2.1, (ageStep_core .shelf x t n).2.1, hp])
theorem Inc.next {k : Nat} {s t : Th} (i : Inc k s t) : Inc k s.next t.next := ⟨i.es, i.span, i.part, i.time, by show s.deed + 1 = t.deed + 1; rw [i.deed], i.pl, i.sub, i.ls, i.lt, i.gap⟩
theorem Inc.spend {k : Nat} {s t : Th} (i : Inc k s t) (w : WF .shelf s) (v : WF .shelf t) (p : Pos1 s) (q : Pos1 t) {n : Int} (hn : 0 ≤ n) : Inc k (Kd.shelf.spend s n) (Kd.shelf.spend t n) := by
  have c1 := spend_core .shelf s n
  have c2 := spend_core .shelf t n
  have ht : s.times n = t.times n := by unfold Th.times; rw [i.span, i.time]
  have s1 := (spend_shelf w p hn).1
  have s2 := (spend_shelf v q hn).1
  have fe : ∀ m, fadesB s (s.times n) m = fadesB t (t.times n) m := fun m => by unfold fadesB; rw [i.es, i.part, ht]
  have s2' : (Kd.shelf.spend t n).st = t.st.filter fun m => !fadesB s (s.times n) m := by
    rw [s2]
    apply List.filter_congr
    intro m _
    rw [fe]
  have l1 := List.length_filter_le (fun m => !fadesB s (s.times n) m) s.st
  have l2 := List.length_filter_le (fun m => !fadesB s (s.times n) m) t.st
  have l3 := gap_filter w.snd v.snd i.sub fun m => !fadesB s (s.times n) m
  have g := i.gap
  have a1 := i.ls
  have a2 := i.lt
  refine ⟨?_, c1.1.trans (i.span.trans c2.1.symm), c1.2.1.trans (i.part.trans c2.2.1.symm), by rw [c1.2.2.1, c2.2.2.1, i.time], c1.2.2.2.1.trans (i.deed.trans c2.2.2.2.1.symm), by rw [c1.2.2.2.2, c2.2.2.2.2]; exact i.pl, fun m hm => ?_, ?_, ?_, ?_⟩
  · unfold Kd.spend
    rw [ht]
    split
    · rw [show byLast s.es = byLast t.es from by rw [i.es]]
      exact es_fold _ _ (s := { s with time := s.time + n }) (t := { t with time := t.time + n }) i.es i.part
    · exact i.es
  · rw [s1] at hm
    rw [s2']
    obtain ⟨h1, h2⟩ := List.mem_filter.mp hm
    exact List.mem_filter.mpr ⟨i.sub m h1, h2⟩
  · rw [s1, c1.2.2.2.2]; omega
  · rw [s2', c2.2.2.2.2]; omega
  · rw [s1, s2']; omega
theorem Inc.gone {k : Nat} {s t : Th} (i : Inc k s t) (w : WF .shelf s) (v : WF .shelf t) (n r : Str) : Inc k (Kd.shelf.gone s n r).2 (Kd.shelf.gone t n r).2 ∧ ((Kd.shelf.gone s n r).1 = true → (Kd.shelf.gone t n r).1 = true) := by
  have g := i.gap
  have a1 := i.ls
  have a2 := i.lt
  unfold Kd.gone
  dsimp only
  by_cases h1 : n ∈ s.st
  · have h2 := i.sub n h1
    rw [if_pos h1, if_pos h2]
    have l1 := remove_len w.snd h1
    have l2 := remove_len v.snd h2
    refine ⟨⟨i.es, i.span, i.part, i.time, i.deed, i.pl, fun m hm => ?_, ?_, ?_, ?_⟩, fun _ => rfl⟩
    · obtain ⟨x, y⟩ := List.mem_filter.mp hm
      exact List.mem_filter.mpr ⟨i.sub m x, y⟩
    · show (((s.st.filter _).length : Nat) : Int) ≤ s.places; omega
    · show (((t.st.filter _).length : Nat) : Int) ≤ t.places; omega
    · show (t.st.filter _).length ≤ (s.st.filter _).length + k; omega
  · rw [if_neg h1]
    by_cases h2 : n ∈ t.st
    · rw [if_pos h2]
      have l2 := remove_len v.snd h2
      refine ⟨⟨i.es, i.span, i.part, i.time, i.deed, i.pl, fun m hm => ?_, a1, ?_, ?_⟩, fun h => nomatch h⟩
      · exact List.mem_filter.mpr ⟨i.sub m hm, decide_eq_true fun q => h1 (q ▸ hm)⟩
      · show (((t.st.filter _).length : Nat) : Int) ≤ t.places; omega
      · show (t.st.filter _).length ≤ s.st.length + k; omega
    · rw [if_neg h2]
      exact ⟨i, fun h => nomatch h⟩
theorem weak_least {s : Th} {n : Str} (hn : n ∈ s.st) : lexQ (rankE s.es n) (rankE s.es (weakest s)) = false := by
  unfold weakest
  have hp := sortR_perm s.es s.st
  have hs := sortR_sorted s.es s.st
  cases e : sortR s.es s.st with
  | nil =>
    rw [e] at hp
    exact absurd (hp.mem_iff.mpr hn) (by simp)
  | cons a r =>
    rw [e] at hp hs
    show lexQ (rankE s.es n) (rankE s.es a) = false
    rcases List.mem_cons.mp (hp.mem_iff.mpr hn) with q | q
    · rw [q, lexQ_no]; omega
    · exact (List.pairwise_cons.mp hs).1 n q
theorem weak_uniq {s : Th} (w : WF .shelf s) {n : Str} (hn : n ∈ s.st) (h : ∀ m ∈ s.st, lexQ (rankE s.es m) (rankE s.es n) = false) : n = weakest s := by
  have hne : s.st ≠ [] := fun q => by rw [q] at hn; cases hn
  have hw := weak_mem hne
  have h1 := weak_least hn
  have h2 := h _ hw
  rw [lexQ_no] at h1 h2
  have e : (rankE s.es n).2 = (rankE s.es (weakest s)).2 := by omega
  exact lst_one w (w.sin n hn) (w.sin _ hw) e
theorem nil_st {s : Th} (w : WF .shelf s) (h : (s.st.length : Int) = s.places) : s.st ≠ [] := fun q => by
  rw [q] at h
  have := w.pl rfl
  simp at h
  omega
theorem Inc.rank {k : Nat} {s t : Th} (i : Inc k s t) (n : Str) : rankE s.es n = rankE t.es n := by rw [i.es]
/-- what an ask brings -/
theorem Inc.came {k : Nat} {s t : Th} (i : Inc k s t) (w : WF .shelf s) (v : WF .shelf t) (n : Str) : Inc k (Kd.shelf.came s n).2 (Kd.shelf.came t n).2 ∧ n ∈ (Kd.shelf.came s n).2.st ∧
    ∃ a b : Bool, (Kd.shelf.came s n).1 = .bl a ∧ (Kd.shelf.came t n).1 = .bl b ∧ (a = true → b = true) := by
  have g := i.gap
  have a1 := i.ls
  have a2 := i.lt
  have pl := i.pl
  have mem_add : ∀ {l : List Str} {m : Str}, m ∈ l ++ [n] ↔ m ∈ l ∨ m = n := fun {l m} => by rw [List.mem_append, List.mem_singleton]
  have goneE : ∀ {u : Th} {m : Str}, m ∈ u.st → (Kd.shelf.gone u m "crowded").2 = { u with st := u.st.filter (fun x => decide (x ≠ m)), went := u.went ++ [⟨u.deed, m, "crowded", cntE u.es m, lstE u.es m⟩] } := fun {u m} h => by
    unfold Kd.gone
    dsimp only
    rw [if_pos h]
  by_cases h1 : n ∈ s.st
  · have h2 := i.sub n h1
    have e1 : Kd.shelf.came s n = (.bl true, s) := by unfold Kd.came; dsimp only; rw [if_pos h1]
    have e2 : Kd.shelf.came t n = (.bl true, t) := by unfold Kd.came; dsimp only; rw [if_pos h2]
    rw [e1, e2]
    exact ⟨i, h1, true, true, rfl, rfl, fun h => h⟩
  · by_cases fs : (s.st.length : Int) = s.places
    · have hw := weak_mem (nil_st w fs)
      have l1 := remove_len w.snd hw
      have e1 : Kd.shelf.came s n = (.bl false, { s with st := s.st.filter (fun x => decide (x ≠ weakest s)) ++ [n], went := s.went ++ [⟨s.deed, weakest s, "crowded", cntE s.es (weakest s), lstE s.es (weakest s)⟩] }) := by
        unfold Kd.came
        dsimp only
        rw [if_neg h1, if_pos fs, goneE hw]
      by_cases h2 : n ∈ t.st
      · have e2 : Kd.shelf.came t n = (.bl true, t) := by unfold Kd.came; dsimp only; rw [if_pos h2]
        rw [e1, e2]
        refine ⟨⟨i.es, i.span, i.part, i.time, i.deed, i.pl, fun m hm => ?_, ?_, a2, ?_⟩, mem_add.mpr (.inr rfl), false, true, rfl, rfl, fun _ => rfl⟩
        · rcases mem_add.mp hm with h | h
          · exact i.sub m (List.mem_filter.mp h).1
          · rw [h]; exact h2
        · show (((s.st.filter _ ++ [n]).length : Nat) : Int) ≤ s.places
          rw [List.length_append, List.length_singleton]; omega
        · show t.st.length ≤ (s.st.filter _ ++ [n]).length + k
          rw [List.length_append, List.length_singleton]; omega
      · by_cases ft : (t.st.length : Int) = t.places
        · have hv := weak_mem (nil_st v ft)
          have l2 := remove_len v.snd hv
          have e2 : Kd.shelf.came t n = (.bl false, { t with st := t.st.filter (fun x => decide (x ≠ weakest t)) ++ [n], went := t.went ++ [⟨t.deed, weakest t, "crowded", cntE t.es (weakest t), lstE t.es (weakest t)⟩] }) := by
            unfold Kd.came
            dsimp only
            rw [if_neg h2, if_pos ft, goneE hv]
          rw [e1, e2]
          refine ⟨⟨i.es, i.span, i.part, i.time, i.deed, i.pl, fun m hm => ?_, ?_, ?_, ?_⟩, mem_add.mpr (.inr rfl), false, false, rfl, rfl, fun h => h⟩
          · rcases mem_add.mp hm with h | h
            · obtain ⟨x, y⟩ := List.mem_filter.mp h
              refine mem_add.mpr (.inl (List.mem_filter.mpr ⟨i.sub m x, decide_eq_true fun q => ?_⟩))
              have : m = weakest s := weak_uniq w x fun z hz => by
                rw [i.rank, i.rank, q]
                exact weak_least (i.sub z hz)
              rw [decide_eq_true_eq] at y
              exact y this
            · exact mem_add.mpr (.inr h)
          · show (((s.st.filter _ ++ [n]).length : Nat) : Int) ≤ s.places
            rw [List.length_append, List.length_singleton]; omega
          · show (((t.st.filter _ ++ [n]).length : Nat) : Int) ≤ t.places
            rw [List.length_append, List.length_singleton]; omega
          · show (t.st.filter _ ++ [n]).length ≤ (s.st.filter _ ++ [n]).length + k
            rw [List.length_append, List.length_singleton, List.length_append, List.length_singleton]; omega
        · have e2 : Kd.shelf.came t n = (.bl false, { t with st := t.st ++ [n] }) := by
            unfold Kd.came
            dsimp only
            rw [if_neg h2, if_neg ft]
          rw [e1, e2]
          refine ⟨⟨i.es, i.span, i.part, i.time, i.deed, i.pl, fun m hm => ?_, ?_, ?_, ?_⟩, mem_add.mpr (.inr rfl), false, false, rfl, rfl, fun h => h⟩
          · rcases mem_add.mp hm with h | h
            · exact mem_add.mpr (.inl (i.sub m (List.mem_filter.mp h).1))
            · exact mem_add.mpr (.inr h)
          · show (((s.st.filter _ ++ [n]).length : Nat) : Int) ≤ s.places
            rw [List.length_append, List.length_singleton]; omega
          · show (((t.st ++ [n]).length : Nat) : Int) ≤ t.places
            rw [List.length_append, List.length_singleton]; omega
          · show (t.st ++ [n]).length ≤ (s.st.filter _ ++ [n]).length + k
            rw [List.length_append, List.length_singleton, List.length_append, List.length_singleton]; omega
    · have e1 : Kd.shelf.came s n = (.bl false, { s with st := s.st ++ [n] }) := by
        unfold Kd.came
        dsimp only
        rw [if_neg h1, if_neg fs]
      by_cases h2 : n ∈ t.st
      · have e2 : Kd.shelf.came t n = (.bl true, t) := by unfold Kd.came; dsimp only; rw [if_pos h2]
        rw [e1, e2]
        refine ⟨⟨i.es, i.span, i.part, i.time, i.deed, i.pl, fun m hm => ?_, ?_, a2, ?_⟩, mem_add.mpr (.inr rfl), false, true, rfl, rfl, fun _ => rfl⟩
        · rcases mem_add.mp hm with h | h
          · exact i.sub m h
          · rw [h]; exact h2
        · show (((s.st ++ [n]).length : Nat) : Int) ≤ s.places
          rw [List.length_append, List.length_singleton]; omega
        · show t.st.length ≤ (s.st ++ [n]).length + k
          rw [List.length_append, List.length_singleton]; omega
      · by_cases ft : (t.st.length : Int) = t.places
        · exfalso
          omega
        · have e2 : Kd.shelf.came t n = (.bl false, { t with st := t.st ++ [n] }) := by
            unfold Kd.came
            dsimp only
            rw [if_neg h2, if_neg ft]
          rw [e1, e2]
          refine ⟨⟨i.es, i.span, i.part, i.time, i.deed, i.pl, fun m hm => ?_, ?_, ?_, ?_⟩, mem_add.mpr (.inr rfl), false, false, rfl, rfl, fun h => h⟩
          · rcases mem_add.mp hm with h | h
            · exact mem_add.mpr (.inl (i.sub m h))
            · exact mem_add.mpr (.inr h)
          · show (((s.st ++ [n]).length : Nat) : Int) ≤ s.places
            rw [List.length_append, List.length_singleton]; omega
          · show (((t.st ++ [n]).length : Nat) : Int) ≤ t.places
            rw [List.length_append, List.length_singleton]; omega
          · show (t.st ++ [n]).length ≤ (s.st ++ [n]).length + k
            rw [List.length_append, List.length_singleton, List.length_append, List.length_singleton]; omega
theorem Inc.put {k : Nat} {s t : Th} (i : Inc k s t) (n : Str) (c : Int) : Inc k { s with es := putE s.es n (cntE s.es n + c, (s.deed : Int)) } { t with es := putE t.es n (cntE t.es n + c, (t.deed : Int)) } :=
  ⟨by show putE s.es n _ = putE t.es n _; rw [i.es, i.deed], i.span, i.part, i.time, i.deed, i.pl, i.sub, i.ls, i.lt, i.gap⟩
/-- how the answers stand to one another -/
def AnsOk (d : Deed) (x y : V) : Prop := match d with
  | .rest _ => ∃ z : Int, x = .int z ∧ y = .int z
  | _ => ∃ a b : Bool, x = .bl a ∧ y = .bl b ∧ (a = true → b = true)
theorem Inc.act {k : Nat} {s t : Th} (i : Inc k s t) (w : WF .shelf s) (v : WF .shelf t) (p : Pos1 s) (q : Pos1 t) {ns : List Str} {d : Deed} (g : d.Good ns) :
    Inc k (Kd.shelf.act s d).2 (Kd.shelf.act t d).2 ∧ AnsOk d (Kd.shelf.act s d).1 (Kd.shelf.act t d).1 ∧ (∀ n x, d = .ask n x → n ∈ (Kd.shelf.act s d).2.st) := by
  cases d with
  | rest x =>
    refine ⟨i.next.spend w.next v.next p q g.1, ⟨s.next.times x, rfl, ?_⟩, fun n x h => nomatch h⟩
    show V.int (t.next.times x) = V.int (s.next.times x)
    congr 1
    unfold Th.times
    show (t.time + x) / t.span - t.time / t.span = (s.time + x) / s.span - s.time / s.span
    rw [i.span, i.time]
  | drop n =>
    obtain ⟨h1, h2⟩ := i.next.gone w.next v.next n "dropped"
    exact ⟨h1, ⟨_, _, rfl, rfl, h2⟩, fun n x h => nomatch h⟩
  | ask n x =>
    have i1 := i.next.spend w.next v.next p q (show (0 : Int) ≤ 1 by decide)
    obtain ⟨h1, h2, h3⟩ := i1.came (w.next.spend 1) (v.next.spend 1) n
    refine ⟨h1.put n x, h3, fun m y h => ?_⟩
    cases h
    exact h2
/-- the small one's names, in order, are the great one's that stand on the small -/
theorem Inc.names {k : Nat} {s t : Th} (i : Inc k s t) (w : WF .shelf s) (v : WF .shelf t) : Kd.shelf.names s = (Kd.shelf.names t).filter fun n => decide (n ∈ s.st) := by
  show sortR s.es s.st = (sortR t.es t.st).filter _
  rw [i.es]
  have hs : ∀ n ∈ s.st, n ∈ t.es.map (·.1) := fun n hn => v.sin n (i.sub n hn)
  refine sorted_uniq (lt := lexQ) (f := rankE t.es) ?_ (sortR_sorted _ _) ((sortR_sorted t.es t.st).filter _) fun x hx y hy a b => ?_
  · refine (sortR_perm _ _).trans ((List.perm_ext_iff_of_nodup w.snd (nodup_filter _ ((sortR_perm t.es t.st).nodup_iff.mpr v.snd))).mpr fun n => ?_)
    rw [List.mem_filter, decide_eq_true_eq]
    exact ⟨fun h => ⟨(sortR_perm _ _).mem_iff.mpr (i.sub n h), h⟩, fun h => h.2⟩
  · rw [lexQ_no] at a b
    have e : (rankE t.es x).2 = (rankE t.es y).2 := by omega
    exact lst_one v (hs _ ((sortR_perm _ _).mem_iff.mp hx)) (hs _ ((sortR_perm _ _).mem_iff.mp hy)) e
end Own

/-! ### a row, and a shelf of p places beside it -/
namespace Own
open PySem L2
def tk (p : Nat) (l : List (Option Str)) : List Str := (l.take p).filterMap id
theorem tk_nones {r : List (Option Str)} (h : ∀ o ∈ r, o = none) (p : Nat) : tk p r = [] := by
  unfold tk
  rw [List.filterMap_eq_nil_iff]
  intro o ho
  exact h o (List.mem_of_mem_take ho)
theorem tk_trim (p : Nat) (l : List (Option Str)) : tk p (trim l) = tk p l := by
  obtain ⟨r, e, h⟩ := trim_sub l
  have e2 : tk p l = tk p (trim l ++ r) := congrArg (tk p) e
  rw [e2]
  have := tk_nones h (p - (trim l).length)
  unfold tk at this ⊢
  rw [List.take_append, List.filterMap_append, this, List.append_nil]
theorem tk_all {p : Nat} {l : List (Option Str)} (h : l.length ≤ p) : tk p l = l.filterMap id := by
  unfold tk
  rw [List.take_of_length_le h]
theorem tk_nil (p : Nat) : tk p [] = [] := by
  unfold tk
  rw [List.take_nil]
  rfl
theorem tk_cons_some (p : Nat) (m : Str) (r : List (Option Str)) : tk (p + 1) (some m :: r) = m :: tk p r := rfl
theorem tk_cons_none (p : Nat) (r : List (Option Str)) : tk (p + 1) (none :: r) = tk p r := rfl
def offM (l : List (Option Str)) (n : Str) : List (Option Str) := l.map fun o => if o = some n then none else o
theorem offM_no {l : List (Option Str)} {n : Str} (h : some n ∉ l) : offM l n = l := by
  unfold offM
  have : l.map (fun o => if o = some n then none else o) = l.map id := by
    apply List.map_congr_left
    intro o ho
    rw [if_neg (fun q => h (by rw [← q]; exact ho))]
    rfl
  rw [this, List.map_id]
theorem takeOff_offM : ∀ {l : List (Option Str)} {n : Str}, (l.filterMap id).Nodup → some n ∈ l → takeOff l n = offM l n
  | [], n, _, h => by cases h
  | o :: r, n, hd, h => by
    by_cases q : o = some n
    · have h1 : some n ∉ r := fun h2 => by
        rw [q] at hd
        have hd : (n :: r.filterMap id).Nodup := hd
        exact (List.nodup_cons.mp hd).1 (mem_fm.mpr h2)
      have i0 : idx (o :: r) n = 0 := by
        unfold idx
        rw [List.findIdx_cons, decide_eq_true q]
        rfl
      unfold takeOff
      rw [i0]
      show none :: r = offM (o :: r) n
      unfold offM
      rw [List.map_cons, if_pos q]
      show _ = none :: offM r n
      rw [offM_no h1]
    · have h2 : some n ∈ r := by
        rcases List.mem_cons.mp h with e | e
        · exact absurd e.symm q
        · exact e
      have i1 : idx (o :: r) n = idx r n + 1 := by
        unfold idx
        rw [List.findIdx_cons, decide_eq_false q]
        rfl
      have hd2 : (r.filterMap id).Nodup := by
        cases o with
        | none => exact hd
        | some m => exact (List.nodup_cons.mp (show (m :: r.filterMap id).Nodup from hd)).2
      have ih := takeOff_offM hd2 h2
      unfold takeOff at ih ⊢
      rw [i1, List.set_cons_succ, ih]
      unfold offM
      rw [List.map_cons, if_neg q]
theorem fm_off (n : Str) : ∀ l : List (Option Str), (l.map fun o => if o = some n then none else o).filterMap id = (l.filterMap id).filter fun m => decide (m ≠ n)
  | [] => rfl
  | o :: r => by
    rw [List.map_cons]
    have ih := fm_off n r
    cases o with
    | none =>
      rw [if_neg (by simp)]
      exact ih
    | some m =>
      by_cases q : m = n
      · rw [if_pos (by rw [q])]
        show (List.map _ r).filterMap id = (m :: r.filterMap id).filter _
        rw [List.filter_cons, if_neg (by simp [q])]
        exact ih
      · rw [if_neg (fun e => q (Option.some.inj e))]
        show m :: (List.map _ r).filterMap id = (m :: r.filterMap id).filter _
        rw [List.filter_cons, if_pos (by simp [q]), ih]
theorem tk_offM (p : Nat) (l : List (Option Str)) (n : Str) : tk p (offM l n) = (tk p l).filter fun m => decide (m ≠ n) := by
  unfold tk offM
  rw [← List.map_take]
  exact fm_off n _
theorem lexQ_irr (p : Int × Int) : lexQ p p = false := by
  rw [lexQ_no]
  omega
/-! carrying within the first spots -/
theorem carryGo_room (rk : Str → Int × Int) : ∀ (l : List (Option Str)) (n : Str) (p : Nat), (none ∈ l.take p ∨ l.length < p) → (tk p (carryGo rk l n)).Perm (n :: tk p l)
  | [], n, p, h => by
    cases p with
    | zero => rcases h with h | h <;> cases h
    | succ q =>
      show (n :: tk q []).Perm (n :: tk (q + 1) [])
      rw [tk_nil, tk_nil]
  | none :: r, n, p, h => by
    cases p with
    | zero =>
      rcases h with h | h
      · cases h
      · exact absurd h (Nat.not_lt_zero _)
    | succ q => exact List.Perm.refl _
  | some m :: r, n, p, h => by
    cases p with
    | zero =>
      rcases h with h | h
      · cases h
      · exact absurd h (Nat.not_lt_zero _)
    | succ q =>
      have h2 : none ∈ r.take q ∨ r.length < q := by
        rcases h with h | h
        · rw [List.take_succ_cons] at h
          rcases List.mem_cons.mp h with e | e
          · cases e
          · exact .inl e
        · rw [List.length_cons] at h
          exact .inr (by omega)
      unfold carryGo
      split
      · exact List.Perm.cons n (carryGo_room rk r m q h2)
      · exact (List.Perm.cons m (carryGo_room rk r n q h2)).trans (List.Perm.swap _ _ _)
theorem carryGo_full (rk : Str → Int × Int) : ∀ (l : List (Option Str)) (n : Str) (p : Nat), none ∉ l.take p → p ≤ l.length → ∃ w, (n :: tk p l).Perm (w :: tk p (carryGo rk l n)) ∧ ∀ m ∈ n :: tk p l, lexQ (rk m) (rk w) = false
  | l, n, 0, _, _ => ⟨n, List.Perm.refl _, fun m hm => by
      rw [List.mem_singleton.mp hm]
      exact lexQ_irr _⟩
  | [], n, p + 1, _, h => absurd h (Nat.not_succ_le_zero p)
  | none :: r, n, p + 1, h, _ => absurd List.mem_cons_self h
  | some m :: r, n, p + 1, h, hl => by
    have h2 : none ∉ r.take p := fun e => h (List.mem_cons_of_mem _ e)
    have hl2 : p ≤ r.length := by rw [List.length_cons] at hl; omega
    unfold carryGo
    split
    · rename_i hq
      obtain ⟨w, h3, h4⟩ := carryGo_full rk r m p h2 hl2
      refine ⟨w, (List.Perm.cons n h3).trans (List.Perm.swap _ _ _), fun x hx => ?_⟩
      rcases List.mem_cons.mp hx with rfl | hx
      · have h5 := h4 m List.mem_cons_self
        rw [lexQ_no] at h5 ⊢
        rw [lexQ_iff] at hq
        omega
      · exact h4 x hx
    · rename_i hq
      obtain ⟨w, h3, h4⟩ := carryGo_full rk r n p h2 hl2
      refine ⟨w, (List.Perm.swap _ _ _).trans ((List.Perm.cons m h3).trans (List.Perm.swap _ _ _)), fun x hx => ?_⟩
      have h5 := h4 n List.mem_cons_self
      rcases List.mem_cons.mp hx with rfl | hx
      · exact h5
      · rcases List.mem_cons.mp hx with rfl | hx
        · rw [Bool.not_eq_true] at hq
          rw [lexQ_no] at h5 hq ⊢
          omega
        · exact h4 x (List.mem_cons_of_mem _ hx)
theorem carry_room (rk : Str → Int × Int) (l : List (Option Str)) (n : Str) (p : Nat) (h : none ∈ l.take p ∨ l.length < p) : (tk p (carry rk l n)).Perm (n :: tk p l) := by
  cases p with
  | zero =>
    rcases h with h | h
    · cases h
    · exact absurd h (Nat.not_lt_zero _)
  | succ q =>
    cases l with
    | nil =>
      show (n :: tk q []).Perm (n :: tk (q + 1) [])
      rw [tk_nil, tk_nil]
    | cons o r =>
      cases o with
      | none => exact List.Perm.refl _
      | some m =>
        have h2 : none ∈ r.take q ∨ r.length < q := by
          rcases h with h | h
          · rw [List.take_succ_cons] at h
            rcases List.mem_cons.mp h with e | e
            · cases e
            · exact .inl e
          · rw [List.length_cons] at h
            exact .inr (by omega)
        exact List.Perm.cons n (carryGo_room rk r m q h2)
theorem carry_full (rk : Str → Int × Int) (l : List (Option Str)) (n : Str) (p : Nat) (hp : 1 ≤ p) (h : none ∉ l.take p) (hl : p ≤ l.length) : ∃ w R, (tk p l).Perm (w :: R) ∧ tk p (carry rk l n) = n :: R ∧ ∀ m ∈ tk p l, lexQ (rk m) (rk w) = false := by
  cases p with
  | zero => exact absurd hp (by decide)
  | succ q =>
    cases l with
    | nil => exact absurd hl (Nat.not_succ_le_zero q)
    | cons o r =>
      cases o with
      | none => exact absurd List.mem_cons_self h
      | some m =>
        obtain ⟨w, h3, h4⟩ := carryGo_full rk r m q (fun e => h (List.mem_cons_of_mem _ e)) (by rw [List.length_cons] at hl; omega)
        exact ⟨w, _, h3, rfl, h4⟩
/-! full or not, by the number of names -/
theorem fm_len : ∀ l : List (Option Str), (l.filterMap id).length ≤ l.length ∧ ((l.filterMap id).length = l.length → none ∉ l) ∧ (none ∉ l → (l.filterMap id).length = l.length)
  | [] => ⟨Nat.le_refl _, fun _ h => (by cases h), fun _ => rfl⟩
  | none :: r => by
    obtain ⟨h1, h2, h3⟩ := fm_len r
    refine ⟨Nat.le_succ_of_le h1, fun h => ?_, fun h => absurd List.mem_cons_self h⟩
    have : (r.filterMap id).length = r.length + 1 := h
    omega
  | some m :: r => by
    obtain ⟨h1, h2, h3⟩ := fm_len r
    refine ⟨Nat.succ_le_succ h1, fun h => ?_, fun h => ?_⟩
    · have : (r.filterMap id).length + 1 = r.length + 1 := h
      intro q
      rcases List.mem_cons.mp q with e | e
      · cases e
      · exact h2 (by omega) e
    · show (r.filterMap id).length + 1 = r.length + 1
      rw [h3 fun e => h (List.mem_cons_of_mem _ e)]
theorem tk_full {p : Nat} {l : List (Option Str)} (h : (tk p l).length = p) : none ∉ l.take p ∧ p ≤ l.length := by
  have h1 := (fm_len (l.take p)).1
  have h2 : (l.take p).length ≤ p := by rw [List.length_take]; omega
  unfold tk at h
  refine ⟨(fm_len (l.take p)).2.1 (by omega), ?_⟩
  rw [List.length_take] at h1
  omega
theorem tk_room {p : Nat} {l : List (Option Str)} (h : (tk p l).length < p) : none ∈ l.take p ∨ l.length < p := by
  by_cases q : none ∈ l.take p
  · exact .inl q
  · have h3 := (fm_len (l.take p)).2.2 q
    unfold tk at h
    rw [h3, List.length_take] at h
    exact .inr (by omega)
theorem tk_len (p : Nat) (l : List (Option Str)) : (tk p l).length ≤ p := by
  have h1 := (fm_len (l.take p)).1
  rw [List.length_take] at h1
  unfold tk
  omega
theorem tk_nd {l : List (Option Str)} (h : (l.filterMap id).Nodup) (p : Nat) : (tk p l).Nodup := h.sublist ((List.take_sublist p l).filterMap _)
theorem tk_sub {l : List (Option Str)} {p : Nat} {n : Str} (h : n ∈ tk p l) : some n ∈ l := List.mem_of_mem_take (mem_fm.mp h)
/-! the two beside one another -/
structure RowOf (p : Nat) (r s : Th) : Prop where
  es : r.es = s.es
  span : r.span = s.span
  part : r.part = s.part
  time : r.time = s.time
  deed : r.deed = s.deed
  pl : s.places = (p : Int)
  st : s.st.Perm (tk p r.laid)
theorem row_gone_tk {r : Th} (w : WF .row r) (p : Nat) (n x : Str) : tk p (Kd.row.gone r n x).2.laid = (tk p r.laid).filter fun m => decide (m ≠ n) := by
  unfold Kd.gone
  dsimp only
  by_cases h : some n ∈ r.laid
  · rw [if_pos h]
    show tk p (trim (takeOff r.laid n)) = _
    rw [tk_trim, takeOff_offM w.lnd h, tk_offM]
  · rw [if_neg h]
    show tk p r.laid = _
    rw [List.filter_eq_self.mpr]
    intro m hm
    exact decide_eq_true fun q => h (by rw [← q]; exact tk_sub hm)
theorem shelf_gone_st (s : Th) (n x : Str) : (Kd.shelf.gone s n x).2.st = s.st.filter fun m => decide (m ≠ n) := by
  unfold Kd.gone
  dsimp only
  by_cases h : n ∈ s.st
  · rw [if_pos h]
  · rw [if_neg h]
    show s.st = _
    rw [List.filter_eq_self.mpr]
    intro m hm
    exact decide_eq_true fun q => h (by rw [← q]; exact hm)
theorem RowOf.gone {p : Nat} {r s : Th} (h : RowOf p r s) (w : WF .row r) (n x : Str) : RowOf p (Kd.row.gone r n x).2 (Kd.shelf.gone s n x).2 := by
  have c1 := gone_core .row r n x
  have c2 := gone_core .shelf s n x
  refine ⟨by rw [c1.1, c2.1]; exact h.es, by rw [c1.2.1, c2.2.1]; exact h.span, by rw [c1.2.2.1, c2.2.2.1]; exact h.part, by rw [c1.2.2.2.1, c2.2.2.2.1]; exact h.time, by rw [c1.2.2.2.2.1, c2.2.2.2.2.1]; exact h.deed, ?_, ?_⟩
  · have : (Kd.shelf.gone s n x).2.places = s.places := c2.2.2.2.2.2
    rw [this]
    exact h.pl
  · rw [row_gone_tk w, shelf_gone_st]
    exact h.st.filter _
theorem RowOf.es_ {p : Nat} {r s : Th} (h : RowOf p r s) {e1 e2 : List Ent} (e : e1 = e2) : RowOf p { r with es := e1 } { s with es := e2 } := ⟨e, h.span, h.part, h.time, h.deed, h.pl, h.st⟩
theorem RowOf.ageStep {p : Nat} {r s : Th} (h : RowOf p r s) (w : WF .row r) (t : Int) (n : Str) : RowOf p (Kd.row.ageStep t r n) (Kd.shelf.ageStep t s n) := by
  have e1 : agedI (cntE s.es n) s.part t = agedI (cntE r.es n) r.part t := by rw [h.es, h.part]
  unfold Kd.ageStep
  rw [e1]
  have h1 : RowOf p { r with es := setC r.es n (agedI (cntE r.es n) r.part t) } { s with es := setC s.es n (agedI (cntE r.es n) r.part t) } := h.es_ (by rw [h.es])
  split
  · have w1 : WF .row { r with es := setC r.es n (agedI (cntE r.es n) r.part t) } := w.setC n (agedI_nn (cntE_nn w.cn n) w.pt)
    exact (h1.gone w1 n "faded").es_ (by rw [h.es])
  · exact h1
theorem RowOf.fold {p : Nat} (t : Int) : ∀ (ns : List Str) {r s : Th}, RowOf p r s → WF .row r → RowOf p (ns.foldl (Kd.row.ageStep t) r) (ns.foldl (Kd.shelf.ageStep t) s)
  | [], _, _, h, _ => h
  | n :: ns, _, _, h, w => RowOf.fold t ns (h.ageStep w t n) (w.ageStep t n)
theorem RowOf.next {p : Nat} {r s : Th} (h : RowOf p r s) : RowOf p r.next s.next := ⟨h.es, h.span, h.part, h.time, by show r.deed + 1 = s.deed + 1; rw [h.deed], h.pl, h.st⟩
theorem RowOf.times {p : Nat} {r s : Th} (h : RowOf p r s) (n : Int) : r.times n = s.times n := by
  unfold Th.times
  rw [h.time, h.span]
theorem RowOf.spend {p : Nat} {r s : Th} (h : RowOf p r s) (w : WF .row r) (n : Int) : RowOf p (Kd.row.spend r n) (Kd.shelf.spend s n) := by
  have h1 : RowOf p { r with time := r.time + n } { s with time := s.time + n } := ⟨h.es, h.span, h.part, by show r.time + n = s.time + n; rw [h.time], h.deed, h.pl, h.st⟩
  unfold Kd.spend
  rw [h.times n, show byLast r.es = byLast s.es by rw [h.es]]
  split
  · exact h1.fold _ _ (w.time _)
  · exact h1
/-- what the row and a shelf answer to an ask -/
def DepthOk (p : Nat) (x y : V) : Prop := (x = .non ∧ y = .bl false) ∨ ∃ d : Nat, 1 ≤ d ∧ x = .int (d : Int) ∧ y = .bl (decide (d ≤ p))
theorem mem_tk_idx {l : List (Option Str)} (hd : (l.filterMap id).Nodup) {n : Str} (h : some n ∈ l) (p : Nat) : n ∈ tk p l ↔ idx l n + 1 ≤ p := by
  have h1 := idx_lt h
  have h2 := idx_at h
  constructor
  · intro hm
    have hm : some n ∈ l.take p := mem_fm.mp hm
    obtain ⟨j, hj, e⟩ := List.mem_iff_getElem.mp hm
    rw [List.getElem_take] at e
    rw [List.length_take] at hj
    have : ¬ j < idx l n := fun q => by
      have := List.not_of_lt_findIdx (p := fun o => decide (o = some n)) (xs := l) q
      simp [e] at this
    by_cases q : idx l n + 1 ≤ p
    · exact q
    · omega
  · intro hp
    apply mem_fm.mpr
    refine List.mem_iff_getElem?.mpr ⟨idx l n, ?_⟩
    rw [List.getElem?_take_of_lt (by omega)]
    exact h2
theorem RowOf.came {p : Nat} {r s : Th} (h : RowOf p r s) (w : WF .row r) (v : WF .shelf s) (n : Str) : RowOf p (Kd.row.came r n).2 (Kd.shelf.came s n).2 ∧ DepthOk p (Kd.row.came r n).1 (Kd.shelf.came s n).1 := by
  have hp1 : 1 ≤ p := by have := v.pl rfl; rw [h.pl] at this; omega
  have hmem : ∀ m, m ∈ s.st ↔ m ∈ tk p r.laid := fun m => h.st.mem_iff
  have hlen := h.st.length_eq
  -- the row's names behind, whatever way
  have hrow : (Kd.row.came r n).2.laid = trim (carry (rankE r.es) (offM r.laid n) n) := by
    unfold Kd.came
    dsimp only
    by_cases q : some n ∈ r.laid
    · rw [if_pos q]
      show trim (carry (rankE r.es) (takeOff r.laid n) n) = _
      rw [takeOff_offM w.lnd q]
    · rw [if_neg q, offM_no q]
  have c1 := came_core .row r n
  have c2 := came_core .shelf s n
  have base : ∀ {st : List Str}, (Kd.shelf.came s n).2.st = st → st.Perm (tk p (carry (rankE r.es) (offM r.laid n) n)) → RowOf p (Kd.row.came r n).2 (Kd.shelf.came s n).2 := fun e hp => by
    refine ⟨by rw [c1.1, c2.1]; exact h.es, by rw [c1.2.1, c2.2.1]; exact h.span, by rw [c1.2.2.1, c2.2.2.1]; exact h.part, by rw [c1.2.2.2.1, c2.2.2.2.1]; exact h.time, by rw [c1.2.2.2.2.1, c2.2.2.2.2.1]; exact h.deed, by rw [c2.2.2.2.2.2]; exact h.pl, ?_⟩
    rw [e, hrow, tk_trim]
    exact hp
  have offtk := tk_offM p r.laid n
  constructor
  · by_cases hn : n ∈ s.st
    · refine base (st := s.st) (by unfold Kd.came; dsimp only; rw [if_pos hn]) ?_
      have hn2 := (hmem n).mp hn
      have nd := tk_nd w.lnd p
      have l1 : (tk p (offM r.laid n)).length < p := by
        rw [offtk]
        have := remove_len nd hn2
        have := tk_len p r.laid
        omega
      refine List.Perm.trans ?_ (carry_room _ _ n p (tk_room l1)).symm
      rw [offtk]
      refine h.st.trans ?_
      refine (List.perm_ext_iff_of_nodup nd (List.nodup_cons.mpr ⟨fun q => by simpa using (List.mem_filter.mp q).2, nodup_filter _ nd⟩)).mpr fun m => ?_
      rw [List.mem_cons, List.mem_filter, decide_eq_true_eq]
      constructor
      · intro hm
        by_cases q : m = n
        · exact .inl q
        · exact .inr ⟨hm, q⟩
      · rintro (rfl | ⟨hm, _⟩)
        · exact hn2
        · exact hm
    · have offs : tk p (offM r.laid n) = tk p r.laid := by
        rw [offtk, List.filter_eq_self.mpr]
        intro m hm
        exact decide_eq_true fun q => hn ((hmem n).mpr (by rw [← q]; exact hm))
      by_cases hf : (s.st.length : Int) = s.places
      · have hf2 : (tk p (offM r.laid n)).length = p := by rw [offs]; rw [h.pl] at hf; omega
        obtain ⟨g1, g2⟩ := tk_full hf2
        obtain ⟨x, R, q1, q2, q3⟩ := carry_full (rankE r.es) (offM r.laid n) n p hp1 g1 g2
        rw [offs] at q1 q3
        have hx : x ∈ s.st := (hmem x).mpr (q1.mem_iff.mpr List.mem_cons_self)
        have hxw : x = weakest s := weak_uniq v hx fun m hm => by
          rw [← h.es]
          exact q3 m ((hmem m).mp hm)
        have e : (Kd.shelf.came s n).2.st = (s.st.filter fun m => decide (m ≠ weakest s)) ++ [n] := by
          unfold Kd.came
          dsimp only
          rw [if_neg hn, if_pos hf]
          show (Kd.shelf.gone s (weakest s) "crowded").2.st ++ [n] = _
          rw [shelf_gone_st]
        refine base e ?_
        rw [q2, ← hxw]
        have ndR : (x :: R).Nodup := q1.nodup_iff.mp (tk_nd w.lnd p)
        refine List.perm_append_comm.trans (List.Perm.cons n ?_)
        refine (List.perm_ext_iff_of_nodup (nodup_filter _ v.snd) (List.nodup_cons.mp ndR).2).mpr fun m => ?_
        rw [List.mem_filter, decide_eq_true_eq, hmem m, q1.mem_iff, List.mem_cons]
        constructor
        · rintro ⟨e | e, ne⟩
          · exact absurd e ne
          · exact e
        · exact fun hm => ⟨.inr hm, fun q => (List.nodup_cons.mp ndR).1 (by rw [← q]; exact hm)⟩
      · have l1 : (tk p (offM r.laid n)).length < p := by
          rw [offs]
          have := tk_len p r.laid
          rw [h.pl] at hf
          omega
        have e : (Kd.shelf.came s n).2.st = s.st ++ [n] := by
          unfold Kd.came
          dsimp only
          rw [if_neg hn, if_neg hf]
        refine base e (List.Perm.trans ?_ (carry_room _ _ n p (tk_room l1)).symm)
        rw [offs]
        exact List.perm_append_comm.trans (List.Perm.cons n h.st)
  · have e2 : (Kd.shelf.came s n).1 = .bl (decide (n ∈ s.st)) := by
      unfold Kd.came
      dsimp only
      by_cases hn : n ∈ s.st
      · rw [if_pos hn, decide_eq_true hn]
      · rw [if_neg hn, decide_eq_false hn]
    rw [e2]
    by_cases q : some n ∈ r.laid
    · right
      refine ⟨idx r.laid n + 1, by omega, ?_, ?_⟩
      · unfold Kd.came
        dsimp only
        rw [if_pos q]
        rfl
      · congr 1
        rw [decide_eq_decide, hmem n, mem_tk_idx w.lnd q]
    · left
      constructor
      · unfold Kd.came
        dsimp only
        rw [if_neg q]
      · rw [decide_eq_false fun hn => q (tk_sub ((hmem n).mp hn))]
/-- how a row's answer to a deed and a shelf's stand to one another -/
def AnsR (p : Nat) (all : Prop) (d : Deed) (x y : V) : Prop := match d with
  | .ask _ _ => DepthOk p x y
  | .drop _ => ∃ a b : Bool, x = .bl a ∧ y = .bl b ∧ (all → a = b)
  | .rest _ => ∃ z : Int, x = .int z ∧ y = .int z
theorem RowOf.act {p : Nat} {r s : Th} (h : RowOf p r s) (w : WF .row r) (v : WF .shelf s) {ns : List Str} {d : Deed} (g : d.Good ns) :
    RowOf p (Kd.row.act r d).2 (Kd.shelf.act s d).2 ∧ AnsR p (r.laid.length ≤ p) d (Kd.row.act r d).1 (Kd.shelf.act s d).1 := by
  cases d with
  | rest x => exact ⟨h.next.spend w.next x, r.next.times x, rfl, by show V.int (s.next.times x) = _; rw [h.next.times x]⟩
  | drop n =>
    refine ⟨h.next.gone w.next n "dropped", _, _, rfl, rfl, fun hl => ?_⟩
    show (Kd.row.gone r.next n "dropped").1 = (Kd.shelf.gone s.next n "dropped").1
    have hm : n ∈ s.st ↔ some n ∈ r.laid := by
      rw [h.st.mem_iff, tk_all hl]
      exact mem_fm
    unfold Kd.gone
    dsimp only
    by_cases q : n ∈ s.st
    · rw [if_pos (show some n ∈ r.next.laid from hm.mp q), if_pos (show n ∈ s.next.st from q)]
    · rw [if_neg (show some n ∉ r.next.laid from fun e => q (hm.mpr e)), if_neg (show n ∉ s.next.st from q)]
  | ask n c =>
    have h1 := h.next.spend w.next 1
    obtain ⟨h2, h3⟩ := h1.came (w.next.spend 1) (v.next.spend 1) n
    refine ⟨h2.es_ ?_, h3⟩
    show putE _ n _ = putE _ n _
    rw [h2.es, h2.deed]
theorem rowOf0 {span part : Int} {p : Nat} : RowOf p (th0 span part 0) (th0 span part (p : Int)) := ⟨rfl, rfl, rfl, rfl, rfl, rfl, by
  unfold tk
  show ([] : List Str).Perm (([] : List (Option Str)).take p |>.filterMap id)
  rw [List.take_nil]
  exact List.Perm.refl _⟩
/-! the last spot has a name -/
def Tidy (l : List (Option Str)) : Prop := l.getLast? ≠ some none
theorem tidy_trim (l : List (Option Str)) : Tidy (trim l) := by
  unfold Tidy trim
  rw [List.getLast?_reverse]
  intro h
  have := List.head?_dropWhile_not (fun o : Option Str => o.isNone) l.reverse
  rw [h] at this
  simp at this
theorem tidy_gone {r : Th} (h : Tidy r.laid) (n x : Str) : Tidy (Kd.row.gone r n x).2.laid := by
  unfold Kd.gone
  dsimp only
  split
  · exact tidy_trim _
  · exact h
theorem tidy_step {r : Th} (h : Tidy r.laid) (t : Int) (n : Str) : Tidy (Kd.row.ageStep t r n).laid := by
  unfold Kd.ageStep
  split
  · exact tidy_gone (r := { r with es := setC r.es n (agedI (cntE r.es n) r.part t) }) h n _
  · exact h
theorem tidy_fold (t : Int) : ∀ (ns : List Str) {r : Th}, Tidy r.laid → Tidy (ns.foldl (Kd.row.ageStep t) r).laid
  | [], _, h => h
  | n :: ns, _, h => tidy_fold t ns (tidy_step h t n)
theorem tidy_spend {r : Th} (h : Tidy r.laid) (n : Int) : Tidy (Kd.row.spend r n).laid := by
  unfold Kd.spend
  split
  · exact tidy_fold _ _ (r := { r with time := r.time + n }) h
  · exact h
theorem tidy_came (r : Th) (n : Str) : Tidy (Kd.row.came r n).2.laid := by
  unfold Kd.came
  dsimp only
  split <;> exact tidy_trim _
theorem tidy_act {r : Th} (h : Tidy r.laid) (d : Deed) : Tidy (Kd.row.act r d).2.laid := by
  cases d with
  | rest x => exact tidy_spend (r := r.next) h x
  | drop n => exact tidy_gone (r := r.next) h n _
  | ask n c => exact tidy_came _ n
/-- the names in order are alike -/
theorem RowOf.names {p : Nat} {r s : Th} (h : RowOf p r s) (v : WF .shelf s) : sortR r.es (tk p r.laid) = Kd.shelf.names s := by
  show _ = sortR s.es s.st
  rw [h.es]
  refine sorted_uniq (lt := lexQ) (f := rankE s.es) ((sortR_perm _ _).trans (h.st.symm.trans (sortR_perm _ _).symm)) (sortR_sorted _ _) (sortR_sorted _ _) fun x hx y hy a b => ?_
  have inn : ∀ {x}, x ∈ sortR s.es (tk p r.laid) → x ∈ s.es.map (·.1) := fun hx => v.sin _ (h.st.mem_iff.mpr ((sortR_perm _ _).mem_iff.mp hx))
  rw [lexQ_no] at a b
  exact lst_one v (inn hx) (inn hy) (show (rankE s.es x).2 = (rankE s.es y).2 by omega)
end Own

/-! ### how many asks would have been met; enough places -/
namespace Own
open PySem L2
def metBy (ds : List (Option Int)) (p : Int) : Nat := ((ds.filterMap id).filter fun d => decide (d ≤ p)).length
def sortI (l : List Int) : List Int := l.mergeSort fun a b => decide (a ≤ b)
theorem sortI_perm (l : List Int) : (sortI l).Perm l := List.mergeSort_perm _ _
theorem sortI_sorted (l : List Int) : (sortI l).Pairwise (· ≤ ·) := by
  have := List.pairwise_mergeSort (le := fun a b : Int => decide (a ≤ b)) (fun a b c h1 h2 => by
    simp only [decide_eq_true_eq] at h1 h2 ⊢
    omega) (fun a b => by
    by_cases h : a ≤ b
    · simp [h]
    · simp [show b ≤ a by omega]) l
  exact this.imp fun h => of_decide_eq_true h
theorem sortI_uniq {l m : List Int} (h : m.Perm l) (hs : m.Pairwise (· ≤ ·)) : m = sortI l := by
  refine sorted_uniq (lt := fun i j : Int => decide (i < j)) (f := id) (h.trans (sortI_perm l).symm) (hs.imp fun h => decide_eq_false (by show ¬ (_ < _); simp only [id]; omega)) ((sortI_sorted l).imp fun h => decide_eq_false (by show ¬ (_ < _); simp only [id]; omega)) fun x _ y _ a b => ?_
  have a := of_decide_eq_false a
  have b := of_decide_eq_false b
  simp only [id] at a b
  omega
def enoughV (ds : List (Option Int)) (m : Int) : V :=
  if m = 0 then .int 1 else if m > ((ds.filterMap id).length : Int) then .non else .int ((sortI (ds.filterMap id)).getD (m - 1).toNat 0)
theorem met_le (ds : List (Option Int)) (p : Int) : metBy ds p ≤ (ds.filterMap id).length := List.length_filter_le _ _
theorem met_sort (ds : List (Option Int)) (p : Int) : metBy ds p = ((sortI (ds.filterMap id)).filter fun d => decide (d ≤ p)).length := ((sortI_perm _).filter _).length_eq.symm
/-- in a sorted list: at least i + 1 are at most the i-th; those below it are at most i -/
theorem sorted_count : ∀ {l : List Int} {i : Nat} {x : Int}, l.Pairwise (· ≤ ·) → l[i]? = some x → i + 1 ≤ (l.filter fun d => decide (d ≤ x)).length ∧ (l.filter fun d => decide (d ≤ x - 1)).length ≤ i
  | [], i, x, _, h => by cases h
  | a :: l, 0, x, hp, h => by
    cases h
    refine ⟨?_, ?_⟩
    · rw [List.filter_cons, if_pos (by simp)]
      exact Nat.succ_le_succ (Nat.zero_le _)
    · have : (a :: l).filter (fun d => decide (d ≤ a - 1)) = [] := by
        rw [List.filter_eq_nil_iff]
        intro d hd
        rcases List.mem_cons.mp hd with rfl | hd
        · simp only [decide_eq_true_eq]; omega
        · have := (List.pairwise_cons.mp hp).1 d hd
          simp only [decide_eq_true_eq]; omega
      rw [this]
      exact Nat.le_refl 0
  | a :: l, i + 1, x, hp, h => by
    have h : l[i]? = some x := h
    obtain ⟨h1, h2⟩ := sorted_count (List.pairwise_cons.mp hp).2 h
    have hax := (List.pairwise_cons.mp hp).1 x (List.mem_of_getElem? h)
    refine ⟨?_, ?_⟩
    · rw [List.filter_cons, if_pos (by simp only [decide_eq_true_eq]; exact hax), List.length_cons]
      omega
    · rw [List.filter_cons]
      split
      · rw [List.length_cons]; omega
      · omega
/-- what is told for so many asks -/
theorem enough_ok {ds : List (Option Int)} {m : Int} (hm : 0 ≤ m) (hd : ∀ d, some d ∈ ds → 1 ≤ d ∧ d ≤ 1000) :
    (enoughV ds m = .non ∧ ∀ p, (metBy ds p : Int) < m) ∨ ∃ r : Int, enoughV ds m = .int r ∧ 1 ≤ r ∧ r ≤ 1000 ∧ m ≤ metBy ds r ∧ (r = 1 ∨ (metBy ds (r - 1) : Int) < m) := by
  unfold enoughV
  by_cases h0 : m = 0
  · rw [if_pos h0]
    exact .inr ⟨1, rfl, by decide, by decide, by omega, .inl rfl⟩
  rw [if_neg h0]
  by_cases h1 : m > ((ds.filterMap id).length : Int)
  · rw [if_pos h1]
    exact .inl ⟨rfl, fun p => by have := met_le ds p; omega⟩
  rw [if_neg h1]
  right
  have sl := (sortI_perm (ds.filterMap id)).length_eq
  have hlt : (m - 1).toNat < (sortI (ds.filterMap id)).length := by omega
  have hx : (sortI (ds.filterMap id))[(m - 1).toNat]? = some ((sortI (ds.filterMap id)).getD (m - 1).toNat 0) := by
    rw [List.getD_eq_getElem?_getD, List.getElem?_eq_getElem hlt]
    rfl
  generalize (sortI (ds.filterMap id)).getD (m - 1).toNat 0 = x at hx
  obtain ⟨h2, h3⟩ := sorted_count (sortI_sorted _) hx
  rw [← met_sort] at h2 h3
  have hmem : some x ∈ ds := by
    have := (sortI_perm _).mem_iff.mp (List.mem_of_getElem? hx)
    obtain ⟨o, ho, e⟩ := List.mem_filterMap.mp this
    have e : o = some x := e
    rw [← e]
    exact ho
  obtain ⟨h4, h5⟩ := hd x hmem
  exact ⟨x, rfl, h4, h5, by omega, .inr (by omega)⟩
end Own

/-! ### own rule: len(set(xs)), xs a list of texts, none twice -/
namespace OwnS
open PySem PySem.Spec PyProof.Rows L2 SS
section
variable {prog : Program} {w : World} {A : Around} {R : Result → Shared → Prop} {I : Addr} {fp wr : List Addr} {G : Array GenState → Array GenState → Prop} {n : Nat} {P : Nat → Value → Prop} {St : Nat → Shared → Prop}
theorem any_take_succ {xs : List Str} (nd : xs.Nodup) {i : Nat} (hi : i < xs.length) (k : Str) : ((xs.take i).any (· == k) || decide (k = xs.getD i Str.empty)) = (xs.take (i + 1)).any (· == k) := by
  have e : xs.getD i Str.empty = xs[i] := by rw [List.getD_eq_getElem?_getD, List.getElem?_eq_getElem hi]; rfl
  rw [List.take_add_one, List.getElem?_eq_getElem hi, List.any_append, e]
  congr 1
  show _ = ([xs[i]].any (· == k))
  by_cases q : k = xs[i]
  · rw [decide_eq_true q, q]; simp
  · rw [decide_eq_false q]
    have : (xs[i] == k) = false := by rw [beq_eq_false_iff_ne]; exact fun h => q h.symm
    simp [this]
theorem not_yet {xs : List Str} (nd : xs.Nodup) {i : Nat} (hi : i < xs.length) : (xs.take i).any (· == xs.getD i Str.empty) = false := by
  have e : xs.getD i Str.empty = xs[i] := by rw [List.getD_eq_getElem?_getD, List.getElem?_eq_getElem hi]; rfl
  rw [List.any_eq_false]
  intro x hx h
  rw [e, beq_iff_eq] at h
  obtain ⟨j, hj, ej⟩ := List.mem_iff_getElem.mp hx
  rw [List.getElem_take] at ej
  rw [List.length_take] at hj
  have := (List.getElem_inj (h₀ := (by omega : j < xs.length)) (h₁ := hi) nd).mp (ej.trans h)
  omega
theorem loopTexts (W : WalksS prog w A.in1 I fp wr G n P St) (S : Addr) (hSf : S ∉ fp) (xs : List Str) (hsz : xs.length = n) (nd : xs.Nodup) (hn1 : n ≤ 4000)
    (hval : ∀ i v, P i v → ∃ t, v = .str (xs.getD i Str.empty) t) :
    ∀ (k i : Nat) (s : Shared), n - i = k → i ≤ n → St i s →
      s.heap.SetOf (PySem.strKind prog w) S (fun k' => (xs.take i).any (· == k')) i →
      (∀ s', Moved (S :: wr) G s s' → s'.heap.SetOf (PySem.strKind prog w) S (fun k' => (xs.take n).any (· == k')) n → R (.ok (.ret .none)) s') →
      codeAny (model prog w) A (.builtin "set.update.loop" ⟨[.ref S, .ref I], []⟩) R s := by
  have hSw : S ∉ wr := fun h => hSf (W.sub _ h)
  have hsub : ∀ b ∈ wr, b ∈ S :: wr := fun b hb => List.mem_cons_of_mem _ hb
  intro k
  induction k with
  | zero =>
    intro i s hk hi hst hS hR
    obtain rfl : i = n := by omega
    refine codeAny_builtin PyProof.Rows.F.entry_set_update_loop ?_
    rw [Around.under_plainId PyProof.Rows.F.plain_set_update_loop _]
    show wpAny _ A.in1 (pyNext (.ref I) >>= _) _ _ s
    refine wpAny_bind (W.done s _ _ hst fun s' hm => ?_)
    show wpAny _ A.in1 (ret Value.none) _ _ s'
    refine wpAny_pure (hR s' (hm.mono hsub) ?_)
    obtain ⟨o, es, ep, t, ho, rest⟩ := hS
    exact ⟨o, es, ep, t, hm.heap S _ hSw ho, rest⟩
  | succ k ih =>
    intro i s hk hi hst hS hR
    have hlt : i < n := by omega
    have hxl : i < xs.length := by omega
    refine codeAny_builtin PyProof.Rows.F.entry_set_update_loop ?_
    rw [Around.under_plainId PyProof.Rows.F.plain_set_update_loop _]
    show wpAny _ A.in1 (pyNext (.ref I) >>= _) _ _ s
    refine wpAny_bind (W.item i s _ _ hlt hst fun v s' hP hst' hm => ?_)
    obtain ⟨t, rfl⟩ := hval i v hP
    have hS' : s'.heap.SetOf (PySem.strKind prog w) S (fun k' => (xs.take i).any (· == k')) i := by
      obtain ⟨o, es, ep, tb, ho, rest⟩ := hS
      exact ⟨o, es, ep, tb, hm.heap S _ hSw ho, rest⟩
    show wpAny _ A.in1 (holding [Value.str (xs.getD i Str.empty) t] (setAdd S (.str (xs.getD i Str.empty) t)) >>= _) _ _ s'
    refine wpAny_bind (wpAny_holding ?_)
    unfold setAdd
    refine wpAny_holding ?_
    refine wpAny_bind ((PySem.strKind prog w).pyHash (k := xs.getD i Str.empty) (strKind_is _ _ _ _) ?_)
    refine wpAny_setAddHashed_of (knd := PySem.strKind prog w) (s := { s' with toks := s'.toks + 1 }) (strKind_is _ _ _ _) rfl hS' (by unfold scanBound; omega) fun h' hsb hS2 => ?_
    have hSi : h'.SetOf (PySem.strKind prog w) S (fun k' => (xs.take (i + 1)).any (· == k')) (i + 1) :=
      SetOf_congr hS2 (fun k' => any_take_succ nd hxl k') (by rw [not_yet nd hxl]; rfl)
    refine wpAny_pure ⟨plainId_quiet PyProof.Rows.F.plain_set_update_loop _, ih (i + 1) _ (by omega) hlt (W.frame _ s' _ _ hst' (Nat.le_succ _) fun b hb o e => ?_) hSi fun s'' hm'' hS'' => ?_⟩
    · rw [hsb.2 b (fun h : b = S => hSf (by rw [← h]; exact hb))]; exact e
    · refine hR s'' (Moved.trans W.gtrans ((hm.mono hsub).then_heap (Nat.le_succ _) fun b o hb e => ?_) hm'') hS''
      rw [hsb.2 b (fun h : b = S => hb (by rw [h]; exact List.mem_cons_self))]; exact e
end
section
variable {prog : Program} {w : World} {A : Around} {E : Value → Shared → Prop} {s : Shared}
/-- the set that set(l) is, while it is empty -/
abbrev emptySet (led : Bool) : Obj := { cls := .type "set", dict := none, data := .set #[] 0 (.fresh 0 0 led) }
set_option maxHeartbeats 3200000 in
theorem call_set_texts {l : Addr} {items : Array Value} {xs : List Str} {Q : Value → Shared → Prop}
    (hh : A.handled = none) (hl : s.heap.IsList l items) (hi : PyProof.Rows.StrsAre items.toList xs) (nd : xs.Nodup) (hn1 : xs.length ≤ 4000)
    (h : ∀ (h' : Heap) (tk : Nat), h'.SetOf (PySem.strKind prog w) s.heap.objs.size (fun k' => (xs.take items.size).any (· == k')) items.size →
      (∀ b o, b < s.heap.objs.size → s.heap.get? b = some o → h'.get? b = some o) → Q (.ref s.heap.objs.size) { s with heap := h', toks := tk }) :
    wpAny (model prog w) A (call (.type "set") [.ref l]) Q E s := by
  obtain ⟨c, tl, hmro⟩ := PySem.F.called_set.mro
  have hmade := PySem.F.called_set.made
  have hsub := PySem.F.called_set.sub
  refine wpAny_call (codeAny_of_tree ?_)
  show wpAny _ _ (callAny (.type "set") _) _ _ _
  refine wpAny_pure ⟨Code.quiet_builtin _ (by decide +kernel), codeAny_builtin PySem.F.entry_type_call ?_⟩
  rw [Around.under_plain (weight_type_call_type "set" [.ref l] []) rfl]
  have h1 := PySem.F.called_set.notType
  have h2 := PySem.F.called_set.canCreate
  have hct := PySem.F.typeCall_set_1 (.ref l)
  repeat (any_goals (first | assumption | wp_step))

  refine codeAny_mono (code_set_new_1 (.ref l) (E := E) (Q₁ := fun obj s₁ => ∃ led : Bool, obj = .ref s.heap.objs.size ∧ s₁ = { s with heap := s.heap.push (emptySet led) }) fun led => ⟨led, rfl, rfl⟩) fun r s₁ hr => ?_
  cases r with
  | error e => exact hr
  | ok fl =>
    cases fl with
    | ret obj =>
      obtain ⟨led, rfl, rfl⟩ := hr
      have hS : (s.heap.push (emptySet led)).get? s.heap.objs.size = some (emptySet led) := Heap.get?_push_size _ rfl
      have hT : Shared.TypeIs { s with heap := s.heap.push (emptySet led) } (.ref s.heap.objs.size) "set" := ⟨_, hS, rfl⟩
      have hli := PySem.F.called_set.init.lookup
      have hbi := PySem.F.called_set.init.bind (.ref s.heap.objs.size)
      repeat (any_goals (first | assumption | wp_step))

      refine codeAny_mono (codeAny_call_builtin (R := wants (fun r s₂ => r = .none ∧ ∃ h' tk, s₂ = { s with heap := h', toks := tk } ∧
          h'.SetOf (PySem.strKind prog w) s.heap.objs.size (fun k' => (xs.take items.size).any (· == k')) items.size ∧
          (∀ b o, b < s.heap.objs.size → s.heap.get? b = some o → h'.get? b = some o)) E) PySem.F.called_set.init.plain PySem.F.entry_set_init (check_set_init_1 hT ?_)) fun r₂ s₂ hr₂ => ?_
      · obtain ⟨ol, hol, hcl, nl, hdl⟩ := hl
        obtain ⟨ocls, odict, odata, oslots⟩ := ol
        simp only at hcl hdl
        subst hcl; subst hdl
        have hol' : (s.heap.push (emptySet led)).get? l = some { cls := .type "list", dict := odict, data := .seq items nl, slots := oslots } := Heap.get?_push_of_some _ hol
        have hsls := PySem.F.sub_list_set
        have hslf := PySem.F.sub_list_frozenset
        have hne : (Value.type "list" == Value.type "dict") = false := by decide
        have hl1 : (s.heap.push (emptySet led)).IsList l items := ⟨_, hol', rfl, nl, rfl⟩
        unfold Builtin.«set.__init__» noKeywords Builtin.Frozenset.updateFrom
        generalize hPI : pyIter = PI
        wp_walk
        subst hPI

        refine wpAny_pyIter_list hl1 ?_
        refine wpAny_bind (wpAny_runValue ?_)
        have hlS : l < s.heap.objs.size := Heap.lt_size hol
        have hh3 : A.in1.in1.in1.handled = none := by simp [hh]
        have hneI : l ≠ (s.heap.push (emptySet led)).objs.size := by
          rw [Heap.size_push]
          exact Nat.ne_of_lt (Nat.lt_succ_of_lt hlS)
        have hSf : s.heap.objs.size ∉ [(s.heap.push (emptySet led)).objs.size, l] := by
          rw [Heap.size_push]
          simp only [List.mem_cons, List.not_mem_nil, or_false, not_or]
          exact ⟨Nat.ne_of_lt (Nat.lt_succ_self _), Nat.ne_of_gt hlS⟩
        have hsz : xs.length = items.size := by rw [← StrsAre.len_eq hi, Array.length_toList]
        have hval : ∀ (i : Nat) (v : Value), items[i]? = some v → ∃ t, v = .str (xs.getD i Str.empty) t := fun i v hv => strs_at hi i v (by rw [Array.getElem?_toList]; exact hv)
        refine loopTexts ((Walks.list hh3 _ l hneI items).toS) s.heap.objs.size
          hSf xs hsz nd (by rw [← hsz]; exact hn1) hval (items.size - 0) 0 _ (by omega) (Nat.zero_le _)
          ⟨⟨_, Heap.get?_push_size _ rfl, rfl, rfl⟩, (hl1.push _)⟩ ?hS0 ?hR
        case hS0 =>
          have hget : ((s.heap.push (emptySet led)).push { cls := .type "list_iterator", data := .fields #[.ref l, .int 0 0] }).get? s.heap.objs.size = some (emptySet led) := Heap.get?_push_of_some _ hS
          exact PyProof.Rows.SetOf_congr ((PyProof.Rows.setObjOf_fresh (knd := PySem.strKind prog w) led).setOf hget (by unfold scanBound; omega)) (fun _ => rfl) rfl
        case hR =>
          intro s' hm hS'
          obtain ⟨h', g', d', tk', os'⟩ := s'
          obtain rfl : g' = s.gens := hm.gens
          obtain rfl : d' = s.drawn := hm.drawn
          obtain rfl : os' = s.os := hm.os
          show wpAny _ _ _ _ _ _
          refine wpAny_pure ?_
          show wpAny _ _ (ret Value.none) _ _ _
          refine wpAny_pure ⟨rfl, h', tk', rfl, hS', fun b o hb e => ?_⟩
          refine hm.heap b o ?_ (Heap.get?_push_of_some _ (Heap.get?_push_of_some _ e))
          simp only [List.mem_cons, List.not_mem_nil, or_false, not_or]
          refine ⟨Nat.ne_of_lt hb, ?_⟩
          rw [Heap.size_push]
          exact Nat.ne_of_lt (Nat.lt_succ_of_lt hb)

      · cases r₂ with
        | error e => exact hr₂
        | ok fl₂ =>
          cases fl₂ with
          | ret r =>
            obtain ⟨rfl, h', tk, rfl, hS', hk'⟩ := hr₂
            repeat (any_goals (first | assumption | wp_step))
            exact h _ _ hS' hk'
          | _ => exact hr₂.elim
    | _ => exact hr.elim
end
/-- len(set(xs)), xs a list of texts, none twice -/
def tLenSetT (K : PySem.W.Frag) (ta : TE) : TE := fun σ H Q => ta σ H fun x H1 => ∃ (l : Addr) (xs : List Str), x = .ref l ∧ SqL K H1 l (xs.map V.str) ∧ xs.Nodup ∧ xs.length ≤ 4000 ∧ Q (.int (xs.length : Nat)) H1
theorem pe_lenSetT {X : Cx} {a : Expr} {ta : TE} {p p2 q pos : Pos} (hc : X.calm = true) (hg : Gl X "len") (hm : X.mg "len" = none) (hg2 : Gl X "set") (hm2 : X.mg "set" = none) (ha : PE X a ta)
    (na : starEach [a] X.env = (false, eval a X.env) :: starEach [] X.env := by rfl) : PE X (.Call (.Name "len" p) [.Call (.Name "set" p2) [a] [] q] [] pos) (tLenSetT X.K ta) := by
  refine ⟨fun pins s σ H Q I h => ?_⟩
  refine Call_ (ld_blt I hg hm boot_len ?_)
  refine PyProof.Rows.callWith_builtin1 (PyProof.Rows.args_cons ?_ rfl) rfl rfl
  refine Call_ (ld_blt I hg2 hm2 boot_set ?_)
  refine PyProof.Rows.callWith_type1 (PyProof.Rows.args_cons (thn (ha.run pins s σ H _ I h) fun v s1 ⟨x, H1, I1, r1, q1⟩ => PyProof.Rows.args_nil ?_) na) na rfl
  obtain ⟨l, xs, rfl, hq, nd, h1, q1⟩ := q1
  cases r1
  obtain ⟨its, r, pl, hz⟩ := I1.list hq
  have hl : its.toArray.size = xs.length := by rw [List.size_toArray, ← r.length, List.length_map]
  refine call_set_texts (I1.ok.hd hc) pl.isList (by simpa using strsAre_of r) nd h1 fun h' tk hS hk => ?_
  refine PyProof.Rows.args_nil ?_
  rw [hl] at hS
  obtain ⟨o, es, ep, t, ho, hex, hd, _, _, _, hf, hn⟩ := hS
  have I2 : Inv X pins σ H1 { s1 with heap := h', toks := tk } := I1.kept fun b o e => hk b o (Heap.lt_size e) e
  exact call_len_set ho hex hd hf (by rw [hn] <;> omega) ⟨.int xs.length, H1, I2.tok _, ⟨_, by rw [hn]⟩, q1⟩
end OwnS

/-! ### tuples sorted, told apart by their parts; plain Lean -/
namespace Own
open PySem L2
theorem sort_perm_eq {l m : List PyData} (h : l.Perm m) (inj : ∀ x ∈ l, ∀ y ∈ l, PySem.W.keyToks x = PySem.W.keyToks y → x = y) : l.mergeSort (PySem.W.dataLe false id) = m.mergeSort (PySem.W.dataLe false id) := by
  have p1 : (l.mergeSort (PySem.W.dataLe false id)).Perm l := List.mergeSort_perm _ _
  have p2 : (m.mergeSort (PySem.W.dataLe false id)).Perm m := List.mergeSort_perm _ _
  refine sorted_uniq (lt := PySem.W.dataLt) (f := id) (p1.trans (h.trans p2.symm)) (le_sorted _) (le_sorted _) fun x hx y hy a b => ?_
  exact inj x (p1.mem_iff.mp hx) y (p1.mem_iff.mp hy) (PyProof.Rows.lex_total (O := PyProof.Rows.itemOrd) _ _ a b)
def triD (g : Str × Str × Int) : PyData := .tuple [.str g.1, .str g.2.1, .int g.2.2]
theorem triD_inj (a b : Str × Str × Int) (h : PySem.W.keyToks (triD a) = PySem.W.keyToks (triD b)) : triD a = triD b := by
  unfold triD at h ⊢
  simp only [PySem.W.keyToks, PySem.W.keyToksAll] at h
  obtain ⟨a1, a2, a3⟩ := a
  obtain ⟨b1, b2, b3⟩ := b
  simp only [List.cons_append, List.nil_append, List.cons.injEq, Sum.inr.injEq, Sum.inl.injEq, true_and, and_true] at h
  obtain ⟨h1, h2, h3⟩ := h
  have e : ∀ {x y : Str}, x.cps.toList = y.cps.toList → x = y := fun {x y} h => by
    cases x
    cases y
    congr 1
    exact Array.toList_inj.mp h
  rw [show a1 = b1 from e h1, show a2 = b2 from e h2, show a3 = b3 from h3]
theorem tri_sorted {l m : List (Str × Str × Int)} (h : l.Perm m) : (l.map triD).mergeSort (PySem.W.dataLe false id) = (m.map triD).mergeSort (PySem.W.dataLe false id) := sort_perm_eq (h.map _) fun x hx y hy e => by
  obtain ⟨a, _, rfl⟩ := List.mem_map.mp hx
  obtain ⟨b, _, rfl⟩ := List.mem_map.mp hy
  exact triD_inj a b e
end Own

/-! ### statements for laws with two things; appended deeds -/
namespace Own
open PySem L2 PyProof.Rows Evl OwnS
section
variable {K : PySem.W.Frag} {σ : L2.St} {H H' : Hp} {ta tb te tx tv : TE} {D : Ends} {tz tu : TS}
theorem q_notCall3 {t1 t2 t3 : TE} {sp : Sp} {E : XK} {x y : V} {R : V → Hp → Prop} (h1 : Ev t1 σ H x) (h2 : Ev t2 σ H y) (h3 : ∀ H1, Ex H H1 → ∀ Q : VK, (∀ z H2, R z H2 → Q z H2) → t3 σ H1 Q) (h4 : ∀ z H2, R z H2 → SpV sp [x, y, z] H2 (.bl true) ∧ ∀ H3, Ex H2 H3 → tz D σ H3) :
    tSeq (tIfS (tNot (tB (tCall sp [] E (tCons t1 (tCons t2 (tCons t3 tNil)))))) tu tNext) tz D σ H :=
  h1 H (Ex.refl H) _ fun H1 e1 => h2 H1 e1 _ fun H2 e2 => h3 H2 (e1.trans e2) _ fun z H3 r => by
    obtain ⟨h5, h6⟩ := h4 z H3 r
    exact h5 H3 (Ex.refl _) _ (fun H4 e4 => ⟨true, rfl, h6 H4 e4⟩) E
theorem s_appP {p : Addr} {xs : List V} {P : V → Hp → Prop} (ho : Ev ta σ H (.ref p)) (h : H p = some (.lst xs)) (hv : EvP tv σ H P) (hz : xs.length < 100000) (k : ∀ v H1, Ex H H1 → P v H1 → H1 p = some (.lst xs) → D.nx σ (upd H1 p (.lst (xs ++ [v])))) : tDrop (tBM K "list" rAppend ta (tCons tv tNil)) D σ H :=
  ho H (Ex.refl H) _ fun H1 e1 => ⟨.inl ⟨rfl, _, SqL.of (e1 _ _ h)⟩, hv H1 e1 _ fun v H2 e2 p2 => ⟨p, xs, v, rfl, rfl, e2 _ _ (e1 _ _ h), sz_lt hz, k v H2 (e1.trans e2) p2 (e2 _ _ (e1 _ _ h))⟩⟩
/-- if c: i = .., j = .. (ints) -/
theorem q_ifZ2 {t : TT} {te1 te2 : TE} {b : Bool} {i j : Nat} {n1 n2 m1 m2 : Int} (hold : (σ.set i (some (.int n1))).set j (some (.int n2)) = σ) (h : EvT t σ H b) (h1 : Ev te1 σ H (.int m1)) (h2 : ∀ H1, Ex H H1 → Ev te2 (σ.set i (some (.int m1))) H1 (.int m2))
    (k : ∀ x y H1, Ex H H1 → ((b = true ∧ x = m1 ∧ y = m2) ∨ (b = false ∧ x = n1 ∧ y = n2)) → tz D ((σ.set i (some (.int x))).set j (some (.int y))) H1) : tSeq (tIfS t (tSeq (tAsg te1 (gName i)) (tAsg te2 (gName j))) tNext) tz D σ H :=
  q_when h (fun hb H1 e1 => q_asg (h1.mono e1) fun H2 e2 => s_asg (D := { D with nx := tz D }) (h2 H2 (e1.trans e2)) fun H3 e3 => k m1 m2 H3 ((e1.trans e2).trans e3) (.inl ⟨hb, rfl, rfl⟩)) (fun hb H1 e1 => by
    have g := k n1 n2 H1 e1 (.inr ⟨hb, rfl, rfl⟩)
    rw [hold] at g
    exact g)
end
end Own

/-! ### lists with None among the items; an if whose end is told once -/
namespace Own
open PySem L2 PyProof.Rows Evl OwnS
section
variable {K : PySem.W.Frag} {σ : L2.St} {H H' : Hp} {t u : TT} {ta tb te tx tv : TE} {D : Ends} {tz tu : TS}
theorem q_whenM {b : Bool} {M : L2.St → Hp → Prop} (h : EvT t σ H b) (h1 : b = true → ∀ H1, Ex H H1 → ∀ D' : Ends, (∀ σ' H', M σ' H' → D'.nx σ' H') → tu D' σ H1) (h2 : b = false → ∀ H1, Ex H H1 → M σ H1) (k : ∀ σ' H', M σ' H' → tz D σ' H') : tSeq (tIfS t tu tNext) tz D σ H :=
  q_when h (fun hb H1 e1 => h1 hb H1 e1 { D with nx := tz D } k) (fun hb H1 e1 => k σ H1 (h2 hb H1 e1))
theorem eqV_strs (a b : Str) : eqV (.str a) (.str b) = decide (a = b) := by
  first
  | rfl
  | (unfold eqV; by_cases h : a = b <;> simp [h])
theorem eqV_o (o : Option Str) (n : Str) : eqV (oV o) (.str n) = decide (o = some n) := by
  cases o with
  | none => rfl
  | some m =>
    show eqV (.str m) (.str n) = _
    rw [eqV_strs]
    by_cases h : m = n
    · rw [decide_eq_true h, decide_eq_true (by rw [h])]
    · rw [decide_eq_false h, decide_eq_false (fun q => h (Option.some.inj q))]
theorem inV_o {n : Str} {l : List (Option Str)} : inV (.str n) (l.map oV) = decide (some n ∈ l) := by
  unfold inV
  rw [List.any_map, Bool.eq_iff_iff, List.any_eq_true, decide_eq_true_eq]
  constructor
  · rintro ⟨m, hm, h⟩
    have h : eqV (oV m) (.str n) = true := h
    rw [eqV_o, decide_eq_true_eq] at h
    exact h ▸ hm
  · intro h
    refine ⟨some n, h, ?_⟩
    show eqV (oV (some n)) (.str n) = true
    rw [eqV_o]
    exact decide_eq_true rfl
theorem flat_o (l : List (Option Str)) : (l.map oV).all flatV = true := by
  rw [List.all_map, List.all_eq_true]
  intro x _
  cases x <;> rfl
/-- l.index(n) -/
theorem ev_indexO {p : Addr} {l : List (Option Str)} {n : Str} (ha : Ev ta σ H (.ref p)) (hb : Ev tb σ H (.str n)) (h : H p = some (.lst (l.map oV))) (hn : some n ∈ l) : Ev (tBM K "list" (rIndex K) ta (tCons tb tNil)) σ H (.int (idx l n : Int)) := fun H1 e Q q =>
  ha H1 e _ fun H2 e2 => ⟨.inl ⟨rfl, _, SqL.of (e2 _ _ (e _ _ h))⟩, hb H2 (e.trans e2) _ fun H3 e3 => by
    have at1 := idx_at hn
    refine ⟨p, l.map oV, .str n, idx l n, .str n, rfl, rfl, SqL.of (((e.trans e2).trans e3) _ _ h), rfl, flat_o l, by rw [List.getElem?_map, at1]; rfl, by rw [eqV_strs]; exact decide_eq_true rfl, fun m z hm hz => ?_, q H3 (e2.trans e3)⟩
    rw [List.getElem?_map] at hz
    obtain ⟨o, ho, rfl⟩ := Option.map_eq_some_iff.mp hz
    rw [eqV_o, decide_eq_false_iff_not]
    intro q2
    obtain ⟨hl, e2⟩ := List.getElem?_eq_some_iff.mp ho
    have := List.not_of_lt_findIdx (p := fun o => decide (o = some n)) (xs := l) hm
    simp [e2, q2] at this⟩
theorem s_popL {p : Addr} {xs : List V} (ho : Ev te σ H (.ref p)) (h : H p = some (.lst xs)) (hx : xs ≠ []) (k : ∀ H1, Ex H H1 → D.nx σ (upd H1 p (.lst xs.dropLast))) : tDrop (tBM0 K "list" rPop te) D σ H :=
  ho H (Ex.refl H) _ fun H1 e1 => ⟨.inl ⟨rfl, _, SqL.of (e1 _ _ h)⟩, p, xs, xs.getLast hx, rfl, rfl, e1 _ _ h, by rw [← List.getLast?_eq_getElem?, List.getLast?_eq_some_getLast hx], k H1 e1⟩
theorem atI_last {xs : List V} {v : V} (h : xs.getLast? = some v) : atI xs (-1) = some v := by
  have hl : 0 < xs.length := by
    cases xs with
    | nil => cases h
    | cons a r => exact Nat.succ_pos _
  unfold atI ixN
  rw [if_neg (by decide), if_pos (by omega)]
  show xs[((-1 : Int) + xs.length).toNat]? = some v
  rw [show ((-1 : Int) + xs.length).toNat = xs.length - 1 by omega, ← List.getLast?_eq_getElem?, h]
/-- what of a list of names and None is a name -/
theorem range_getDO {α : Type} (l : List α) (d : α) : (List.range l.length).map (fun j => l.getD j d) = l := by
  apply List.ext_getElem?
  intro i
  rw [List.getElem?_map]
  by_cases h : i < l.length
  · rw [List.getElem?_range h, List.getElem?_eq_getElem h]
    show some (l.getD i d) = _
    rw [List.getD_eq_getElem?_getD, List.getElem?_eq_getElem h]
    rfl
  · rw [List.getElem?_eq_none (by rw [List.length_range]; omega), List.getElem?_eq_none (by omega)]
    rfl
theorem given_o (l : List (Option Str)) : given l.length (fun i => (l.getD i none).isSome) (fun i => oV (l.getD i none)) = (l.filterMap id).map V.str := by
  unfold given
  have h1 : ∀ m : List (Option Str), (m.filterMap id).map V.str = (m.filter (·.isSome)).map oV := by
    intro m
    induction m with
    | nil => rfl
    | cons o r ih =>
      cases o with
      | none => exact ih
      | some n =>
        show V.str n :: _ = oV (some n) :: _
        rw [ih]
        rfl
  rw [h1]
  conv => rhs; rw [← range_getDO l none]
  rw [List.filter_map, List.map_map]
  rfl
end
end Own

/-! ### rows of tuples: slices, walks; is True of a bool or an int -/
namespace Own
open PySem L2 PyProof.Rows Evl OwnS
def rIsBI : R2 := fun x y H Q => ∃ b : Bool, y = .bl b ∧ ((∃ a : Bool, x = .bl a ∧ Q (.bl (decide (a = b))) H) ∨ ∃ i : Int, x = .int i ∧ Q (.bl false) H)
section
variable {X : Cx}
theorem op_isBI : OpR X (compareOp .Is) rIsBI := by
  intro pins s σ H x y v u Q I rx ry h
  obtain ⟨b, rfl, ⟨a, rfl, q⟩ | ⟨i, rfl, q⟩⟩ := h
  · exact op_isBl pins s σ H _ _ v u Q I rx ry ⟨a, b, rfl, rfl, q⟩
  · cases (show u = Value.bool b from ry)
    obtain ⟨t, rfl⟩ := rx
    exact wpAny_is_other rfl (fun z => nomatch z) ⟨.bl false, H, I, rfl, q⟩
end
/-- the items are tuples, these -/
def RowsV (H : Hp) (vs : List V) (rows : List (List V)) : Prop := vs.length = rows.length ∧ ∀ (i : Nat) (r : List V), rows[i]? = some r → ∃ q, vs[i]? = some (.ref q) ∧ H q = some (.tup r)
theorem RowsV.ex {H H' : Hp} {vs : List V} {rows : List (List V)} (h : RowsV H vs rows) (e : Ex H H') : RowsV H' vs rows := ⟨h.1, fun i r hr => by
  obtain ⟨q, a, b⟩ := h.2 i r hr
  exact ⟨q, a, e _ _ b⟩⟩
theorem notOwn {k : Kd} {C : Addr} {ad : Ad} {H : Hp} {s : Th} (A : At k C ad H s) {q : Addr} {r : List V} (h : H q = some (.tup r)) : q ∉ own k ad := fun hq => by
  obtain ⟨o, h1, h2⟩ := A.noTup hq
  rw [h] at h1
  exact h2 _ (Option.some.inj h1).symm
theorem RowsV.kp {k : Kd} {C : Addr} {ad : Ad} {H H' : Hp} {s : Th} {vs : List V} {rows : List (List V)} (h : RowsV H vs rows) (A : At k C ad H s) (K : Kp k ad H H') : RowsV H' vs rows := ⟨h.1, fun i r hr => by
  obtain ⟨q, a, b⟩ := h.2 i r hr
  exact ⟨q, a, K _ _ b (notOwn A b)⟩⟩
theorem TupsAt.kp {k : Kd} {C : Addr} {ad : Ad} {H H' : Hp} {s : Th} {p : Addr} {rows : List (List V)} (h : TupsAt H p rows) (A : At k C ad H s) (K : Kp k ad H H') (hp : p ∉ own k ad) : TupsAt H' p rows := by
  obtain ⟨vs, h1, h2, h3⟩ := h
  refine ⟨vs, K _ _ h1 hp, h2, fun i r hr => ?_⟩
  obtain ⟨q, a, b⟩ := h3 i r hr
  exact ⟨q, a, K _ _ b (notOwn A b)⟩
/-- a new list of such tuples -/
def EvRows (te : TE) (σ : L2.St) (H : Hp) (rows : List (List V)) : Prop := ∀ H1, Ex H H1 → ∀ Q : VK, (∀ p H2, H1 p = none → Ex H1 H2 → TupsAt H2 p rows → Q (.ref p) H2) → te σ H1 Q
theorem cutV_to (xs : List V) (k : Nat) : cutV xs none (some (k : Int)) = xs.take k := by
  unfold cutV
  rw [HT.sIx_none, HT.sIx_nat, List.drop_zero, Nat.sub_zero]
  by_cases h : k ≤ xs.length
  · rw [Nat.min_eq_left h]
  · rw [Nat.min_eq_right (by omega), List.take_of_length_le (Nat.le_refl _), List.take_of_length_le (by omega)]
theorem cutV_from (xs : List V) (k : Nat) (h : k ≤ xs.length) : cutV xs (some (k : Int)) none = xs.drop k := by
  unfold cutV
  rw [HT.sIx_none, HT.sIx_nat, Nat.min_eq_left h, List.take_of_length_le (by rw [List.length_drop]; omega)]
section
variable {K : PySem.W.Frag} {σ : L2.St} {H H' : Hp} {t u : TT} {ta tb te tx tv : TE} {D : Ends} {tz tu : TS}
theorem er_take {p : Addr} {rows : List (List V)} {k : Nat} (h : Ev te σ H (.ref p)) (hT : TupsAt H p rows) (hb : Ev tb σ H (.int (k : Int))) : EvRows (tSl (rSlL K) te tNoPart (tPart tb)) σ H (rows.take k) := fun H1 e Q q =>
  h H1 e _ fun H2 e2 => hb H2 (e.trans e2) _ fun H3 e3 => ⟨_, rfl, by
    obtain ⟨vs, g1, g2, g3⟩ := hT.ex ((e.trans e2).trans e3)
    refine ⟨p, vs, rfl, SqL.of g1, fun q' hq' => q q' _ (fresh_back (e2.trans e3) hq') ((e2.trans e3).trans (Ex.new hq')) ?_⟩
    refine ⟨vs.take k, by rw [upd_same, cutV_to], by rw [List.length_take, List.length_take, g2], fun i r hr => ?_⟩
    have hi : i < k := by
      by_cases q : i < k
      · exact q
      · rw [List.getElem?_eq_none (by rw [List.length_take]; omega)] at hr
        cases hr
    rw [List.getElem?_take_of_lt hi] at hr
    obtain ⟨t, t1, t2⟩ := g3 _ r hr
    exact ⟨t, by rw [List.getElem?_take_of_lt hi]; exact t1, Ex.new hq' _ _ t2⟩⟩
theorem er_drop {p : Addr} {rows : List (List V)} {k : Nat} (h : Ev te σ H (.ref p)) (hT : TupsAt H p rows) (hb : Ev tb σ H (.int (k : Int))) (hk : k ≤ rows.length) : EvRows (tSl (rSlL K) te (tPart tb) tNoPart) σ H (rows.drop k) := fun H1 e Q q =>
  h H1 e _ fun H2 e2 => hb H2 (e.trans e2) _ fun H3 e3 => ⟨_, rfl, by
    obtain ⟨vs, g1, g2, g3⟩ := hT.ex ((e.trans e2).trans e3)
    refine ⟨p, vs, rfl, SqL.of g1, fun q' hq' => q q' _ (fresh_back (e2.trans e3) hq') ((e2.trans e3).trans (Ex.new hq')) ?_⟩
    refine ⟨vs.drop k, by rw [upd_same, cutV_from _ _ (by omega)], by rw [List.length_drop, List.length_drop, g2], fun i r hr => ?_⟩
    rw [List.getElem?_drop] at hr
    obtain ⟨t, t1, t2⟩ := g3 _ r hr
    exact ⟨t, by rw [List.getElem?_drop]; exact t1, Ex.new hq' _ _ t2⟩⟩
/-- for row in a new list of tuples -/
theorem q_forRows {rows : List (List V)} {j : Nat} (h : EvRows te σ H rows) (Pv : Addr → List V → Nat → L2.St → Hp → Prop) (h0 : ∀ p vs H1, H p = none → Ex H H1 → H1 p = some (.lst vs) → RowsV H1 vs rows → Pv p vs 0 σ H1)
    (hl : ∀ p vs i σ' H', Pv p vs i σ' H' → H' p = some (.lst vs))
    (hs : ∀ p vs i r q σ' H', rows[i]? = some r → vs[i]? = some (.ref q) → Pv p vs i σ' H' → tu { D with nx := Pv p vs (i + 1), ct := Pv p vs (i + 1), bk := tz D } (σ'.set j (some (.ref q))) H') (hd : ∀ p vs σ' H', Pv p vs rows.length σ' H' → tz D σ' H') :
    tSeq (tFor (iList K te) (gName j) tu) tz D σ H := h H (Ex.refl H) _ fun p H1 hp e hT => by
  obtain ⟨vs, g1, g2, g3⟩ := hT
  refine ⟨p, rfl, ⟨vs, SqL.of g1⟩, for_it (D := { D with nx := tz D }) (walk_list (K := K) (a := p) (xs := vs)) (Pv p vs) (h0 p vs H1 hp e g1 ⟨g2, g3⟩) (fun i σ' H' _ h => SqL.of (hl p vs i σ' H' h)) (fun i x σ' G G' hi hP hy => ?_) (fun σ' H' hP => ?_)⟩
  · obtain ⟨rfl, hx⟩ := hy
    obtain ⟨r, hr⟩ : ∃ r, rows[i]? = some r := ⟨_, List.getElem?_eq_getElem (by omega)⟩
    obtain ⟨q, q1, _⟩ := g3 i r hr
    rw [hx] at q1
    cases q1
    exact hs p vs i r q σ' _ hr hx hP
  · rw [g2] at hP
    exact hd p vs σ' H' hP
/-- f(.., a call that changes things, ..) is True and ..: an if -/
def isTrueV : V → Option Bool
  | .bl a => some a
  | .int _ => some false
  | _ => none
theorem s_ifIsAnd {t1 : TE} {R : V → Hp → Prop} (h1 : ∀ Q : VK, (∀ v H1, R v H1 → Q v H1) → t1 σ H Q) (h2 : ∀ v H1, R v H1 → ∃ a b : Bool, isTrueV v = some a ∧ (a = true → EvT u σ H1 b) ∧ ∀ H2, Ex H1 H2 → ((a && b) = true → tu D σ H2) ∧ ((a && b) = false → D.nx σ H2)) :
    tIfS (tAnd (tTest (tOp rIsBI t1 (tC (.bl true)))) u) tu tNext D σ H := h1 _ fun v H1 r => by
  obtain ⟨a, b, ha, hu, k⟩ := h2 v H1 r
  have fin : ∀ c : Bool, c = a → (if c = true then u σ H1 else fun Q => Q false H1) (fun b H2 => if b = true then tu D σ H2 else tNext D σ H2) := by
    rintro c rfl
    cases c with
    | false =>
      show tNext D σ H1
      exact (k H1 (Ex.refl _)).2 rfl
    | true =>
      show u σ H1 _
      refine hu rfl H1 (Ex.refl _) _ fun H2 e2 => ?_
      cases b with
      | true => exact (k H2 e2).1 rfl
      | false => exact (k H2 e2).2 rfl
  refine ⟨true, rfl, ?_⟩
  cases v with
  | bl x =>
    refine .inl ⟨x, rfl, ⟨_, rfl, ?_⟩⟩
    have hx : decide (x = true) = a := by
      have := Option.some.inj (show some x = some a from ha)
      rw [← this]
      cases x <;> rfl
    have := fin _ hx
    cases hd : decide (x = true) <;> (rw [hd] at this; exact this)
  | int x =>
    refine .inr ⟨x, rfl, ⟨_, rfl, ?_⟩⟩
    exact fin false (Option.some.inj (show some false = some a from ha))
  | _ => cases ha
end
end Own

/-! ### many shelves: comprehensions that change the heap, walks over two lists -/
namespace Own
open PySem L2 PyProof.Rows Evl OwnS
section
variable {K : PySem.W.Frag} {σ : L2.St} {H H' : Hp} {t u : TT} {ta tb te tx tv : TE} {D : Ends} {tz tu : TS}
/-- [e for x in xs], where e may change what stands -/
theorem lc_mut {a : Addr} {xs : List V} {tl : TE} {j : Nat} {vs : List Nat} {Q : VK} (h : Ev tl σ H (.ref a)) (hx : SqL K H a xs) (hz : xs.length ≤ 40000) (Inv : Addr → Nat → List V → Hp → Prop) (hw : ∀ x, wipe ((wipe σ vs).set j (some x)) vs = wipe σ vs)
    (h0 : ∀ D H1, Ex H H1 → H1 D = none → Inv D 0 [] (upd H1 D (.lst [])))
    (hl : ∀ D i ys H', Inv D i ys H' → SqL K H' a xs ∧ ys.length = i)
    (ht : ∀ D i x ys H', xs[i]? = some x → Inv D i ys H' → ∀ Q' : VK, (∀ y H4, H4 D = some (.lst ys) → Inv D (i + 1) (ys ++ [y]) (upd H4 D (.lst (ys ++ [y]))) → Q' y H4) → te ((wipe σ vs).set j (some x)) H' Q')
    (hd : ∀ D ys H', H D = none → Inv D xs.length ys H' → Q (.ref D) H') : tLc (iList K tl) (gName j) tYes te vs σ H Q :=
  h H (Ex.refl H) _ fun H1 e1 => ⟨a, rfl, ⟨xs, ex_l e1 hx⟩, fun D hD => lc_list (xs := xs) (fun i H' => ∃ ys, Inv D i ys H') ⟨[], h0 D H1 e1 hD⟩ (fun i H' _ p => by
    obtain ⟨ys, p⟩ := p
    exact (hl D i ys H' p).1) (fun i x H' hi p => by
    obtain ⟨ys, p⟩ := p
    have hlen := (hl D i ys H' p).2
    have hi' := (List.getElem?_eq_some_iff.mp hi).1
    exact ⟨hw x, ht D i x ys H' hi p _ fun y H4 h4 p4 => ⟨ys, h4, sz_lt (by omega), ys ++ [y], p4⟩⟩) (fun H' p => by
    obtain ⟨ys, p⟩ := p
    exact hd D ys H' (fresh_back e1 hD) p)⟩
theorem q_asgR {i : Nat} {R : V → Hp → Prop} (h : ∀ Q : VK, (∀ v H1, R v H1 → Q v H1) → te σ H Q) (k : ∀ v H1, R v H1 → tz D (σ.set i (some v)) H1) : tSeq (tAsg te (gName i)) tz D σ H := h _ fun v H1 r => k v H1 r
/-- if not f(x, a call that changes things, z, u): .. -/
theorem q_notCall4 {t1 t2 t3 t4 : TE} {sp : Sp} {E : XK} {x : V} {R : V → Hp → Prop} (h1 : Ev t1 σ H x) (h2 : ∀ H1, Ex H H1 → ∀ Q : VK, (∀ y H2, R y H2 → Q y H2) → t2 σ H1 Q)
    (h3 : ∀ y H2, R y H2 → ∃ z u, Ev t3 σ H2 z ∧ Ev t4 σ H2 u ∧ SpV sp [x, y, z, u] H2 (.bl true) ∧ ∀ H3, Ex H2 H3 → tz D σ H3) :
    tSeq (tIfS (tNot (tB (tCall sp [] E (tCons t1 (tCons t2 (tCons t3 (tCons t4 tNil))))))) tu tNext) tz D σ H :=
  h1 H (Ex.refl H) _ fun H1 e1 => h2 H1 e1 _ fun y H2 r => by
    obtain ⟨z, u, g1, g2, g3, k⟩ := h3 y H2 r
    exact g1 H2 (Ex.refl _) _ fun H3 e3 => g2 H3 e3 _ fun H4 e4 => g3 H4 (e3.trans e4) _ (fun H5 e5 => ⟨true, rfl, k H5 ((e3.trans e4).trans e5)⟩) E
/-- for x, y in zip(xs, ys) -/
theorem s_forZ {a b : Addr} {xs ys : List V} {tr : TA} {i j : Nat} (h : EvA tr σ H [.ref a, .ref b]) (hx : SqL K H a xs) (hy : SqL K H b ys) (hl : xs.length = ys.length) (Pv : Nat → L2.St → Hp → Prop) (h0 : ∀ H1, Ex H H1 → Pv 0 σ H1) (hq : ∀ i σ' H', i ≤ xs.length → Pv i σ' H' → SqL K H' a xs ∧ SqL K H' b ys)
    (hs : ∀ (t : Nat) x y σ' H' H2, xs[t]? = some x → ys[t]? = some y → Pv t σ' H' → Ex H' H2 → tu { D with nx := Pv (t + 1), ct := Pv (t + 1), bk := D.nx } ((σ'.set i (some x)).set j (some y)) H2) (hd : ∀ σ' H', Pv xs.length σ' H' → D.nx σ' H') :
    tFor (iZip K tr) (gTup K 2 (gCons (gName i) (gCons (gName j) gNil))) tu D σ H :=
  h H (Ex.refl H) _ fun H1 e => ⟨a, b, xs, ys, rfl, ex_l e hx, ex_l e hy, for_it (walk_zip (n := xs.length) (by omega)) Pv (h0 H1 e) hq (fun t x σ' H' H2 ht hp hy => by
    obtain ⟨T, u, v, rfl, hT, rfl, g1, g2⟩ := hy
    exact got_pair (SqT.of upd_same) _ (hs t u v σ' H' _ g1 g2 hp (Ex.new hT))) hd⟩
theorem q_forZ {a b : Addr} {xs ys : List V} {tr : TA} {i j : Nat} (h : EvA tr σ H [.ref a, .ref b]) (hx : SqL K H a xs) (hy : SqL K H b ys) (hl : xs.length = ys.length) (Pv : Nat → L2.St → Hp → Prop) (h0 : ∀ H1, Ex H H1 → Pv 0 σ H1) (hq : ∀ i σ' H', i ≤ xs.length → Pv i σ' H' → SqL K H' a xs ∧ SqL K H' b ys)
    (hs : ∀ (t : Nat) x y σ' H' H2, xs[t]? = some x → ys[t]? = some y → Pv t σ' H' → Ex H' H2 → tu { D with nx := Pv (t + 1), ct := Pv (t + 1), bk := tz D } ((σ'.set i (some x)).set j (some y)) H2) (hd : ∀ σ' H', Pv xs.length σ' H' → tz D σ' H') :
    tSeq (tFor (iZip K tr) (gTup K 2 (gCons (gName i) (gCons (gName j) gNil))) tu) tz D σ H := s_forZ (D := { D with nx := tz D }) h hx hy hl Pv h0 hq hs hd
/-- xs.clear() of a list that stands -/
theorem q_clearV {p : Addr} {xs : List V} (ho : Ev te σ H (.ref p)) (h : H p = some (.lst xs)) (k : ∀ H1, Ex H H1 → H1 p = some (.lst xs) → tz D σ (upd H1 p (.lst []))) : tSeq (tDrop (tBM0 K "list" rClear te)) tz D σ H :=
  ho H (Ex.refl H) _ fun H1 e1 => ⟨.inl ⟨rfl, _, SqL.of (e1 _ _ h)⟩, p, xs, rfl, rfl, e1 _ _ h, k H1 e1 (e1 _ _ h)⟩
theorem q_clearN {xs : List V} (h : EvL te σ H xs) (k : ∀ H1, Ex H H1 → tz D σ H1) : tSeq (tDrop (tBM0 K "list" rClear te)) tz D σ H := s_clearN (D := { D with nx := tz D }) h k
theorem el_cat2 {l : Addr} {xs zs : List V} (ha : Ev ta σ H (.ref l)) (h : H l = some (.lst xs)) (hb : EvL tb σ H zs) (hz : xs.length + zs.length ≤ 100000) : EvL (tOp rCat ta tb) σ H (xs ++ zs) := fun H1 e Q q =>
  ha H1 e _ fun H2 e2 => hb H2 (e.trans e2) _ fun b H3 hb0 e3 h3 => ⟨l, b, xs, zs, rfl, rfl, e3 _ _ (e2 _ _ (e _ _ h)), h3, sz_of hz, fun p hp => q p _ (fresh_back (e2.trans e3) hp) ((e2.trans e3).trans (Ex.new hp)) upd_same⟩
theorem el_listRg {a b : Int} (ha : Ev ta σ H (.int a)) (hb : Ev tb σ H (.int b)) (ok : RgOk a b) : EvL (tLstRg (tRg2 ta tb)) σ H (rgV a b) := fun H1 e Q q =>
  ha H1 e _ fun H2 e2 => hb H2 (e.trans e2) _ fun H3 e3 => ⟨a, b, rfl, rfl, ok, fun p hp => q p _ (fresh_back (e2.trans e3) hp) ((e2.trans e3).trans (Ex.new hp)) upd_same⟩
/-- held.append((x, list(..))) -/
theorem q_appPair {t1 t2 : TE} {p : Addr} {xs l1 : List V} {x : V} (ho : Ev ta σ H (.ref p)) (h : H p = some (.lst xs)) (hz : xs.length < 100000) (h1 : Ev t1 σ H x) (h2 : EvL t2 σ H l1)
    (k : ∀ a q H1, H a = none → H q = none → Ex H H1 → H1 a = some (.lst l1) → H1 q = some (.tup [x, .ref a]) → H1 p = some (.lst xs) → tz D σ (upd H1 p (.lst (xs ++ [.ref q])))) :
    tSeq (tDrop (tBM K "list" rAppend ta (tCons (tTup (tCons t1 (tCons t2 tNil))) tNil))) tz D σ H :=
  ho H (Ex.refl H) _ fun H1 e1 => ⟨.inl ⟨rfl, _, SqL.of (e1 _ _ h)⟩, h1 H1 e1 _ fun H2 e2 => h2 H2 (e1.trans e2) _ fun a H3 ha e3 ha3 => ⟨sz_of (by simp), fun q hq => by
    have E5 := (e1.trans e2).trans e3
    have E6 : Ex H3 (upd H3 q (.tup [x, .ref a])) := Ex.new hq
    exact ⟨p, xs, _, rfl, rfl, E6 _ _ (E5 _ _ h), sz_lt hz, k a q _ (fresh_back (e1.trans e2) ha) (fresh_back E5 hq) (E5.trans E6) (E6 _ _ ha3) upd_same (E6 _ _ (E5 _ _ h))⟩⟩⟩
theorem shaped_all {ds : List PyData} (h : ∀ d ∈ ds, d.canLay0 = true ∧ d.depth ≤ 10) : SeqAt.shaped (.list ds) = true := by
  have h1 : ∀ ds : List PyData, (∀ d ∈ ds, d.canLay0 = true ∧ d.depth ≤ 10) → PyData.canLayAll0 ds = true ∧ PyData.depthAll ds ≤ 10 := by
    intro ds
    induction ds with
    | nil => intro _; exact ⟨rfl, Nat.zero_le _⟩
    | cons d ds ih =>
      intro h
      obtain ⟨a, b⟩ := ih fun x hx => h x (List.mem_cons_of_mem _ hx)
      obtain ⟨c, e⟩ := h d List.mem_cons_self
      refine ⟨by rw [PyData.canLayAll0, c, a]; rfl, ?_⟩
      rw [PyData.depthAll]
      exact Nat.max_le.mpr ⟨e, b⟩
  obtain ⟨a, b⟩ := h1 ds h
  unfold SeqAt.shaped
  rw [Bool.and_eq_true]
  refine ⟨a, decide_eq_true ?_⟩
  rw [PyData.depth]
  omega
/-- sorted texts: two lists with the same items -/
theorem ev_sortEq {x y : List Str} (hx : EvL ta σ H (x.map V.str)) (hy : EvL tb σ H (y.map V.str)) (hp : x.Perm y) (gx : ∀ n ∈ x, PyData.strOk n = true) : Ev (tOp (rEqD K) (tCB (rSortD K) (tCons ta tNil)) (tCB (rSortD K) (tCons tb tNil))) σ H (.bl true) := by
  have key : ∀ {te : TE} {z : List Str}, EvL te σ H (z.map V.str) → EvLP (tCB (rSortD K) (tCons te tNil)) σ H (fun ys H' => DpAll K H' ys ((z.map PyData.str).mergeSort (PySem.W.dataLe false id))) := fun {te z} h =>
    elp_sortD (ds := z.map PyData.str) (EvLP.of h) (fun ys H' e => by
      rw [e]
      clear h e
      induction z with
      | nil => exact .nil
      | cons n r ih => exact .cons (.str n) ih) (by
      intro d hd e he
      obtain ⟨n, _, rfl⟩ := List.mem_map.mp hd
      obtain ⟨m, _, rfl⟩ := List.mem_map.mp he
      simp only [PySem.W.alike]) (PySem.W.Sortable.others fun b => ⟨(fun h => nomatch h), fun xs h => nomatch h⟩) (by
      intro d hd
      obtain ⟨n, _, rfl⟩ := List.mem_map.mp hd
      simp [PyData.depth])
  have e : (x.map PyData.str).mergeSort (PySem.W.dataLe false id) = (y.map PyData.str).mergeSort (PySem.W.dataLe false id) := by
    refine sort_perm_eq (hp.map _) fun a ha b hb h => ?_
    obtain ⟨n, _, rfl⟩ := List.mem_map.mp ha
    obtain ⟨m, _, rfl⟩ := List.mem_map.mp hb
    simp only [PySem.W.keyToks, List.cons.injEq, Sum.inr.injEq, true_and, and_true] at h
    congr 1
    cases n
    cases m
    congr 1
    exact Array.toList_inj.mp h
  have hx2 := key hx
  have hy2 := key hy
  rw [← e] at hy2
  refine ev_eqD (d := .list ((x.map PyData.str).mergeSort (PySem.W.dataLe false id))) (fun H1 e Q q => hx2 H1 e Q fun p ys H2 _ e2 h2 hD => q _ H2 e2 (.lst (sq_of h2) hD)) (fun H1 e Q q => hy2 H1 e Q fun p ys H2 _ e2 h2 hD => q _ H2 e2 (.lst (sq_of h2) hD)) ?_
  refine shaped_all fun d hd => ?_
  obtain ⟨n, hn, rfl⟩ := List.mem_map.mp ((List.mergeSort_perm _ _).mem_iff.mp hd)
  exact ⟨gx n hn, Nat.zero_le _⟩
end
end Own

namespace Own
open PySem L2 PyProof.Rows Evl
/-! ### own error classes: what the top has written of them -/
abbrev veT : List Value := [.type "ValueError", .type "Exception", .type "BaseException", .type "object"]
section
variable {K : PySem.W.Frag} {C D : Addr} {b : Bool}
theorem kit_sub (hs : PySem.W.subIn K (.ref C) (.ref C) = some true) (hd : PySem.W.hasDictIn K D = true) (ht : PySem.W.typeIn K (.ref D) = some (.type "type")) (h4 : PySem.W.subIn K (.ref C) (.ref D) = some b) : PySem.W.kitOne K (.ref C) (.ref D) = some b := by
  obtain ⟨cd, hc, _⟩ := PySem.W.any_some hd
  have e2 : ((PySem.W.clsIn K D).isSome && PySem.W.typeIn K (.ref D) == some (.type "type")) = true := by rw [hc, ht] <;> rfl
  unfold PySem.W.kitOne
  by_cases e : C = D
  · subst e
    rw [if_pos (by simp)]
    exact hs.symm.trans h4
  · rw [if_neg (by simpa using e)]
    show (if _ = true then PySem.W.subIn K (.ref C) (.ref D) else none) = some b
    rw [if_pos e2]
    exact h4
theorem kit_val (h4 : PySem.W.subIn K (.ref C) (.type "ValueError") = some b) : PySem.W.kitOne K (.ref C) (.type "ValueError") = some b := by
  unfold PySem.W.kitOne
  rw [if_neg (by simp)]
  show (if PySem.W.kitMeta "ValueError" = true then PySem.W.subIn K (.ref C) (.type "ValueError") else none) = some b
  rw [if_pos (by decide +kernel)]
  exact h4
/-- a class that may be raised: X('m') -/
structure ExD (K : PySem.W.Frag) (C : Addr) : Prop where
  x : PySem.W.excIn K C veT "ValueError.__new__" = true
  k : PySem.W.keepIn K (.ref C) = true
  b : PySem.W.subIn K (.ref C) (.type "BaseException") = some true
  t : PySem.W.typeIn K (.ref C) = some (.type "type")
  c : ExcC K C
end
/-- the name does not leave by a value: it raises -/
def XRet (C : Addr) (H : Hp) (E : XK) : Prop := ∀ H', Ex H H' → E (.ref C) none H'
end Own

namespace Own
open PySem L2 PyProof.Rows Evl
/-! ### text times 41; lists of values of which P holds -/
def repS (a : Str) (n : Nat) : Str := ⟨(List.replicate n a.cps).foldl (· ++ ·) #[]⟩
theorem rep_size (a : Array Nat) : ∀ (n : Nat) (b : Array Nat), ((List.replicate n a).foldl (· ++ ·) b).size = b.size + n * a.size
  | 0, b => by simp
  | n + 1, b => by
    rw [List.replicate_succ, List.foldl_cons, rep_size a n (b ++ a), Array.size_append, Nat.succ_mul]
    omega
theorem repS_len (a : Str) (n : Nat) : (repS a n).length = n * a.length := by
  show ((List.replicate n a.cps).foldl (· ++ ·) #[]).size = n * a.cps.size
  rw [rep_size]
  show 0 + _ = _
  omega
def rRepS : R2 := fun x y H Q => ∃ a, x = .str a ∧ y = .int 41 ∧ 1 ≤ a.length ∧ a.length ≤ 40 ∧ Q (.str (repS a 41)) H
theorem op_repS {X : Cx} : OpR X (binaryOp .Mult) rRepS := by
  intro pins s σ H x y v u Q I rx ry h
  obtain ⟨a, rfl, rfl, h1, h2, q⟩ := h
  obtain ⟨t, rfl⟩ := rx
  obtain ⟨t', rfl⟩ := ry
  have hlen : (repS a 41).length = 41 * a.length := repS_len a 41
  refine PySem.P.mul_str (by decide) (fun _ _ => by omega) (fun _ _ => ?_) ?_
  · have : a.length * (41 : Int).toNat ≤ sizeLine := by rw [sizeLine_eq]; show a.length * 41 ≤ _; omega
    unfold PySem.Builtin.Str.tooLong
    exact decide_eq_false (by omega)
  · rw [if_neg (by decide), if_neg (by
      rw [Bool.or_eq_true]
      rintro (h | h)
      · exact absurd h (by decide)
      · rw [beq_iff_eq] at h
        omega)]
    refine ⟨?_, ⟨.str (repS a 41), H, I.tok _, ⟨_, rfl⟩, q⟩⟩
    show (repS a 41).length ≤ sizeLine
    rw [hlen, sizeLine_eq]
    omega
section
variable {K : PySem.W.Frag} {σ : L2.St} {H : Hp} {te ta tb : TE} {tr : TA} {P : V → Hp → Prop} {n m : Nat}
def EvAP (tr : TA) (σ : L2.St) (H : Hp) (P : V → Hp → Prop) (n : Nat) : Prop := ∀ H1, Ex H H1 → ∀ Q : List V → Hp → Prop, (∀ vs H2, Ex H1 H2 → vs.length = n → (∀ v ∈ vs, P v H2) → Q vs H2) → tr σ H1 Q
def Mono (P : V → Hp → Prop) : Prop := ∀ v H1 H2, Ex H1 H2 → P v H1 → P v H2
theorem eap_nil : EvAP tNil σ H P 0 := fun H1 e Q q => q [] H1 (Ex.refl _) rfl (fun v h => nomatch h)
theorem eap_cons (mo : Mono P) (h : EvP te σ H P) (ht : EvAP tr σ H P n) : EvAP (tCons te tr) σ H P (n + 1) := fun H1 e Q q => h H1 e _ fun v H2 e2 hv => ht H2 (e.trans e2) _ fun vs H3 e3 hl hvs => q (v :: vs) H3 (e2.trans e3) (by rw [List.length_cons, hl]) (fun u hu => by
  rcases List.mem_cons.mp hu with rfl | hu
  · exact mo _ _ _ e3 hv
  · exact hvs u hu)
theorem ep_v {v : V} (h : Ev te σ H v) (hp : ∀ H2, Ex H H2 → P v H2) : EvP te σ H P := fun H1 e Q q => h H1 e _ fun H2 e2 => q v H2 e2 (hp H2 (e.trans e2))
theorem ep_L {xs : List V} (h : EvL te σ H xs) (hp : ∀ p H2, H2 p = some (.lst xs) → P (.ref p) H2) : EvP te σ H P := fun H1 e Q q => h H1 e _ fun p H2 _ e2 h2 => q _ H2 e2 (hp p H2 h2)
theorem ep_U {xs : List V} (h : EvU te σ H xs) (hp : ∀ p H2, H2 p = some (.tup xs) → P (.ref p) H2) : EvP te σ H P := fun H1 e Q q => h H1 e _ fun p H2 _ e2 h2 => q _ H2 e2 (hp p H2 h2)
theorem ep_D (hp : ∀ p H2, H2 p = some (.dK []) → P (.ref p) H2) : EvP tDNewK σ H P := fun H1 e Q q p hp0 => q _ _ (Ex.new hp0) (hp p _ upd_same)
theorem elp_lit (mo : Mono P) (h : EvAP tr σ H P n) (hn : n ≤ 1000) : EvLP (tLst tr) σ H (fun xs H2 => xs.length = n ∧ ∀ v ∈ xs, P v H2) := fun H1 e Q q => h H1 e _ fun vs H2 e2 hl hv => ⟨sz_of (by omega), fun p hp => q p vs _ (fresh_back e2 hp) (e2.trans (Ex.new hp)) upd_same ⟨hl, fun v hv2 => mo _ _ _ (Ex.new hp) (hv v hv2)⟩⟩
theorem elp_cat (mo : Mono P) {l : Addr} {xs : List V} (ha : Ev ta σ H (.ref l)) (hl : H l = some (.lst xs)) (hx : ∀ v ∈ xs, P v H) (hb : EvLP tb σ H (fun ys H2 => ys.length = m ∧ ∀ v ∈ ys, P v H2)) (hz : xs.length + m ≤ 1000) :
    EvLP (tOp rCat ta tb) σ H (fun ys H2 => ys.length = xs.length + m ∧ ∀ v ∈ ys, P v H2) := fun H1 e Q q => ha H1 e _ fun H2 e2 => hb H2 (e.trans e2) _ fun b ys H3 hb0 e3 h3 hP => ⟨l, b, xs, ys, rfl, rfl, e3 _ _ (e2 _ _ (e _ _ hl)), h3, sz_of (by omega), fun p hp => q p _ _ (fresh_back (e2.trans e3) hp) ((e2.trans e3).trans (Ex.new hp)) upd_same ⟨by rw [List.length_append, hP.1], fun v hv => by
    rcases List.mem_append.mp hv with hv | hv
    · exact mo _ _ _ (((e.trans e2).trans e3).trans (Ex.new hp)) (hx v hv)
    · exact mo _ _ _ (Ex.new hp) (hP.2 v hv)⟩⟩
/-- one of them, by its place -/
theorem ep_ix (mo : Mono P) {l : Addr} {xs : List V} {i : Int} (ha : Ev ta σ H (.ref l)) (hl : H l = some (.lst xs)) (hx : ∀ v ∈ xs, P v H) (hb : Ev tb σ H (.int i)) (h0 : 0 ≤ i) (h1 : i < xs.length) : EvP (tOp (rIxL K) ta tb) σ H P := by
  obtain ⟨v, hv⟩ : ∃ v, xs[i.toNat]? = some v := ⟨xs[i.toNat]'(by omega), List.getElem?_eq_getElem (by omega)⟩
  have hm : v ∈ xs := List.mem_of_getElem? hv
  exact ep_v (ev_op ha hb (rv_ixL (sq_of hl) (by rw [show i = ((i.toNat : Nat) : Int) by omega]; exact atI_nat hv))) fun H2 e => mo _ _ _ e (hx v hm)
end
end Own

namespace Own
open PySem L2 PyProof.Rows Evl OwnS
def topS (i : Nat) : Stmt := PySem.Challenge.pw_leastasked_k04_refused.main.body.getD i (.Pass ⟨0, 0, 0, 0⟩)
abbrev s_within : Stmt := topS 10
abbrev N_within : List Str := ["thing", "least", "most"]
abbrev P_within : List Str := ["thing", "least", "most"]
theorem sc_within : FnScope N_within P_within (defScope s_within) := ⟨rfl, rfl, rfl, by decide +kernel, rfl, by decide +kernel, by decide +kernel⟩

abbrev s_want_number : Stmt := topS 11
abbrev N_want_number : List Str := ["thing", "least", "most"]
abbrev P_want_number : List Str := ["thing", "least", "most"]
theorem sc_want_number : FnScope N_want_number P_want_number (defScope s_want_number) := ⟨rfl, rfl, rfl, by decide +kernel, rfl, by decide +kernel, by decide +kernel⟩

abbrev s_want_name : Stmt := topS 12
abbrev N_want_name : List Str := ["thing", "sign"]
abbrev P_want_name : List Str := ["thing"]
theorem sc_want_name : FnScope N_want_name P_want_name (defScope s_want_name) := ⟨rfl, rfl, rfl, by decide +kernel, rfl, by decide +kernel, by decide +kernel⟩

abbrev s_want_rule : Stmt := topS 13
abbrev N_want_rule : List Str := ["span", "part"]
abbrev P_want_rule : List Str := ["span", "part"]
theorem sc_want_rule : FnScope N_want_rule P_want_rule (defScope s_want_rule) := ⟨rfl, rfl, rfl, by decide +kernel, rfl, by decide +kernel, by decide +kernel⟩

abbrev s_ageings : Stmt := topS 14
abbrev N_ageings : List Str := ["span", "since", "upto"]
abbrev P_ageings : List Str := ["span", "since", "upto"]
theorem sc_ageings : FnScope N_ageings P_ageings (defScope s_ageings) := ⟨rfl, rfl, rfl, by decide +kernel, rfl, by decide +kernel, by decide +kernel⟩

abbrev s_aged : Stmt := topS 15
abbrev N_aged : List Str := ["count", "part", "times"]
abbrev P_aged : List Str := ["count", "part", "times"]
theorem sc_aged : FnScope N_aged P_aged (defScope s_aged) := ⟨rfl, rfl, rfl, by decide +kernel, rfl, by decide +kernel, by decide +kernel⟩

abbrev s_Book_init : Stmt := inClass (topS 17) 0
abbrev N_Book_init : List Str := ["self", "span", "part"]
abbrev P_Book_init : List Str := ["self", "span", "part"]
theorem sc_Book_init : FnScope N_Book_init P_Book_init (defScope s_Book_init) := ⟨rfl, rfl, rfl, by decide +kernel, rfl, by decide +kernel, by decide +kernel⟩

abbrev s_Book_ask : Stmt := inClass (topS 17) 1
abbrev N_Book_ask : List Str := ["self", "name", "weight", "answer"]
abbrev P_Book_ask : List Str := ["self", "name", "weight"]
theorem sc_Book_ask : FnScope N_Book_ask P_Book_ask (defScope s_Book_ask) := ⟨rfl, rfl, rfl, by decide +kernel, rfl, by decide +kernel, by decide +kernel⟩

abbrev s_Book_rest : Stmt := inClass (topS 17) 2
abbrev N_Book_rest : List Str := ["self", "steps"]
abbrev P_Book_rest : List Str := ["self", "steps"]
theorem sc_Book_rest : FnScope N_Book_rest P_Book_rest (defScope s_Book_rest) := ⟨rfl, rfl, rfl, by decide +kernel, rfl, by decide +kernel, by decide +kernel⟩

abbrev s_Book_drop : Stmt := inClass (topS 17) 3
abbrev N_Book_drop : List Str := ["self", "name"]
abbrev P_Book_drop : List Str := ["self", "name"]
theorem sc_Book_drop : FnScope N_Book_drop P_Book_drop (defScope s_Book_drop) := ⟨rfl, rfl, rfl, by decide +kernel, rfl, by decide +kernel, by decide +kernel⟩

abbrev s_Book_spend : Stmt := inClass (topS 17) 4
abbrev N_Book_spend : List Str := ["self", "steps", "times", "name"]
abbrev P_Book_spend : List Str := ["self", "steps"]
theorem sc_Book_spend : FnScope N_Book_spend P_Book_spend (defScope s_Book_spend) := ⟨rfl, rfl, rfl, by decide +kernel, rfl, by decide +kernel, by decide +kernel⟩

abbrev s_Book_asked_at : Stmt := inClass (topS 17) 5
abbrev N_Book_asked_at : List Str := ["self", "name"]
abbrev P_Book_asked_at : List Str := ["self", "name"]
theorem sc_Book_asked_at : FnScope N_Book_asked_at P_Book_asked_at (defScope s_Book_asked_at) := ⟨rfl, rfl, rfl, by decide +kernel, rfl, by decide +kernel, by decide +kernel⟩

abbrev s_Book_came : Stmt := inClass (topS 17) 6
abbrev N_Book_came : List Str := ["self", "name"]
abbrev P_Book_came : List Str := ["self", "name"]
theorem sc_Book_came : FnScope N_Book_came P_Book_came (defScope s_Book_came) := ⟨rfl, rfl, rfl, by decide +kernel, rfl, by decide +kernel, by decide +kernel⟩

abbrev s_Book_gone : Stmt := inClass (topS 17) 7
abbrev N_Book_gone : List Str := ["self", "name", "reason"]
abbrev P_Book_gone : List Str := ["self", "name", "reason"]
theorem sc_Book_gone : FnScope N_Book_gone P_Book_gone (defScope s_Book_gone) := ⟨rfl, rfl, rfl, by decide +kernel, rfl, by decide +kernel, by decide +kernel⟩

abbrev s_Book_inside : Stmt := inClass (topS 17) 8
abbrev N_Book_inside : List Str := ["self"]
abbrev P_Book_inside : List Str := ["self"]
theorem sc_Book_inside : FnScope N_Book_inside P_Book_inside (defScope s_Book_inside) := ⟨rfl, rfl, rfl, by decide +kernel, rfl, by decide +kernel, by decide +kernel⟩

abbrev s_Book_rank : Stmt := inClass (topS 17) 9
abbrev N_Book_rank : List Str := ["self", "name"]
abbrev P_Book_rank : List Str := ["self", "name"]
theorem sc_Book_rank : FnScope N_Book_rank P_Book_rank (defScope s_Book_rank) := ⟨rfl, rfl, rfl, by decide +kernel, rfl, by decide +kernel, by decide +kernel⟩

abbrev s_Book_names : Stmt := inClass (topS 17) 10
abbrev N_Book_names : List Str := ["self"]
abbrev P_Book_names : List Str := ["self"]
theorem sc_Book_names : FnScope N_Book_names P_Book_names (defScope s_Book_names) := ⟨rfl, rfl, rfl, by decide +kernel, rfl, by decide +kernel, by decide +kernel⟩

abbrev s_Book_time_now : Stmt := inClass (topS 17) 11
abbrev N_Book_time_now : List Str := ["self"]
abbrev P_Book_time_now : List Str := ["self"]
theorem sc_Book_time_now : FnScope N_Book_time_now P_Book_time_now (defScope s_Book_time_now) := ⟨rfl, rfl, rfl, by decide +kernel, rfl, by decide +kernel, by decide +kernel⟩

abbrev s_Book_deeds_done : Stmt := inClass (topS 17) 12
abbrev N_Book_deeds_done : List Str := ["self"]
abbrev P_Book_deeds_done : List Str := ["self"]
theorem sc_Book_deeds_done : FnScope N_Book_deeds_done P_Book_deeds_done (defScope s_Book_deeds_done) := ⟨rfl, rfl, rfl, by decide +kernel, rfl, by decide +kernel, by decide +kernel⟩

abbrev s_Book_count_of : Stmt := inClass (topS 17) 13
abbrev N_Book_count_of : List Str := ["self", "name"]
abbrev P_Book_count_of : List Str := ["self", "name"]
theorem sc_Book_count_of : FnScope N_Book_count_of P_Book_count_of (defScope s_Book_count_of) := ⟨rfl, rfl, rfl, by decide +kernel, rfl, by decide +kernel, by decide +kernel⟩

abbrev s_Book_last_of : Stmt := inClass (topS 17) 14
abbrev N_Book_last_of : List Str := ["self", "name"]
abbrev P_Book_last_of : List Str := ["self", "name"]
theorem sc_Book_last_of : FnScope N_Book_last_of P_Book_last_of (defScope s_Book_last_of) := ⟨rfl, rfl, rfl, by decide +kernel, rfl, by decide +kernel, by decide +kernel⟩

abbrev s_Row_init : Stmt := inClass (topS 19) 0
abbrev N_Row_init : List Str := ["self", "span", "part"]
abbrev P_Row_init : List Str := ["self", "span", "part"]
theorem sc_Row_init : FnScope N_Row_init P_Row_init (defScope s_Row_init) := ⟨rfl, rfl, rfl, by decide +kernel, rfl, by decide +kernel, by decide +kernel⟩

abbrev s_Row_came : Stmt := inClass (topS 19) 1
abbrev N_Row_came : List Str := ["self", "name", "depth"]
abbrev P_Row_came : List Str := ["self", "name"]
theorem sc_Row_came : FnScope N_Row_came P_Row_came (defScope s_Row_came) := ⟨rfl, rfl, rfl, by decide +kernel, rfl, by decide +kernel, by decide +kernel⟩

abbrev s_Row_carry : Stmt := inClass (topS 19) 2
abbrev N_Row_carry : List Str := ["self", "name", "at", "there"]
abbrev P_Row_carry : List Str := ["self", "name"]
theorem sc_Row_carry : FnScope N_Row_carry P_Row_carry (defScope s_Row_carry) := ⟨rfl, rfl, rfl, by decide +kernel, rfl, by decide +kernel, by decide +kernel⟩

abbrev s_Row_trim : Stmt := inClass (topS 19) 3
abbrev N_Row_trim : List Str := ["self"]
abbrev P_Row_trim : List Str := ["self"]
theorem sc_Row_trim : FnScope N_Row_trim P_Row_trim (defScope s_Row_trim) := ⟨rfl, rfl, rfl, by decide +kernel, rfl, by decide +kernel, by decide +kernel⟩

abbrev s_Row_gone : Stmt := inClass (topS 19) 4
abbrev N_Row_gone : List Str := ["self", "name", "reason"]
abbrev P_Row_gone : List Str := ["self", "name", "reason"]
theorem sc_Row_gone : FnScope N_Row_gone P_Row_gone (defScope s_Row_gone) := ⟨rfl, rfl, rfl, by decide +kernel, rfl, by decide +kernel, by decide +kernel⟩

abbrev s_Row_inside : Stmt := inClass (topS 19) 5
abbrev N_Row_inside : List Str := ["self", "name"]
abbrev P_Row_inside : List Str := ["self"]
theorem sc_Row_inside : FnScope N_Row_inside P_Row_inside (defScope s_Row_inside) := ⟨rfl, rfl, rfl, by decide +kernel, rfl, by decide +kernel, by decide +kernel⟩

abbrev s_Row_spots : Stmt := inClass (topS 19) 6
abbrev N_Row_spots : List Str := ["self"]
abbrev P_Row_spots : List Str := ["self"]
theorem sc_Row_spots : FnScope N_Row_spots P_Row_spots (defScope s_Row_spots) := ⟨rfl, rfl, rfl, by decide +kernel, rfl, by decide +kernel, by decide +kernel⟩

abbrev s_Row_names_at : Stmt := inClass (topS 19) 7
abbrev N_Row_names_at : List Str := ["self", "places", "name"]
abbrev P_Row_names_at : List Str := ["self", "places"]
theorem sc_Row_names_at : FnScope N_Row_names_at P_Row_names_at (defScope s_Row_names_at) := ⟨rfl, rfl, rfl, by decide +kernel, rfl, by decide +kernel, by decide +kernel⟩

abbrev s_Row_met_by : Stmt := inClass (topS 19) 8
abbrev N_Row_met_by : List Str := ["self", "places", "depth"]
abbrev P_Row_met_by : List Str := ["self", "places"]
theorem sc_Row_met_by : FnScope N_Row_met_by P_Row_met_by (defScope s_Row_met_by) := ⟨rfl, rfl, rfl, by decide +kernel, rfl, by decide +kernel, by decide +kernel⟩

abbrev s_Row_enough : Stmt := inClass (topS 19) 9
abbrev N_Row_enough : List Str := ["self", "many", "depth", "known"]
abbrev P_Row_enough : List Str := ["self", "many"]
theorem sc_Row_enough : FnScope N_Row_enough P_Row_enough (defScope s_Row_enough) := ⟨rfl, rfl, rfl, by decide +kernel, rfl, by decide +kernel, by decide +kernel⟩

abbrev s_Shelf_init : Stmt := inClass (topS 21) 0
abbrev N_Shelf_init : List Str := ["self", "places", "span", "part"]
abbrev P_Shelf_init : List Str := ["self", "places", "span", "part"]
theorem sc_Shelf_init : FnScope N_Shelf_init P_Shelf_init (defScope s_Shelf_init) := ⟨rfl, rfl, rfl, by decide +kernel, rfl, by decide +kernel, by decide +kernel⟩

abbrev s_Shelf_came : Stmt := inClass (topS 21) 1
abbrev N_Shelf_came : List Str := ["self", "name", "weakest"]
abbrev P_Shelf_came : List Str := ["self", "name"]
theorem sc_Shelf_came : FnScope N_Shelf_came P_Shelf_came (defScope s_Shelf_came) := ⟨rfl, rfl, rfl, by decide +kernel, rfl, by decide +kernel, by decide +kernel⟩

abbrev s_Shelf_gone : Stmt := inClass (topS 21) 2
abbrev N_Shelf_gone : List Str := ["self", "name", "reason"]
abbrev P_Shelf_gone : List Str := ["self", "name", "reason"]
theorem sc_Shelf_gone : FnScope N_Shelf_gone P_Shelf_gone (defScope s_Shelf_gone) := ⟨rfl, rfl, rfl, by decide +kernel, rfl, by decide +kernel, by decide +kernel⟩

abbrev s_Shelf_inside : Stmt := inClass (topS 21) 3
abbrev N_Shelf_inside : List Str := ["self"]
abbrev P_Shelf_inside : List Str := ["self"]
theorem sc_Shelf_inside : FnScope N_Shelf_inside P_Shelf_inside (defScope s_Shelf_inside) := ⟨rfl, rfl, rfl, by decide +kernel, rfl, by decide +kernel, by decide +kernel⟩

abbrev s_Shelf_has : Stmt := inClass (topS 21) 4
abbrev N_Shelf_has : List Str := ["self", "name"]
abbrev P_Shelf_has : List Str := ["self", "name"]
theorem sc_Shelf_has : FnScope N_Shelf_has P_Shelf_has (defScope s_Shelf_has) := ⟨rfl, rfl, rfl, by decide +kernel, rfl, by decide +kernel, by decide +kernel⟩

abbrev s_Shelf_goings : Stmt := inClass (topS 21) 5
abbrev N_Shelf_goings : List Str := ["self"]
abbrev P_Shelf_goings : List Str := ["self"]
theorem sc_Shelf_goings : FnScope N_Shelf_goings P_Shelf_goings (defScope s_Shelf_goings) := ⟨rfl, rfl, rfl, by decide +kernel, rfl, by decide +kernel, by decide +kernel⟩

abbrev s_l_cell_at : Stmt := topS 23
abbrev N_l_cell_at : List Str := ["_law_script", "_law_k"]
abbrev P_l_cell_at : List Str := ["_law_script", "_law_k"]
theorem sc_l_cell_at : FnScope N_l_cell_at P_l_cell_at (defScope s_l_cell_at) := ⟨rfl, rfl, rfl, by decide +kernel, rfl, by decide +kernel, by decide +kernel⟩

abbrev s_l_sign : Stmt := topS 24
abbrev N_l_sign : List Str := ["_law_number", "_law_some"]
abbrev P_l_sign : List Str := ["_law_number"]
theorem sc_l_sign : FnScope N_l_sign P_l_sign (defScope s_l_sign) := ⟨rfl, rfl, rfl, by decide +kernel, rfl, by decide +kernel, by decide +kernel⟩

abbrev s_l_names : Stmt := topS 25
abbrev N_l_names : List Str := ["_law_cell", "_law_many", "_law_size", "_law_j", "_law_base", "_law_k", "_law_at", "_law_step"]
abbrev P_l_names : List Str := ["_law_cell", "_law_many"]
theorem sc_l_names : FnScope N_l_names P_l_names (defScope s_l_names) := ⟨rfl, rfl, rfl, by decide +kernel, rfl, by decide +kernel, by decide +kernel⟩

abbrev s_l_span : Stmt := topS 26
abbrev N_l_span : List Str := ["_law_cell"]
abbrev P_l_span : List Str := ["_law_cell"]
theorem sc_l_span : FnScope N_l_span P_l_span (defScope s_l_span) := ⟨rfl, rfl, rfl, by decide +kernel, rfl, by decide +kernel, by decide +kernel⟩

abbrev s_l_part : Stmt := topS 27
abbrev N_l_part : List Str := ["_law_cell"]
abbrev P_l_part : List Str := ["_law_cell"]
theorem sc_l_part : FnScope N_l_part P_l_part (defScope s_l_part) := ⟨rfl, rfl, rfl, by decide +kernel, rfl, by decide +kernel, by decide +kernel⟩

abbrev s_l_deed : Stmt := topS 28
abbrev N_l_deed : List Str := ["_law_cell", "_law_k", "_law_names_here", "_law_span_here", "_law_light", "_law_mixed", "_law_name"]
abbrev P_l_deed : List Str := ["_law_cell", "_law_k", "_law_names_here", "_law_span_here", "_law_light"]
theorem sc_l_deed : FnScope N_l_deed P_l_deed (defScope s_l_deed) := ⟨rfl, rfl, rfl, by decide +kernel, rfl, by decide +kernel, by decide +kernel⟩

abbrev s_l_do : Stmt := topS 29
abbrev N_l_do : List Str := ["_law_thing", "_law_deed_here"]
abbrev P_l_do : List Str := ["_law_thing", "_law_deed_here"]
theorem sc_l_do : FnScope N_l_do P_l_do (defScope s_l_do) := ⟨rfl, rfl, rfl, by decide +kernel, rfl, by decide +kernel, by decide +kernel⟩

abbrev s_l_bad_name : Stmt := topS 30
abbrev N_l_bad_name : List Str := ["_law_cell", "_law_good", "_law_some"]
abbrev P_l_bad_name : List Str := ["_law_cell", "_law_good"]
theorem sc_l_bad_name : FnScope N_l_bad_name P_l_bad_name (defScope s_l_bad_name) := ⟨rfl, rfl, rfl, by decide +kernel, rfl, by decide +kernel, by decide +kernel⟩

abbrev s_l_bad_number : Stmt := topS 31
abbrev N_l_bad_number : List Str := ["_law_cell", "_law_least", "_law_most", "_law_far", "_law_some"]
abbrev P_l_bad_number : List Str := ["_law_cell", "_law_least", "_law_most"]
theorem sc_l_bad_number : FnScope N_l_bad_number P_l_bad_number (defScope s_l_bad_number) := ⟨rfl, rfl, rfl, by decide +kernel, rfl, by decide +kernel, by decide +kernel⟩

abbrev s_l_thing_call : Stmt := topS 32
abbrev N_l_thing_call : List Str := ["_law_which", "_law_thing", "_law_name", "_law_cell", "_law_bad"]
abbrev P_l_thing_call : List Str := ["_law_which", "_law_thing", "_law_name", "_law_cell"]
theorem sc_l_thing_call : FnScope N_l_thing_call P_l_thing_call (defScope s_l_thing_call) := ⟨rfl, rfl, rfl, by decide +kernel, rfl, by decide +kernel, by decide +kernel⟩

abbrev s_l_own_call : Stmt := topS 33
abbrev N_l_own_call : List Str := ["_law_which", "_law_shelf", "_law_row", "_law_name", "_law_cell"]
abbrev P_l_own_call : List Str := ["_law_which", "_law_shelf", "_law_row", "_law_name", "_law_cell"]
theorem sc_l_own_call : FnScope N_l_own_call P_l_own_call (defScope s_l_own_call) := ⟨rfl, rfl, rfl, by decide +kernel, rfl, by decide +kernel, by decide +kernel⟩

abbrev s_l_new_call : Stmt := topS 34
abbrev N_l_new_call : List Str := ["_law_which", "_law_cell", "_law_bad", "_law_also"]
abbrev P_l_new_call : List Str := ["_law_which", "_law_cell"]
theorem sc_l_new_call : FnScope N_l_new_call P_l_new_call (defScope s_l_new_call) := ⟨rfl, rfl, rfl, by decide +kernel, rfl, by decide +kernel, by decide +kernel⟩

abbrev s_l_due : Stmt := topS 35
abbrev N_l_due : List Str := ["_law_which"]
abbrev P_l_due : List Str := ["_law_which"]
theorem sc_l_due : FnScope N_l_due P_l_due (defScope s_l_due) := ⟨rfl, rfl, rfl, by decide +kernel, rfl, by decide +kernel, by decide +kernel⟩

abbrev s_l_call : Stmt := topS 36
abbrev N_l_call : List Str := ["_law_which", "_law_things", "_law_name", "_law_cell"]
abbrev P_l_call : List Str := ["_law_which", "_law_things", "_law_name", "_law_cell"]
theorem sc_l_call : FnScope N_l_call P_l_call (defScope s_l_call) := ⟨rfl, rfl, rfl, by decide +kernel, rfl, by decide +kernel, by decide +kernel⟩

abbrev s_l_by_base : Stmt := topS 37
abbrev N_l_by_base : List Str := ["_law_which", "_law_things", "_law_name", "_law_cell", "_law_told", "e", "_law_due_here"]
abbrev P_l_by_base : List Str := ["_law_which", "_law_things", "_law_name", "_law_cell"]
theorem sc_l_by_base : FnScope N_l_by_base P_l_by_base (defScope s_l_by_base) := ⟨rfl, rfl, rfl, by decide +kernel, rfl, by decide +kernel, by decide +kernel⟩

abbrev s_l_by_name : Stmt := topS 38
abbrev N_l_by_name : List Str := ["_law_which", "_law_things", "_law_name", "_law_cell", "_law_told"]
abbrev P_l_by_name : List Str := ["_law_which", "_law_things", "_law_name", "_law_cell"]
theorem sc_l_by_name : FnScope N_l_by_name P_l_by_name (defScope s_l_by_name) := ⟨rfl, rfl, rfl, by decide +kernel, rfl, by decide +kernel, by decide +kernel⟩

abbrev s_l_same : Stmt := topS 39
abbrev N_l_same : List Str := ["_law_found", "_law_due_here"]
abbrev P_l_same : List Str := ["_law_found", "_law_due_here"]
theorem sc_l_same : FnScope N_l_same P_l_same (defScope s_l_same) := ⟨rfl, rfl, rfl, by decide +kernel, rfl, by decide +kernel, by decide +kernel⟩

abbrev s_l_twins : Stmt := topS 40
abbrev N_l_twins : List Str := ["_law_thing", "_law_twin", "_law_names_here", "_law_name"]
abbrev P_l_twins : List Str := ["_law_thing", "_law_twin", "_law_names_here"]
theorem sc_l_twins : FnScope N_l_twins P_l_twins (defScope s_l_twins) := ⟨rfl, rfl, rfl, by decide +kernel, rfl, by decide +kernel, by decide +kernel⟩

abbrev s_law : Stmt := topS 41
abbrev N_law : List Str := ["_law_script", "_law_names_here", "_law_span_here", "_law_part_here", "_law_light", "_law_places", "_law_things", "_law_twins_here", "_law_k", "_law_cell", "_law_which", "_law_name", "_law_deed_here", "_law_thing", "_law_twin"]
abbrev P_law : List Str := ["_law_script"]
theorem sc_law : FnScope N_law P_law (defScope s_law) := ⟨rfl, rfl, rfl, by decide +kernel, rfl, by decide +kernel, by decide +kernel⟩

def spLaw (K : PySem.W.Frag) : Sp := fun vs H Q _ => ∃ (a : Addr) (ns : List Int), vs = [.ref a] ∧ SqL K H a (ns.map V.int) ∧ ns.length ≤ 63 ∧ ∀ H', Q (.bl true) H'
structure Tx (K : PySem.W.Frag) (mg : Str → Option Value) where
  f_within : Addr
  fd_within : FuncData
  F_within : Fun K "within" "within" s_within f_within fd_within
  b_within : Binds K fd_within P_within []
  mg_within : mg "within" = some (.ref f_within)
  f_want_number : Addr
  fd_want_number : FuncData
  F_want_number : Fun K "want_number" "want_number" s_want_number f_want_number fd_want_number
  b_want_number : Binds K fd_want_number P_want_number []
  mg_want_number : mg "want_number" = some (.ref f_want_number)
  f_want_name : Addr
  fd_want_name : FuncData
  F_want_name : Fun K "want_name" "want_name" s_want_name f_want_name fd_want_name
  b_want_name : Binds K fd_want_name P_want_name []
  mg_want_name : mg "want_name" = some (.ref f_want_name)
  f_want_rule : Addr
  fd_want_rule : FuncData
  F_want_rule : Fun K "want_rule" "want_rule" s_want_rule f_want_rule fd_want_rule
  b_want_rule : Binds K fd_want_rule P_want_rule []
  mg_want_rule : mg "want_rule" = some (.ref f_want_rule)
  f_ageings : Addr
  fd_ageings : FuncData
  F_ageings : Fun K "ageings" "ageings" s_ageings f_ageings fd_ageings
  b_ageings : Binds K fd_ageings P_ageings []
  mg_ageings : mg "ageings" = some (.ref f_ageings)
  f_aged : Addr
  fd_aged : FuncData
  F_aged : Fun K "aged" "aged" s_aged f_aged fd_aged
  b_aged : Binds K fd_aged P_aged []
  mg_aged : mg "aged" = some (.ref f_aged)
  f_Book_init : Addr
  fd_Book_init : FuncData
  F_Book_init : Fun K "__init__" "Book.__init__" s_Book_init f_Book_init fd_Book_init
  b_Book_init : Binds K fd_Book_init P_Book_init []
  f_Book_ask : Addr
  fd_Book_ask : FuncData
  F_Book_ask : FunD K "ask" "Book.ask" (defArgs s_Book_ask) (defBody s_Book_ask) (defScope s_Book_ask) [V.int 1] [] f_Book_ask fd_Book_ask
  b_Book_ask : Binds K fd_Book_ask P_Book_ask []
  bd_Book_ask : ∃ ds, Vals [V.int 1] ds ∧ Binds K fd_Book_ask P_Book_ask ds
  f_Book_rest : Addr
  fd_Book_rest : FuncData
  F_Book_rest : Fun K "rest" "Book.rest" s_Book_rest f_Book_rest fd_Book_rest
  b_Book_rest : Binds K fd_Book_rest P_Book_rest []
  f_Book_drop : Addr
  fd_Book_drop : FuncData
  F_Book_drop : Fun K "drop" "Book.drop" s_Book_drop f_Book_drop fd_Book_drop
  b_Book_drop : Binds K fd_Book_drop P_Book_drop []
  f_Book_spend : Addr
  fd_Book_spend : FuncData
  F_Book_spend : Fun K "spend" "Book.spend" s_Book_spend f_Book_spend fd_Book_spend
  b_Book_spend : Binds K fd_Book_spend P_Book_spend []
  f_Book_asked_at : Addr
  fd_Book_asked_at : FuncData
  F_Book_asked_at : Fun K "asked_at" "Book.asked_at" s_Book_asked_at f_Book_asked_at fd_Book_asked_at
  b_Book_asked_at : Binds K fd_Book_asked_at P_Book_asked_at []
  f_Book_came : Addr
  fd_Book_came : FuncData
  F_Book_came : Fun K "came" "Book.came" s_Book_came f_Book_came fd_Book_came
  b_Book_came : Binds K fd_Book_came P_Book_came []
  f_Book_gone : Addr
  fd_Book_gone : FuncData
  F_Book_gone : Fun K "gone" "Book.gone" s_Book_gone f_Book_gone fd_Book_gone
  b_Book_gone : Binds K fd_Book_gone P_Book_gone []
  f_Book_inside : Addr
  fd_Book_inside : FuncData
  F_Book_inside : Fun K "inside" "Book.inside" s_Book_inside f_Book_inside fd_Book_inside
  b_Book_inside : Binds K fd_Book_inside P_Book_inside []
  f_Book_rank : Addr
  fd_Book_rank : FuncData
  F_Book_rank : Fun K "rank" "Book.rank" s_Book_rank f_Book_rank fd_Book_rank
  b_Book_rank : Binds K fd_Book_rank P_Book_rank []
  f_Book_names : Addr
  fd_Book_names : FuncData
  F_Book_names : Fun K "names" "Book.names" s_Book_names f_Book_names fd_Book_names
  b_Book_names : Binds K fd_Book_names P_Book_names []
  f_Book_time_now : Addr
  fd_Book_time_now : FuncData
  F_Book_time_now : Fun K "time_now" "Book.time_now" s_Book_time_now f_Book_time_now fd_Book_time_now
  b_Book_time_now : Binds K fd_Book_time_now P_Book_time_now []
  f_Book_deeds_done : Addr
  fd_Book_deeds_done : FuncData
  F_Book_deeds_done : Fun K "deeds_done" "Book.deeds_done" s_Book_deeds_done f_Book_deeds_done fd_Book_deeds_done
  b_Book_deeds_done : Binds K fd_Book_deeds_done P_Book_deeds_done []
  f_Book_count_of : Addr
  fd_Book_count_of : FuncData
  F_Book_count_of : Fun K "count_of" "Book.count_of" s_Book_count_of f_Book_count_of fd_Book_count_of
  b_Book_count_of : Binds K fd_Book_count_of P_Book_count_of []
  f_Book_last_of : Addr
  fd_Book_last_of : FuncData
  F_Book_last_of : Fun K "last_of" "Book.last_of" s_Book_last_of f_Book_last_of fd_Book_last_of
  b_Book_last_of : Binds K fd_Book_last_of P_Book_last_of []
  f_Row_init : Addr
  fd_Row_init : FuncData
  F_Row_init : Fun K "__init__" "Row.__init__" s_Row_init f_Row_init fd_Row_init
  b_Row_init : Binds K fd_Row_init P_Row_init []
  f_Row_came : Addr
  fd_Row_came : FuncData
  F_Row_came : Fun K "came" "Row.came" s_Row_came f_Row_came fd_Row_came
  b_Row_came : Binds K fd_Row_came P_Row_came []
  f_Row_carry : Addr
  fd_Row_carry : FuncData
  F_Row_carry : Fun K "carry" "Row.carry" s_Row_carry f_Row_carry fd_Row_carry
  b_Row_carry : Binds K fd_Row_carry P_Row_carry []
  f_Row_trim : Addr
  fd_Row_trim : FuncData
  F_Row_trim : Fun K "trim" "Row.trim" s_Row_trim f_Row_trim fd_Row_trim
  b_Row_trim : Binds K fd_Row_trim P_Row_trim []
  f_Row_gone : Addr
  fd_Row_gone : FuncData
  F_Row_gone : Fun K "gone" "Row.gone" s_Row_gone f_Row_gone fd_Row_gone
  b_Row_gone : Binds K fd_Row_gone P_Row_gone []
  f_Row_inside : Addr
  fd_Row_inside : FuncData
  F_Row_inside : Fun K "inside" "Row.inside" s_Row_inside f_Row_inside fd_Row_inside
  b_Row_inside : Binds K fd_Row_inside P_Row_inside []
  f_Row_spots : Addr
  fd_Row_spots : FuncData
  F_Row_spots : Fun K "spots" "Row.spots" s_Row_spots f_Row_spots fd_Row_spots
  b_Row_spots : Binds K fd_Row_spots P_Row_spots []
  f_Row_names_at : Addr
  fd_Row_names_at : FuncData
  F_Row_names_at : Fun K "names_at" "Row.names_at" s_Row_names_at f_Row_names_at fd_Row_names_at
  b_Row_names_at : Binds K fd_Row_names_at P_Row_names_at []
  f_Row_met_by : Addr
  fd_Row_met_by : FuncData
  F_Row_met_by : Fun K "met_by" "Row.met_by" s_Row_met_by f_Row_met_by fd_Row_met_by
  b_Row_met_by : Binds K fd_Row_met_by P_Row_met_by []
  f_Row_enough : Addr
  fd_Row_enough : FuncData
  F_Row_enough : Fun K "enough" "Row.enough" s_Row_enough f_Row_enough fd_Row_enough
  b_Row_enough : Binds K fd_Row_enough P_Row_enough []
  f_Shelf_init : Addr
  fd_Shelf_init : FuncData
  F_Shelf_init : Fun K "__init__" "Shelf.__init__" s_Shelf_init f_Shelf_init fd_Shelf_init
  b_Shelf_init : Binds K fd_Shelf_init P_Shelf_init []
  f_Shelf_came : Addr
  fd_Shelf_came : FuncData
  F_Shelf_came : Fun K "came" "Shelf.came" s_Shelf_came f_Shelf_came fd_Shelf_came
  b_Shelf_came : Binds K fd_Shelf_came P_Shelf_came []
  f_Shelf_gone : Addr
  fd_Shelf_gone : FuncData
  F_Shelf_gone : Fun K "gone" "Shelf.gone" s_Shelf_gone f_Shelf_gone fd_Shelf_gone
  b_Shelf_gone : Binds K fd_Shelf_gone P_Shelf_gone []
  f_Shelf_inside : Addr
  fd_Shelf_inside : FuncData
  F_Shelf_inside : Fun K "inside" "Shelf.inside" s_Shelf_inside f_Shelf_inside fd_Shelf_inside
  b_Shelf_inside : Binds K fd_Shelf_inside P_Shelf_inside []
  f_Shelf_has : Addr
  fd_Shelf_has : FuncData
  F_Shelf_has : Fun K "has" "Shelf.has" s_Shelf_has f_Shelf_has fd_Shelf_has
  b_Shelf_has : Binds K fd_Shelf_has P_Shelf_has []
  f_Shelf_goings : Addr
  fd_Shelf_goings : FuncData
  F_Shelf_goings : Fun K "goings" "Shelf.goings" s_Shelf_goings f_Shelf_goings fd_Shelf_goings
  b_Shelf_goings : Binds K fd_Shelf_goings P_Shelf_goings []
  f_l_cell_at : Addr
  fd_l_cell_at : FuncData
  F_l_cell_at : Fun K "_law_cell_at" "_law_cell_at" s_l_cell_at f_l_cell_at fd_l_cell_at
  b_l_cell_at : Binds K fd_l_cell_at P_l_cell_at []
  mg_l_cell_at : mg "_law_cell_at" = some (.ref f_l_cell_at)
  f_l_sign : Addr
  fd_l_sign : FuncData
  F_l_sign : Fun K "_law_sign" "_law_sign" s_l_sign f_l_sign fd_l_sign
  b_l_sign : Binds K fd_l_sign P_l_sign []
  mg_l_sign : mg "_law_sign" = some (.ref f_l_sign)
  f_l_names : Addr
  fd_l_names : FuncData
  F_l_names : Fun K "_law_names" "_law_names" s_l_names f_l_names fd_l_names
  b_l_names : Binds K fd_l_names P_l_names []
  mg_l_names : mg "_law_names" = some (.ref f_l_names)
  f_l_span : Addr
  fd_l_span : FuncData
  F_l_span : Fun K "_law_span" "_law_span" s_l_span f_l_span fd_l_span
  b_l_span : Binds K fd_l_span P_l_span []
  mg_l_span : mg "_law_span" = some (.ref f_l_span)
  f_l_part : Addr
  fd_l_part : FuncData
  F_l_part : Fun K "_law_part" "_law_part" s_l_part f_l_part fd_l_part
  b_l_part : Binds K fd_l_part P_l_part []
  mg_l_part : mg "_law_part" = some (.ref f_l_part)
  f_l_deed : Addr
  fd_l_deed : FuncData
  F_l_deed : Fun K "_law_deed" "_law_deed" s_l_deed f_l_deed fd_l_deed
  b_l_deed : Binds K fd_l_deed P_l_deed []
  mg_l_deed : mg "_law_deed" = some (.ref f_l_deed)
  f_l_do : Addr
  fd_l_do : FuncData
  F_l_do : Fun K "_law_do" "_law_do" s_l_do f_l_do fd_l_do
  b_l_do : Binds K fd_l_do P_l_do []
  mg_l_do : mg "_law_do" = some (.ref f_l_do)
  f_l_bad_name : Addr
  fd_l_bad_name : FuncData
  F_l_bad_name : Fun K "_law_bad_name" "_law_bad_name" s_l_bad_name f_l_bad_name fd_l_bad_name
  b_l_bad_name : Binds K fd_l_bad_name P_l_bad_name []
  mg_l_bad_name : mg "_law_bad_name" = some (.ref f_l_bad_name)
  f_l_bad_number : Addr
  fd_l_bad_number : FuncData
  F_l_bad_number : Fun K "_law_bad_number" "_law_bad_number" s_l_bad_number f_l_bad_number fd_l_bad_number
  b_l_bad_number : Binds K fd_l_bad_number P_l_bad_number []
  mg_l_bad_number : mg "_law_bad_number" = some (.ref f_l_bad_number)
  f_l_thing_call : Addr
  fd_l_thing_call : FuncData
  F_l_thing_call : Fun K "_law_thing_call" "_law_thing_call" s_l_thing_call f_l_thing_call fd_l_thing_call
  b_l_thing_call : Binds K fd_l_thing_call P_l_thing_call []
  mg_l_thing_call : mg "_law_thing_call" = some (.ref f_l_thing_call)
  f_l_own_call : Addr
  fd_l_own_call : FuncData
  F_l_own_call : Fun K "_law_own_call" "_law_own_call" s_l_own_call f_l_own_call fd_l_own_call
  b_l_own_call : Binds K fd_l_own_call P_l_own_call []
  mg_l_own_call : mg "_law_own_call" = some (.ref f_l_own_call)
  f_l_new_call : Addr
  fd_l_new_call : FuncData
  F_l_new_call : Fun K "_law_new_call" "_law_new_call" s_l_new_call f_l_new_call fd_l_new_call
  b_l_new_call : Binds K fd_l_new_call P_l_new_call []
  mg_l_new_call : mg "_law_new_call" = some (.ref f_l_new_call)
  f_l_due : Addr
  fd_l_due : FuncData
  F_l_due : Fun K "_law_due" "_law_due" s_l_due f_l_due fd_l_due
  b_l_due : Binds K fd_l_due P_l_due []
  mg_l_due : mg "_law_due" = some (.ref f_l_due)
  f_l_call : Addr
  fd_l_call : FuncData
  F_l_call : Fun K "_law_call" "_law_call" s_l_call f_l_call fd_l_call
  b_l_call : Binds K fd_l_call P_l_call []
  mg_l_call : mg "_law_call" = some (.ref f_l_call)
  f_l_by_base : Addr
  fd_l_by_base : FuncData
  F_l_by_base : Fun K "_law_by_base" "_law_by_base" s_l_by_base f_l_by_base fd_l_by_base
  b_l_by_base : Binds K fd_l_by_base P_l_by_base []
  mg_l_by_base : mg "_law_by_base" = some (.ref f_l_by_base)
  f_l_by_name : Addr
  fd_l_by_name : FuncData
  F_l_by_name : Fun K "_law_by_name" "_law_by_name" s_l_by_name f_l_by_name fd_l_by_name
  b_l_by_name : Binds K fd_l_by_name P_l_by_name []
  mg_l_by_name : mg "_law_by_name" = some (.ref f_l_by_name)
  f_l_same : Addr
  fd_l_same : FuncData
  F_l_same : Fun K "_law_same" "_law_same" s_l_same f_l_same fd_l_same
  b_l_same : Binds K fd_l_same P_l_same []
  mg_l_same : mg "_law_same" = some (.ref f_l_same)
  f_l_twins : Addr
  fd_l_twins : FuncData
  F_l_twins : Fun K "_law_twins" "_law_twins" s_l_twins f_l_twins fd_l_twins
  b_l_twins : Binds K fd_l_twins P_l_twins []
  mg_l_twins : mg "_law_twins" = some (.ref f_l_twins)
  f_law : Addr
  fd_law : FuncData
  F_law : Fun K "law" "law" s_law f_law fd_law
  b_law : Binds K fd_law P_law []
  mg_law : mg "law" = some (.ref f_law)
  n_ValueError : mg "ValueError" = none
  n_all : mg "all" = none
  n_any : mg "any" = none
  n_bool : mg "bool" = none
  n_enumerate : mg "enumerate" = none
  n_int : mg "int" = none
  n_isinstance : mg "isinstance" = none
  n_len : mg "len" = none
  n_list : mg "list" = none
  n_min : mg "min" = none
  n_range : mg "range" = none
  n_sorted : mg "sorted" = none
  n_str : mg "str" = none
  n_zip : mg "zip" = none
  c_MOST_SIGNS : {t : Tok // mg "MOST_SIGNS" = some (.int 40 t)}
  c_MOST_PLACES : {t : Tok // mg "MOST_PLACES" = some (.int 1000 t)}
  c_MOST_SPAN : {t : Tok // mg "MOST_SPAN" = some (.int 100000000000000000000 t)}
  c_MOST_NUMBER : {t : Tok // mg "MOST_NUMBER" = some (.int 1000000000000000000000000000000 t)}
  C_Book : Addr
  mgC_Book : mg "Book" = some (.ref C_Book)
  cls_Book : Cls K C_Book
  M_Book : Mk K C_Book f_Book_init
  na_Book_span : NoAttr K C_Book "span"
  na_Book_part : NoAttr K C_Book "part"
  na_Book_time : NoAttr K C_Book "time"
  na_Book_deed : NoAttr K C_Book "deed"
  na_Book_counts : NoAttr K C_Book "counts"
  na_Book_lasts : NoAttr K C_Book "lasts"
  m_Book_ask : Meth K C_Book "ask" f_Book_ask
  m_Book_rest : Meth K C_Book "rest" f_Book_rest
  m_Book_drop : Meth K C_Book "drop" f_Book_drop
  m_Book_spend : Meth K C_Book "spend" f_Book_spend
  m_Book_asked_at : Meth K C_Book "asked_at" f_Book_asked_at
  m_Book_came : Meth K C_Book "came" f_Book_came
  m_Book_gone : Meth K C_Book "gone" f_Book_gone
  m_Book_inside : Meth K C_Book "inside" f_Book_inside
  m_Book_rank : Meth K C_Book "rank" f_Book_rank
  m_Book_names : Meth K C_Book "names" f_Book_names
  m_Book_time_now : Meth K C_Book "time_now" f_Book_time_now
  m_Book_deeds_done : Meth K C_Book "deeds_done" f_Book_deeds_done
  m_Book_count_of : Meth K C_Book "count_of" f_Book_count_of
  m_Book_last_of : Meth K C_Book "last_of" f_Book_last_of
  bm_Book_rank : BMeth K C_Book "rank" f_Book_rank
  bm_Book_asked_at : BMeth K C_Book "asked_at" f_Book_asked_at
  C_Shelf : Addr
  mgC_Shelf : mg "Shelf" = some (.ref C_Shelf)
  cls_Shelf : Cls K C_Shelf
  M_Shelf : Mk K C_Shelf f_Shelf_init
  na_Shelf_span : NoAttr K C_Shelf "span"
  na_Shelf_part : NoAttr K C_Shelf "part"
  na_Shelf_time : NoAttr K C_Shelf "time"
  na_Shelf_deed : NoAttr K C_Shelf "deed"
  na_Shelf_counts : NoAttr K C_Shelf "counts"
  na_Shelf_lasts : NoAttr K C_Shelf "lasts"
  na_Shelf_places : NoAttr K C_Shelf "places"
  na_Shelf_standing : NoAttr K C_Shelf "standing"
  na_Shelf_went : NoAttr K C_Shelf "went"
  m_Shelf_ask : Meth K C_Shelf "ask" f_Book_ask
  m_Shelf_rest : Meth K C_Shelf "rest" f_Book_rest
  m_Shelf_drop : Meth K C_Shelf "drop" f_Book_drop
  m_Shelf_spend : Meth K C_Shelf "spend" f_Book_spend
  m_Shelf_asked_at : Meth K C_Shelf "asked_at" f_Book_asked_at
  m_Shelf_came : Meth K C_Shelf "came" f_Shelf_came
  m_Shelf_gone : Meth K C_Shelf "gone" f_Shelf_gone
  m_Shelf_inside : Meth K C_Shelf "inside" f_Shelf_inside
  m_Shelf_rank : Meth K C_Shelf "rank" f_Book_rank
  m_Shelf_names : Meth K C_Shelf "names" f_Book_names
  m_Shelf_time_now : Meth K C_Shelf "time_now" f_Book_time_now
  m_Shelf_deeds_done : Meth K C_Shelf "deeds_done" f_Book_deeds_done
  m_Shelf_count_of : Meth K C_Shelf "count_of" f_Book_count_of
  m_Shelf_last_of : Meth K C_Shelf "last_of" f_Book_last_of
  m_Shelf_has : Meth K C_Shelf "has" f_Shelf_has
  m_Shelf_goings : Meth K C_Shelf "goings" f_Shelf_goings
  bm_Shelf_rank : BMeth K C_Shelf "rank" f_Book_rank
  bm_Shelf_asked_at : BMeth K C_Shelf "asked_at" f_Book_asked_at
  C_Row : Addr
  mgC_Row : mg "Row" = some (.ref C_Row)
  cls_Row : Cls K C_Row
  M_Row : Mk K C_Row f_Row_init
  na_Row_span : NoAttr K C_Row "span"
  na_Row_part : NoAttr K C_Row "part"
  na_Row_time : NoAttr K C_Row "time"
  na_Row_deed : NoAttr K C_Row "deed"
  na_Row_counts : NoAttr K C_Row "counts"
  na_Row_lasts : NoAttr K C_Row "lasts"
  na_Row_laid : NoAttr K C_Row "laid"
  na_Row_depths : NoAttr K C_Row "depths"
  m_Row_ask : Meth K C_Row "ask" f_Book_ask
  m_Row_rest : Meth K C_Row "rest" f_Book_rest
  m_Row_drop : Meth K C_Row "drop" f_Book_drop
  m_Row_spend : Meth K C_Row "spend" f_Book_spend
  m_Row_asked_at : Meth K C_Row "asked_at" f_Book_asked_at
  m_Row_came : Meth K C_Row "came" f_Row_came
  m_Row_gone : Meth K C_Row "gone" f_Row_gone
  m_Row_inside : Meth K C_Row "inside" f_Row_inside
  m_Row_rank : Meth K C_Row "rank" f_Book_rank
  m_Row_names : Meth K C_Row "names" f_Book_names
  m_Row_time_now : Meth K C_Row "time_now" f_Book_time_now
  m_Row_deeds_done : Meth K C_Row "deeds_done" f_Book_deeds_done
  m_Row_count_of : Meth K C_Row "count_of" f_Book_count_of
  m_Row_last_of : Meth K C_Row "last_of" f_Book_last_of
  m_Row_carry : Meth K C_Row "carry" f_Row_carry
  m_Row_trim : Meth K C_Row "trim" f_Row_trim
  m_Row_spots : Meth K C_Row "spots" f_Row_spots
  m_Row_names_at : Meth K C_Row "names_at" f_Row_names_at
  m_Row_met_by : Meth K C_Row "met_by" f_Row_met_by
  m_Row_enough : Meth K C_Row "enough" f_Row_enough
  bm_Row_rank : BMeth K C_Row "rank" f_Book_rank
  bm_Row_asked_at : BMeth K C_Row "asked_at" f_Book_asked_at
  ti_Shelf : ∀ {H : Hp} {a dx : Addr} {fs : List (Str × V)}, H a = some (.ins C_Shelf dx fs) → TyOf K H (.ref a) (.ref C_Shelf)
  kb_Shelf : PySem.W.kitOne K (.ref C_Shelf) (.ref C_Book) = some true
  ti_Row : ∀ {H : Hp} {a dx : Addr} {fs : List (Str × V)}, H a = some (.ins C_Row dx fs) → TyOf K H (.ref a) (.ref C_Row)
  kb_Row : PySem.W.kitOne K (.ref C_Row) (.ref C_Book) = some true
  C_ShelfError : Addr
  mgC_ShelfError : mg "ShelfError" = some (.ref C_ShelfError)
  C_NoName : Addr
  mgC_NoName : mg "NoName" = some (.ref C_NoName)
  C_NoNumber : Addr
  mgC_NoNumber : mg "NoNumber" = some (.ref C_NoNumber)
  C_NoRule : Addr
  mgC_NoRule : mg "NoRule" = some (.ref C_NoRule)
  xd_NoName : ExD K C_NoName
  kv_NoName : PySem.W.kitOne K (.ref C_NoName) (.type "ValueError") = some true
  em_NoName_ShelfError : PySem.W.exmOne K (.ref C_NoName) (.ref C_ShelfError) = some true
  ki_NoName_ShelfError : PySem.W.kitOne K (.ref C_NoName) (.ref C_ShelfError) = some true
  em_NoName_NoName : PySem.W.exmOne K (.ref C_NoName) (.ref C_NoName) = some true
  ki_NoName_NoName : PySem.W.kitOne K (.ref C_NoName) (.ref C_NoName) = some true
  em_NoName_NoNumber : PySem.W.exmOne K (.ref C_NoName) (.ref C_NoNumber) = some false
  ki_NoName_NoNumber : PySem.W.kitOne K (.ref C_NoName) (.ref C_NoNumber) = some false
  em_NoName_NoRule : PySem.W.exmOne K (.ref C_NoName) (.ref C_NoRule) = some false
  ki_NoName_NoRule : PySem.W.kitOne K (.ref C_NoName) (.ref C_NoRule) = some false
  xd_NoNumber : ExD K C_NoNumber
  kv_NoNumber : PySem.W.kitOne K (.ref C_NoNumber) (.type "ValueError") = some true
  em_NoNumber_ShelfError : PySem.W.exmOne K (.ref C_NoNumber) (.ref C_ShelfError) = some true
  ki_NoNumber_ShelfError : PySem.W.kitOne K (.ref C_NoNumber) (.ref C_ShelfError) = some true
  em_NoNumber_NoName : PySem.W.exmOne K (.ref C_NoNumber) (.ref C_NoName) = some false
  ki_NoNumber_NoName : PySem.W.kitOne K (.ref C_NoNumber) (.ref C_NoName) = some false
  em_NoNumber_NoNumber : PySem.W.exmOne K (.ref C_NoNumber) (.ref C_NoNumber) = some true
  ki_NoNumber_NoNumber : PySem.W.kitOne K (.ref C_NoNumber) (.ref C_NoNumber) = some true
  em_NoNumber_NoRule : PySem.W.exmOne K (.ref C_NoNumber) (.ref C_NoRule) = some false
  ki_NoNumber_NoRule : PySem.W.kitOne K (.ref C_NoNumber) (.ref C_NoRule) = some false
  xd_NoRule : ExD K C_NoRule
  kv_NoRule : PySem.W.kitOne K (.ref C_NoRule) (.type "ValueError") = some true
  em_NoRule_ShelfError : PySem.W.exmOne K (.ref C_NoRule) (.ref C_ShelfError) = some true
  ki_NoRule_ShelfError : PySem.W.kitOne K (.ref C_NoRule) (.ref C_ShelfError) = some true
  em_NoRule_NoName : PySem.W.exmOne K (.ref C_NoRule) (.ref C_NoName) = some false
  ki_NoRule_NoName : PySem.W.kitOne K (.ref C_NoRule) (.ref C_NoName) = some false
  em_NoRule_NoNumber : PySem.W.exmOne K (.ref C_NoRule) (.ref C_NoNumber) = some false
  ki_NoRule_NoNumber : PySem.W.kitOne K (.ref C_NoRule) (.ref C_NoNumber) = some false
  em_NoRule_NoRule : PySem.W.exmOne K (.ref C_NoRule) (.ref C_NoRule) = some true
  ki_NoRule_NoRule : PySem.W.kitOne K (.ref C_NoRule) (.ref C_NoRule) = some true
  cdf : CDef K C_Book (.type "type") "__init__" f_Book_init
end Own
namespace Own
open PySem L2 PyProof.Rows Evl OwnS
/-- a condition of arithmetic -/
local macro_rules | `(tactic| walk_at "side") => `(tactic| first
  | assumption
  | (show _ ∧ _; omega)
  | (apply pos9 <;> omega)
  | (show (0 : Int) < _; omega)
  | (show _ ∨ _; omega)
  | decide
  | omega)
local macro_rules | `(tactic| walk_at "fn") => `(tactic| fail "no fn")
local macro_rules | `(tactic| walk_at "ev") => `(tactic| first
  | ((with_reducible apply ev_var) ; exact rfl)
  | with_reducible exact ev_c
  | ((with_reducible apply ev_op) <;> walk_at "ev")
  | with_reducible exact rv_I0
  | ((with_reducible apply rv_I) ; walk_at "side")
  | ((with_reducible apply rv_eq) ; rfl)
  | ((with_reducible apply rv_ne) ; rfl)
  | ((with_reducible apply ev_isInt) ; walk_at "ev")
  | ((with_reducible apply ev_isBoolI) ; walk_at "ev")
  | ((with_reducible apply ev_isIntB) ; walk_at "ev")
  | ((with_reducible apply ev_isBoolB) ; walk_at "ev")
  | ((with_reducible apply ev_notV) ; walk_at "ev")
  | ((with_reducible apply et_test) ; walk_at "ev")
  | ((with_reducible apply et_B) ; walk_at "ev")
  | ((with_reducible apply et_not) ; walk_at "ev")
  | with_reducible exact ea_nil
  | ((with_reducible apply ea_cons) <;> walk_at "ev")
  | ((with_reducible apply ev_call0) <;> walk_at "ev")
  | ((with_reducible show SpV _ _ _ _); walk_at "fn"))

theorem pow_pos' {p : Int} (hp : 2 ≤ p) (n : Nat) : 0 < p ^ n := Int.pow_pos (by omega)
theorem ediv_pow_succ {c p : Int} (hp : 2 ≤ p) (n : Nat) : c / p / p ^ n = c / p ^ (n + 1) := by
  rw [Int.ediv_ediv_of_nonneg (by omega), Int.pow_succ, Int.mul_comm]
theorem ediv_lt_self' {c p : Int} (hc : 0 < c) (hp : 2 ≤ p) : c / p < c := by
  apply Int.ediv_lt_of_lt_mul (by omega)
  have : c * 2 ≤ c * p := Int.mul_le_mul_of_nonneg_left hp (by omega)
  omega
theorem agedI_step {c p t : Int} (hp : 2 ≤ p) (ht : 0 < t) : agedI (c / p) p (t - 1) = agedI c p t := by
  unfold agedI
  obtain ⟨n, rfl⟩ : ∃ n : Nat, t = (n : Int) + 1 := ⟨(t - 1).toNat, by omega⟩
  have e1 : ((n : Int) + 1 - 1).toNat = n := by omega
  have e2 : ((n : Int) + 1).toNat = n + 1 := by omega
  rw [e1, e2]
  exact ediv_pow_succ hp n
theorem agedI_zero {c p : Int} : agedI c p 0 = c := by
  unfold agedI
  show c / p ^ 0 = c
  rw [Int.pow_zero, Int.ediv_one]
theorem agedI_nil {p t : Int} : agedI 0 p t = 0 := by
  unfold agedI
  exact Int.zero_ediv _
section
variable {P : Program} {w : World} {K : PySem.W.Frag} {mg : Str → Option Value} {base : Heap}
def spAged : Sp := fun vs H Q _ => ∃ c p t : Int, vs = [.int c, .int p, .int t] ∧ 0 ≤ c ∧ 2 ≤ p ∧ p < 10 ^ 80 ∧ 0 ≤ t ∧ RetV (.int (agedI c p t)) H Q
theorem sv_aged {H : Hp} {c p t : Int} (h1 : 0 ≤ c) (h2 : 2 ≤ p) (h3 : p < 10 ^ 80) (h4 : 0 ≤ t) : SpV spAged [.int c, .int p, .int t] H (.int (agedI c p t)) := spv_of fun H1 Q E e q => ⟨_, _, _, rfl, h1, h2, h3, h4, q⟩
theorem ok_aged (T : Tx K mg) : FnOk P w K mg base CX0 1 T.f_aged T.fd_aged P_aged spAged := by
  refine T.F_aged.ok sc_aged (fun vs H Q E h => ?_) (fun cdv A outer s H vs Q E hr h => ?_)
  · obtain ⟨a, b, c, rfl, _⟩ := h
    rfl
  · obtain ⟨c, p, t, rfl, hc, hp, hp9, ht, k⟩ := h
    refine ⟨_, (pss_cons (ps_while PassesOwn.never (PW.pt (pw_and (pt_cmpR op_gt (pv 2) pe_int (nomark _)) (pw_and1 (pt_cmpR op_gt (pv 0) pe_int (nomark _))))) (pss_cons (ps_set (i := 0) sc_aged.nd rfl (Or.inl rfl) (pe_op op_fdivW (pv 0) (pv 1)))
      (pss_one (ps_aug (i := 2) sc_aged.nd rfl (Or.inl rfl) pe_int ip_sub))))
      (pss_one (ps_ret (pv 0)))), ?_⟩
    rw [show L2.start N_aged [V.int c, V.int p, V.int t] = [some (V.int c), some (V.int p), some (V.int t)] from rfl]
    refine q_while (fun m σ' H' => Ex H H' ∧ ∃ c' t' : Int, σ' = [some (.int c'), some (.int p), some (.int t')] ∧ 0 ≤ c' ∧ 0 ≤ t' ∧ agedI c' p t' = agedI c p t ∧ m = c'.toNat) c.toNat ⟨Ex.refl _, c, t, rfl, hc, ht, rfl, rfl⟩ ?_
    rintro m σ' H' ⟨e, c', t', rfl, hc', ht', he, rfl⟩
    refine ⟨decide (0 < t') && decide (0 < c'), et_and (by walk_at "ev") (fun _ => by walk_at "ev"), fun hb H1 e1 => ?_, fun hb H1 e1 => ?_⟩
    · rw [Bool.and_eq_true, decide_eq_true_eq, decide_eq_true_eq] at hb
      refine ⟨_, fun σ2 H2 h => h, ?_⟩
      have hd : CDivW c' p := pos9 (by omega) hp9
      refine q_asg (v := .int (c' / p)) (by walk_at "ev") fun H2 e2 => ?_
      dsimp only [List.set]
      refine s_aug (f := fun i j => i - j) (a := t') (b := 1) rfl (by walk_at "ev") fun H3 e3 => ?_
      dsimp only [List.set]
      refine ⟨(c' / p).toNat, ?_, ((e.trans e1).trans e2).trans e3, c' / p, t' - 1, rfl, Int.ediv_nonneg hc' (by omega), by omega, ?_, rfl⟩
      · have := ediv_lt_self' hb.2 hp
        have : 0 ≤ c' / p := Int.ediv_nonneg hc' (by omega)
        omega
      · rw [agedI_step hp hb.1]
        exact he
    · refine s_ret (ev_var rfl) fun H2 e2 => ?_
      have : c' = agedI c p t := by
        rw [Bool.and_eq_false_iff, decide_eq_false_iff_not, decide_eq_false_iff_not] at hb
        rw [← he]
        rcases hb with hb | hb
        · have : t' = 0 := by omega
          rw [this, agedI_zero]
        · have : c' = 0 := by omega
          rw [this, agedI_nil]
      rw [this]
      exact k _ ((e.trans e1).trans e2)
end

/-! ### rules.py, with good arguments -/
section
variable {K : PySem.W.Frag} {σ : L2.St} {H : Hp} {ta tb tc te : TE} {D : Ends}
theorem ev_lenS {z : Str} (h : Ev ta σ H (.str z)) (hz : z.length ≤ 100000) : Ev (tCB (fun xs H Q => ∃ x, xs = [.str x] ∧ x.length ≤ sizeLine ∧ Q (.int x.length) H) (tCons ta tNil)) σ H (.int z.length) := fun H1 e Q q =>
  h H1 e _ fun H2 e2 => ⟨z, rfl, sz_of hz, q H2 e2⟩
/-- a op1 b op2 c of ints -/
theorem ev_chain {p q : Int → Int → Bool} {i j l : Int} (ha : Ev ta σ H (.int i)) (hb : Ev tb σ H (.int j)) (hc : Ev tc σ H (.int l)) : Ev (tChain (rI0 fun i j => .bl (p i j)) (rI0 fun i j => .bl (q i j)) ta tb tc) σ H (.bl (p i j && q j l)) := fun H1 e Q k =>
  ha H1 e _ fun H2 e2 => hb H2 (e.trans e2) _ fun H3 e3 => ⟨i, j, rfl, rfl, p i j, rfl, by
    cases h : p i j with
    | true =>
      rw [h, Bool.true_and] at k
      refine iteT (hc H3 ((e.trans e2).trans e3) _ fun H4 e4 => ?_)
      exact ⟨j, l, rfl, rfl, k H4 ((e2.trans e3).trans e4)⟩
    | false =>
      rw [h, Bool.false_and] at k
      exact iteF (k H3 (e2.trans e3))⟩
theorem et_tst {b : Bool} {t : TE} (h : Ev t σ H (.bl b)) : EvT (fun σ H Q => t σ H fun x H' => ∃ k, x = .bl k ∧ Q k H') σ H b := fun H1 e Q q => h H1 e _ fun H2 e2 => ⟨b, rfl, q H2 e2⟩
end
section
variable {P : Program} {w : World} {K : PySem.W.Frag} {mg : Str → Option Value} {base : Heap}
def spWithin : Sp := fun vs H Q _ => ∃ i a b : Int, vs = [.int i, .int a, .int b] ∧ RetV (.bl (decide (a ≤ i) && decide (i ≤ b))) H Q
theorem sv_within {H : Hp} {i a b : Int} : SpV spWithin [.int i, .int a, .int b] H (.bl (decide (a ≤ i) && decide (i ≤ b))) := spv_of fun H1 Q E e q => ⟨_, _, _, rfl, q⟩
theorem ok_within (T : Tx K mg) : FnOk P w K mg base CX0 1 T.f_within T.fd_within P_within spWithin := by
  refine T.F_within.ok sc_within (fun vs H Q E h => ?_) (fun cdv A outer s H vs Q E hr h => ?_)
  · obtain ⟨a, b, c, rfl, _⟩ := h
    rfl
  · obtain ⟨i, a, b, rfl, k⟩ := h
    refine ⟨_, (pss_cons (ps_if (PW.pt (pw_or (pt_not (pt_val (pe_callB call_isi (by rfl) T.n_isinstance (by decide +kernel) (pa_cons (pv 0) (pa_cons (pe_bltn (v := .ty "int") (u := .type "int") rfl T.n_int (by decide +kernel) rfl) pa_nil))))) (pw_or1 (pt_val (pe_callB call_isi (by rfl) T.n_isinstance (by decide +kernel) (pa_cons (pv 0) (pa_cons (pe_bltn (v := .ty "bool") (u := .type "bool") rfl T.n_bool (by decide +kernel) rfl) pa_nil))))))) (pss_one (ps_ret pe_bl)) pss_nil)
      (pss_one (ps_ret (pe_chain op_le op_le (pv 1) (pv 0) (pv 2))))), ?_⟩
    refine q_when (b := false) (et_is (et_or (et_not (et_B (ev_isInt (ev_var rfl)))) fun _ => et_B (ev_isBoolI (ev_var rfl))) rfl) (fun hb => nomatch hb) (fun _ H1 e1 => ?_)
    exact s_ret (ev_chain (ev_var rfl) (ev_var rfl) (ev_var rfl)) fun H2 e2 => k H2 (e1.trans e2)
def spWantNumber : Sp := fun vs H Q _ => ∃ i a b : Int, vs = [.int i, .int a, .int b] ∧ a ≤ i ∧ i ≤ b ∧ RetV .non H Q
theorem sv_wantNumber {H : Hp} {i a b : Int} (h1 : a ≤ i) (h2 : i ≤ b) : SpV spWantNumber [.int i, .int a, .int b] H .non := spv_of fun H1 Q E e q => ⟨_, _, _, rfl, h1, h2, q⟩
theorem ok_want_number (T : Tx K mg) : FnOk P w K mg base CX0 2 T.f_want_number T.fd_want_number P_want_number spWantNumber := by
  refine T.F_want_number.ok sc_want_number (fun vs H Q E h => ?_) (fun cdv A outer s H vs Q E hr h => ?_)
  · obtain ⟨a, b, c, rfl, _⟩ := h
    rfl
  · obtain ⟨i, a, b, rfl, h1, h2, k⟩ := h
    refine ⟨_, (pss_one (ps_if (pt_not (pt_val (pe_call (ok_within T) (hr.mono (by decide)) rfl T.mg_within T.F_within.kp T.b_within .nil pass0 (pa_cons (pv 0) (pa_cons (pv 1) (pa_cons (pv 2) pa_nil)))))) (pss_one ps_never) pss_nil)), ?_⟩
    refine s_when (b := false) (et_is (et_not (et_B (ev_call0 (ea_cons (ev_var rfl) (ea_cons (ev_var rfl) (ea_cons (ev_var rfl) ea_nil))) sv_within))) (by rw [decide_eq_true h1, decide_eq_true h2]; rfl)) (fun hb => nomatch hb) (fun _ H1 e1 => ?_)
    exact k H1 e1
theorem lt_sign {c : Nat} : decide ((⟨#[c]⟩ : Str).cps.toList < (Str.ofString " ").cps.toList) = decide (c < 32) := by
  rw [decide_eq_decide]
  show [c] < [32] ↔ c < 32
  constructor
  · intro h
    cases h with
    | rel h => exact h
    | cons h => cases h
  · intro h
    exact .rel h
theorem gt_sign {c : Nat} : decide ((Str.ofString "~").cps.toList < (⟨#[c]⟩ : Str).cps.toList) = decide (126 < c) := by
  rw [decide_eq_decide]
  show [126] < [c] ↔ 126 < c
  constructor
  · intro h
    cases h with
    | rel h => exact h
    | cons h => cases h
  · intro h
    exact .rel h
def spWantName : Sp := fun vs H Q _ => ∃ n : Str, vs = [.str n] ∧ GoodName n ∧ RetV .non H Q
theorem sv_wantName {H : Hp} {n : Str} (h : GoodName n) : SpV spWantName [.str n] H .non := spv_of fun H1 Q E e q => ⟨_, rfl, h, q⟩
theorem ev_isStr {σ : L2.St} {H : Hp} {ta : TE} {z : Str} (ha : Ev ta σ H (.str z)) : Ev (tCB (rIsi K) (tCons ta (tCons (tC (.ty "str")) tNil))) σ H (.bl true) := ev_isi ha ev_c (.ty _) (fun _ _ => .base (.str _)) (kit_ty (by decide +kernel))
theorem ok_want_name (T : Tx K mg) : FnOk P w K mg base CX0 2 T.f_want_name T.fd_want_name P_want_name spWantName := by
  refine T.F_want_name.ok sc_want_name (fun vs H Q E h => ?_) (fun cdv A outer s H vs Q E hr h => ?_)
  · obtain ⟨n, rfl, _⟩ := h
    rfl
  · obtain ⟨n, rfl, ⟨h1, h2, h3⟩, k⟩ := h
    refine ⟨_, (pss_cons (ps_if (PW.pt (pw_or (pt_not (pt_val (pe_callB call_isi (by rfl) T.n_isinstance (by decide +kernel) (pa_cons (pv 0) (pa_cons (pe_bltn (v := .ty "str") (u := .type "str") rfl T.n_str (by decide +kernel) rfl) pa_nil))))) (pw_or1 (pt_not (pt_chain op_le op_le pe_int (pe_callB call_len_str (by rfl) T.n_len PySem.boot_len (pa_cons (pv 0) pa_nil)) (pe_glob (v := .int 40) rfl T.c_MOST_SIGNS.2 ⟨_, rfl⟩)))))) (pss_one ps_never) pss_nil)
      (pss_one (ps_if (pt_val (pe_callB (cr_any rfl) (by rfl) T.n_any (by decide +kernel) (pa_cons (pe_lc (own := [("sign", 1)]) (g := (gName 1)) (by rfl) sc_want_name.nd (pi_str (pv 0)) (blkOk_by (own := [("sign", 1)]) (N := N_want_name) (sc := defScope s_want_name) (by decide +kernel)) (fun _ _ _ _ _ => (pg_name (i := 1) sc_want_name.nd rfl (Or.inl rfl))) (fun _ _ _ _ _ => pts_nil) (fun _ _ _ _ _ => (pe_or (pe_cmpR op_lt_str (pv 1) pe_str (nomark _)) (pe_one (pe_cmpR op_gt_str (pv 1) pe_str (nomark _)))))) pa_nil))) (pss_one ps_never) pss_nil))), ?_⟩
    rw [show L2.start N_want_name [V.str n] = [some (V.str n), none] from rfl]
    refine q_when (b := false) (et_is (et_or (et_not (et_B (ev_isStr (ev_var rfl)))) fun _ => et_not (et_tst (ev_chain ev_c (ev_lenS (ev_var rfl) (by omega)) ev_c))) (by rw [decide_eq_true (by omega), decide_eq_true (by omega)]; rfl)) (fun hb => nomatch hb) (fun _ H1 e1 => ?_)
    refine s_when (b := false) ?_ (fun hb => nomatch hb) (fun _ H2 e2 => k H2 (e1.trans e2))
    refine et_B (ev_is (ev_any (el_lcB (fun _ => false) (ei_str (ev_var rfl)) ?_ ?_)) ?_)
    · show n.cps.size ≤ 40000
      have : n.cps.size = n.length := rfl
      omega
    · rintro i H3 x H4 hi e3 ⟨rfl, c, hc, rfl⟩
      have hm : c ∈ n.cps.toList := by
        rw [Array.getElem?_toList.symm] at hc
        exact List.mem_of_getElem? hc
      have hc2 := h3 c hm
      refine ⟨Ex.refl _, _, got_name, rfl, ?_⟩
      refine ev_is (ev_orV (a := false) (b := false) (ev_is (ev_op (ev_var rfl) ev_c (fun H5 _ Q5 q5 => ⟨_, _, rfl, rfl, q5 H5 (Ex.refl _)⟩)) ?_) fun _ => ev_is (ev_op (ev_var rfl) ev_c (fun H5 _ Q5 q5 => ⟨_, _, rfl, rfl, q5 H5 (Ex.refl _)⟩)) ?_) rfl
      · rw [lt_sign, decide_eq_false (by omega)]
      · rw [gt_sign, decide_eq_false (by omega)]
    · have : ((List.range n.cps.size).map fun _ => false).any id = false := by
        rw [List.any_eq_false]
        intro x hx
        obtain ⟨_, _, rfl⟩ := List.mem_map.mp hx
        simp
      rw [this]
def spWantRule : Sp := fun vs H Q _ => ∃ a b : Int, vs = [.int a, .int b] ∧ 1 ≤ a ∧ a ≤ 100000000000000000000 ∧ 2 ≤ b ∧ b ≤ 1000000000000000000000000000000 ∧ RetV .non H Q
theorem sv_wantRule {H : Hp} {a b : Int} (h1 : 1 ≤ a) (h2 : a ≤ 100000000000000000000) (h3 : 2 ≤ b) (h4 : b ≤ 1000000000000000000000000000000) : SpV spWantRule [.int a, .int b] H .non := spv_of fun H1 Q E e q => ⟨_, _, rfl, h1, h2, h3, h4, q⟩
theorem ok_want_rule (T : Tx K mg) : FnOk P w K mg base CX0 2 T.f_want_rule T.fd_want_rule P_want_rule spWantRule := by
  refine T.F_want_rule.ok sc_want_rule (fun vs H Q E h => ?_) (fun cdv A outer s H vs Q E hr h => ?_)
  · obtain ⟨a, b, rfl, _⟩ := h
    rfl
  · obtain ⟨a, b, rfl, h1, h2, h3, h4, k⟩ := h
    refine ⟨_, (pss_one (ps_if (PW.pt (pw_or (pt_not (pt_val (pe_call (ok_within T) (hr.mono (by decide)) rfl T.mg_within T.F_within.kp T.b_within .nil pass0 (pa_cons (pv 0) (pa_cons pe_int (pa_cons (pe_glob (v := .int 100000000000000000000) rfl T.c_MOST_SPAN.2 ⟨_, rfl⟩) pa_nil)))))) (pw_or1 (pt_not (pt_val (pe_call (ok_within T) (hr.mono (by decide)) rfl T.mg_within T.F_within.kp T.b_within .nil pass0 (pa_cons (pv 1) (pa_cons pe_int (pa_cons (pe_glob (v := .int 1000000000000000000000000000000) rfl T.c_MOST_NUMBER.2 ⟨_, rfl⟩) pa_nil))))))))) (pss_one ps_never) pss_nil)), ?_⟩
    refine s_when (b := false) (et_is (et_or (et_not (et_B (ev_call0 (ea_cons (ev_var rfl) (ea_cons ev_c (ea_cons ev_c ea_nil))) sv_within))) fun _ => et_not (et_B (ev_call0 (ea_cons (ev_var rfl) (ea_cons ev_c (ea_cons ev_c ea_nil))) sv_within)))
      (by rw [decide_eq_true h1, decide_eq_true h2, decide_eq_true h3, decide_eq_true h4]; rfl)) (fun hb => nomatch hb) (fun _ H1 e1 => ?_)
    exact k H1 e1
def spAgeings : Sp := fun vs H Q _ => ∃ span since upto : Int, vs = [.int span, .int since, .int upto] ∧ 0 < span ∧ span < 10 ^ 80 ∧ RetV (.int (upto / span - since / span)) H Q
theorem sv_ageings {H : Hp} {span since upto : Int} (h : 0 < span) (h2 : span < 10 ^ 80) : SpV spAgeings [.int span, .int since, .int upto] H (.int (upto / span - since / span)) := spv_of fun H1 Q E e k => ⟨_, _, _, rfl, h, h2, k⟩
theorem ok_ageings (T : Tx K mg) : FnOk P w K mg base CX0 1 T.f_ageings T.fd_ageings P_ageings spAgeings := by
  refine T.F_ageings.ok sc_ageings (fun vs H Q E h => ?_) (fun cdv A outer s H vs Q E hr h => ?_)
  · obtain ⟨a, b, c, rfl, _⟩ := h
    rfl
  · obtain ⟨a, b, c, rfl, h1, h2, k⟩ := h
    refine ⟨_, (pss_one (ps_ret (pe_op op_sub (pe_op op_fdivW (pv 2) (pv 0)) (pe_op op_fdivW (pv 1) (pv 0))))), ?_⟩
    have d1 : CDivW c a := pos9 h1 h2
    have d2 : CDivW b a := pos9 h1 h2
    refine s_ret ?_ k
    walk_at "ev"
end

end Own
namespace Own
open PySem L2 PyProof.Rows Evl OwnS
/-- a condition of arithmetic -/
local macro_rules | `(tactic| walk_at "side") => `(tactic| first
  | assumption
  | (show _ ∧ _; omega)
  | (apply pos9 <;> omega)
  | (show (0 : Int) < _; omega)
  | (show _ ∨ _; omega)
  | decide
  | omega)
local macro_rules | `(tactic| walk_at "fn") => `(tactic| fail "no fn")
local macro_rules | `(tactic| walk_at "ev") => `(tactic| first
  | ((with_reducible apply ev_var) ; exact rfl)
  | with_reducible exact ev_c
  | ((with_reducible apply ev_op) <;> walk_at "ev")
  | with_reducible exact rv_I0
  | ((with_reducible apply rv_I) ; walk_at "side")
  | ((with_reducible apply rv_eq) ; rfl)
  | ((with_reducible apply rv_ne) ; rfl)
  | ((with_reducible apply ev_isInt) ; walk_at "ev")
  | ((with_reducible apply ev_isBoolI) ; walk_at "ev")
  | ((with_reducible apply ev_isIntB) ; walk_at "ev")
  | ((with_reducible apply ev_isBoolB) ; walk_at "ev")
  | ((with_reducible apply ev_notV) ; walk_at "ev")
  | ((with_reducible apply et_test) ; walk_at "ev")
  | ((with_reducible apply et_B) ; walk_at "ev")
  | ((with_reducible apply et_not) ; walk_at "ev")
  | with_reducible exact ea_nil
  | ((with_reducible apply ea_cons) <;> walk_at "ev")
  | ((with_reducible apply ev_call0) <;> walk_at "ev")
  | ((with_reducible show SpV _ _ _ _); walk_at "fn"))

/-! ### k04: bad numbers, bad names: what the rules say of them -/
inductive NumV (H : Hp) (a b : Int) : V → Bool → Prop
  | int (i : Int) : NumV H a b (.int i) (decide (a ≤ i) && decide (i ≤ b))
  | bl (y : Bool) : NumV H a b (.bl y) false
  | non : NumV H a b .non false
  | str (s : Str) : NumV H a b (.str s) false
  | lst {p : Addr} {xs : List V} (e : H p = some (.lst xs)) : NumV H a b (.ref p) false
theorem NumV.ex {H H' : Hp} {a b : Int} {v : V} {r : Bool} (h : NumV H a b v r) (e : Ex H H') : NumV H' a b v r := by
  cases h with
  | int i => exact .int i
  | bl y => exact .bl y
  | non => exact .non
  | str s => exact .str s
  | lst q => exact .lst (e _ _ q)
inductive BadS (H : Hp) : V → Prop
  | str (s : Str) (h : ¬ GoodName s) (hl : s.length ≤ 40000) : BadS H (.str s)
  | int (i : Int) : BadS H (.int i)
  | bl (y : Bool) : BadS H (.bl y)
  | non : BadS H .non
  | lst {p : Addr} {xs : List V} (e : H p = some (.lst xs)) : BadS H (.ref p)
  | tup {p : Addr} {xs : List V} (e : H p = some (.tup xs)) : BadS H (.ref p)
  | dict {p : Addr} {xs : List (Key × V)} (e : H p = some (.dK xs)) : BadS H (.ref p)
theorem BadS.ex {H H' : Hp} {v : V} (h : BadS H v) (e : Ex H H') : BadS H' v := by
  cases h with
  | str s h hl => exact .str s h hl
  | int i => exact .int i
  | bl y => exact .bl y
  | non => exact .non
  | lst q => exact .lst (e _ _ q)
  | tup q => exact .tup (e _ _ q)
  | dict q => exact .dict (e _ _ q)
theorem pss_never {X : Cx} {b : List Stmt} : PSs X b (fun _ _ _ => False) := ⟨fun _ _ _ _ _ _ h => h.elim⟩
theorem XRet.ex {C : Addr} {H H' : Hp} {E : XK} (h : XRet C H E) (e : Ex H H') : XRet C H' E := fun H2 e2 => h H2 (e.trans e2)
/-- a call as a statement that does not come back by a value -/
theorem q_dropX {σ : L2.St} {H : Hp} {D : Ends} {tz : TS} {sp : Sp} {vs : List V} {E : XK} {tr : TA} (ha : EvA tr σ H vs) (k : ∀ H1, Ex H H1 → sp vs H1 (fun _ H2 => tz D σ H2) E) : tSeq (tDrop (tCall sp [] E tr)) tz D σ H :=
  ha H (Ex.refl H) _ fun H1 e1 => by
    rw [List.append_nil]
    exact k H1 e1
theorem s_dropX {σ : L2.St} {H : Hp} {D : Ends} {sp : Sp} {vs : List V} {E : XK} {tr : TA} (ha : EvA tr σ H vs) (k : ∀ H1, Ex H H1 → sp vs H1 (fun _ H2 => D.nx σ H2) E) : tDrop (tCall sp [] E tr) D σ H :=
  q_dropX (D := D) (tz := fun _ σ H => D.nx σ H) ha k
section
variable {P : Program} {w : World} {K : PySem.W.Frag} {mg : Str → Option Value} {base : Heap}
def spWithinG : Sp := fun vs H Q _ => ∃ (v : V) (a b : Int) (r : Bool), vs = [v, .int a, .int b] ∧ NumV H a b v r ∧ RetV (.bl r) H Q
theorem sv_withinG {H : Hp} {v : V} {a b : Int} {r : Bool} (h : NumV H a b v r) : SpV spWithinG [v, .int a, .int b] H (.bl r) := spv_of fun H1 Q E e q => ⟨_, _, _, _, rfl, h.ex e, q⟩
theorem okG_within (T : Tx K mg) : FnOk P w K mg base CX0 1 T.f_within T.fd_within P_within spWithinG := by
  refine T.F_within.ok sc_within (fun vs H Q E h => ?_) (fun cdv A outer s H vs Q E hr h => ?_)
  · obtain ⟨_, _, _, _, rfl, _⟩ := h
    rfl
  · obtain ⟨v, a, b, r, rfl, hn, k⟩ := h
    refine ⟨_, (pss_cons (ps_if (PW.pt (pw_or (pt_not (pt_val (pe_callB call_isi (by rfl) T.n_isinstance (by decide +kernel) (pa_cons (pv 0) (pa_cons (pe_bltn (v := .ty "int") (u := .type "int") rfl T.n_int (by decide +kernel) rfl) pa_nil))))) (pw_or1 (pt_val (pe_callB call_isi (by rfl) T.n_isinstance (by decide +kernel) (pa_cons (pv 0) (pa_cons (pe_bltn (v := .ty "bool") (u := .type "bool") rfl T.n_bool (by decide +kernel) rfl) pa_nil))))))) (pss_one (ps_ret pe_bl)) pss_nil)
      (pss_one (ps_ret (pe_chain op_le op_le (pv 1) (pv 0) (pv 2))))), ?_⟩
    have no : ∀ {t : Value}, (∀ H1, Ex H H1 → TyX K H1 v t) → PySem.W.kitOne K t (.type "int") = some false → r = false → tSeq (tIfS (tOr (tNot (tB (tCB (rIsi K) (tCons (tVar 0) (tCons (tC (.ty "int")) tNil))))) (tB (tCB (rIsi K) (tCons (tVar 0) (tCons (tC (.ty "bool")) tNil))))) (tRet (tC (.bl false))) tNext) (tRet (tChain (rI0 fun i j => .bl (decide (i ≤ j))) (rI0 fun i j => .bl (decide (i ≤ j))) (tVar 1) (tVar 0) (tVar 2))) { nx := fun _ H' => Q .non H', rt := Q } (L2.start N_within [v, .int a, .int b]) H := by
      intro t ht hk hr
      subst hr
      refine q_when (b := true) (et_is (et_or (b := true) (et_not (et_B (ev_isi (ev_var rfl) ev_c (.ty _) ht hk))) (fun h => by cases h)) rfl) (fun _ H1 e1 => s_ret ev_c fun H2 e2 => k H2 (e1.trans e2)) (fun hb => nomatch hb)
    cases hn with
    | int i =>
      refine q_when (b := false) (et_is (et_or (et_not (et_B (ev_isInt (ev_var rfl)))) fun _ => et_B (ev_isBoolI (ev_var rfl))) rfl) (fun hb => nomatch hb) (fun _ H1 e1 => ?_)
      exact s_ret (ev_chain (ev_var rfl) (ev_var rfl) (ev_var rfl)) fun H2 e2 => k H2 (e1.trans e2)
    | bl y => exact q_when (b := true) (et_is (et_or (et_not (et_B (ev_isIntB (ev_var rfl)))) fun _ => et_B (ev_isBoolB (ev_var rfl))) rfl) (fun _ H1 e1 => s_ret ev_c fun H2 e2 => k H2 (e1.trans e2)) (fun hb => nomatch hb)
    | non => exact no (fun _ _ => .base .non) (kit_ty (by decide +kernel)) rfl
    | str z => exact no (fun _ _ => .base (.str _)) (kit_ty (by decide +kernel)) rfl
    | lst q => exact no (fun _ e => .base (.lst (e _ _ q))) (kit_ty (by decide +kernel)) rfl
def spWantNumberX (C : Addr) : Sp := fun vs H Q E => ∃ (v : V) (a b : Int) (r : Bool), vs = [v, .int a, .int b] ∧ NumV H a b v r ∧ (r = true → RetV .non H Q) ∧ (r = false → XRet C H E)
theorem okx_want_number (T : Tx K mg) : FnOk P w K mg base (L2.CX P w) 2 T.f_want_number T.fd_want_number P_want_number (spWantNumberX T.C_NoNumber) := by
  refine T.F_want_number.okX sc_want_number (fun vs H Q E h => ?_) (fun cdv A outer s H vs Q E hr h => ?_)
  · obtain ⟨_, _, _, _, rfl, _⟩ := h
    rfl
  · obtain ⟨v, a, b, r, rfl, hn, h1, h2⟩ := h
    refine ⟨_, (pss_one (ps_if (pt_not (pt_val (pe_call (okG_within T) (hr.mono (by decide)) rfl T.mg_within T.F_within.kp T.b_within .nil pass0 (pa_cons (pv 0) (pa_cons (pv 1) (pa_cons (pv 2) pa_nil)))))) (pss_one (ps_raise rfl (takes_of rfl rfl rfl rfl) (pmk_own PySem.F.excBase_ValueError T.xd_NoNumber.x T.mgC_NoNumber T.xd_NoNumber.k (raises_own T.xd_NoNumber.b T.xd_NoNumber.t) rfl))) pss_nil)), ?_⟩
    refine s_when (b := !r) (et_not (et_B (ev_call0 (ea_cons (ev_var rfl) (ea_cons (ev_var rfl) (ea_cons (ev_var rfl) ea_nil))) (sv_withinG hn)))) (fun hb H1 e1 => ?_) (fun hb H1 e1 => ?_)
    · exact h2 (by simpa using hb) H1 e1
    · exact h1 (by simpa using hb) H1 e1
def spWantRuleX (C : Addr) : Sp := fun vs H Q E => ∃ (u v : V) (r q : Bool), vs = [u, v] ∧ NumV H 1 100000000000000000000 u r ∧ NumV H 2 1000000000000000000000000000000 v q ∧ (r && q) = false ∧ XRet C H E
theorem okx_want_rule (T : Tx K mg) : FnOk P w K mg base (L2.CX P w) 2 T.f_want_rule T.fd_want_rule P_want_rule (spWantRuleX T.C_NoRule) := by
  refine T.F_want_rule.okX sc_want_rule (fun vs H Q E h => ?_) (fun cdv A outer s H vs Q E hr h => ?_)
  · obtain ⟨_, _, _, _, rfl, _⟩ := h
    rfl
  · obtain ⟨u, v, r, q, rfl, hu, hv, hrq, h2⟩ := h
    refine ⟨_, (pss_one (ps_if (PW.pt (pw_or (pt_not (pt_val (pe_call (okG_within T) (hr.mono (by decide)) rfl T.mg_within T.F_within.kp T.b_within .nil pass0 (pa_cons (pv 0) (pa_cons pe_int (pa_cons (pe_glob (v := .int 100000000000000000000) rfl T.c_MOST_SPAN.2 ⟨_, rfl⟩) pa_nil)))))) (pw_or1 (pt_not (pt_val (pe_call (okG_within T) (hr.mono (by decide)) rfl T.mg_within T.F_within.kp T.b_within .nil pass0 (pa_cons (pv 1) (pa_cons pe_int (pa_cons (pe_glob (v := .int 1000000000000000000000000000000) rfl T.c_MOST_NUMBER.2 ⟨_, rfl⟩) pa_nil))))))))) (pss_one (ps_raise rfl (takes_of rfl rfl rfl rfl) (pmk_own PySem.F.excBase_ValueError T.xd_NoRule.x T.mgC_NoRule T.xd_NoRule.k (raises_own T.xd_NoRule.b T.xd_NoRule.t) rfl))) pss_nil)), ?_⟩
    refine s_when (b := true) (et_is (et_or (et_not (et_B (ev_call0 (ea_cons (ev_var rfl) (ea_cons ev_c (ea_cons ev_c ea_nil))) (sv_withinG hu)))) fun _ => et_not (et_B (ev_call0 (ea_cons (ev_var rfl) (ea_cons ev_c (ea_cons ev_c ea_nil))) (sv_withinG hv))))
      (by rw [← Bool.not_and, hrq]; rfl)) (fun _ H1 e1 => ?_) (fun hb => nomatch hb)
    exact h2 H1 e1
def spWantNameX (C : Addr) : Sp := fun vs H Q E => ∃ v : V, vs = [v] ∧ ((∃ n, v = .str n ∧ GoodName n ∧ RetV .non H Q) ∨ (BadS H v ∧ XRet C H E))
theorem okx_want_name (T : Tx K mg) : FnOk P w K mg base (L2.CX P w) 2 T.f_want_name T.fd_want_name P_want_name (spWantNameX T.C_NoName) := by
  refine T.F_want_name.okX sc_want_name (fun vs H Q E h => ?_) (fun cdv A outer s H vs Q E hr h => ?_)
  · obtain ⟨_, rfl, _⟩ := h
    rfl
  · obtain ⟨v, rfl, h⟩ := h
    refine ⟨_, (pss_cons (ps_if (PW.pt (pw_or (pt_not (pt_val (pe_callB call_isi (by rfl) T.n_isinstance (by decide +kernel) (pa_cons (pv 0) (pa_cons (pe_bltn (v := .ty "str") (u := .type "str") rfl T.n_str (by decide +kernel) rfl) pa_nil))))) (pw_or1 (pt_not (pt_chain op_le op_le pe_int (pe_callB call_len_str (by rfl) T.n_len PySem.boot_len (pa_cons (pv 0) pa_nil)) (pe_glob (v := .int 40) rfl T.c_MOST_SIGNS.2 ⟨_, rfl⟩)))))) (pss_one (ps_raise rfl (takes_of rfl rfl rfl rfl) (pmk_own PySem.F.excBase_ValueError T.xd_NoName.x T.mgC_NoName T.xd_NoName.k (raises_own T.xd_NoName.b T.xd_NoName.t) rfl))) pss_nil)
      (pss_one (ps_if (pt_val (pe_callB (cr_any rfl) (by rfl) T.n_any (by decide +kernel) (pa_cons (pe_lc (own := [("sign", 1)]) (g := (gName 1)) (by rfl) sc_want_name.nd (pi_str (pv 0)) (blkOk_by (own := [("sign", 1)]) (N := N_want_name) (sc := defScope s_want_name) (by decide +kernel)) (fun _ _ _ _ _ => (pg_name (i := 1) sc_want_name.nd rfl (Or.inl rfl))) (fun _ _ _ _ _ => pts_nil) (fun _ _ _ _ _ => (pe_or (pe_cmpR op_lt_str (pv 1) pe_str (nomark _)) (pe_one (pe_cmpR op_gt_str (pv 1) pe_str (nomark _)))))) pa_nil))) (pss_one (ps_raise rfl (takes_of rfl rfl rfl rfl) (pmk_own PySem.F.excBase_ValueError T.xd_NoName.x T.mgC_NoName T.xd_NoName.k (raises_own T.xd_NoName.b T.xd_NoName.t) rfl))) pss_nil))), ?_⟩
    rw [show L2.start N_want_name [v] = [some v, none] from rfl]
    have no : ∀ {t : Value} {A B : TS} {u : TT}, (∀ H1, Ex H H1 → TyX K H1 v t) → PySem.W.kitOne K t (.type "str") = some false → (∀ D H1, Ex H H1 → A D [some v, none] H1) → tSeq (tIfS (tOr (tNot (tB (tCB (rIsi K) (tCons (tVar 0) (tCons (tC (.ty "str")) tNil))))) u) A tNext) B { nx := fun _ H' => Q .non H', rt := Q } [some v, none] H := by
      intro t A B u ht hk hA
      exact q_when (b := true) (et_is (et_or (b := true) (et_not (et_B (ev_isi (ev_var rfl) ev_c (.ty _) ht hk))) (fun h => by cases h)) rfl) (fun _ H1 e1 => hA _ H1 e1) (fun hb => nomatch hb)
    have hh : (∃ n, v = .str n ∧ n.length ≤ 40000 ∧ (GoodName n → RetV .non H Q) ∧ (¬ GoodName n → XRet T.C_NoName H E)) ∨ (BadS H v ∧ (∀ n, v ≠ .str n) ∧ XRet T.C_NoName H E) := by
      rcases h with ⟨n, rfl, hg, k⟩ | ⟨hB, k⟩
      · exact .inl ⟨n, rfl, by have := hg.2.1; omega, fun _ => k, fun q => absurd hg q⟩
      · cases hB with
        | str s h hl => exact .inl ⟨s, rfl, hl, fun q => absurd q h, fun _ => k⟩
        | int i => exact .inr ⟨.int i, (fun n e => nomatch e), k⟩
        | bl i => exact .inr ⟨.bl i, (fun n e => nomatch e), k⟩
        | non => exact .inr ⟨.non, (fun n e => nomatch e), k⟩
        | lst q => exact .inr ⟨.lst q, (fun n e => nomatch e), k⟩
        | tup q => exact .inr ⟨.tup q, (fun n e => nomatch e), k⟩
        | dict q => exact .inr ⟨.dict q, (fun n e => nomatch e), k⟩
    rcases hh with ⟨n, rfl, hl, g, b⟩ | ⟨hB, hne, k⟩
    · refine q_when (b := !(decide (1 ≤ (n.length : Int)) && decide ((n.length : Int) ≤ 40))) (et_is (et_or (et_not (et_B (ev_isStr (ev_var rfl)))) fun _ => et_not (et_tst (ev_chain ev_c (ev_lenS (z := n) (ev_var rfl) (by omega)) ev_c))) (by rfl)) (fun hb H1 e1 => ?_) (fun hb1 H1 e1 => ?_)
      · refine b (fun hg => ?_) H1 e1
        obtain ⟨h1, h2, h3⟩ := hg
        rw [decide_eq_true (by omega), decide_eq_true (by omega)] at hb
        cases hb
      have f1 : 1 ≤ n.length ∧ n.length ≤ 40 := by
        simp only [Bool.not_eq_false', Bool.and_eq_true, decide_eq_true_eq] at hb1
        omega
      obtain ⟨f, hf⟩ : ∃ f : Nat → Bool, ∀ i c, n.cps[i]? = some c → f i = (decide (c < 32) || decide (126 < c)) := ⟨fun i => match n.cps[i]? with | some c => decide (c < 32) || decide (126 < c) | none => false, fun i c h => by simp only [h]⟩
      refine s_when (b := ((List.range n.cps.size).map f).any id) (et_B (ev_any (el_lcB f (ei_str (ev_var rfl)) ?_ ?_))) (fun hb H2 e2 => ?_) (fun hb H2 e2 => ?_)
      · show n.cps.size ≤ 40000
        exact hl
      · rintro i H3 x H4 hi e3 ⟨rfl, c, hc, rfl⟩
        rw [hf i c hc]
        refine ⟨Ex.refl _, _, got_name, rfl, ?_⟩
        refine ev_is (ev_orV (a := decide (c < 32)) (b := decide (126 < c)) (ev_is (ev_op (ev_var rfl) ev_c (fun H5 _ Q5 q5 => ⟨_, _, rfl, rfl, q5 H5 (Ex.refl _)⟩)) ?_) fun _ => ev_is (ev_op (ev_var rfl) ev_c (fun H5 _ Q5 q5 => ⟨_, _, rfl, rfl, q5 H5 (Ex.refl _)⟩)) ?_) rfl
        · rw [lt_sign]
        · rw [gt_sign]
      · refine b (fun hg => ?_) H2 (e1.trans e2)
        rw [List.any_eq_true] at hb
        obtain ⟨x, hx, hx2⟩ := hb
        obtain ⟨i, hi, rfl⟩ := List.mem_map.mp hx
        have hi := List.mem_range.mp hi
        have hc : n.cps[i]? = some n.cps[i] := Array.getElem?_eq_getElem hi
        have q := hg.2.2 n.cps[i] (by rw [← Array.getElem_toList]; exact List.getElem_mem _)
        rw [id, hf i _ hc, decide_eq_false (by omega), decide_eq_false (by omega)] at hx2
        cases hx2
      · refine g ⟨f1.1, f1.2, fun c hc => ?_⟩ H2 (e1.trans e2)
        obtain ⟨i, hi, rfl⟩ := List.mem_iff_getElem.mp hc
        rw [List.any_eq_false] at hb
        have hc : n.cps[i]? = some n.cps[i] := Array.getElem?_eq_getElem hi
        have q := hb (f i) (List.mem_map.mpr ⟨i, List.mem_range.mpr hi, rfl⟩)
        rw [id, hf i _ hc] at q
        simp only [Bool.or_eq_true, decide_eq_true_eq, not_or] at q
        rw [Array.getElem_toList]
        omega
    cases hB with
    | str s h hl => exact absurd rfl (hne s)
    | int i => exact no (fun _ _ => .base (.int _)) (kit_ty (by decide +kernel)) (fun _ H1 e1 => k H1 e1)
    | bl i => exact no (fun _ _ => .base (.bl _)) (kit_ty (by decide +kernel)) (fun _ H1 e1 => k H1 e1)
    | non => exact no (fun _ _ => .base .non) (kit_ty (by decide +kernel)) (fun _ H1 e1 => k H1 e1)
    | lst q => exact no (fun _ e => .base (.lst (e _ _ q))) (kit_ty (by decide +kernel)) (fun _ H1 e1 => k H1 e1)
    | tup q => exact no (fun _ e => .base (.tup (e _ _ q))) (kit_ty (by decide +kernel)) (fun _ H1 e1 => k H1 e1)
    | dict q => exact no (fun _ e => .base (.dK (e _ _ q))) (kit_ty (by decide +kernel)) (fun _ H1 e1 => k H1 e1)
end

end Own
namespace Own
open PySem L2 PyProof.Rows Evl OwnS
/-- a condition of arithmetic -/
local macro_rules | `(tactic| walk_at "side") => `(tactic| first
  | assumption
  | (show _ ∧ _; omega)
  | (apply pos9 <;> omega)
  | (show (0 : Int) < _; omega)
  | (show _ ∨ _; omega)
  | decide
  | omega)
local macro_rules | `(tactic| walk_at "fn") => `(tactic| fail "no fn")
local macro_rules | `(tactic| walk_at "ev") => `(tactic| first
  | ((with_reducible apply ev_var) ; exact rfl)
  | with_reducible exact ev_c
  | ((with_reducible apply ev_op) <;> walk_at "ev")
  | with_reducible exact rv_I0
  | ((with_reducible apply rv_I) ; walk_at "side")
  | ((with_reducible apply rv_eq) ; rfl)
  | ((with_reducible apply rv_ne) ; rfl)
  | ((with_reducible apply ev_isInt) ; walk_at "ev")
  | ((with_reducible apply ev_isBoolI) ; walk_at "ev")
  | ((with_reducible apply ev_isIntB) ; walk_at "ev")
  | ((with_reducible apply ev_isBoolB) ; walk_at "ev")
  | ((with_reducible apply ev_notV) ; walk_at "ev")
  | ((with_reducible apply et_test) ; walk_at "ev")
  | ((with_reducible apply et_B) ; walk_at "ev")
  | ((with_reducible apply et_not) ; walk_at "ev")
  | with_reducible exact ea_nil
  | ((with_reducible apply ea_cons) <;> walk_at "ev")
  | ((with_reducible apply ev_call0) <;> walk_at "ev")
  | ((with_reducible show SpV _ _ _ _); walk_at "fn"))

/-! ### k04: the methods, called badly -/
section
variable {P : Program} {w : World} {K : PySem.W.Frag} {mg : Str → Option Value} {base : Heap}
/-- one argument, a bad name; a bad number of a range -/
def spNameX (C : Addr) : Sp := fun vs H Q E => ∃ z v : V, vs = [z, v] ∧ BadS H v ∧ XRet C H E
def spNumX (a b : Int) (C : Addr) : Sp := fun vs H Q E => ∃ z v : V, vs = [z, v] ∧ NumV H a b v false ∧ XRet C H E
theorem sx_name {σ : L2.St} {H : Hp} {D : Ends} {tz : TS} {E : XK} {ta : TE} {C : Addr} {v : V} (h : Ev ta σ H v) (hv : BadS H v) (hx : XRet C H E) : tSeq (tDrop (tCall (spWantNameX C) [] E (tCons ta tNil))) tz D σ H :=
  q_dropX (ea_cons h ea_nil) fun H1 e1 => ⟨v, rfl, .inr ⟨hv.ex e1, hx.ex e1⟩⟩
theorem sx_num {σ : L2.St} {H : Hp} {D : Ends} {tz : TS} {E : XK} {ta tb tc : TE} {C : Addr} {v : V} {a b : Int} (h : Ev ta σ H v) (hb : Ev tb σ H (.int a)) (hc : Ev tc σ H (.int b)) (hv : NumV H a b v false) (hx : XRet C H E) : tSeq (tDrop (tCall (spWantNumberX C) [] E (tCons ta (tCons tb (tCons tc tNil))))) tz D σ H :=
  q_dropX (ea_cons h (ea_cons hb (ea_cons hc ea_nil))) fun H1 e1 => ⟨v, a, b, false, rfl, hv.ex e1, (fun h => nomatch h), fun _ => hx.ex e1⟩

theorem okx_Book_drop (T : Tx K mg) : FnOk P w K mg base (L2.CX P w) 7 T.f_Book_drop T.fd_Book_drop P_Book_drop (spNameX T.C_NoName) := by
  refine T.F_Book_drop.okX sc_Book_drop (fun vs H Q E h => ?_) (fun cdv A outer s H vs Q E hr h => ?_)
  · obtain ⟨_, _, rfl, _⟩ := h
    rfl
  · obtain ⟨z, v, rfl, hv, hx⟩ := h
    refine ⟨_, (pss_cons (ps_expr (pe_call (okx_want_name T) (hr.mono (by decide)) rfl T.mg_want_name T.F_want_name.kp T.b_want_name .nil (passes_call (takes_of rfl rfl rfl rfl) fun _ _ _ _ h => h) (pa_cons (pv 1) pa_nil)))
      pss_never), ?_⟩
    exact sx_name (ev_var rfl) hv hx

theorem okx_Book_count_of (T : Tx K mg) : FnOk P w K mg base (L2.CX P w) 3 T.f_Book_count_of T.fd_Book_count_of P_Book_count_of (spNameX T.C_NoName) := by
  refine T.F_Book_count_of.okX sc_Book_count_of (fun vs H Q E h => ?_) (fun cdv A outer s H vs Q E hr h => ?_)
  · obtain ⟨_, _, rfl, _⟩ := h
    rfl
  · obtain ⟨z, v, rfl, hv, hx⟩ := h
    refine ⟨_, (pss_cons (ps_expr (pe_call (okx_want_name T) (hr.mono (by decide)) rfl T.mg_want_name T.F_want_name.kp T.b_want_name .nil (passes_call (takes_of rfl rfl rfl rfl) fun _ _ _ _ h => h) (pa_cons (pv 1) pa_nil)))
      pss_never), ?_⟩
    exact sx_name (ev_var rfl) hv hx

theorem okx_Book_last_of (T : Tx K mg) : FnOk P w K mg base (L2.CX P w) 3 T.f_Book_last_of T.fd_Book_last_of P_Book_last_of (spNameX T.C_NoName) := by
  refine T.F_Book_last_of.okX sc_Book_last_of (fun vs H Q E h => ?_) (fun cdv A outer s H vs Q E hr h => ?_)
  · obtain ⟨_, _, rfl, _⟩ := h
    rfl
  · obtain ⟨z, v, rfl, hv, hx⟩ := h
    refine ⟨_, (pss_cons (ps_expr (pe_call (okx_want_name T) (hr.mono (by decide)) rfl T.mg_want_name T.F_want_name.kp T.b_want_name .nil (passes_call (takes_of rfl rfl rfl rfl) fun _ _ _ _ h => h) (pa_cons (pv 1) pa_nil)))
      pss_never), ?_⟩
    exact sx_name (ev_var rfl) hv hx

theorem okx_Shelf_has (T : Tx K mg) : FnOk P w K mg base (L2.CX P w) 3 T.f_Shelf_has T.fd_Shelf_has P_Shelf_has (spNameX T.C_NoName) := by
  refine T.F_Shelf_has.okX sc_Shelf_has (fun vs H Q E h => ?_) (fun cdv A outer s H vs Q E hr h => ?_)
  · obtain ⟨_, _, rfl, _⟩ := h
    rfl
  · obtain ⟨z, v, rfl, hv, hx⟩ := h
    refine ⟨_, (pss_cons (ps_expr (pe_call (okx_want_name T) (hr.mono (by decide)) rfl T.mg_want_name T.F_want_name.kp T.b_want_name .nil (passes_call (takes_of rfl rfl rfl rfl) fun _ _ _ _ h => h) (pa_cons (pv 1) pa_nil)))
      pss_never), ?_⟩
    exact sx_name (ev_var rfl) hv hx

theorem okx_Book_rest (T : Tx K mg) : FnOk P w K mg base (L2.CX P w) 7 T.f_Book_rest T.fd_Book_rest P_Book_rest (spNumX 0 1000000000000000000000000000000 T.C_NoNumber) := by
  refine T.F_Book_rest.okX sc_Book_rest (fun vs H Q E h => ?_) (fun cdv A outer s H vs Q E hr h => ?_)
  · obtain ⟨_, _, rfl, _⟩ := h
    rfl
  · obtain ⟨z, v, rfl, hv, hx⟩ := h
    refine ⟨_, (pss_cons (ps_expr (pe_call (okx_want_number T) (hr.mono (by decide)) rfl T.mg_want_number T.F_want_number.kp T.b_want_number .nil (passes_call (takes_of rfl rfl rfl rfl) fun _ _ _ _ h => h) (pa_cons (pv 1) (pa_cons pe_int (pa_cons (pe_glob (v := .int 1000000000000000000000000000000) rfl T.c_MOST_NUMBER.2 ⟨_, rfl⟩) pa_nil)))))
      pss_never), ?_⟩
    exact sx_num (ev_var rfl) ev_c ev_c hv hx

theorem okx_Row_names_at (T : Tx K mg) : FnOk P w K mg base (L2.CX P w) 4 T.f_Row_names_at T.fd_Row_names_at P_Row_names_at (spNumX 1 1000 T.C_NoNumber) := by
  refine T.F_Row_names_at.okX sc_Row_names_at (fun vs H Q E h => ?_) (fun cdv A outer s H vs Q E hr h => ?_)
  · obtain ⟨_, _, rfl, _⟩ := h
    rfl
  · obtain ⟨z, v, rfl, hv, hx⟩ := h
    refine ⟨_, (pss_cons (ps_expr (pe_call (okx_want_number T) (hr.mono (by decide)) rfl T.mg_want_number T.F_want_number.kp T.b_want_number .nil (passes_call (takes_of rfl rfl rfl rfl) fun _ _ _ _ h => h) (pa_cons (pv 1) (pa_cons pe_int (pa_cons (pe_glob (v := .int 1000) rfl T.c_MOST_PLACES.2 ⟨_, rfl⟩) pa_nil)))))
      pss_never), ?_⟩
    exact sx_num (ev_var rfl) ev_c ev_c hv hx

theorem okx_Row_met_by (T : Tx K mg) : FnOk P w K mg base (L2.CX P w) 3 T.f_Row_met_by T.fd_Row_met_by P_Row_met_by (spNumX 1 1000 T.C_NoNumber) := by
  refine T.F_Row_met_by.okX sc_Row_met_by (fun vs H Q E h => ?_) (fun cdv A outer s H vs Q E hr h => ?_)
  · obtain ⟨_, _, rfl, _⟩ := h
    rfl
  · obtain ⟨z, v, rfl, hv, hx⟩ := h
    refine ⟨_, (pss_cons (ps_expr (pe_call (okx_want_number T) (hr.mono (by decide)) rfl T.mg_want_number T.F_want_number.kp T.b_want_number .nil (passes_call (takes_of rfl rfl rfl rfl) fun _ _ _ _ h => h) (pa_cons (pv 1) (pa_cons pe_int (pa_cons (pe_glob (v := .int 1000) rfl T.c_MOST_PLACES.2 ⟨_, rfl⟩) pa_nil)))))
      pss_never), ?_⟩
    exact sx_num (ev_var rfl) ev_c ev_c hv hx

theorem okx_Row_enough (T : Tx K mg) : FnOk P w K mg base (L2.CX P w) 3 T.f_Row_enough T.fd_Row_enough P_Row_enough (spNumX 0 1000000000000000000000000000000 T.C_NoNumber) := by
  refine T.F_Row_enough.okX sc_Row_enough (fun vs H Q E h => ?_) (fun cdv A outer s H vs Q E hr h => ?_)
  · obtain ⟨_, _, rfl, _⟩ := h
    rfl
  · obtain ⟨z, v, rfl, hv, hx⟩ := h
    refine ⟨_, (pss_cons (ps_expr (pe_call (okx_want_number T) (hr.mono (by decide)) rfl T.mg_want_number T.F_want_number.kp T.b_want_number .nil (passes_call (takes_of rfl rfl rfl rfl) fun _ _ _ _ h => h) (pa_cons (pv 1) (pa_cons pe_int (pa_cons (pe_glob (v := .int 1000000000000000000000000000000) rfl T.c_MOST_NUMBER.2 ⟨_, rfl⟩) pa_nil)))))
      pss_never), ?_⟩
    exact sx_num (ev_var rfl) ev_c ev_c hv hx

def spAskX (C D : Addr) : Sp := fun vs H Q E => ∃ z v u : V, vs = [z, v, u] ∧ ((BadS H v ∧ XRet C H E) ∨ (∃ n, v = .str n ∧ GoodName n ∧ NumV H 1 1000000000000000000000000000000 u false ∧ XRet D H E))
theorem okx_Book_ask (T : Tx K mg) : FnOk P w K mg base (L2.CX P w) 9 T.f_Book_ask T.fd_Book_ask P_Book_ask (spAskX T.C_NoName T.C_NoNumber) := by
  refine T.F_Book_ask.ok sc_Book_ask (fun vs H Q E h => ?_) (fun cdv A outer s H vs Q E hr h => ?_)
  · obtain ⟨_, _, _, rfl, _⟩ := h
    rfl
  · obtain ⟨z, v, u, rfl, h⟩ := h
    refine ⟨_, (pss_cons (ps_expr (pe_call (okx_want_name T) (hr.mono (by decide)) rfl T.mg_want_name T.F_want_name.kp T.b_want_name .nil (passes_call (takes_of rfl rfl rfl rfl) fun _ _ _ _ h => h) (pa_cons (pv 1) pa_nil)))
      (pss_cons (ps_expr (pe_call (okx_want_number T) (hr.mono (by decide)) rfl T.mg_want_number T.F_want_number.kp T.b_want_number .nil (passes_call (takes_of rfl rfl rfl rfl) fun _ _ _ _ h => h) (pa_cons (pv 2) (pa_cons pe_int (pa_cons (pe_glob (v := .int 1000000000000000000000000000000) rfl T.c_MOST_NUMBER.2 ⟨_, rfl⟩) pa_nil)))))
      pss_never)), ?_⟩
    rcases h with ⟨hv, hx⟩ | ⟨n, rfl, hg, hu, hx⟩
    · exact sx_name (ev_var rfl) hv hx
    · exact q_dropX (ea_cons (ev_var rfl) ea_nil) fun H1 e1 => ⟨_, rfl, .inl ⟨n, rfl, hg, fun H2 e2 => sx_num (ev_var rfl) ev_c ev_c (hu.ex (e1.trans e2)) (hx.ex (e1.trans e2))⟩⟩
/-- a rule that is none: the values of span and part, whether each is good -/
def BadR (H : Hp) (u v : V) : Prop := ∃ r q : Bool, NumV H 1 100000000000000000000 u r ∧ NumV H 2 1000000000000000000000000000000 v q ∧ (r && q) = false
theorem BadR.ex {H H' : Hp} {u v : V} (h : BadR H u v) (e : Ex H H') : BadR H' u v := by
  obtain ⟨r, q, h1, h2, h3⟩ := h
  exact ⟨r, q, h1.ex e, h2.ex e, h3⟩
def spInitX (C : Addr) : Sp := fun vs H Q E => ∃ z u v : V, vs = [z, u, v] ∧ BadR H u v ∧ XRet C H E
theorem okx_Book_init (T : Tx K mg) : FnOk P w K mg base (L2.CX P w) 3 T.f_Book_init T.fd_Book_init P_Book_init (spInitX T.C_NoRule) := by
  refine T.F_Book_init.okX sc_Book_init (fun vs H Q E h => ?_) (fun cdv A outer s H vs Q E hr h => ?_)
  · obtain ⟨_, _, _, rfl, _⟩ := h
    rfl
  · obtain ⟨z, u, v, rfl, h, hx⟩ := h
    refine ⟨_, (pss_cons (ps_expr (pe_call (okx_want_rule T) (hr.mono (by decide)) rfl T.mg_want_rule T.F_want_rule.kp T.b_want_rule .nil (passes_call (takes_of rfl rfl rfl rfl) fun _ _ _ _ h => h) (pa_cons (pv 1) (pa_cons (pv 2) pa_nil))))
      pss_never), ?_⟩
    refine q_dropX (ea_cons (ev_var rfl) (ea_cons (ev_var rfl) ea_nil)) fun H1 e1 => ?_
    obtain ⟨r, q, h1, h2, h3⟩ := h
    exact ⟨u, v, r, q, rfl, h1.ex e1, h2.ex e1, h3, hx.ex e1⟩
theorem okx_Row_init (T : Tx K mg) : FnOk P w K mg base (L2.CX P w) 4 T.f_Row_init T.fd_Row_init P_Row_init (spInitX T.C_NoRule) := by
  refine T.F_Row_init.okX sc_Row_init (fun vs H Q E h => ?_) (fun cdv A outer s H vs Q E hr h => ?_)
  · obtain ⟨_, _, _, rfl, _⟩ := h
    rfl
  · obtain ⟨z, u, v, rfl, h, hx⟩ := h
    have b_init := T.b_Book_init
    refine ⟨_, (pss_cons (ps_expr (pe_clsCall (pe_glob (v := .ref T.C_Book) rfl T.mgC_Book rfl) T.cdf (okx_Book_init T) (hr.mono (by decide)) b_init .nil (passes_call (takes_of rfl rfl rfl rfl) fun _ _ _ _ h => h) (pa_cons (pv 0) (pa_cons (pv 1) (pa_cons (pv 2) pa_nil)))))
      pss_never), ?_⟩
    exact q_dropCls (vs := [z, u, v]) (ea_cons (ev_var rfl) (ea_cons (ev_var rfl) (ea_cons (ev_var rfl) ea_nil))) fun H1 e1 => ⟨z, u, v, rfl, h.ex e1, hx.ex e1⟩
/-- bad places; good places and a bad rule -/
def spInitSX (C D : Addr) : Sp := fun vs H Q E => ∃ z x u v : V, vs = [z, x, u, v] ∧ ((NumV H 1 1000 x false ∧ XRet C H E) ∨ (NumV H 1 1000 x true ∧ BadR H u v ∧ XRet D H E))
theorem okx_Shelf_init (T : Tx K mg) : FnOk P w K mg base (L2.CX P w) 4 T.f_Shelf_init T.fd_Shelf_init P_Shelf_init (spInitSX T.C_NoNumber T.C_NoRule) := by
  refine T.F_Shelf_init.okX sc_Shelf_init (fun vs H Q E h => ?_) (fun cdv A outer s H vs Q E hr h => ?_)
  · obtain ⟨_, _, _, _, rfl, _⟩ := h
    rfl
  · obtain ⟨z, x, u, v, rfl, h⟩ := h
    have b_init := T.b_Book_init
    refine ⟨_, (pss_cons (ps_expr (pe_call (okx_want_number T) (hr.mono (by decide)) rfl T.mg_want_number T.F_want_number.kp T.b_want_number .nil (passes_call (takes_of rfl rfl rfl rfl) fun _ _ _ _ h => h) (pa_cons (pv 1) (pa_cons pe_int (pa_cons (pe_glob (v := .int 1000) rfl T.c_MOST_PLACES.2 ⟨_, rfl⟩) pa_nil)))))
      (pss_cons (ps_expr (pe_clsCall (pe_glob (v := .ref T.C_Book) rfl T.mgC_Book rfl) T.cdf (okx_Book_init T) (hr.mono (by decide)) b_init .nil (passes_call (takes_of rfl rfl rfl rfl) fun _ _ _ _ h => h) (pa_cons (pv 0) (pa_cons (pv 2) (pa_cons (pv 3) pa_nil)))))
      pss_never)), ?_⟩
    rcases h with ⟨hv, hx⟩ | ⟨hv, h, hx⟩
    · exact sx_num (ev_var rfl) ev_c ev_c hv hx
    · exact q_dropX (ea_cons (ev_var rfl) (ea_cons ev_c (ea_cons ev_c ea_nil))) fun H1 e1 => ⟨_, _, _, true, rfl, hv.ex e1, (fun _ H2 e2 => q_dropCls (vs := [z, u, v]) (ea_cons (ev_var rfl) (ea_cons (ev_var rfl) (ea_cons (ev_var rfl) ea_nil))) fun H3 e3 => ⟨z, u, v, rfl, h.ex ((e1.trans e2).trans e3), hx.ex ((e1.trans e2).trans e3)⟩), (fun h => nomatch h)⟩
end

end Own
namespace Own
open PySem L2 PyProof.Rows Evl OwnS
/-- a condition of arithmetic -/
local macro_rules | `(tactic| walk_at "side") => `(tactic| first
  | assumption
  | (show _ ∧ _; omega)
  | (apply pos9 <;> omega)
  | (show (0 : Int) < _; omega)
  | (show _ ∨ _; omega)
  | decide
  | omega)
local macro_rules | `(tactic| walk_at "fn") => `(tactic| fail "no fn")
local macro_rules | `(tactic| walk_at "ev") => `(tactic| first
  | ((with_reducible apply ev_var) ; exact rfl)
  | with_reducible exact ev_c
  | ((with_reducible apply ev_op) <;> walk_at "ev")
  | with_reducible exact rv_I0
  | ((with_reducible apply rv_I) ; walk_at "side")
  | ((with_reducible apply rv_eq) ; rfl)
  | ((with_reducible apply rv_ne) ; rfl)
  | ((with_reducible apply ev_isInt) ; walk_at "ev")
  | ((with_reducible apply ev_isBoolI) ; walk_at "ev")
  | ((with_reducible apply ev_isIntB) ; walk_at "ev")
  | ((with_reducible apply ev_isBoolB) ; walk_at "ev")
  | ((with_reducible apply ev_notV) ; walk_at "ev")
  | ((with_reducible apply et_test) ; walk_at "ev")
  | ((with_reducible apply et_B) ; walk_at "ev")
  | ((with_reducible apply et_not) ; walk_at "ev")
  | with_reducible exact ea_nil
  | ((with_reducible apply ea_cons) <;> walk_at "ev")
  | ((with_reducible apply ev_call0) <;> walk_at "ev")
  | ((with_reducible show SpV _ _ _ _); walk_at "fn"))

/-! ### book.py, for every kind -/
section
variable {P : Program} {w : World} {K : PySem.W.Frag} {mg : Str → Option Value} {base : Heap}
def spGone (k : Kd) (C : Addr) : Sp := fun vs H Q _ => ∃ (ad : Ad) (s : Th) (n r : Str), vs = [.ref ad.p, .str n, .str r] ∧ At k C ad H s ∧ WF k s ∧ s.deed ≤ 1000 ∧ ∀ H', At k C ad H' (k.gone s n r).2 → Kp k ad H H' → Q (.bl (k.gone s n r).1) H'
def spCame (k : Kd) (C : Addr) : Sp := fun vs H Q _ => ∃ (ad : Ad) (s : Th) (n : Str), vs = [.ref ad.p, .str n] ∧ At k C ad H s ∧ WF k s ∧ s.deed ≤ 1000 ∧ ∀ H', At k C ad H' (k.came s n).2 → Kp k ad H H' → Q (k.came s n).1 H'
def spInside (k : Kd) (C : Addr) : Sp := fun vs H Q _ => ∃ (ad : Ad) (s : Th), vs = [.ref ad.p] ∧ At k C ad H s ∧ WF k s ∧ s.deed ≤ 1000 ∧ RetL ((k.inside s).map V.str) H Q
/-- what a class must have: its attributes, the methods of Book -/
structure Cl0 (T : Tx K mg) (C : Addr) where
  cl : Cls K C
  nspan : NoAttr K C "span"
  npart : NoAttr K C "part"
  ntime : NoAttr K C "time"
  ndeed : NoAttr K C "deed"
  ncounts : NoAttr K C "counts"
  nlasts : NoAttr K C "lasts"
  m_ask : Meth K C "ask" T.f_Book_ask
  m_rest : Meth K C "rest" T.f_Book_rest
  m_drop : Meth K C "drop" T.f_Book_drop
  m_spend : Meth K C "spend" T.f_Book_spend
  m_names : Meth K C "names" T.f_Book_names
  m_rank : Meth K C "rank" T.f_Book_rank
  m_time_now : Meth K C "time_now" T.f_Book_time_now
  m_deeds_done : Meth K C "deeds_done" T.f_Book_deeds_done
  m_count_of : Meth K C "count_of" T.f_Book_count_of
  m_last_of : Meth K C "last_of" T.f_Book_last_of
  bm_rank : BMeth K C "rank" T.f_Book_rank
  bm_asked_at : BMeth K C "asked_at" T.f_Book_asked_at
/-- and what its kind may have of its own -/
structure Vt (P : Program) (w : World) (base : Heap) (T : Tx K mg) (k : Kd) (C : Addr) extends Cl0 T C where
  f_came : Addr
  fd_came : FuncData
  m_came : Meth K C "came" f_came
  b_came : Binds K fd_came ["self", "name"] []
  ok_came : FnOk P w K mg base CX0 8 f_came fd_came ["self", "name"] (spCame k C)
  f_gone : Addr
  fd_gone : FuncData
  m_gone : Meth K C "gone" f_gone
  b_gone : Binds K fd_gone ["self", "name", "reason"] []
  ok_gone : FnOk P w K mg base CX0 4 f_gone fd_gone ["self", "name", "reason"] (spGone k C)
  f_inside : Addr
  fd_inside : FuncData
  m_inside : Meth K C "inside" f_inside
  b_inside : Binds K fd_inside ["self"] []
  ok_inside : FnOk P w K mg base CX0 2 f_inside fd_inside ["self"] (spInside k C)
variable {k : Kd} {C : Addr}
theorem nm_asked {ad : Ad} {s : Th} : (flds k ad s).lookup ("asked_at" : Str) = none := by cases k <;> kernel_rfl
theorem nm_rank {ad : Ad} {s : Th} : (flds k ad s).lookup ("rank" : Str) = none := by cases k <;> kernel_rfl
theorem nm_spend {ad : Ad} {s : Th} : (flds k ad s).lookup ("spend" : Str) = none := by cases k <;> kernel_rfl
theorem nm_came {ad : Ad} {s : Th} : (flds k ad s).lookup ("came" : Str) = none := by cases k <;> kernel_rfl
theorem nm_gone {ad : Ad} {s : Th} : (flds k ad s).lookup ("gone" : Str) = none := by cases k <;> kernel_rfl
theorem nm_inside {ad : Ad} {s : Th} : (flds k ad s).lookup ("inside" : Str) = none := by cases k <;> kernel_rfl
theorem val_c {es : List Ent} {n : Str} (h : n ∈ es.map (·.1)) : valV (dOf cV es) (Sum.inr n : Key) = some (.int (cntE es n)) := by
  rw [valV_dOf]
  have := look_mem.mpr h
  unfold cntE
  cases e : look es n with
  | none => rw [e] at this; cases this
  | some p => rfl
theorem val_l {es : List Ent} {n : Str} (h : n ∈ es.map (·.1)) : valV (dOf lV es) (Sum.inr n : Key) = some (.int (lstE es n)) := by
  rw [valV_dOf]
  have := look_mem.mpr h
  unfold lstE
  cases e : look es n with
  | none => rw [e] at this; cases this
  | some p => rfl
def spAskedAt (k : Kd) (C : Addr) : Sp := fun vs H Q _ => ∃ (ad : Ad) (s : Th) (n : Str), vs = [.ref ad.p, .str n] ∧ At k C ad H s ∧ n ∈ s.es.map (·.1) ∧ RetV (.int (lstE s.es n)) H Q
theorem ok_Book_asked_at (T : Tx K mg) (U : Cl0 T C) : FnOk P w K mg base CX0 1 T.f_Book_asked_at T.fd_Book_asked_at P_Book_asked_at (spAskedAt k C) := by
  refine T.F_Book_asked_at.ok sc_Book_asked_at (fun vs H Q E h => ?_) (fun cdv A outer s H vs Q E hr h => ?_)
  · obtain ⟨a, b, c, rfl, _⟩ := h
    rfl
  · obtain ⟨ad, s, n, rfl, A, hn, kk⟩ := h
    have hu := hu_of hr
    refine ⟨_, (pss_one (ps_ret (pe_dget hu (pe_fld (pv 0) rfl) (pv 1) (fun _ _ => rfl)))), ?_⟩
    exact s_ret (ev_dget (ev_fld (ev_var rfl) A.ob U.cl U.nlasts fl_lasts) (ev_var rfl) A.ls (val_l hn)) kk
def spRank (k : Kd) (C : Addr) : Sp := fun vs H Q _ => ∃ (ad : Ad) (s : Th) (n : Str), vs = [.ref ad.p, .str n] ∧ At k C ad H s ∧ n ∈ s.es.map (·.1) ∧ RetP (fun v H' => ∃ t, v = .ref t ∧ H' t = some (.tup [.int (cntE s.es n), .int (lstE s.es n)])) H Q
theorem ok_Book_rank (T : Tx K mg) (U : Cl0 T C) : FnOk P w K mg base CX0 1 T.f_Book_rank T.fd_Book_rank P_Book_rank (spRank k C) := by
  refine T.F_Book_rank.ok sc_Book_rank (fun vs H Q E h => ?_) (fun cdv A outer s H vs Q E hr h => ?_)
  · obtain ⟨a, b, c, rfl, _⟩ := h
    rfl
  · obtain ⟨ad, s, n, rfl, A, hn, kk⟩ := h
    have hu := hu_of hr
    refine ⟨_, (pss_one (ps_ret (pe_tup (pa_cons (pe_dget hu (pe_fld (pv 0) rfl) (pv 1) (fun _ _ => rfl)) (pa_cons (pe_dget hu (pe_fld (pv 0) rfl) (pv 1) (fun _ _ => rfl)) pa_nil))))), ?_⟩
    exact s_retU (eu_tup (ea_cons (ev_dget (ev_fld (ev_var rfl) A.ob U.cl U.ncounts fl_counts) (ev_var rfl) A.ct (val_c hn)) (ea_cons (ev_dget (ev_fld (ev_var rfl) A.ob U.cl U.nlasts fl_lasts) (ev_var rfl) A.ls (val_l hn)) ea_nil)) (by simp)) fun p H1 _ e1 h1 => kk _ H1 e1 ⟨p, rfl, h1⟩
def strOf : V → Str
  | .str n => n
  | _ => ""
/-- the keys' calls, as the sorts ask them -/
theorem asked_calls {ad : Ad} {s : Th} {H : Hp} (A : At k C ad H s) {ns : List Str} (hn : ∀ n ∈ ns, n ∈ s.es.map (·.1)) {X : Cx} : ∀ x ∈ ns.map V.str, SpP (spAskedAt k C) [.ref ad.p, x] H (fun v H2 => (kdInt X).KV (lstE s.es (strOf x)) v H2) := by
  intro x hx
  obtain ⟨n, h1, rfl⟩ := List.mem_map.mp hx
  exact fun H1 e Q q E => ⟨ad, s, n, rfl, A.ex e, hn n h1, fun H2 e2 => q _ H2 e2 rfl⟩
theorem rank_calls {ad : Ad} {s : Th} {H : Hp} (A : At k C ad H s) {ns : List Str} (hn : ∀ n ∈ ns, n ∈ s.es.map (·.1)) {X : Cx} : ∀ x ∈ ns.map V.str, SpP (spRank k C) [.ref ad.p, x] H (fun v H2 => (kdPair X).KV (rankE s.es (strOf x)) v H2) := by
  intro x hx
  obtain ⟨n, h1, rfl⟩ := List.mem_map.mp hx
  exact fun H1 e Q q E => ⟨ad, s, n, rfl, A.ex e, hn n h1, fun v H2 e2 h => q v H2 e2 h⟩
theorem map_str {ys : List V} {ns : List Str} (h : ys.Perm (ns.map V.str)) : ∃ ms : List Str, ys = ms.map V.str ∧ ms.Perm ns := by
  refine ⟨ys.map strOf, ?_, ?_⟩
  · rw [List.map_map]
    have : ∀ y ∈ ys, (V.str ∘ strOf) y = y := fun y hy => by
      obtain ⟨n, _, rfl⟩ := List.mem_map.mp (h.mem_iff.mp hy)
      rfl
    symm
    calc ys.map (V.str ∘ strOf) = ys.map id := List.map_congr_left this
      _ = ys := List.map_id ys
  · have := h.map strOf
    rw [List.map_map] at this
    have e : ns.map (strOf ∘ V.str) = ns := by
      calc ns.map (strOf ∘ V.str) = ns.map id := List.map_congr_left fun _ _ => rfl
        _ = ns := List.map_id ns
    rwa [e] at this
/-- distinct lasts: by them the names are one -/
theorem lst_inj {es : List Ent} (nd : (es.map (·.1)).Nodup) (ls : (es.map fun e => e.2.2).Nodup) {m n : Str} (hm : m ∈ es.map (·.1)) (hn : n ∈ es.map (·.1)) (h : lstE es m = lstE es n) : m = n := by
  obtain ⟨a, ha, rfl⟩ := List.mem_map.mp hm
  obtain ⟨b, hb, rfl⟩ := List.mem_map.mp hn
  have e1 : lstE es a.1 = a.2.2 := by unfold lstE; rw [look_of_mem nd ha]; rfl
  have e2 : lstE es b.1 = b.2.2 := by unfold lstE; rw [look_of_mem nd hb]; rfl
  rw [e1, e2] at h
  have : ∀ {l : List Ent}, (l.map fun e => e.2.2).Nodup → ∀ {a b : Ent}, a ∈ l → b ∈ l → a.2.2 = b.2.2 → a = b := by
    intro l
    induction l with
    | nil => intro _ a b ha; cases ha
    | cons c l ih =>
      intro hd a b ha' hb' he
      rw [List.map_cons, List.nodup_cons] at hd
      rcases List.mem_cons.mp ha' with q1 | q1
      · rcases List.mem_cons.mp hb' with q2 | q2
        · rw [q1, q2]
        · rw [q1] at he
          exact absurd (List.mem_map.mpr ⟨b, q2, he.symm⟩) hd.1
      · rcases List.mem_cons.mp hb' with q2 | q2
        · rw [q2] at he
          exact absurd (List.mem_map.mpr ⟨a, q1, he⟩) hd.1
        · exact ih hd.2 q1 q2 he
  rw [this ls ha hb h]
theorem byLast_of {es : List Ent} (nd : (es.map (·.1)).Nodup) (ls : (es.map fun e => e.2.2).Nodup) {ys : List V} (h1 : ys.Perm ((es.map (·.1)).map V.str)) (h2 : ys.Pairwise fun x y => decide (lstE es (strOf y) < lstE es (strOf x)) = false) : ys = (byLast es).map V.str := by
  obtain ⟨ms, rfl, hp⟩ := map_str h1
  congr 1
  have h3 : ms.Pairwise fun x y => decide (lstE es y < lstE es x) = false := by
    rw [List.pairwise_map] at h2
    exact h2
  refine sorted_uniq (lt := fun i j => decide (i < j)) (f := lstE es) (hp.trans (byLast_perm es).symm) h3 (byLast_sorted es) fun x hx y hy a b => ?_
  have a := of_decide_eq_false a
  have b := of_decide_eq_false b
  exact lst_inj nd ls (hp.mem_iff.mp hx) (hp.mem_iff.mp hy) (by omega)
theorem sortR_of {es : List Ent} (nd : (es.map (·.1)).Nodup) (ls : (es.map fun e => e.2.2).Nodup) {ys : List V} {ns : List Str} (hn : ∀ n ∈ ns, n ∈ es.map (·.1)) (h1 : ys.Perm (ns.map V.str)) (h2 : ys.Pairwise fun x y => SrtO.lexB (rankE es (strOf y)) (rankE es (strOf x)) = false) : ys = (sortR es ns).map V.str := by
  obtain ⟨ms, rfl, hp⟩ := map_str h1
  congr 1
  have h3 : ms.Pairwise fun x y => lexQ (rankE es y) (rankE es x) = false := by
    rw [List.pairwise_map] at h2
    exact h2
  refine sorted_uniq (lt := lexQ) (f := rankE es) (hp.trans (sortR_perm es ns).symm) h3 (sortR_sorted es ns) fun x hx y hy a b => ?_
  rw [lexQ_no] at a b
  have e : (rankE es x).2 = (rankE es y).2 := by omega
  exact lst_inj nd ls (hn _ (hp.mem_iff.mp hx)) (hn _ (hp.mem_iff.mp hy)) e
theorem own_tracked {ad : Ad} {s : Th} {H : Hp} (A : At k C ad H s) {p : Addr} (hp : H p = none) : p ∉ own k ad := fun q => by
  obtain ⟨o, h, _⟩ := A.noTup q
  rw [hp] at h
  cases h
def spSpend (k : Kd) (C : Addr) : Sp := fun vs H Q _ => ∃ (ad : Ad) (s : Th) (steps : Int), vs = [.ref ad.p, .int steps] ∧ At k C ad H s ∧ WF k s ∧ s.deed ≤ 1000 ∧ ∀ H', At k C ad H' (k.spend s steps) → Kp k ad H H' → Q (.int (s.times steps)) H'
theorem ok_Book_spend (T : Tx K mg) (U : Vt P w base T k C) : FnOk P w K mg base CX0 6 T.f_Book_spend T.fd_Book_spend P_Book_spend (spSpend k C) := by
  refine T.F_Book_spend.ok sc_Book_spend (fun vs H Q E h => ?_) (fun cdv A outer s H vs Q E hr h => ?_)
  · obtain ⟨a, b, c, rfl, _⟩ := h
    rfl
  · obtain ⟨ad, s, steps, rfl, A, W, hd, kk⟩ := h
    have hu := hu_of hr
    have G_gone := U.ok_gone
    have b_gone := U.b_gone
    have G_asked_at := ok_Book_asked_at (P := P) (w := w) (base := base) (k := k) T U.toCl0
    have b_asked_at := T.b_Book_asked_at
    refine ⟨_, (pss_cons (ps_set (i := 2) sc_Book_spend.nd rfl (Or.inl rfl) (pe_call (ok_ageings T) (hr.mono (by decide)) rfl T.mg_ageings T.F_ageings.kp T.b_ageings .nil pass0 (pa_cons (pe_fld (pv 0) rfl) (pa_cons (pe_fld (pv 0) rfl) (pa_cons (pe_op op_add (pe_fld (pv 0) rfl) (pv 1)) pa_nil)))))
      (pss_cons (ps_fldaug (pv 0) (pv 1) in_add)
      (pss_cons (ps_if (pt_cmpR op_gt (pv 2) pe_int (nomark _)) (pss_one (ps_for PassesOwn.never rfl (pi_list (pe_callBK (cr_sortedF (kdInt _) rfl G_asked_at (hr.mono (by decide)) b_asked_at) (by rfl) T.n_sorted (by decide +kernel) (pa_cons (pe_fld (pv 0) rfl) pa_nil) (pk_cons (pe_bound (pv 0) U.cl U.bm_asked_at) pk_nil))) (pg_name (i := 3) sc_Book_spend.nd rfl (Or.inl rfl)) (pss_cons (ps_dput hu (pe_fld (pv 0) rfl) (pv 3) (pe_call (ok_aged T) (hr.mono (by decide)) rfl T.mg_aged T.F_aged.kp T.b_aged .nil pass0 (pa_cons (pe_dget hu (pe_fld (pv 0) rfl) (pv 3) (fun _ _ => rfl)) (pa_cons (pe_fld (pv 0) rfl) (pa_cons (pv 2) pa_nil)))) rfl)
      (pss_one (ps_if (pt_cmpR op_eq (pe_dget hu (pe_fld (pv 0) rfl) (pv 3) (fun _ _ => rfl)) pe_int (nomark _)) (pss_cons (ps_expr (pe_meth (pv 0) U.cl U.m_gone G_gone (hr.mono (by decide)) b_gone .nil pass0 (pa_cons (pv 3) (pa_cons pe_str pa_nil))))
      (pss_cons (ps_expr (pe_dpop1 (pe_fld (pv 0) rfl) (pv 3) ⟨rfl, rfl, rfl, rfl⟩))
      (pss_one (ps_expr (pe_dpop1 (pe_fld (pv 0) rfl) (pv 3) ⟨rfl, rfl, rfl, rfl⟩))))) pss_nil))))) pss_nil)
      (pss_one (ps_ret (pv 2)))))), ?_⟩
    rw [show L2.start N_Book_spend [V.ref ad.p, V.int steps] = [some (V.ref ad.p), some (V.int steps), none, none] from rfl]
    have self : ∀ {σ : L2.St} {H' : Hp}, σ[0]? = some (some (V.ref ad.p)) → Ev (tVar 0) σ H' (.ref ad.p) := fun h => ev_var h
    refine q_asg (v := .int (s.times steps)) (ev_call0 (ea_cons (ev_fld (self rfl) A.ob U.cl U.nspan fl_span) (ea_cons (ev_fld (self rfl) A.ob U.cl U.ntime fl_time) (ea_cons (ev_op (ev_fld (self rfl) A.ob U.cl U.ntime fl_time) (ev_var rfl) rv_I0) ea_nil))) (sv_ageings W.sp W.sp2)) fun H1 e1 => ?_
    dsimp only [List.set]
    have A1 := A.ex e1
    refine q_fldaug (w := .int (s.time + steps)) (self rfl) A1.ob U.cl U.ntime fl_time (ev_var rfl) add_rd fl_len fun H2 e2 => ?_
    have A2 := (A1.ex e2).upP (s2 := { s with time := s.time + steps }) (fl_putTime _) rfl rfl rfl rfl rfl
    have K2 : Kp k ad H _ := (Kp.ex (e1.trans e2)).trans (Kp.upd (o := .ins C ad.dx (putF "time" (.int (s.time + steps)) (flds k ad s))) (own_p (k := k)))
    generalize upd H2 ad.p (.ins C ad.dx (putF "time" (.int (s.time + steps)) (flds k ad s))) = H3 at A2 K2 ⊢
    have W2 := W.time (s.time + steps)
    refine q_when (b := decide (0 < s.times steps)) (et_test (ev_op (ev_var rfl) ev_c rv_I0)) (fun hb H4 e4 => ?_) (fun hb H4 e4 => ?_)
    · have hb := of_decide_eq_true hb
      have A4 := A2.ex e4
      have K4 := K2.trans (Kp.ex e4)
      have es : k.spend s steps = (byLast s.es).foldl (k.ageStep (s.times steps)) { s with time := s.time + steps } := by
        unfold Kd.spend
        rw [if_pos hb]
      rw [es] at kk
      refine s_forNLn (xs := (byLast s.es).map V.str) (EvLP.toL (elp_sortF (xs := (s.es.map (·.1)).map V.str) (kf := fun x => lstE s.es (strOf x)) (ev_fld (self rfl) A4.ob U.cl U.nlasts fl_lasts) (.inr ⟨_, A4.ls, ?_⟩) (self rfl) A4.ob nm_asked (asked_calls A4 fun n hn => hn)) fun ys H' h => byLast_of W.nd W.ls h.1 h.2)
        (fun p i σ' H' => ∃ v, σ' = [some (V.ref ad.p), some (V.int steps), some (V.int (s.times steps)), v] ∧ H' p = some (.lst ((byLast s.es).map V.str)) ∧ p ∉ own k ad ∧ At k C ad H' (((byLast s.es).take i).foldl (k.ageStep (s.times steps)) { s with time := s.time + steps }) ∧ Kp k ad H H')
        (fun p H5 hp e5 h5 => ⟨_, rfl, h5, own_tracked A4 hp, A4.ex e5, K4.trans (Kp.ex e5)⟩) (fun p i σ' H' _ h => by obtain ⟨_, _, h, _⟩ := h; exact sq_of h) ?_ ?_
      · rw [dOf, List.map_map, List.map_map]
        rfl
      · rintro p i x σ' H' hx ⟨v, rfl, hl, hpo, Ai, Ki⟩
        dsimp only [List.set]
        obtain ⟨n, hn, rfl⟩ : ∃ n, (byLast s.es)[i]? = some n ∧ x = V.str n := by
          rw [List.getElem?_map] at hx
          cases e : (byLast s.es)[i]? with
          | none => rw [e] at hx; cases hx
          | some n => rw [e] at hx; exact ⟨n, rfl, (Option.some.inj hx).symm⟩
        have tk : (byLast s.es).take (i + 1) = (byLast s.es).take i ++ [n] := by rw [List.take_add_one, hn]; rfl
        have hf : ((byLast s.es).take (i + 1)).foldl (k.ageStep (s.times steps)) { s with time := s.time + steps } = k.ageStep (s.times steps) (((byLast s.es).take i).foldl (k.ageStep (s.times steps)) { s with time := s.time + steps }) n := by
          rw [tk, List.foldl_append]
          rfl
        have Wi : WF k (((byLast s.es).take i).foldl (k.ageStep (s.times steps)) { s with time := s.time + steps }) := WF.fold _ _ W2
        have ci := fold_core k (s.times steps) ((byLast s.es).take i) { s with time := s.time + steps }
        have hni : n ∈ (((byLast s.es).take i).foldl (k.ageStep (s.times steps)) { s with time := s.time + steps }).es.map (·.1) := by
          refine keys_fold _ _ ((byLast_perm s.es).mem_iff.mp (List.mem_of_getElem? hn)) fun q => ?_
          have ndl : (byLast s.es).Nodup := (byLast_perm s.es).nodup_iff.mpr W.nd
          obtain ⟨j, hj, ej⟩ := List.mem_iff_getElem.mp q
          rw [List.getElem_take] at ej
          have hi := (List.getElem?_eq_some_iff.mp hn).1
          rw [List.length_take] at hj
          have := (List.getElem_inj (h₀ := (by omega : j < (byLast s.es).length)) (h₁ := hi) ndl).mp (ej.trans (List.getElem?_eq_some_iff.mp hn).2.symm)
          omega
        generalize hsi : ((byLast s.es).take i).foldl (k.ageStep (s.times steps)) { s with time := s.time + steps } = si at Ai Wi ci hni hf
        have hdi : si.deed ≤ 1000 := by rw [ci.2.2.2.1]; exact hd
        have hc0 := cntE_nn Wi.cn n
        have hag : SpV spAged [.int (cntE si.es n), .int si.part, .int (s.times steps)] H' (.int (agedI (cntE si.es n) si.part (s.times steps))) := sv_aged hc0 Wi.pt Wi.pt2 (by omega)
        have szc : (dOf cV si.es).length < 100000 := by
          have := Wi.sz
          unfold dOf
          rw [List.length_map]
          omega
        refine q_dput (ev_call0 (ea_cons (ev_dget (ev_fld (self rfl) Ai.ob U.cl U.ncounts fl_counts) (ev_var rfl) Ai.ct (val_c hni)) (ea_cons (ev_fld (self rfl) Ai.ob U.cl U.npart fl_part) (ea_cons (ev_var rfl) ea_nil))) hag) (ev_fld (self rfl) Ai.ob U.cl U.ncounts fl_counts) (ev_var rfl) Ai.ct szc fun H5 e5 => ?_
        rw [setC_put _ (look_mem.mpr hni)]
        have A5 := (Ai.ex e5).upC (es := setC si.es n (agedI (cntE si.es n) si.part (s.times steps))) (setC_lasts _ _ _)
        have K5 : Kp k ad H _ := (Ki.trans (Kp.ex e5)).trans (Kp.upd (o := .dK (dOf cV (setC si.es n (agedI (cntE si.es n) si.part (s.times steps))))) (own_c (k := k)))
        have hl5 : (upd H5 ad.c (.dK (dOf cV (setC si.es n (agedI (cntE si.es n) si.part (s.times steps)))))) p = some (.lst ((byLast s.es).map V.str)) := by
          rw [upd_ne (fun q => hpo (by rw [q]; exact own_c))]
          exact e5 p _ hl
        generalize upd H5 ad.c (.dK (dOf cV (setC si.es n (agedI (cntE si.es n) si.part (s.times steps))))) = H6 at A5 K5 hl5 ⊢
        have hag0 : 0 ≤ agedI (cntE si.es n) si.part (s.times steps) := agedI_nn hc0 Wi.pt
        have W5 := Wi.setC n hag0
        have hn5 : n ∈ (setC si.es n (agedI (cntE si.es n) si.part (s.times steps))).map (·.1) := by rw [setC_keys]; exact hni
        have hcc : cntE (setC si.es n (agedI (cntE si.es n) si.part (s.times steps))) n = agedI (cntE si.es n) si.part (s.times steps) := by
          unfold cntE
          rw [look_setC, if_pos rfl]
          have := look_mem.mpr hni
          cases e : look si.es n with
          | none => rw [e] at this; cases this
          | some q => rfl
        have hval := val_c hn5
        rw [hcc] at hval
        rw [hf]
        unfold Kd.ageStep
        refine s_when (b := decide (agedI (cntE si.es n) si.part (s.times steps) = 0)) (et_is (et_test (ev_op (ev_dget (ev_fld (self rfl) A5.ob U.cl U.ncounts fl_counts) (ev_var rfl) A5.ct hval) ev_c (rv_eq rfl))) dec_i) (fun hb2 H7 e7 => ?_) (fun hb2 H7 e7 => ?_)
        · rw [if_pos (of_decide_eq_true hb2)]
          have A7 := A5.ex e7
          refine q_dropM (self rfl) A7.ob nm_gone (ea_cons (ev_var rfl) (ea_cons ev_c ea_nil)) fun H8 e8 => ⟨ad, _, n, "faded", rfl, A7.ex e8, W5, hdi, fun H9 A9 K9 => ?_⟩
          have cg := gone_core k { si with es := setC si.es n (agedI (cntE si.es n) si.part (s.times steps)) } n "faded"
          have hes : (k.gone { si with es := setC si.es n (agedI (cntE si.es n) si.part (s.times steps)) } n "faded").2.es = setC si.es n (agedI (cntE si.es n) si.part (s.times steps)) := cg.1
          have hn9 : n ∈ (k.gone { si with es := setC si.es n (agedI (cntE si.es n) si.part (s.times steps)) } n "faded").2.es.map (·.1) := by rw [hes]; exact hn5
          have hl9 := K9 p _ (e8 p _ (e7 p _ hl5)) hpo
          refine q_dpop (ev_fld (self rfl) A9.ob U.cl U.ncounts fl_counts) (ev_var rfl) A9.ct (val_c hn9) fun H10 e10 => ?_
          have ob10 : (upd H10 ad.c (.dK (dropK (dOf cV (k.gone { si with es := setC si.es n (agedI (cntE si.es n) si.part (s.times steps)) } n "faded").2.es) (Sum.inr n)))) ad.p = _ := (upd_ne A9.pc).trans (e10 _ _ A9.ob)
          have ls10 : (upd H10 ad.c (.dK (dropK (dOf cV (k.gone { si with es := setC si.es n (agedI (cntE si.es n) si.part (s.times steps)) } n "faded").2.es) (Sum.inr n)))) ad.l = _ := (upd_ne A9.cl.symm).trans (e10 _ _ A9.ls)
          refine s_dpop (ev_fld (self rfl) ob10 U.cl U.nlasts fl_lasts) (ev_var rfl) ls10 (val_l hn9) fun H11 e11 => ?_
          have ed : dropE (k.gone { si with es := setC si.es n (agedI (cntE si.es n) si.part (s.times steps)) } n "faded").2.es n = dropE si.es n := by rw [hes, dropE_setC]
          have A11 := (A9.ex e10).upE3 (es := dropE si.es n) (c := dropK (dOf cV (k.gone { si with es := setC si.es n (agedI (cntE si.es n) si.part (s.times steps)) } n "faded").2.es) (Sum.inr n)) (l := dropK (dOf lV (k.gone { si with es := setC si.es n (agedI (cntE si.es n) si.part (s.times steps)) } n "faded").2.es) (Sum.inr n)) e11 (by rw [dropK_dOf, ed]) (by rw [dropK_dOf, ed])
          refine ⟨_, rfl, ?_, hpo, A11, (((K5.trans (Kp.ex (e7.trans e8))).trans K9).trans ((Kp.ex e10).trans ((Kp.upd own_c).trans (Kp.ex e11)))).trans (Kp.upd own_l)⟩
          rw [upd_ne (fun q => hpo (by rw [q]; exact own_l))]
          refine e11 p _ ?_
          rw [upd_ne (fun q => hpo (by rw [q]; exact own_c))]
          exact e10 p _ hl9
        · rw [if_neg (of_decide_eq_false hb2)]
          exact ⟨_, rfl, e7 p _ hl5, hpo, A5.ex e7, K5.trans (Kp.ex e7)⟩
      · rintro p σ' H' ⟨v, rfl, hl, hpo, Ai, Ki⟩
        rw [List.length_map, List.take_length] at Ai
        exact s_ret (ev_var rfl) fun H5 e5 => kk _ (Ai.ex e5) (Ki.trans (Kp.ex e5))
    · have hb := of_decide_eq_false hb
      refine s_ret (ev_var rfl) fun H5 e5 => kk _ ?_ ((K2.trans (Kp.ex e4)).trans (Kp.ex e5))
      have es : k.spend s steps = { s with time := s.time + steps } := by
        unfold Kd.spend
        rw [if_neg hb]
      rw [es]
      exact (A2.ex e4).ex e5
/-! the other methods -/
def spNames (k : Kd) (C : Addr) : Sp := fun vs H Q _ => ∃ (ad : Ad) (s : Th), vs = [.ref ad.p] ∧ At k C ad H s ∧ WF k s ∧ s.deed ≤ 1000 ∧ RetL ((k.names s).map V.str) H Q
theorem ok_Book_names (T : Tx K mg) (U : Vt P w base T k C) : FnOk P w K mg base CX0 4 T.f_Book_names T.fd_Book_names P_Book_names (spNames k C) := by
  refine T.F_Book_names.ok sc_Book_names (fun vs H Q E h => ?_) (fun cdv A outer s H vs Q E hr h => ?_)
  · obtain ⟨a, b, rfl, _⟩ := h
    rfl
  · obtain ⟨ad, s, rfl, A, W, hd, kk⟩ := h
    have G_inside := U.ok_inside
    have b_inside := U.b_inside
    have G_rank := ok_Book_rank (P := P) (w := w) (base := base) (k := k) T U.toCl0
    have b_rank := T.b_Book_rank
    refine ⟨_, (pss_one (ps_ret (pe_callBK (cr_sortedF (kdPair _) rfl G_rank (hr.mono (by decide)) b_rank) (by rfl) T.n_sorted (by decide +kernel) (pa_cons (pe_meth0 (pv 0) U.cl U.m_inside G_inside (hr.mono (by decide)) b_inside .nil pass0) pa_nil) (pk_cons (pe_bound (pv 0) U.cl U.bm_rank) pk_nil)))), ?_⟩
    rw [show L2.start N_Book_names [V.ref ad.p] = [some (V.ref ad.p)] from rfl]
    have hin : SpL (spInside k C) [.ref ad.p] H ((k.inside s).map V.str) := fun H1 e Q q E => ⟨ad, s, rfl, A.ex e, W, hd, q⟩
    exact s_retL (EvLP.toL (elp_sortFN (xs := (k.inside s).map V.str) (kf := fun x => rankE s.es (strOf x)) (el_meth (ev_var rfl) A.ob nm_inside ea_nil hin) (ev_var rfl) A.ob nm_rank (rank_calls A W.inside)) fun ys H' h => sortR_of W.nd W.ls W.inside h.1 h.2) kk
def spRest (k : Kd) (C : Addr) : Sp := fun vs H Q _ => ∃ (ad : Ad) (s : Th) (n : Int), vs = [.ref ad.p, .int n] ∧ At k C ad H s ∧ WF k s ∧ s.deed < 1000 ∧ 0 ≤ n ∧ n ≤ 1000000000000000000000000000000 ∧ ∀ H', At k C ad H' (k.rest s n).2 → Kp k ad H H' → Q (.int (k.rest s n).1) H'
theorem ok_Book_rest (T : Tx K mg) (U : Vt P w base T k C) : FnOk P w K mg base CX0 7 T.f_Book_rest T.fd_Book_rest P_Book_rest (spRest k C) := by
  refine T.F_Book_rest.ok sc_Book_rest (fun vs H Q E h => ?_) (fun cdv A outer s H vs Q E hr h => ?_)
  · obtain ⟨a, b, c, rfl, _⟩ := h
    rfl
  · obtain ⟨ad, s, n, rfl, A, W, hd, h1, h2, kk⟩ := h
    have G_spend := ok_Book_spend T U
    have b_spend := T.b_Book_spend
    refine ⟨_, (pss_cons (ps_expr (pe_call (ok_want_number T) (hr.mono (by decide)) rfl T.mg_want_number T.F_want_number.kp T.b_want_number .nil pass0 (pa_cons (pv 1) (pa_cons pe_int (pa_cons (pe_glob (v := .int 1000000000000000000000000000000) rfl T.c_MOST_NUMBER.2 ⟨_, rfl⟩) pa_nil)))))
      (pss_cons (ps_fldaug (pv 0) pe_int in_add)
      (pss_one (ps_ret (pe_meth (pv 0) U.cl U.m_spend G_spend (hr.mono (by decide)) b_spend .nil pass0 (pa_cons (pv 1) pa_nil)))))), ?_⟩
    rw [show L2.start N_Book_rest [V.ref ad.p, V.int n] = [some (V.ref ad.p), some (V.int n)] from rfl]
    have self : ∀ {σ : L2.St} {H' : Hp}, σ[0]? = some (some (V.ref ad.p)) → Ev (tVar 0) σ H' (.ref ad.p) := fun h => ev_var h
    refine s_drop0 (ev_call0 (ea_cons (ev_var rfl) (ea_cons ev_c (ea_cons ev_c ea_nil))) (sv_wantNumber h1 h2)) fun H1 e1 => ?_
    have A1 := A.ex e1
    refine q_fldaug (w := .int ((s.deed : Int) + 1)) (self rfl) A1.ob U.cl U.ndeed fl_deed ev_c add_rd fl_len fun H2 e2 => ?_
    have A2 := (A1.ex e2).upP (s2 := s.next) (fl_putDeed (s.deed + 1)) rfl rfl rfl rfl rfl
    have K2 : Kp k ad H _ := (Kp.ex (e1.trans e2)).trans (Kp.upd (o := .ins C ad.dx (putF "deed" (.int ((s.deed + 1 : Nat) : Int)) (flds k ad s))) (own_p (k := k)))
    show tRet _ _ _ (upd H2 ad.p (.ins C ad.dx (putF "deed" (.int ((s.deed + 1 : Nat) : Int)) (flds k ad s))))
    generalize upd H2 ad.p (.ins C ad.dx (putF "deed" (.int ((s.deed + 1 : Nat) : Int)) (flds k ad s))) = H3 at A2 K2 ⊢
    exact s_retM (self rfl) A2.ob nm_spend (ea_cons (ev_var rfl) ea_nil) fun H4 e4 => ⟨ad, s.next, n, rfl, A2.ex e4, W.next, hd, fun H5 A5 K5 => kk H5 A5 ((K2.trans (Kp.ex e4)).trans K5)⟩
def spDrop (k : Kd) (C : Addr) : Sp := fun vs H Q _ => ∃ (ad : Ad) (s : Th) (n : Str), vs = [.ref ad.p, .str n] ∧ At k C ad H s ∧ WF k s ∧ s.deed < 1000 ∧ GoodName n ∧ ∀ H', At k C ad H' (k.drop s n).2 → Kp k ad H H' → Q (.bl (k.drop s n).1) H'
theorem ok_Book_drop (T : Tx K mg) (U : Vt P w base T k C) : FnOk P w K mg base CX0 7 T.f_Book_drop T.fd_Book_drop P_Book_drop (spDrop k C) := by
  refine T.F_Book_drop.ok sc_Book_drop (fun vs H Q E h => ?_) (fun cdv A outer s H vs Q E hr h => ?_)
  · obtain ⟨a, b, c, rfl, _⟩ := h
    rfl
  · obtain ⟨ad, s, n, rfl, A, W, hd, h1, kk⟩ := h
    have G_gone := U.ok_gone
    have b_gone := U.b_gone
    refine ⟨_, (pss_cons (ps_expr (pe_call (ok_want_name T) (hr.mono (by decide)) rfl T.mg_want_name T.F_want_name.kp T.b_want_name .nil pass0 (pa_cons (pv 1) pa_nil)))
      (pss_cons (ps_fldaug (pv 0) pe_int in_add)
      (pss_one (ps_ret (pe_meth (pv 0) U.cl U.m_gone G_gone (hr.mono (by decide)) b_gone .nil pass0 (pa_cons (pv 1) (pa_cons pe_str pa_nil))))))), ?_⟩
    rw [show L2.start N_Book_drop [V.ref ad.p, V.str n] = [some (V.ref ad.p), some (V.str n)] from rfl]
    have self : ∀ {σ : L2.St} {H' : Hp}, σ[0]? = some (some (V.ref ad.p)) → Ev (tVar 0) σ H' (.ref ad.p) := fun h => ev_var h
    refine s_drop0 (ev_call0 (ea_cons (ev_var rfl) ea_nil) (sv_wantName h1)) fun H1 e1 => ?_
    have A1 := A.ex e1
    refine q_fldaug (w := .int ((s.deed : Int) + 1)) (self rfl) A1.ob U.cl U.ndeed fl_deed ev_c add_rd fl_len fun H2 e2 => ?_
    have A2 := (A1.ex e2).upP (s2 := s.next) (fl_putDeed (s.deed + 1)) rfl rfl rfl rfl rfl
    have K2 : Kp k ad H _ := (Kp.ex (e1.trans e2)).trans (Kp.upd (o := .ins C ad.dx (putF "deed" (.int ((s.deed + 1 : Nat) : Int)) (flds k ad s))) (own_p (k := k)))
    show tRet _ _ _ (upd H2 ad.p (.ins C ad.dx (putF "deed" (.int ((s.deed + 1 : Nat) : Int)) (flds k ad s))))
    generalize upd H2 ad.p (.ins C ad.dx (putF "deed" (.int ((s.deed + 1 : Nat) : Int)) (flds k ad s))) = H3 at A2 K2 ⊢
    exact s_retM (self rfl) A2.ob nm_gone (ea_cons (ev_var rfl) (ea_cons ev_c ea_nil)) fun H4 e4 => ⟨ad, s.next, n, "dropped", rfl, A2.ex e4, W.next, hd, fun H5 A5 K5 => kk H5 A5 ((K2.trans (Kp.ex e4)).trans K5)⟩
def spAsk (k : Kd) (C : Addr) : Sp := fun vs H Q _ => ∃ (ad : Ad) (s : Th) (n : Str) (c : Int), vs = [.ref ad.p, .str n, .int c] ∧ At k C ad H s ∧ WF k s ∧ s.deed < 1000 ∧ GoodName n ∧ 1 ≤ c ∧ c ≤ 1000000000000000000000000000000 ∧ ∀ H', At k C ad H' (k.ask s n c).2 → Kp k ad H H' → Q (k.ask s n c).1 H'
theorem dget_cnt (es : List Ent) (n : Str) : (valV (dOf cV es) (Sum.inr n : Key)).getD (.int 0) = .int (cntE es n) := by
  rw [valV_dOf]
  unfold cntE
  cases look es n <;> rfl
theorem ok_Book_ask (T : Tx K mg) (U : Vt P w base T k C) : FnOk P w K mg base CX0 9 T.f_Book_ask T.fd_Book_ask P_Book_ask (spAsk k C) := by
  refine okN T.F_Book_ask sc_Book_ask (fun vs H Q E h => ?_) (fun cdv A outer s H vs Q E hr h => ?_)
  · obtain ⟨a, b, c, d, rfl, _⟩ := h
    rfl
  · obtain ⟨ad, s, n, c, rfl, A, W, hd, hg, h1, h2, kk⟩ := h
    have hu := hu_of hr
    have G_spend := ok_Book_spend T U
    have b_spend := T.b_Book_spend
    have G_came := U.ok_came
    have b_came := U.b_came
    refine ⟨_, (pss_cons (ps_expr (pe_call (ok_want_name T) (hr.mono (by decide)) rfl T.mg_want_name T.F_want_name.kp T.b_want_name .nil pass0 (pa_cons (pv 1) pa_nil)))
      (pss_cons (ps_expr (pe_call (ok_want_number T) (hr.mono (by decide)) rfl T.mg_want_number T.F_want_number.kp T.b_want_number .nil pass0 (pa_cons (pv 2) (pa_cons pe_int (pa_cons (pe_glob (v := .int 1000000000000000000000000000000) rfl T.c_MOST_NUMBER.2 ⟨_, rfl⟩) pa_nil)))))
      (pss_cons (ps_fldaug (pv 0) pe_int in_add)
      (pss_cons (ps_expr (pe_meth (pv 0) U.cl U.m_spend G_spend (hr.mono (by decide)) b_spend .nil pass0 (pa_cons pe_int pa_nil)))
      (pss_cons (ps_set (i := 3) sc_Book_ask.nd rfl (Or.inl rfl) (pe_meth (pv 0) U.cl U.m_came G_came (hr.mono (by decide)) b_came .nil pass0 (pa_cons (pv 1) pa_nil)))
      (pss_cons (ps_dput hu (pe_fld (pv 0) rfl) (pv 1) (pe_op op_add (pe_dget2 hu (pe_fld (pv 0) rfl) (pv 1) pe_int ⟨rfl, rfl, rfl, rfl⟩) (pv 2)) rfl)
      (pss_cons (ps_dput hu (pe_fld (pv 0) rfl) (pv 1) (pe_fld (pv 0) rfl) rfl)
      (pss_one (ps_ret (pv 3)))))))))), ?_⟩
    rw [show L2.start N_Book_ask [V.ref ad.p, V.str n, V.int c] = [some (V.ref ad.p), some (V.str n), some (V.int c), none] from rfl]
    have self : ∀ {σ : L2.St} {H' : Hp}, σ[0]? = some (some (V.ref ad.p)) → Ev (tVar 0) σ H' (.ref ad.p) := fun h => ev_var h
    refine s_drop0 (ev_call0 (ea_cons (ev_var rfl) ea_nil) (sv_wantName hg)) fun H1 e1 => ?_
    refine s_drop0 (ev_call0 (ea_cons (ev_var rfl) (ea_cons ev_c (ea_cons ev_c ea_nil))) (sv_wantNumber h1 h2)) fun H1' e1' => ?_
    have A1 := A.ex (e1.trans e1')
    refine q_fldaug (w := .int ((s.deed : Int) + 1)) (self rfl) A1.ob U.cl U.ndeed fl_deed ev_c add_rd fl_len fun H2 e2 => ?_
    have A2 := (A1.ex e2).upP (s2 := s.next) (fl_putDeed (s.deed + 1)) rfl rfl rfl rfl rfl
    have K2 : Kp k ad H _ := (Kp.ex ((e1.trans e1').trans e2)).trans (Kp.upd (o := .ins C ad.dx (putF "deed" (.int ((s.deed + 1 : Nat) : Int)) (flds k ad s))) (own_p (k := k)))
    rw [show V.int ((s.deed : Int) + 1) = V.int ((s.deed + 1 : Nat) : Int) from rfl]
    generalize upd H2 ad.p (.ins C ad.dx (putF "deed" (.int ((s.deed + 1 : Nat) : Int)) (flds k ad s))) = H3 at A2 K2 ⊢
    refine q_dropM (self rfl) A2.ob nm_spend (ea_cons ev_c ea_nil) fun H4 e4 => ⟨ad, s.next, 1, rfl, A2.ex e4, W.next, hd, fun H5 A5 K5 => ?_⟩
    have sc := spend_core k s.next 1
    have W5 : WF k (k.spend s.next 1) := W.next.spend 1
    have hd5 : (k.spend s.next 1).deed ≤ 1000 := by rw [sc.2.2.2.1]; exact hd
    have sz5 := W5.sz
    have K5' := (K2.trans (Kp.ex e4)).trans K5
    have cc := came_core k (k.spend s.next 1) n
    unfold Kd.ask at kk
    dsimp only at kk
    generalize k.spend s.next 1 = s5 at A5 W5 hd5 sz5 cc kk sc
    refine q_asgM (self rfl) A5.ob nm_came (ea_cons (ev_var rfl) ea_nil) fun H6 e6 => ⟨ad, s5, n, rfl, A5.ex e6, W5, hd5, fun H7 A7 K7 => ?_⟩
    dsimp only [List.set]
    have hl : (dOf cV (k.came s5 n).2.es).length < 100000 := by
      rw [cc.1]
      unfold dOf
      rw [List.length_map]
      omega
    have hl2 : (dOf lV (k.came s5 n).2.es).length < 100000 := by
      rw [cc.1]
      unfold dOf
      rw [List.length_map]
      omega
    have K7' := (K5'.trans (Kp.ex e6)).trans K7
    generalize hans : (k.came s5 n).1 = ans at kk ⊢
    generalize (k.came s5 n).2 = s7 at A7 cc kk hl hl2
    refine q_dput (v := .int (cntE s7.es n + c)) (ev_op (ev_is (ev_dget2 (ev_fld (self rfl) A7.ob U.cl U.ncounts fl_counts) (ev_var rfl) ev_c A7.ct) (dget_cnt _ _)) (ev_var rfl) rv_I0) (ev_fld (self rfl) A7.ob U.cl U.ncounts fl_counts) (ev_var rfl) A7.ct hl fun H8 e8 => ?_
    have ob8 : (upd H8 ad.c (.dK (putK (dOf cV s7.es) (Sum.inr n) (.int (cntE s7.es n + c))))) ad.p = _ := (upd_ne A7.pc).trans (e8 _ _ A7.ob)
    have ls8 : (upd H8 ad.c (.dK (putK (dOf cV s7.es) (Sum.inr n) (.int (cntE s7.es n + c))))) ad.l = _ := (upd_ne A7.cl.symm).trans (e8 _ _ A7.ls)
    refine q_dput (v := .int (s7.deed : Int)) (ev_fld (self rfl) ob8 U.cl U.ndeed fl_deed) (ev_fld (self rfl) ob8 U.cl U.nlasts fl_lasts) (ev_var rfl) ls8 hl2 fun H9 e9 => ?_
    have A9 := (A7.ex e8).upE3 (es := putE s7.es n (cntE s7.es n + c, (s7.deed : Int))) e9 (putK_dOf cV _ _ (cntE s7.es n + c, (s7.deed : Int))) (putK_dOf lV _ _ (cntE s7.es n + c, (s7.deed : Int)))
    exact s_ret (ev_var rfl) fun H10 e10 => kk H10 (A9.ex e10) (((((K7'.trans (Kp.ex e8)).trans (Kp.upd (own_c (k := k)))).trans (Kp.ex e9)).trans (Kp.upd (own_l (k := k)))).trans (Kp.ex e10))
/-! a new book's own part -/
def six (a b : Int) (c l : Addr) : List (Str × V) := [("span", .int a), ("part", .int b), ("time", .int 0), ("deed", .int 0), ("counts", .ref c), ("lasts", .ref l)]
def spInit (C : Addr) : Sp := fun vs H Q _ => ∃ (p dx : Addr) (a b : Int), vs = [.ref p, .int a, .int b] ∧ 1 ≤ a ∧ a ≤ 100000000000000000000 ∧ 2 ≤ b ∧ b ≤ 1000000000000000000000000000000 ∧ H p = some (.ins C dx []) ∧
  ∀ H' c l, H c = none → H l = none → c ≠ l → H' p = some (.ins C dx (six a b c l)) → H' c = some (.dK []) → H' l = some (.dK []) → (∀ x o, H x = some o → x ≠ p → H' x = some o) → Q .non H'
theorem lenlt {l : List (Str × V)} (n : Nat) (h : l.length = n) (hn : n < 1000 := by decide) : l.length < 1000 := by rw [h]; exact hn
theorem ok_Book_init (T : Tx K mg) (U : Cl0 T C) : FnOk P w K mg base CX0 3 T.f_Book_init T.fd_Book_init P_Book_init (spInit C) := by
  refine T.F_Book_init.ok sc_Book_init (fun vs H Q E h => ?_) (fun cdv A outer s H vs Q E hr h => ?_)
  · obtain ⟨_, _, _, _, rfl, _⟩ := h
    rfl
  · obtain ⟨p, dx, a, b, rfl, h1, h2, h3, h4, hp, kk⟩ := h
    refine ⟨_, (pss_cons (ps_expr (pe_call (ok_want_rule T) (hr.mono (by decide)) rfl T.mg_want_rule T.F_want_rule.kp T.b_want_rule .nil pass0 (pa_cons (pv 1) (pa_cons (pv 2) pa_nil))))
      (pss_cons (ps_fld (pv 0) (pv 1) rfl)
      (pss_cons (ps_fld (pv 0) (pv 2) rfl)
      (pss_cons (ps_fld (pv 0) pe_int rfl)
      (pss_cons (ps_fld (pv 0) pe_int rfl)
      (pss_cons (ps_fld (pv 0) pe_dnewK rfl)
      (pss_one (ps_fld (pv 0) pe_dnewK rfl)))))))), ?_⟩
    rw [show L2.start N_Book_init [V.ref p, V.int a, V.int b] = [some (V.ref p), some (V.int a), some (V.int b)] from rfl]
    have self : ∀ {H' : Hp}, Ev (tVar 0) [some (V.ref p), some (V.int a), some (V.int b)] H' (.ref p) := ev_var rfl
    refine s_drop0 (ev_call0 (ea_cons (ev_var rfl) (ea_cons (ev_var rfl) ea_nil)) (sv_wantRule h1 h2 h3 h4)) fun H1 e1 => ?_
    have hp1 := e1 _ _ hp
    refine q_fld (w := .int a) (ev_var rfl) self hp1 U.cl U.nspan (lenlt 0 (by kernel_rfl)) fun H2 e2 => ?_
    refine q_fld (w := .int b) (ev_var rfl) self upd_same U.cl U.npart (lenlt 1 (by kernel_rfl)) fun H3 e3 => ?_
    refine q_fld (w := .int 0) ev_c self upd_same U.cl U.ntime (lenlt 2 (by kernel_rfl)) fun H4 e4 => ?_
    refine q_fld (w := .int 0) ev_c self upd_same U.cl U.ndeed (lenlt 3 (by kernel_rfl)) fun H5 e5 => ?_
    refine q_fldNew self upd_same U.cl U.ncounts (lenlt 4 (by kernel_rfl)) fun c H6 hc e6 h6 => ?_
    refine s_fldNew self upd_same U.cl U.nlasts (lenlt 5 (by kernel_rfl)) fun l H7 hl e7 h7 => ?_
    have back : ∀ {X Y : Hp} {o : HO} {z : Addr}, Ex X Y → (upd Y p o) z = none → X z = none := fun {X Y o z} e h => by
      by_cases q : z = p
      · rw [q, upd_same] at h; cases h
      · rw [upd_ne q] at h; exact fresh_back e h
    have hc0 : H c = none := fresh_back e1 (back e2 (back e3 (back e4 (back e5 hc))))
    have hl0 : H l = none := fresh_back e1 (back e2 (back e3 (back e4 (back e5 (back e6 hl)))))
    have hcp : c ≠ p := fun q => by rw [q, hp] at hc0; cases hc0
    have hlp : l ≠ p := fun q => by rw [q, hp] at hl0; cases hl0
    have hcl : c ≠ l := fun q => by
      rw [q] at h6
      rw [upd_ne hlp, h6] at hl
      cases hl
    refine kk _ c l hc0 hl0 hcl upd_same ?_ ?_ ?_
    · rw [upd_ne hcp]
      exact e7 _ _ ((upd_ne hcp).trans h6)
    · rw [upd_ne hlp]; exact h7
    · intro x o hx hne
      have f : ∀ {X Y : Hp} {u : HO}, Ex X Y → X x = some o → (upd Y p u) x = some o := fun e h => (upd_ne hne).trans (e _ _ h)
      exact f e7 (f e6 (f e5 (f e4 (f e3 (f e2 (e1 _ _ hx))))))
end

end Own
namespace Own
open PySem L2 PyProof.Rows Evl OwnS
/-- a condition of arithmetic -/
local macro_rules | `(tactic| walk_at "side") => `(tactic| first
  | assumption
  | (show _ ∧ _; omega)
  | (apply pos9 <;> omega)
  | (show (0 : Int) < _; omega)
  | (show _ ∨ _; omega)
  | decide
  | omega)
local macro_rules | `(tactic| walk_at "fn") => `(tactic| fail "no fn")
local macro_rules | `(tactic| walk_at "ev") => `(tactic| first
  | ((with_reducible apply ev_var) ; exact rfl)
  | with_reducible exact ev_c
  | ((with_reducible apply ev_op) <;> walk_at "ev")
  | with_reducible exact rv_I0
  | ((with_reducible apply rv_I) ; walk_at "side")
  | ((with_reducible apply rv_eq) ; rfl)
  | ((with_reducible apply rv_ne) ; rfl)
  | ((with_reducible apply ev_isInt) ; walk_at "ev")
  | ((with_reducible apply ev_isBoolI) ; walk_at "ev")
  | ((with_reducible apply ev_isIntB) ; walk_at "ev")
  | ((with_reducible apply ev_isBoolB) ; walk_at "ev")
  | ((with_reducible apply ev_notV) ; walk_at "ev")
  | ((with_reducible apply et_test) ; walk_at "ev")
  | ((with_reducible apply et_B) ; walk_at "ev")
  | ((with_reducible apply et_not) ; walk_at "ev")
  | with_reducible exact ea_nil
  | ((with_reducible apply ea_cons) <;> walk_at "ev")
  | ((with_reducible apply ev_call0) <;> walk_at "ev")
  | ((with_reducible show SpV _ _ _ _); walk_at "fn"))

/-! ### the law's names and rules -/
section
variable {K : PySem.W.Frag} {σ : L2.St} {H H' : Hp} {ta tb te tx tv : TE} {D : Ends} {tz : TS}
theorem rv_addS {a b : Str} (h : a.length + b.length ≤ 100000) : RV (fun x y H Q => ∃ i j, x = .str i ∧ y = .str j ∧ i.length + j.length ≤ sizeLine ∧ Q (.str (i ++ j)) H) (.str a) (.str b) H (.str (a ++ b)) := fun H1 _ _ q => ⟨a, b, rfl, rfl, sz_of h, q H1 (Ex.refl H1)⟩
theorem ev_slS {tl th : TO} {z : Str} {lo hi : Option Int} (h : Ev te σ H (.str z)) (h1 : EvO tl σ H lo) (h2 : EvO th σ H hi) (hs : z.length ≤ 100000) : Ev (tSl rSlS te tl th) σ H (.str (cutS z lo hi)) := fun H1 e Q q =>
  h H1 e _ fun H2 e2 => h1 H2 (e.trans e2) _ fun H3 e3 => h2 H3 ((e.trans e2).trans e3) _ fun H4 e4 => ⟨z, rfl, sz_of hs, q H4 ((e2.trans e3).trans e4)⟩
theorem atN {α : Type} {xs : List α} {z : Int} {j : Nat} {v : α} (e : z = (j : Int)) (h : xs[j]? = some v) : atI xs z = some v := by
  rw [e]
  exact atI_nat h
theorem ev_join {ws : List Str} {a : Str} (h : Ev ta σ H (.str a)) (hl : EvL te σ H (ws.map V.str)) (hz : (ws.map (·.length)).sum + ws.length * a.length ≤ 16777216) :
    Ev (tM1 (fun x xs H Q => ∃ a p, ∃ ys : List Str, x = .str a ∧ xs = [.ref p] ∧ (SqL K H p (ys.map V.str) ∨ SqT K H p (ys.map V.str)) ∧ (ys.map (·.length)).sum + ys.length * a.length ≤ 16777216 ∧ Q (.str (Txt.join a ys)) H) ta te) σ H (.str (Txt.join a ws)) := fun H1 e Q q =>
  h H1 e _ fun H2 e2 => ⟨⟨a, rfl⟩, hl H2 (e.trans e2) _ fun p H3 hp e3 h3 => ⟨a, p, ws, rfl, rfl, .inl (sq_of h3), hz, q H3 (e2.trans e3)⟩⟩
end
section
variable {P : Program} {w : World} {K : PySem.W.Frag} {mg : Str → Option Value} {base : Heap}
def spSign : Sp := fun vs H Q _ => ∃ n : Int, vs = [.int n] ∧ RetV (.str (mkS [sg n])) H Q
theorem sv_sign {H : Hp} {n : Int} : SpV spSign [.int n] H (.str (mkS [sg n])) := spv_of fun H1 Q E e q => ⟨_, rfl, q⟩
theorem ok_l_sign (T : Tx K mg) : FnOk P w K mg base CX0 1 T.f_l_sign T.fd_l_sign P_l_sign spSign := by
  refine T.F_l_sign.ok sc_l_sign (fun vs H Q E h => ?_) (fun cdv A outer s H vs Q E hr h => ?_)
  · obtain ⟨a, rfl, _⟩ := h
    rfl
  · obtain ⟨n, rfl, k⟩ := h
    refine ⟨_, (pss_cons (ps_set (i := 1) sc_l_sign.nd rfl (Or.inl rfl) pe_str)
      (pss_cons (ps_set (i := 1) sc_l_sign.nd rfl (Or.inl rfl) (pe_op op_add_str (pv 1) pe_str))
      (pss_one (ps_ret (pe_ix ix_str (pv 1) (pe_op op_mod (pv 0) pe_int) (fun _ _ => rfl)))))), ?_⟩
    rw [show L2.start N_l_sign [V.int n] = [some (V.int n), none] from rfl]
    refine q_asg (v := .str someA) ev_c fun H1 e1 => ?_
    dsimp only [List.set]
    refine q_asg (v := .str (someA ++ someB)) (ev_op (ev_var rfl) ev_c (rv_addS (b := someB) (by decide +kernel))) fun H2 e2 => ?_
    dsimp only [List.set]
    refine s_ret (v := .str (mkS [sg n])) (ev_op (ev_var rfl) (ev_op (ev_var rfl) ev_c (rv_I (by decide))) (rv_ixS (by rw [someS_len]; decide) (atN (j := (n % 94).toNat) ?_ ?_))) fun H3 e3 => k H3 ((e1.trans e2).trans e3)
    · have := Int.emod_nonneg n (show (94 : Int) ≠ 0 by decide)
      omega
    · rw [someS_list]
      exact sg_at n
def spNamesL : Sp := fun vs H Q _ => ∃ c m : Int, vs = [.int c, .int m] ∧ 1 ≤ m ∧ m ≤ 30 ∧ ∀ ns, Names ns m.toNat → RetL (ns.map V.str) H Q
theorem sum_ones (f : Nat → Nat) : ∀ l : List Nat, (l.map fun j => (mkS [f j]).length).sum = l.length
  | [] => rfl
  | a :: l => by
    rw [List.map_cons, List.sum_cons, sum_ones f l, mkS_len]
    show 1 + l.length = l.length + 1
    omega
theorem ok_l_names (T : Tx K mg) : FnOk P w K mg base CX0 2 T.f_l_names T.fd_l_names P_l_names spNamesL := by
  refine T.F_l_names.ok sc_l_names (fun vs H Q E h => ?_) (fun cdv A outer s H vs Q E hr h => ?_)
  · obtain ⟨a, b, rfl, _⟩ := h
    rfl
  · obtain ⟨c, m, rfl, hm1, hm2, k⟩ := h
    refine ⟨_, (pss_cons (ps_set (i := 0) sc_l_names.nd rfl (Or.inr rfl) (pe_op op_mod (pv 0) pe_int))
      (pss_cons (ps_set (i := 2) sc_l_names.nd rfl (Or.inl rfl) (pe_op op_add pe_int (pe_op op_mod (pe_op op_fdivW (pv 0) pe_int) pe_int)))
      (pss_cons (ps_if (pt_cmpR op_eq (pe_op op_mod (pe_op op_fdivW (pv 0) pe_int) pe_int) pe_int (nomark _)) (pss_one (ps_set (i := 2) sc_l_names.nd rfl (Or.inl rfl) (pe_op op_add pe_int (pe_op op_mod (pe_op op_fdivW (pv 0) pe_int) pe_int)))) pss_nil)
      (pss_cons (ps_if (pt_cmpR op_eq (pe_op op_mod (pv 0) pe_int) pe_int (nomark _)) (pss_cons (ps_set (i := 4) sc_l_names.nd rfl (Or.inr rfl) (pe_join pe_str (pe_lc (own := [("_law_j", 3)]) (g := (gName 3)) (by rfl) sc_l_names.nd (pi_range1 rfl T.n_range (pa_cons pe_int pa_nil)) (blkOk_by (own := [("_law_j", 3)]) (N := N_l_names) (sc := defScope s_l_names) (by decide +kernel)) (fun _ _ _ _ _ => (pg_name (i := 3) sc_l_names.nd rfl (Or.inl rfl))) (fun _ _ _ _ _ => pts_nil) (fun _ _ _ _ _ => (pe_call (ok_l_sign T) (hr.mono (by decide)) rfl T.mg_l_sign T.F_l_sign.kp T.b_l_sign .nil pass0 (pa_cons (pe_op op_add (pe_op op_mul (pv 0) (pe_op op_add (pv 3) pe_int)) (pe_op op_mul (pe_op op_mul pe_int (pv 3)) (pv 3))) pa_nil))))))
      (pss_one (ps_ret (pe_lc (own := [("_law_k", 5)]) (g := (gName 5)) (by rfl) sc_l_names.nd (pi_range1 rfl T.n_range (pa_cons (pv 1) pa_nil)) (blkOk_by (own := [("_law_k", 5)]) (N := N_l_names) (sc := defScope s_l_names) (by decide +kernel)) (fun _ _ _ _ _ => (pg_name (i := 5) sc_l_names.nd rfl (Or.inl rfl))) (fun _ _ _ _ _ => pts_nil) (fun _ _ _ _ _ => (pe_slice sl_str (pv 4) po_none (po_some (pe_op op_add pe_int (pv 5))))))))) pss_nil)
      (pss_cons (ps_set (i := 6) sc_l_names.nd rfl (Or.inr rfl) (pe_op op_mod (pe_op op_fdivW (pv 0) pe_int) (pv 2)))
      (pss_cons (ps_set (i := 7) sc_l_names.nd rfl (Or.inr rfl) (pe_op op_add pe_int (pe_op op_mul pe_int (pe_op op_mod (pe_op op_fdivW (pv 0) pe_int) pe_int))))
      (pss_cons (ps_set (i := 4) sc_l_names.nd rfl (Or.inr rfl) (pe_join pe_str (pe_lc (own := [("_law_j", 3)]) (g := (gName 3)) (by rfl) sc_l_names.nd (pi_range1 rfl T.n_range (pa_cons (pv 2) pa_nil)) (blkOk_by (own := [("_law_j", 3)]) (N := N_l_names) (sc := defScope s_l_names) (by decide +kernel)) (fun _ _ _ _ _ => (pg_name (i := 3) sc_l_names.nd rfl (Or.inl rfl))) (fun _ _ _ _ _ => pts_nil) (fun _ _ _ _ _ => (pe_call (ok_l_sign T) (hr.mono (by decide)) rfl T.mg_l_sign T.F_l_sign.kp T.b_l_sign .nil pass0 (pa_cons (pe_op op_add (pe_op op_mul (pv 0) (pe_op op_add (pe_op op_fdivW (pv 3) pe_int) pe_int)) (pe_op op_mul pe_int (pv 3))) pa_nil))))))
      (pss_one (ps_ret (pe_lc (own := [("_law_k", 5)]) (g := (gName 5)) (by rfl) sc_l_names.nd (pi_range1 rfl T.n_range (pa_cons (pv 1) pa_nil)) (blkOk_by (own := [("_law_k", 5)]) (N := N_l_names) (sc := defScope s_l_names) (by decide +kernel)) (fun _ _ _ _ _ => (pg_name (i := 5) sc_l_names.nd rfl (Or.inl rfl))) (fun _ _ _ _ _ => pts_nil) (fun _ _ _ _ _ => (pe_op op_add_str (pe_op op_add_str (pe_slice sl_str (pv 4) po_none (po_some (pv 6))) (pe_call (ok_l_sign T) (hr.mono (by decide)) rfl T.mg_l_sign T.F_l_sign.kp T.b_l_sign .nil pass0 (pa_cons (pe_op op_add (pv 0) (pe_op op_mul (pv 7) (pv 5))) pa_nil))) (pe_slice sl_str (pv 4) (po_some (pe_op op_add (pv 6) pe_int)) po_none))))))))))))), ?_⟩
    rw [show L2.start N_l_names [V.int c, V.int m] = [some (V.int c), some (V.int m), none, none, none, none, none, none] from rfl]
    refine q_asgZ (n := c % 1000003) (by walk_at "ev") fun H1 e1 c1 hc1 => ?_
    dsimp only [List.set]
    have c10 : 0 ≤ c1 := by rw [hc1]; exact Int.emod_nonneg _ (by decide)
    have c11 : c1 < 1000003 := by rw [hc1]; exact Int.emod_lt_of_pos _ (by decide)
    refine q_asgZ (n := 1 + c1 / 12 % 6) (by walk_at "ev") fun H2 e2 z0 hz0 => ?_
    dsimp only [List.set]
    refine q_ifZ (b := decide (V.int (c1 / 3 % 4) = V.int 1)) (n := z0) (m := 1 + c1 / 12 % 40) rfl (by walk_at "ev") (by walk_at "ev") fun H3 e3 z h1 h2 => ?_
    dsimp only [List.set]
    have hz : 1 ≤ z ∧ z ≤ 40 := by
      cases hb : decide (V.int (c1 / 3 % 4) = V.int 1) with
      | true => have := h1 hb; omega
      | false => have := h2 hb; omega
    clear h1 h2 hz0 z0 hc1
    have E3 := (e1.trans e2).trans e3
    have mm : ∀ {i j : Int}, 0 ≤ i → i < 2 ^ 64 → CMul i j := fun a b => .inl ⟨by omega, b⟩
    refine q_when (b := decide (V.int (c1 % 3) = V.int 0)) (by walk_at "ev") (fun hb H4 e4 => ?_) (fun hb H4 e4 => ?_)
    · obtain ⟨f, hf⟩ : ∃ f : Nat → Nat, ∀ j : Nat, sg (c1 * ((j : Int) + 3) + 7 * (j : Int) * (j : Int)) = f j := ⟨fun j => _, fun _ => rfl⟩
      obtain ⟨b, hb⟩ : ∃ b : List Nat, b = (List.range 40).map f := ⟨_, rfl⟩
      have hb0 : b.length = 40 := by rw [hb, List.length_map, List.length_range]
      have hbg : ∀ x ∈ b, 32 ≤ x ∧ x ≤ 126 := fun x hx => by
        rw [hb] at hx
        obtain ⟨j, _, rfl⟩ := List.mem_map.mp hx
        rw [← hf]
        exact sg_good _
      have hjoin : Txt.join (Str.ofString "") ((List.range 40).map fun j => mkS [f j]) = mkS b := by
        rw [hb, ← join_ones, List.map_map]
        rfl
      have hsum : (((List.range 40).map fun j => mkS [f j]).map (·.length)).sum + ((List.range 40).map fun j => mkS [f j]).length * (Str.ofString "").length ≤ 16777216 := by
        rw [List.map_map, List.length_map, List.length_range]
        have := sum_ones f (List.range 40)
        rw [List.length_range] at this
        rw [show (List.range 40).map ((fun x : Str => x.length) ∘ fun j => mkS [f j]) = (List.range 40).map fun j => (mkS [f j]).length from rfl, this]
        have : (Str.ofString "").length = 0 := by decide +kernel
        rw [this]
        decide
      refine q_asg (v := .str (mkS b)) (ev_is (ev_join (ws := (List.range 40).map fun j => mkS [f j]) ev_c ?_ hsum) (congrArg V.str hjoin)) fun H5 e5 => ?_
      · rw [List.map_map]
        refine el_lc (fun j => V.str (mkS [f j])) (ei_range (n := 40) (ea_cons ev_c ea_nil) (by decide)) (by decide) ?_
        rintro i H6 x H7 hi e6 ⟨rfl, rfl⟩
        refine ⟨Ex.refl _, _, got_name, rfl, ?_⟩
        have hi' : i < 40 := hi
        rw [← hf]
        exact ev_call0 (vs := [.int (c1 * ((i : Int) + 3) + 7 * (i : Int) * (i : Int))]) (ea_cons (ev_op (ev_op (ev_var rfl) (ev_op (ev_var rfl) ev_c rv_I0) (rv_I (mm c10 (by omega)))) (ev_op (ev_op ev_c (ev_var rfl) (rv_I (mm (by decide) (by decide)))) (ev_var rfl) (rv_I (mm (by omega) (by omega)))) rv_I0) ea_nil) sv_sign
      · dsimp only [List.set]
        have hN : Names (namesA b m.toNat) m.toNat := names_a hb0 (by omega) hbg
        have E5 := (E3.trans e4).trans e5
        refine s_retL (xs := (namesA b m.toNat).map V.str) ?_ fun p H6 hp e6 h6 => k _ hN p H6 (fresh_back E5 hp) (E5.trans e6) h6
        unfold namesA
        rw [List.map_map]
        refine el_lc (fun j => V.str (mkS (b.take (1 + j)))) (ei_range (n := m) (ea_cons (ev_var rfl) ea_nil) (by omega)) (by omega) ?_
        rintro i H6 x H7 hi e6 ⟨rfl, rfl⟩
        refine ⟨Ex.refl _, _, got_name, rfl, ?_⟩
        have hi' : i < m.toNat := hi
        refine ev_is (ev_slS (lo := none) (hi := some ((1 + i : Nat) : Int)) (ev_var rfl) eo_none (eo_some (ev_is (ev_op ev_c (ev_var rfl) rv_I0) (by congr 1))) (by rw [mkS_len]; omega)) ?_
        rw [cut_take _ _ (by rw [hb0]; omega)]
    · have E4 := E3.trans e4
      refine q_asgZ (n := c1 / 17 % z) (ev_op (ev_op (ev_var rfl) ev_c (rv_I (by walk_at "side"))) (ev_var rfl) (rv_I (by omega))) fun H5 e5 at_ hat => ?_
      dsimp only [List.set]
      have at0 : 0 ≤ at_ := by rw [hat]; exact Int.emod_nonneg _ (by omega)
      have at1 : at_ < z := by rw [hat]; exact Int.emod_lt_of_pos _ (by omega)
      clear hat
      refine q_asgZ (n := 1 + 31 * (c1 / 5 % 2)) (ev_op ev_c (ev_op ev_c (ev_op (ev_op (ev_var rfl) ev_c (rv_I (by walk_at "side"))) ev_c (rv_I (by decide))) (rv_I (mm (by decide) (by decide)))) rv_I0) fun H6 e6 st hst => ?_
      dsimp only [List.set]
      have hst' : st = 1 ∨ st = 32 := by omega
      clear hst
      obtain ⟨f, hf⟩ : ∃ f : Nat → Nat, ∀ j : Nat, sg (c1 * ((j : Int) / 2 + 1) + 5 * (j : Int)) = f j := ⟨fun j => _, fun _ => rfl⟩
      obtain ⟨b, hb⟩ : ∃ b : List Nat, b = (List.range z.toNat).map f := ⟨_, rfl⟩
      have hb0 : b.length = z.toNat := by rw [hb, List.length_map, List.length_range]
      have hbg : ∀ x ∈ b, 32 ≤ x ∧ x ≤ 126 := fun x hx => by
        rw [hb] at hx
        obtain ⟨j, _, rfl⟩ := List.mem_map.mp hx
        rw [← hf]
        exact sg_good _
      have hjoin : Txt.join (Str.ofString "") ((List.range z.toNat).map fun j => mkS [f j]) = mkS b := by
        rw [hb, ← join_ones, List.map_map]
        rfl
      have hsum : (((List.range z.toNat).map fun j => mkS [f j]).map (·.length)).sum + ((List.range z.toNat).map fun j => mkS [f j]).length * (Str.ofString "").length ≤ 16777216 := by
        rw [List.map_map, List.length_map, List.length_range]
        have := sum_ones f (List.range z.toNat)
        rw [List.length_range] at this
        rw [show (List.range z.toNat).map ((fun x : Str => x.length) ∘ fun j => mkS [f j]) = (List.range z.toNat).map fun j => (mkS [f j]).length from rfl, this]
        have : (Str.ofString "").length = 0 := by decide +kernel
        rw [this]
        omega
      refine q_asg (v := .str (mkS b)) (ev_is (ev_join (ws := (List.range z.toNat).map fun j => mkS [f j]) ev_c ?_ hsum) (congrArg V.str hjoin)) fun H7 e7 => ?_
      · rw [List.map_map]
        refine el_lc (fun j => V.str (mkS [f j])) (ei_range (n := z) (ea_cons (ev_var rfl) ea_nil) (by omega)) (by omega) ?_
        rintro i H8 x H9 hi e8 ⟨rfl, rfl⟩
        refine ⟨Ex.refl _, _, got_name, rfl, ?_⟩
        have hi' : i < z.toNat := hi
        rw [← hf]
        exact ev_call0 (vs := [.int (c1 * ((i : Int) / 2 + 1) + 5 * (i : Int))]) (ea_cons (ev_op (ev_op (ev_var rfl) (ev_op (ev_op (ev_var rfl) ev_c (rv_I (by walk_at "side"))) ev_c rv_I0) (rv_I (mm c10 (by omega)))) (ev_op ev_c (ev_var rfl) (rv_I (mm (by decide) (by decide)))) rv_I0) ea_nil) sv_sign
      · dsimp only [List.set]
        have E7 := ((E4.trans e5).trans e6).trans e7
        have hN : Names (namesB b at_.toNat (fun k => sg (c1 + st * (k : Int))) m.toNat) m.toNat := names_b (by rw [hb0]; omega) (by rw [hb0]; omega) hbg (fun k => sg_good _) fun i j hi hj h => by
            have := sg_inj h
            rcases hst' with rfl | rfl <;> omega
        refine s_retL (xs := (namesB b at_.toNat (fun k => sg (c1 + st * (k : Int))) m.toNat).map V.str) ?_ fun p H8 hp e8 h8 => k _ hN p H8 (fresh_back E7 hp) (E7.trans e8) h8
        unfold namesB
        rw [List.map_map]
        refine el_lc (fun j => V.str (mkS (b.take at_.toNat ++ [sg (c1 + st * (j : Int))] ++ b.drop (at_.toNat + 1)))) (ei_range (n := m) (ea_cons (ev_var rfl) ea_nil) (by omega)) (by omega) ?_
        rintro i H8 x H9 hi e8 ⟨rfl, rfl⟩
        refine ⟨Ex.refl _, _, got_name, rfl, ?_⟩
        have hi' : i < m.toNat := hi
        have sl1 : cutS (mkS b) none (some at_) = mkS (b.take at_.toNat) := by
          have := cut_take b at_.toNat (by rw [hb0]; omega)
          rwa [show ((at_.toNat : Nat) : Int) = at_ by omega] at this
        have sl2 : cutS (mkS b) (some (at_ + 1)) none = mkS (b.drop (at_.toNat + 1)) := by
          have := cut_drop b (at_.toNat + 1) (by rw [hb0]; omega)
          rwa [show ((at_.toNat + 1 : Nat) : Int) = at_ + 1 by omega] at this
        have lb : (mkS b).length ≤ 100000 := by rw [mkS_len, hb0]; omega
        refine ev_is (ev_op (ev_op (ev_is (ev_slS (lo := none) (hi := some at_) (ev_var rfl) eo_none (eo_some (ev_var rfl)) lb) (congrArg V.str sl1)) (ev_call0 (vs := [.int (c1 + st * (i : Int))]) (ea_cons (ev_op (ev_var rfl) (ev_op (ev_var rfl) (ev_var rfl) (rv_I (mm (by omega) (by omega)))) rv_I0) ea_nil) sv_sign) (rv_addS ?_)) (ev_is (ev_slS (lo := some (at_ + 1)) (hi := none) (ev_var rfl) (eo_some (ev_op (ev_var rfl) ev_c rv_I0)) eo_none lb) (congrArg V.str sl2)) (rv_addS ?_)) ?_
        · rw [mkS_len, mkS_len, List.length_take, hb0, List.length_singleton]; omega
        · rw [mkS_app, mkS_len, mkS_len, List.length_append, List.length_take, List.length_drop, hb0, List.length_singleton]; omega
        · rw [mkS_app, mkS_app]
end

end Own
namespace Own
open PySem L2 PyProof.Rows Evl OwnS
/-- a condition of arithmetic -/
local macro_rules | `(tactic| walk_at "side") => `(tactic| first
  | assumption
  | (show _ ∧ _; omega)
  | (apply pos9 <;> omega)
  | (show (0 : Int) < _; omega)
  | (show _ ∨ _; omega)
  | decide
  | omega)
local macro_rules | `(tactic| walk_at "fn") => `(tactic| fail "no fn")
local macro_rules | `(tactic| walk_at "ev") => `(tactic| first
  | ((with_reducible apply ev_var) ; exact rfl)
  | with_reducible exact ev_c
  | ((with_reducible apply ev_op) <;> walk_at "ev")
  | with_reducible exact rv_I0
  | ((with_reducible apply rv_I) ; walk_at "side")
  | ((with_reducible apply rv_eq) ; rfl)
  | ((with_reducible apply rv_ne) ; rfl)
  | ((with_reducible apply ev_isInt) ; walk_at "ev")
  | ((with_reducible apply ev_isBoolI) ; walk_at "ev")
  | ((with_reducible apply ev_isIntB) ; walk_at "ev")
  | ((with_reducible apply ev_isBoolB) ; walk_at "ev")
  | ((with_reducible apply ev_notV) ; walk_at "ev")
  | ((with_reducible apply et_test) ; walk_at "ev")
  | ((with_reducible apply et_B) ; walk_at "ev")
  | ((with_reducible apply et_not) ; walk_at "ev")
  | with_reducible exact ea_nil
  | ((with_reducible apply ea_cons) <;> walk_at "ev")
  | ((with_reducible apply ev_call0) <;> walk_at "ev")
  | ((with_reducible show SpV _ _ _ _); walk_at "fn"))

/-! ### rules that are good; names as data -/
theorem range_getD {α : Type} (l : List α) (d : α) : (List.range l.length).map (fun i => l.getD i d) = l := by
  apply List.ext_getElem?
  intro i
  rw [List.getElem?_map]
  by_cases h : i < l.length
  · rw [List.getElem?_range h, Option.map_some, List.getD_eq_getElem?_getD, List.getElem?_eq_getElem h]
    rfl
  · rw [List.getElem?_eq_none (by rw [List.length_range]; omega), List.getElem?_eq_none (by omega)]
    rfl
theorem strOk_good {n : Str} (h : GoodName n) : PyData.strOk n = true := by
  unfold PyData.strOk
  rw [Array.all_eq_true']
  intro c hc
  have := h.2.2 c (Array.mem_toList_iff.mpr hc)
  exact decide_eq_true (by omega)
theorem flat_names {ns : List Str} (h : ∀ n ∈ ns, GoodName n) : ∀ x ∈ ns.map V.str, FlatV x := by
  intro x hx
  obtain ⟨n, hn, rfl⟩ := List.mem_map.mp hx
  exact .str n (strOk_good (h n hn))
structure Rule (span part : Int) : Prop where
  s1 : 1 ≤ span
  s2 : span ≤ 100000000000000000000
  p1 : 2 ≤ part
  p2 : part ≤ 1000000000000000000000000000000
theorem Rule.wfS {span part places : Int} (r : Rule span part) (h : 1 ≤ places) : WF .shelf (th0 span part places) := wf0 (by have := r.s1; omega) (by have := r.s2; omega) r.p1 (by have := r.p2; omega) (fun _ => h)
theorem Rule.wfR {span part places : Int} (r : Rule span part) : WF .row (th0 span part places) := wf0 (by have := r.s1; omega) (by have := r.s2; omega) r.p1 (by have := r.p2; omega) (fun h => nomatch h)

/-! ### numbers drawn; deeds -/
theorem q20 : (10 : Int) ^ (20 : Int).toNat = 100000000000000000000 := by decide
theorem q30 : (10 : Int) ^ (30 : Int).toNat = 1000000000000000000000000000000 := by decide
theorem ev_q20 {H : Hp} {σ : L2.St} : Ev (tOp (rI CPow fun i j => .int (i ^ j.toNat)) (tC (.int 10)) (tC (.int 20))) σ H (.int 100000000000000000000) := ev_is (ev_op ev_c ev_c (rv_I (by unfold CPow; decide))) (by rw [q20])
theorem ev_q30 {H : Hp} {σ : L2.St} : Ev (tOp (rI CPow fun i j => .int (i ^ j.toNat)) (tC (.int 10)) (tC (.int 30))) σ H (.int 1000000000000000000000000000000) := ev_is (ev_op ev_c ev_c (rv_I (by unfold CPow; decide))) (by rw [q30])
local macro_rules | `(tactic| walk_at "ev") => `(tactic| first | with_reducible exact ev_q20 | with_reducible exact ev_q30)
theorem mul_s {i j : Int} (h : -(2 ^ 64) < j) (h2 : j < 2 ^ 64) : CMul i j := .inr ⟨h, h2⟩
theorem mul_l {i j : Int} (h : -(2 ^ 64) < i) (h2 : i < 2 ^ 64) : CMul i j := .inl ⟨h, h2⟩
local macro_rules | `(tactic| walk_at "side") => `(tactic| first | (apply mul_l <;> omega) | (apply mul_s <;> omega))
section
variable {P : Program} {w : World} {K : PySem.W.Frag} {mg : Str → Option Value} {base : Heap}
/-- a number of a range -/
def spIn (lo hi : Int) : Sp := fun vs H Q _ => ∃ c : Int, vs = [.int c] ∧ ∀ r, lo ≤ r → r ≤ hi → RetV (.int r) H Q
theorem sp_in {lo hi c : Int} {H : Hp} : SpP (spIn lo hi) [.int c] H (fun v _ => ∃ r, v = .int r ∧ lo ≤ r ∧ r ≤ hi) := fun H1 e Q q E => ⟨c, rfl, fun r h1 h2 H2 e2 => q _ H2 e2 ⟨r, rfl, h1, h2⟩⟩

theorem ok_l_span (T : Tx K mg) : FnOk P w K mg base CX0 1 T.f_l_span T.fd_l_span P_l_span (spIn 1 100000000000000000000) := by
  refine T.F_l_span.ok sc_l_span (fun vs H Q E h => ?_) (fun cdv A outer s H vs Q E hr h => ?_)
  · obtain ⟨a, rfl, _⟩ := h
    rfl
  · obtain ⟨c, rfl, k⟩ := h
    refine ⟨_, (pss_cons (ps_if (pt_cmpR op_eq (pe_op op_mod (pv 0) pe_int) pe_int (nomark _)) (pss_one (ps_ret (pe_op op_add pe_int (pe_op op_mod (pe_op op_fdivW (pv 0) pe_int) (pe_op op_pow pe_int pe_int))))) pss_nil)
      (pss_one (ps_ret (pe_op op_add pe_int (pe_op op_mod (pe_op op_fdivW (pv 0) pe_int) pe_int))))), ?_⟩
    refine q_when (b := decide (V.int (c % 4) = V.int 3)) (by walk_at "ev") (fun hb H1 e1 => ?_) (fun hb H1 e1 => ?_)
    · exact s_ret (v := .int (1 + c / 4 % 100000000000000000000)) (by walk_at "ev") (fun H2 e2 => k _ (by omega) (by omega) H2 (e1.trans e2))
    · exact s_ret (v := .int (1 + c / 4 % 12)) (by walk_at "ev") (fun H2 e2 => k _ (by omega) (by omega) H2 (e1.trans e2))
theorem ok_l_part (T : Tx K mg) : FnOk P w K mg base CX0 1 T.f_l_part T.fd_l_part P_l_part (spIn 2 1000000000000000000000000000000) := by
  refine T.F_l_part.ok sc_l_part (fun vs H Q E h => ?_) (fun cdv A outer s H vs Q E hr h => ?_)
  · obtain ⟨a, rfl, _⟩ := h
    rfl
  · obtain ⟨c, rfl, k⟩ := h
    refine ⟨_, (pss_cons (ps_if (pt_cmpR op_eq (pe_op op_mod (pv 0) pe_int) pe_int (nomark _)) (pss_one (ps_ret (pe_op op_add pe_int (pe_op op_mod (pe_op op_fdivW (pv 0) pe_int) (pe_op op_sub (pe_op op_pow pe_int pe_int) pe_int))))) pss_nil)
      (pss_one (ps_ret (pe_op op_add pe_int (pe_op op_mod (pe_op op_fdivW (pv 0) pe_int) pe_int))))), ?_⟩
    refine q_when (b := decide (V.int (c % 5) = V.int 4)) (by walk_at "ev") (fun hb H1 e1 => ?_) (fun hb H1 e1 => ?_)
    · exact s_ret (v := .int (2 + c / 5 % (1000000000000000000000000000000 - 1))) (by walk_at "ev") (fun H2 e2 => k _ (by omega) (by omega) H2 (e1.trans e2))
    · exact s_ret (v := .int (2 + c / 5 % 3)) (by walk_at "ev") (fun H2 e2 => k _ (by omega) (by omega) H2 (e1.trans e2))
def RetU (xs : List V) (H : Hp) (Q : VK) : Prop := ∀ p H2, H p = none → Ex H H2 → H2 p = some (.tup xs) → Q (.ref p) H2
theorem RetU.go {xs : List V} {H : Hp} {Q : VK} (k : RetU xs H Q) {H1 : Hp} (e : Ex H H1) : RetU xs H1 Q := fun p H2 hp e2 h2 => k p H2 (fresh_back e hp) (e.trans e2) h2
theorem ev_ixN {σ : L2.St} {H : Hp} {ta tb : TE} {xs : List V} {i : Int} {v : V} (h : EvL ta σ H xs) (hb : Ev tb σ H (.int i)) (ha : atI xs i = some v) : Ev (tOp (rIxL K) ta tb) σ H v := fun H1 e Q q =>
  h H1 e _ fun p H2 hp e2 h2 => hb H2 (e.trans e2) _ fun H3 e3 => ⟨p, xs, i, v, rfl, rfl, sq_of (e3 p _ h2), ha, q H3 (e2.trans e3)⟩
def spDeed (K : PySem.W.Frag) : Sp := fun vs H Q _ => ∃ (c : Int) (j : Nat) (a : Addr) (ns : List Str) (span light : Int), vs = [.int c, .int j, .ref a, .int span, .int light] ∧ SqL K H a (ns.map V.str) ∧ 1 ≤ ns.length ∧ ns.length ≤ 30 ∧ j ≤ 1000 ∧ 1 ≤ span ∧ span ≤ 100000000000000000000 ∧ 0 ≤ light ∧ light < 3 ∧
  ∀ d : Deed, d.Good ns → RetU d.V H Q
theorem ok_l_deed (T : Tx K mg) : FnOk P w K mg base CX0 1 T.f_l_deed T.fd_l_deed P_l_deed (spDeed K) := by
  refine T.F_l_deed.ok sc_l_deed (fun vs H Q E h => ?_) (fun cdv A outer s H vs Q E hr h => ?_)
  · obtain ⟨_, _, _, _, _, _, rfl, _⟩ := h
    rfl
  · obtain ⟨c, j, a, ns, span, light, rfl, hN, n1, n2, hj, s1, s2, l1, l2, k⟩ := h
    refine ⟨_, (pss_cons (ps_set (i := 5) sc_l_deed.nd rfl (Or.inl rfl) (pe_op op_mod (pe_op op_add (pe_op op_add (pe_op op_mul (pv 0) pe_int) (pe_op op_mul (pe_op op_mul (pv 1) (pv 1)) pe_int)) pe_int) pe_int))
      (pss_cons (ps_set (i := 6) sc_l_deed.nd rfl (Or.inl rfl) (pe_ix ix_list (pv 2) (pe_op op_mod (pe_op op_fdivW (pv 5) pe_int) (pe_callB call_len_seq (by rfl) T.n_len PySem.boot_len (pa_cons (pv 2) pa_nil))) (fun _ _ => rfl)))
      (pss_cons (ps_if (pt_cmpR op_eq (pe_op op_mod (pv 5) pe_int) pe_int (nomark _)) (pss_one (ps_ret (pe_tup (pa_cons pe_str (pa_cons (pv 6) (pa_cons pe_int pa_nil)))))) pss_nil)
      (pss_cons (ps_if (PW.pt (pw_and (pt_cmpR op_eq (pe_op op_mod (pv 5) pe_int) pe_int (nomark _)) (pw_and1 (pt_cmpR op_eq (pe_op op_mod (pv 0) pe_int) pe_int (nomark _))))) (pss_one (ps_ret (pe_tup (pa_cons pe_str (pa_cons pe_str (pa_cons (pe_op op_mod (pe_op op_fdivW (pv 0) pe_int) (pe_op op_add (pe_op op_pow pe_int pe_int) pe_int)) pa_nil)))))) pss_nil)
      (pss_cons (ps_if (pt_cmpR op_eq (pe_op op_mod (pv 5) pe_int) pe_int (nomark _)) (pss_one (ps_ret (pe_tup (pa_cons pe_str (pa_cons pe_str (pa_cons (pe_op op_mod (pe_op op_fdivW (pv 0) pe_int) (pe_op op_add (pe_op op_mul pe_int (pv 3)) pe_int)) pa_nil)))))) pss_nil)
      (pss_one (ps_ret (pe_tup (pa_cons pe_str (pa_cons (pv 6) (pa_cons (pe_ix ix_list (pe_lst (pa_cons pe_int (pa_cons (pe_op op_add pe_int (pe_op op_mod (pv 0) pe_int)) (pa_cons (pe_op op_add pe_int (pe_op op_mod (pv 0) (pe_op op_pow pe_int pe_int))) pa_nil)))) (pv 4) (fun _ _ => rfl)) pa_nil))))))))))), ?_⟩
    rw [show L2.start N_l_deed [V.int c, V.int j, V.ref a, V.int span, V.int light] = [some (V.int c), some (V.int j), some (V.ref a), some (V.int span), some (V.int light), none, none] from rfl]
    refine q_asgZ (n := (c * 48271 + j * j * 69621 + 3) % 2147483647) (by walk_at "ev") fun H1 e1 m hm => ?_
    dsimp only [List.set]
    have m0 : 0 ≤ m := by rw [hm]; exact Int.emod_nonneg _ (by decide)
    clear hm
    have hi : m / 8 % (ns.length : Int) < ns.length := Int.emod_lt_of_pos _ (by omega)
    have hi0 : 0 ≤ m / 8 % (ns.length : Int) := Int.emod_nonneg _ (by omega)
    obtain ⟨n, hn⟩ : ∃ n, ns[(m / 8 % (ns.length : Int)).toNat]? = some n := ⟨_, List.getElem?_eq_getElem (by omega)⟩
    have hmem : n ∈ ns := List.mem_of_getElem? hn
    have hN1 := ex_l e1 hN
    have hlen : ((ns.map V.str).length : Int) = ns.length := by rw [List.length_map]
    refine q_asg (v := .str n) (ev_op (ev_var rfl) (ev_op (ev_op (ev_var rfl) ev_c (rv_I (by walk_at "side"))) (ev_len (ev_var rfl) hN1) (rv_I (by omega))) (rv_ixL hN1 (atN (j := (m / 8 % (ns.length : Int)).toNat) (by rw [hlen]; omega) (by rw [List.getElem?_map, hn]; rfl)))) fun H2 e2 => ?_
    dsimp only [List.set]
    have E2 := e1.trans e2
    refine q_when (b := decide (V.int (m % 8) = V.int 6)) (by walk_at "ev") (fun hb H3 e3 => ?_) (fun hb H3 e3 => ?_)
    · exact s_retU (xs := (Deed.drop n).V) (eu_tup (ea_cons ev_c (ea_cons (ev_var rfl) (ea_cons ev_c ea_nil))) (by simp [Deed.V])) ((k (.drop n) hmem).go (E2.trans e3))
    have E3 := E2.trans e3
    refine q_when (b := decide (V.int (m % 8) = V.int 7) && decide (V.int (c % 3) = V.int 0)) (et_and (by walk_at "ev") (fun _ => by walk_at "ev")) (fun hb H4 e4 => ?_) (fun hb H4 e4 => ?_)
    · have g0 : 0 ≤ c / 3 % (1000000000000000000000000000000 + 1) := Int.emod_nonneg _ (by decide)
      have g1 : c / 3 % (1000000000000000000000000000000 + 1) < 1000000000000000000000000000000 + 1 := Int.emod_lt_of_pos _ (by decide)
      exact s_retU (xs := (Deed.rest (c / 3 % (1000000000000000000000000000000 + 1))).V) (eu_tup (ea_cons ev_c (ea_cons ev_c (ea_cons (by walk_at "ev") ea_nil))) (by simp [Deed.V])) ((k (.rest _) ⟨g0, by omega⟩).go (E3.trans e4))
    have E4 := E3.trans e4
    refine q_when (b := decide (V.int (m % 8) = V.int 7)) (by walk_at "ev") (fun hb H5 e5 => ?_) (fun hb H5 e5 => ?_)
    · have g0 : 0 ≤ c / 3 % (2 * span + 2) := Int.emod_nonneg _ (by omega)
      have g1 : c / 3 % (2 * span + 2) < 2 * span + 2 := Int.emod_lt_of_pos _ (by omega)
      exact s_retU (xs := (Deed.rest (c / 3 % (2 * span + 2))).V) (eu_tup (ea_cons ev_c (ea_cons ev_c (ea_cons (by walk_at "ev") ea_nil))) (by simp [Deed.V])) ((k (.rest _) ⟨g0, by omega⟩).go (E4.trans e5))
    have E5 := E4.trans e5
    obtain ⟨x, hx, x1, x2⟩ : ∃ x, atI [V.int 1, V.int (1 + c % 4), V.int (1 + c % 1000000000000000000000000000000)] light = some (V.int x) ∧ 1 ≤ x ∧ x ≤ 1000000000000000000000000000000 := by
      have : light = 0 ∨ light = 1 ∨ light = 2 := by omega
      rcases this with rfl | rfl | rfl
      · exact ⟨1, rfl, by decide, by decide⟩
      · exact ⟨1 + c % 4, rfl, by omega, by omega⟩
      · exact ⟨1 + c % 1000000000000000000000000000000, rfl, by omega, by omega⟩
    exact s_retU (xs := (Deed.ask n x).V) (eu_tup (ea_cons ev_c (ea_cons (ev_var rfl) (ea_cons (ev_ixN (el_lst (ea_cons ev_c (ea_cons (by walk_at "ev") (ea_cons (by walk_at "ev") ea_nil))) (by simp)) (ev_var rfl) hx) ea_nil))) (by simp [Deed.V])) ((k (.ask n x) ⟨hmem, x1, x2⟩).go E5)

section
variable {k : Kd}
theorem nm_rest {ad : Ad} {s : Th} : (flds k ad s).lookup ("rest" : Str) = none := by cases k <;> kernel_rfl
theorem nm_drop {ad : Ad} {s : Th} : (flds k ad s).lookup ("drop" : Str) = none := by cases k <;> kernel_rfl
theorem nm_ask {ad : Ad} {s : Th} : (flds k ad s).lookup ("ask" : Str) = none := by cases k <;> kernel_rfl
theorem nm_names {ad : Ad} {s : Th} : (flds k ad s).lookup ("names" : Str) = none := by cases k <;> kernel_rfl
theorem nm_time_now {ad : Ad} {s : Th} : (flds k ad s).lookup ("time_now" : Str) = none := by cases k <;> kernel_rfl
theorem nm_deeds_done {ad : Ad} {s : Th} : (flds k ad s).lookup ("deeds_done" : Str) = none := by cases k <;> kernel_rfl
theorem nm_count_of {ad : Ad} {s : Th} : (flds k ad s).lookup ("count_of" : Str) = none := by cases k <;> kernel_rfl
theorem nm_last_of {ad : Ad} {s : Th} : (flds k ad s).lookup ("last_of" : Str) = none := by cases k <;> kernel_rfl
end

/-- a deed done to a thing of a kind -/
def spDo (k : Kd) (C : Addr) (K : PySem.W.Frag) : Sp := fun vs H Q _ => ∃ (ad : Ad) (s : Th) (d : Deed) (a : Addr) (ns : List Str), vs = [.ref ad.p, .ref a] ∧ At k C ad H s ∧ WF k s ∧ s.deed < 1000 ∧ SqT K H a d.V ∧ d.Good ns ∧ (∀ n ∈ ns, GoodName n) ∧
  ∀ H', At k C ad H' (k.act s d).2 → Kp k ad H H' → Q (k.act s d).1 H'
theorem ok_l_do {k : Kd} {C : Addr} (T : Tx K mg) (U : Vt P w base T k C) : FnOk P w K mg base CX0 10 T.f_l_do T.fd_l_do P_l_do (spDo k C K) := by
  refine T.F_l_do.ok sc_l_do (fun vs H Q E h => ?_) (fun cdv A outer s H vs Q E hr h => ?_)
  · obtain ⟨_, _, _, _, _, rfl, _⟩ := h
    rfl
  · obtain ⟨ad, s, d, a, ns, rfl, A, W, hd, hD, hg, hn, kk⟩ := h
    have G_rest := ok_Book_rest T U
    have b_rest := T.b_Book_rest
    have G_drop := ok_Book_drop T U
    have b_drop := T.b_Book_drop
    have G_ask := ok_Book_ask T U
    have b_ask := T.b_Book_ask
    obtain ⟨ds, hv, hb1⟩ := T.bd_Book_ask
    refine ⟨_, (pss_cons (ps_if (pt_cmpR op_eq (pe_ix ix_tup (pv 1) pe_int (fun _ _ => rfl)) pe_str (nomark _)) (pss_one (ps_ret (pe_meth (pv 0) U.cl U.m_rest G_rest (hr.mono (by decide)) b_rest .nil pass0 (pa_cons (pe_ix ix_tup (pv 1) pe_int (fun _ _ => rfl)) pa_nil)))) pss_nil)
      (pss_cons (ps_if (pt_cmpR op_eq (pe_ix ix_tup (pv 1) pe_int (fun _ _ => rfl)) pe_str (nomark _)) (pss_one (ps_ret (pe_meth (pv 0) U.cl U.m_drop G_drop (hr.mono (by decide)) b_drop .nil pass0 (pa_cons (pe_ix ix_tup (pv 1) pe_int (fun _ _ => rfl)) pa_nil)))) pss_nil)
      (pss_cons (ps_if (pt_cmpR op_eq (pe_ix ix_tup (pv 1) pe_int (fun _ _ => rfl)) pe_int (nomark _)) (pss_one (ps_ret (pe_meth (pv 0) U.cl U.m_ask G_ask (hr.mono (by decide)) hb1 hv pass0 (pa_cons (pe_ix ix_tup (pv 1) pe_int (fun _ _ => rfl)) pa_nil)))) pss_nil)
      (pss_one (ps_ret (pe_meth (pv 0) U.cl U.m_ask G_ask (hr.mono (by decide)) b_ask .nil pass0 (pa_cons (pe_ix ix_tup (pv 1) pe_int (fun _ _ => rfl)) (pa_cons (pe_ix ix_tup (pv 1) pe_int (fun _ _ => rfl)) pa_nil)))))))), ?_⟩
    rw [show L2.start N_l_do [V.ref ad.p, V.ref a] = [some (V.ref ad.p), some (V.ref a)] from rfl]
    have tg : ∀ {H' : Hp} (i : Nat) {v : V}, Ex H H' → d.V[i]? = some v → Ev (tOp (rIxT K) (tVar 1) (tC (.int (i : Int)))) [some (V.ref ad.p), some (V.ref a)] H' v := fun i _ e h => ev_op (ev_var rfl) ev_c (rv_ixT (ex_t e hD) (atN rfl h))
    cases d with
    | rest t =>
      refine q_when (b := true) (et_is (et_test (ev_op (tg 0 (Ex.refl _) rfl) ev_c (rv_eq rfl))) (by decide +kernel)) (fun _ H1 e1 => ?_) (fun hb => nomatch hb)
      exact s_retM (ev_var rfl) (A.ex e1).ob nm_rest (ea_cons (tg 2 e1 rfl) ea_nil) fun H2 e2 => ⟨ad, s, t, rfl, A.ex (e1.trans e2), W, hd, hg.1, hg.2, fun H3 A3 K3 => kk H3 A3 ((Kp.ex (e1.trans e2)).trans K3)⟩
    | drop n =>
      refine q_when (b := false) (et_is (et_test (ev_op (tg 0 (Ex.refl _) rfl) ev_c (rv_eq rfl))) (by decide +kernel)) (fun hb => nomatch hb) (fun _ H1 e1 => ?_)
      refine q_when (b := true) (et_is (et_test (ev_op (tg 0 e1 rfl) ev_c (rv_eq rfl))) (by decide +kernel)) (fun _ H2 e2 => ?_) (fun hb => nomatch hb)
      have E2 := e1.trans e2
      exact s_retM (ev_var rfl) (A.ex E2).ob nm_drop (ea_cons (tg 1 E2 rfl) ea_nil) fun H3 e3 => ⟨ad, s, n, rfl, A.ex (E2.trans e3), W, hd, hn n hg, fun H4 A4 K4 => kk H4 A4 ((Kp.ex (E2.trans e3)).trans K4)⟩
    | ask n x =>
      refine q_when (b := false) (et_is (et_test (ev_op (tg 0 (Ex.refl _) rfl) ev_c (rv_eq rfl))) (by decide +kernel)) (fun hb => nomatch hb) (fun _ H1 e1 => ?_)
      refine q_when (b := false) (et_is (et_test (ev_op (tg 0 e1 rfl) ev_c (rv_eq rfl))) (by decide +kernel)) (fun hb => nomatch hb) (fun _ H2 e2 => ?_)
      have E2 := e1.trans e2
      refine q_when (b := decide (V.int x = V.int 1)) (et_test (ev_op (tg 2 E2 rfl) ev_c (rv_eq rfl))) (fun hb H3 e3 => ?_) (fun hb H3 e3 => ?_)
      · have E3 := E2.trans e3
        have hx : x = 1 := by rw [dec_i] at hb; exact of_decide_eq_true hb
        refine ev_methR (Q := Q) (dvs := [.int 1]) (ev_var rfl) (A.ex E3).ob nm_ask (ea_cons (tg 1 E3 rfl) ea_nil) fun H4 e4 => ?_
        refine ⟨ad, s, n, 1, rfl, A.ex (E3.trans e4), W, hd, hn n hg.1, by decide, by decide, fun H5 A5 K5 => ?_⟩
        rw [hx] at kk
        exact kk H5 A5 ((Kp.ex (E3.trans e4)).trans K5)
      · have E3 := E2.trans e3
        exact s_retM (ev_var rfl) (A.ex E3).ob nm_ask (ea_cons (tg 1 E3 rfl) (ea_cons (tg 2 E3 rfl) ea_nil)) fun H4 e4 => ⟨ad, s, n, x, rfl, A.ex (E3.trans e4), W, hd, hn n hg.1, hg.2.1, hg.2.2, fun H5 A5 K5 => kk H5 A5 ((Kp.ex (E3.trans e4)).trans K5)⟩
end

end Own
namespace Own
open PySem L2 PyProof.Rows Evl OwnS
/-- a condition of arithmetic -/
local macro_rules | `(tactic| walk_at "side") => `(tactic| first
  | assumption
  | (show _ ∧ _; omega)
  | (apply pos9 <;> omega)
  | (show (0 : Int) < _; omega)
  | (show _ ∨ _; omega)
  | decide
  | omega)
local macro_rules | `(tactic| walk_at "fn") => `(tactic| fail "no fn")
local macro_rules | `(tactic| walk_at "ev") => `(tactic| first
  | ((with_reducible apply ev_var) ; exact rfl)
  | with_reducible exact ev_c
  | ((with_reducible apply ev_op) <;> walk_at "ev")
  | with_reducible exact rv_I0
  | ((with_reducible apply rv_I) ; walk_at "side")
  | ((with_reducible apply rv_eq) ; rfl)
  | ((with_reducible apply rv_ne) ; rfl)
  | ((with_reducible apply ev_isInt) ; walk_at "ev")
  | ((with_reducible apply ev_isBoolI) ; walk_at "ev")
  | ((with_reducible apply ev_isIntB) ; walk_at "ev")
  | ((with_reducible apply ev_isBoolB) ; walk_at "ev")
  | ((with_reducible apply ev_notV) ; walk_at "ev")
  | ((with_reducible apply et_test) ; walk_at "ev")
  | ((with_reducible apply et_B) ; walk_at "ev")
  | ((with_reducible apply et_not) ; walk_at "ev")
  | with_reducible exact ea_nil
  | ((with_reducible apply ea_cons) <;> walk_at "ev")
  | ((with_reducible apply ev_call0) <;> walk_at "ev")
  | ((with_reducible show SpV _ _ _ _); walk_at "fn"))

section
variable {P : Program} {w : World} {K : PySem.W.Frag} {mg : Str → Option Value} {base : Heap} {k : Kd} {C : Addr}
theorem el_names {ad : Ad} {s : Th} {H : Hp} {σ : L2.St} {ta : TE} {E : XK} (A : At k C ad H s) (W : WF k s) (hd : s.deed ≤ 1000) (h : Ev ta σ H (.ref ad.p)) : EvL (tMeth C "names" (spNames k C) [] E ta tNil) σ H ((k.names s).map V.str) :=
  el_meth h A.ob nm_names ea_nil fun H1 e Q q E => ⟨ad, s, rfl, A.ex e, W, hd, q⟩
end

section
variable {P : Program} {w : World} {K : PySem.W.Frag} {mg : Str → Option Value} {base : Heap} {k : Kd} {C : Addr}
def spTime (k : Kd) (C : Addr) : Sp := fun vs H Q _ => ∃ (ad : Ad) (s : Th), vs = [.ref ad.p] ∧ At k C ad H s ∧ RetV (.int s.time) H Q
theorem ok_Book_time_now (T : Tx K mg) (U : Cl0 T C) : FnOk P w K mg base CX0 1 T.f_Book_time_now T.fd_Book_time_now P_Book_time_now (spTime k C) := by
  refine T.F_Book_time_now.ok sc_Book_time_now (fun vs H Q E h => ?_) (fun cdv A outer s H vs Q E hr h => ?_)
  · obtain ⟨_, _, rfl, _⟩ := h
    rfl
  · obtain ⟨ad, s, rfl, A, kk⟩ := h
    refine ⟨_, (pss_one (ps_ret (pe_fld (pv 0) rfl))), ?_⟩
    exact s_ret (ev_fld (ev_var rfl) A.ob U.cl U.ntime fl_time) kk
theorem sv_time {ad : Ad} {s : Th} {H : Hp} (A : At k C ad H s) : SpV (spTime k C) [.ref ad.p] H (.int s.time) := fun H1 e Q q E => ⟨ad, s, rfl, A.ex e, q⟩
theorem ev_time {ad : Ad} {s : Th} {H : Hp} {σ : L2.St} {ta : TE} {E : XK} (A : At k C ad H s) (h : Ev ta σ H (.ref ad.p)) : Ev (tMeth C "time_now" (spTime k C) [] E ta tNil) σ H (.int s.time) := ev_meth h A.ob nm_time_now ea_nil (sv_time A)
end

section
variable {P : Program} {w : World} {K : PySem.W.Frag} {mg : Str → Option Value} {base : Heap} {k : Kd} {C : Addr}
def spDeeds (k : Kd) (C : Addr) : Sp := fun vs H Q _ => ∃ (ad : Ad) (s : Th), vs = [.ref ad.p] ∧ At k C ad H s ∧ RetV (.int (s.deed : Int)) H Q
theorem ok_Book_deeds_done (T : Tx K mg) (U : Cl0 T C) : FnOk P w K mg base CX0 1 T.f_Book_deeds_done T.fd_Book_deeds_done P_Book_deeds_done (spDeeds k C) := by
  refine T.F_Book_deeds_done.ok sc_Book_deeds_done (fun vs H Q E h => ?_) (fun cdv A outer s H vs Q E hr h => ?_)
  · obtain ⟨_, _, rfl, _⟩ := h
    rfl
  · obtain ⟨ad, s, rfl, A, kk⟩ := h
    refine ⟨_, (pss_one (ps_ret (pe_fld (pv 0) rfl))), ?_⟩
    exact s_ret (ev_fld (ev_var rfl) A.ob U.cl U.ndeed fl_deed) kk
theorem sv_deeds {ad : Ad} {s : Th} {H : Hp} (A : At k C ad H s) : SpV (spDeeds k C) [.ref ad.p] H (.int (s.deed : Int)) := fun H1 e Q q E => ⟨ad, s, rfl, A.ex e, q⟩
theorem ev_deeds {ad : Ad} {s : Th} {H : Hp} {σ : L2.St} {ta : TE} {E : XK} (A : At k C ad H s) (h : Ev ta σ H (.ref ad.p)) : Ev (tMeth C "deeds_done" (spDeeds k C) [] E ta tNil) σ H (.int (s.deed : Int)) := ev_meth h A.ob nm_deeds_done ea_nil (sv_deeds A)
end

section
variable {P : Program} {w : World} {K : PySem.W.Frag} {mg : Str → Option Value} {base : Heap} {k : Kd} {C : Addr}
def spCount (k : Kd) (C : Addr) : Sp := fun vs H Q _ => ∃ (ad : Ad) (s : Th) (n : Str), vs = [.ref ad.p, .str n] ∧ At k C ad H s ∧ GoodName n ∧ RetV (.int (cntE s.es n)) H Q
theorem ok_Book_count_of (T : Tx K mg) (U : Cl0 T C) : FnOk P w K mg base CX0 3 T.f_Book_count_of T.fd_Book_count_of P_Book_count_of (spCount k C) := by
  refine T.F_Book_count_of.ok sc_Book_count_of (fun vs H Q E h => ?_) (fun cdv A outer s H vs Q E hr h => ?_)
  · obtain ⟨_, _, _, rfl, _⟩ := h
    rfl
  · obtain ⟨ad, s, n, rfl, A, hg, kk⟩ := h
    have hu := hu_of hr
    refine ⟨_, (pss_cons (ps_expr (pe_call (ok_want_name T) (hr.mono (by decide)) rfl T.mg_want_name T.F_want_name.kp T.b_want_name .nil pass0 (pa_cons (pv 1) pa_nil)))
      (pss_one (ps_ret (pe_dget2 hu (pe_fld (pv 0) rfl) (pv 1) pe_int ⟨rfl, rfl, rfl, rfl⟩)))), ?_⟩
    rw [show L2.start N_Book_count_of [V.ref ad.p, V.str n] = [some (V.ref ad.p), some (V.str n)] from rfl]
    refine s_drop0 (ev_call0 (ea_cons (ev_var rfl) ea_nil) (sv_wantName hg)) fun H1 e1 => ?_
    have A1 := A.ex e1
    exact s_ret (ev_is (ev_dget2 (ev_fld (ev_var rfl) A1.ob U.cl U.ncounts fl_counts) (ev_var rfl) ev_c A1.ct) (dget_cnt _ _)) fun H2 e2 => kk H2 (e1.trans e2)
theorem ev_count {ad : Ad} {s : Th} {H : Hp} {σ : L2.St} {ta tb : TE} {E : XK} {n : Str} (A : At k C ad H s) (hg : GoodName n) (h : Ev ta σ H (.ref ad.p)) (hb : Ev tb σ H (.str n)) : Ev (tMeth C "count_of" (spCount k C) [] E ta (tCons tb tNil)) σ H (.int (cntE s.es n)) :=
  ev_meth h A.ob nm_count_of (ea_cons hb ea_nil) fun H1 e Q q E => ⟨ad, s, n, rfl, A.ex e, hg, q⟩
end

section
variable {P : Program} {w : World} {K : PySem.W.Frag} {mg : Str → Option Value} {base : Heap} {k : Kd} {C : Addr}
def spLast (k : Kd) (C : Addr) : Sp := fun vs H Q _ => ∃ (ad : Ad) (s : Th) (n : Str), vs = [.ref ad.p, .str n] ∧ At k C ad H s ∧ GoodName n ∧ RetV (lastV s.es n) H Q
theorem ok_Book_last_of (T : Tx K mg) (U : Cl0 T C) : FnOk P w K mg base CX0 3 T.f_Book_last_of T.fd_Book_last_of P_Book_last_of (spLast k C) := by
  refine T.F_Book_last_of.ok sc_Book_last_of (fun vs H Q E h => ?_) (fun cdv A outer s H vs Q E hr h => ?_)
  · obtain ⟨_, _, _, rfl, _⟩ := h
    rfl
  · obtain ⟨ad, s, n, rfl, A, hg, kk⟩ := h
    have hu := hu_of hr
    refine ⟨_, (pss_cons (ps_expr (pe_call (ok_want_name T) (hr.mono (by decide)) rfl T.mg_want_name T.F_want_name.kp T.b_want_name .nil pass0 (pa_cons (pv 1) pa_nil)))
      (pss_one (ps_ret (pe_dget1 hu (pe_fld (pv 0) rfl) (pv 1) ⟨rfl, rfl, rfl, rfl⟩)))), ?_⟩
    rw [show L2.start N_Book_last_of [V.ref ad.p, V.str n] = [some (V.ref ad.p), some (V.str n)] from rfl]
    refine s_drop0 (ev_call0 (ea_cons (ev_var rfl) ea_nil) (sv_wantName hg)) fun H1 e1 => ?_
    have A1 := A.ex e1
    refine s_ret (ev_is (ev_dget1 (ev_fld (ev_var rfl) A1.ob U.cl U.nlasts fl_lasts) (ev_var rfl) A1.ls) ?_) fun H2 e2 => kk H2 (e1.trans e2)
    rw [valV_dOf]
    unfold lastV lastO
    cases look s.es n <;> rfl
theorem ev_last {ad : Ad} {s : Th} {H : Hp} {σ : L2.St} {ta tb : TE} {E : XK} {n : Str} (A : At k C ad H s) (hg : GoodName n) (h : Ev ta σ H (.ref ad.p)) (hb : Ev tb σ H (.str n)) : Ev (tMeth C "last_of" (spLast k C) [] E ta (tCons tb tNil)) σ H (lastV s.es n) :=
  ev_meth h A.ob nm_last_of (ea_cons hb ea_nil) fun H1 e Q q E => ⟨ad, s, n, rfl, A.ex e, hg, q⟩
end

end Own
namespace Own
open PySem L2 PyProof.Rows Evl OwnS
/-- a condition of arithmetic -/
local macro_rules | `(tactic| walk_at "side") => `(tactic| first
  | assumption
  | (show _ ∧ _; omega)
  | (apply pos9 <;> omega)
  | (show (0 : Int) < _; omega)
  | (show _ ∨ _; omega)
  | decide
  | omega)
local macro_rules | `(tactic| walk_at "fn") => `(tactic| fail "no fn")
local macro_rules | `(tactic| walk_at "ev") => `(tactic| first
  | ((with_reducible apply ev_var) ; exact rfl)
  | with_reducible exact ev_c
  | ((with_reducible apply ev_op) <;> walk_at "ev")
  | with_reducible exact rv_I0
  | ((with_reducible apply rv_I) ; walk_at "side")
  | ((with_reducible apply rv_eq) ; rfl)
  | ((with_reducible apply rv_ne) ; rfl)
  | ((with_reducible apply ev_isInt) ; walk_at "ev")
  | ((with_reducible apply ev_isBoolI) ; walk_at "ev")
  | ((with_reducible apply ev_isIntB) ; walk_at "ev")
  | ((with_reducible apply ev_isBoolB) ; walk_at "ev")
  | ((with_reducible apply ev_notV) ; walk_at "ev")
  | ((with_reducible apply et_test) ; walk_at "ev")
  | ((with_reducible apply et_B) ; walk_at "ev")
  | ((with_reducible apply et_not) ; walk_at "ev")
  | with_reducible exact ea_nil
  | ((with_reducible apply ea_cons) <;> walk_at "ev")
  | ((with_reducible apply ev_call0) <;> walk_at "ev")
  | ((with_reducible show SpV _ _ _ _); walk_at "fn"))

/-! ### shelf.py -/
section
variable {P : Program} {w : World} {K : PySem.W.Frag} {mg : Str → Option Value} {base : Heap}
theorem weakest_of {s : Th} (W : WF .shelf s) {n : Str} (hn : n ∈ s.st) (h : ∀ m ∈ s.st, lexQ (rankE s.es m) (rankE s.es n) = false) : n = weakest s := by
  unfold weakest
  have hp := sortR_perm s.es s.st
  have hs := sortR_sorted s.es s.st
  cases e : sortR s.es s.st with
  | nil =>
    rw [e] at hp
    exact absurd (hp.mem_iff.mpr hn) (by simp)
  | cons a r =>
    rw [e] at hp hs
    show n = a
    have ha := hp.mem_iff.mp (List.mem_cons_self (a := a) (l := r))
    rcases List.mem_cons.mp (hp.mem_iff.mpr hn) with q | q
    · exact q
    · have h1 := (List.pairwise_cons.mp hs).1 n q
      have h2 := h a ha
      rw [lexQ_no] at h1 h2
      have e2 : (rankE s.es n).2 = (rankE s.es a).2 := by omega
      exact lst_inj W.nd W.ls (W.sin n hn) (W.sin a ha) e2
theorem nm_has {ad : Ad} {s : Th} : (flds .shelf ad s).lookup ("has" : Str) = none := by kernel_rfl
theorem nm_goings {ad : Ad} {s : Th} : (flds .shelf ad s).lookup ("goings" : Str) = none := by kernel_rfl
def clShelf (T : Tx K mg) : Cl0 T T.C_Shelf where
  cl := T.cls_Shelf
  nspan := T.na_Shelf_span
  npart := T.na_Shelf_part
  ntime := T.na_Shelf_time
  ndeed := T.na_Shelf_deed
  ncounts := T.na_Shelf_counts
  nlasts := T.na_Shelf_lasts
  m_ask := T.m_Shelf_ask
  m_rest := T.m_Shelf_rest
  m_drop := T.m_Shelf_drop
  m_spend := T.m_Shelf_spend
  m_names := T.m_Shelf_names
  m_rank := T.m_Shelf_rank
  m_time_now := T.m_Shelf_time_now
  m_deeds_done := T.m_Shelf_deeds_done
  m_count_of := T.m_Shelf_count_of
  m_last_of := T.m_Shelf_last_of
  bm_rank := T.bm_Shelf_rank
  bm_asked_at := T.bm_Shelf_asked_at
theorem ok_Shelf_gone (T : Tx K mg) : FnOk P w K mg base CX0 4 T.f_Shelf_gone T.fd_Shelf_gone P_Shelf_gone (spGone .shelf T.C_Shelf) := by
  refine T.F_Shelf_gone.ok sc_Shelf_gone (fun vs H Q E h => ?_) (fun cdv A outer s H vs Q E hr h => ?_)
  · obtain ⟨_, _, _, _, rfl, _⟩ := h
    rfl
  · obtain ⟨ad, s, n, r, rfl, A, W, hd, kk⟩ := h
    have hu := hu_of hr
    have U := clShelf T
    refine ⟨_, (pss_cons (ps_if (pt_cmp (pc_dnotin hu (pv 1) (pe_fld (pv 0) rfl))) (pss_one (ps_ret pe_bl)) pss_nil)
      (pss_cons (ps_expr (pe_dpop1 (pe_fld (pv 0) rfl) (pv 1) ⟨rfl, rfl, rfl, rfl⟩))
      (pss_cons (ps_expr (pe_bm PySem.F.plainAttrs_list PySem.F.slot_list_append PySem.F.type_list_append mt_append (pe_fld (pv 0) rfl) (pa_cons (pe_tup (pa_cons (pe_fld (pv 0) rfl) (pa_cons (pv 1) (pa_cons (pv 2) (pa_cons (pe_dget hu (pe_fld (pv 0) rfl) (pv 1) (fun _ _ => rfl)) (pa_cons (pe_dget hu (pe_fld (pv 0) rfl) (pv 1) (fun _ _ => rfl)) pa_nil)))))) pa_nil)))
      (pss_one (ps_ret pe_bl))))), ?_⟩
    rw [show L2.start N_Shelf_gone [V.ref ad.p, V.str n, V.str r] = [some (V.ref ad.p), some (V.str n), some (V.str r)] from rfl]
    have self : ∀ {H' : Hp}, Ev (tVar 0) [some (V.ref ad.p), some (V.str n), some (V.str r)] H' (.ref ad.p) := ev_var rfl
    refine q_when (b := !decide (n ∈ s.st)) (et_is (et_test (ev_dnotin (ev_var rfl) (ev_fld self A.ob U.cl T.na_Shelf_standing fl_standing) A.x1.1)) (by rw [val_st_some])) (fun hb H1 e1 => ?_) (fun hb H1 e1 => ?_)
    · have hb : n ∉ s.st := by simpa using hb
      have e : Kd.gone .shelf s n r = (false, s) := by unfold Kd.gone; dsimp only; rw [if_neg hb]
      rw [e] at kk
      exact s_ret ev_c fun H2 e2 => kk H2 ((A.ex e1).ex e2) (Kp.ex (e1.trans e2))
    · have hb : n ∈ s.st := by simpa using hb
      have e : Kd.gone .shelf s n r = (true, { s with st := s.st.filter (fun m => decide (m ≠ n)), went := s.went ++ [⟨s.deed, n, r, cntE s.es n, lstE s.es n⟩] }) := by unfold Kd.gone; dsimp only; rw [if_pos hb]
      rw [e] at kk
      have A1 := A.ex e1
      have hin := W.sin n hb
      have sz := W.ssz
      refine q_dpop (v := .bl true) (ev_fld self A1.ob U.cl T.na_Shelf_standing fl_standing) (ev_var rfl) A1.x1.1 (by rw [val_st, if_pos hb]) fun H2 e2 => ?_
      rw [drop_st]
      have A2 := (A1.ex e2).upX1 (st := s.st.filter fun m => decide (m ≠ n))
      have K2 : Kp .shelf ad H _ := (Kp.ex (e1.trans e2)).trans (Kp.upd (o := .dK (stV (s.st.filter fun m => decide (m ≠ n)))) (own_x1 (k := .shelf) (by decide)))
      generalize upd H2 ad.x1 (.dK (stV (s.st.filter fun m => decide (m ≠ n)))) = H3 at A2 K2 ⊢
      obtain ⟨ts, h1, h2⟩ := A2.x2
      have tl : ts.length ≤ 1000 := by
        have := (paired_at h2).1
        have e3 : s.went.length ≤ 1000 := by omega
        exact this ▸ e3
      refine q_appU (vs := gV ⟨s.deed, n, r, cntE s.es n, lstE s.es n⟩) (ev_fld self A2.ob U.cl T.na_Shelf_went fl_went) h1 (eu_tup (ea_cons (ev_fld self A2.ob U.cl U.ndeed fl_deed) (ea_cons (ev_var rfl) (ea_cons (ev_var rfl) (ea_cons (ev_dget (ev_fld self A2.ob U.cl U.ncounts fl_counts) (ev_var rfl) A2.ct (val_c hin)) (ea_cons (ev_dget (ev_fld self A2.ob U.cl U.nlasts fl_lasts) (ev_var rfl) A2.ls (val_l hin)) ea_nil))))) (by simp [gV])) (by rw [List.length_map]; omega) fun q H4 hq e4 h4 h4' => ?_
      have A4 := (A2.ex e4).upX2 (g := ⟨s.deed, n, r, cntE s.es n, lstE s.es n⟩) h4' (L2.Paired.mapP h2 fun t g e => e4 _ _ e) h4
      exact s_ret ev_c fun H5 e5 => kk H5 (A4.ex e5) (((K2.trans (Kp.ex e4)).trans (Kp.upd (own_x2 (k := .shelf) (by decide)))).trans (Kp.ex e5))
theorem ok_Shelf_came (T : Tx K mg) : FnOk P w K mg base CX0 8 T.f_Shelf_came T.fd_Shelf_came P_Shelf_came (spCame .shelf T.C_Shelf) := by
  refine T.F_Shelf_came.ok sc_Shelf_came (fun vs H Q E h => ?_) (fun cdv A outer s H vs Q E hr h => ?_)
  · obtain ⟨_, _, _, rfl, _⟩ := h
    rfl
  · obtain ⟨ad, s, n, rfl, A, W, hd, kk⟩ := h
    have hu := hu_of hr
    have U := clShelf T
    have G_rank := ok_Book_rank (P := P) (w := w) (base := base) (k := .shelf) T U
    have b_rank := T.b_Book_rank
    have G_gone := ok_Shelf_gone (P := P) (w := w) (base := base) T
    have b_gone := T.b_Shelf_gone
    refine ⟨_, (pss_cons (ps_if (pt_cmp (pc_din hu (pv 1) (pe_fld (pv 0) rfl))) (pss_one (ps_ret pe_bl)) pss_nil)
      (pss_cons (ps_if (pt_cmpR op_eq (pe_callB call_lenD (by rfl) T.n_len PySem.boot_len (pa_cons (pe_fld (pv 0) rfl) pa_nil)) (pe_fld (pv 0) rfl) (nomark _)) (pss_cons (ps_set (i := 2) sc_Shelf_came.nd rfl (Or.inl rfl) (pe_callBK (cr_minF rfl G_rank (hr.mono (by decide)) b_rank) (by rfl) T.n_min (by decide +kernel) (pa_cons (pe_callTy (call_list_dK rfl) (by rfl) T.n_list (by decide +kernel) (pa_cons (pe_fld (pv 0) rfl) pa_nil)) pa_nil) (pk_cons (pe_bound (pv 0) U.cl U.bm_rank) pk_nil)))
      (pss_one (ps_expr (pe_meth (pv 0) U.cl T.m_Shelf_gone G_gone (hr.mono (by decide)) b_gone .nil pass0 (pa_cons (pv 2) (pa_cons pe_str pa_nil)))))) pss_nil)
      (pss_cons (ps_dput hu (pe_fld (pv 0) rfl) (pv 1) pe_bl rfl)
      (pss_one (ps_ret pe_bl))))), ?_⟩
    rw [show L2.start N_Shelf_came [V.ref ad.p, V.str n] = [some (V.ref ad.p), some (V.str n), none] from rfl]
    have self : ∀ {x : Option V} {H' : Hp}, Ev (tVar 0) [some (V.ref ad.p), some (V.str n), x] H' (.ref ad.p) := ev_var rfl
    refine q_when (b := decide (n ∈ s.st)) (et_is (et_test (ev_din (ev_var rfl) (ev_fld self A.ob U.cl T.na_Shelf_standing fl_standing) A.x1.1)) (by rw [val_st_some])) (fun hb H1 e1 => ?_) (fun hb H1 e1 => ?_)
    · have hb := of_decide_eq_true hb
      have e : Kd.came .shelf s n = (.bl true, s) := by unfold Kd.came; dsimp only; rw [if_pos hb]
      rw [e] at kk
      exact s_ret ev_c fun H2 e2 => kk H2 ((A.ex e1).ex e2) (Kp.ex (e1.trans e2))
    have hb := of_decide_eq_false hb
    have A1 := A.ex e1
    have sz := W.ssz
    have fin : ∀ {x : Option V} {H' : Hp} {s1 : Th}, At .shelf T.C_Shelf ad H' s1 → Kp .shelf ad H H' → n ∉ s1.st → s1.st.length ≤ 1000 → Kd.came .shelf s n = (.bl false, { s1 with st := s1.st ++ [n] }) →
        tSeq (sDPut (tFld K (tVar 0) "standing") (tVar 1) (tC (.bl true))) (tRet (tC (.bl false))) { nx := fun _ H' => Q .non H', rt := Q } [some (V.ref ad.p), some (V.str n), x] H' := by
      intro x H' s1 A' K' hn1 hl e
      rw [e] at kk
      refine q_dput (v := .bl true) ev_c (ev_fld self A'.ob U.cl T.na_Shelf_standing fl_standing) (ev_var rfl) A'.x1.1 (by unfold stV; rw [List.length_map]; omega) fun H2 e2 => ?_
      rw [put_st hn1]
      exact s_ret ev_c fun H3 e3 => kk H3 ((A'.ex e2).upX1.ex e3) (((K'.trans (Kp.ex e2)).trans (Kp.upd (own_x1 (k := .shelf) (by decide)))).trans (Kp.ex e3))
    refine q_when (b := decide ((s.st.length : Int) = s.places)) (et_is (et_test (ev_op (ev_lenD (ev_fld self A1.ob U.cl T.na_Shelf_standing fl_standing) A1.x1.1) (ev_fld self A1.ob U.cl T.na_Shelf_places fl_places) (rv_eq rfl))) (by rw [dec_i]; unfold stV; rw [List.length_map])) (fun hf H2 e2 => ?_) (fun hf H2 e2 => ?_)
    · have hf := of_decide_eq_true hf
      have A2 := A1.ex e2
      have hne : s.st ≠ [] := fun q => by
        rw [q] at hf
        have := W.pl rfl
        simp at hf
        omega
      have hlist := el_listD (σ := [some (V.ref ad.p), some (V.str n), none]) (ev_fld (te := tVar 0) self A2.ob U.cl T.na_Shelf_standing fl_standing) A2.x1.1
      have e5 : (stV s.st).map (fun kv => kV kv.1) = s.st.map V.str := by
        unfold stV
        rw [List.map_map]
        rfl
      rw [e5] at hlist
      refine q_asgP (evp_minF (kf := fun x => rankE s.es (strOf x)) hlist (by simpa using hne) self A2.ob nm_rank (rank_calls A2 W.sin)) ?_
      rintro v H3 e3 ⟨hv, hmin⟩
      obtain ⟨m, hm, rfl⟩ := List.mem_map.mp hv
      have hw : m = weakest s := weakest_of W hm fun y hy => hmin (.str y) (List.mem_map_of_mem hy)
      dsimp only [List.set]
      have A3 := A2.ex e3
      refine s_dropM self A3.ob nm_gone (ea_cons (ev_var rfl) (ea_cons ev_c ea_nil)) fun H4 e4 => ⟨ad, s, m, "crowded", rfl, A3.ex e4, W, hd, fun H5 A5 K5 => ?_⟩
      have gm := gone_mem (k := .shelf) (s := s) (n := m) (r := "crowded") (m := n) W
      have sl := Slack.gone (k := .shelf) W.slack m "crowded"
      refine fin A5 ((Kp.ex (((e1.trans e2).trans e3).trans e4)).trans K5) (fun q => hb (gm.1 q)) (by have := sl.2.1; omega) ?_
      unfold Kd.came
      dsimp only
      rw [if_neg hb, if_pos hf, ← hw]
    · have hf := of_decide_eq_false hf
      refine fin (A1.ex e2) (Kp.ex (e1.trans e2)) hb (by omega) ?_
      unfold Kd.came
      dsimp only
      rw [if_neg hb, if_neg hf]
theorem ok_Shelf_inside (T : Tx K mg) : FnOk P w K mg base CX0 2 T.f_Shelf_inside T.fd_Shelf_inside P_Shelf_inside (spInside .shelf T.C_Shelf) := by
  refine T.F_Shelf_inside.ok sc_Shelf_inside (fun vs H Q E h => ?_) (fun cdv A outer s H vs Q E hr h => ?_)
  · obtain ⟨_, _, rfl, _⟩ := h
    rfl
  · obtain ⟨ad, s, rfl, A, W, hd, kk⟩ := h
    have U := clShelf T
    refine ⟨_, (pss_one (ps_ret (pe_callTy (call_list_dK rfl) (by rfl) T.n_list (by decide +kernel) (pa_cons (pe_fld (pv 0) rfl) pa_nil)))), ?_⟩
    have e : (stV s.st).map (fun kv => kV kv.1) = ((Kd.shelf).inside s).map V.str := by
      unfold stV Kd.inside
      rw [List.map_map]
      rfl
    have h := el_listD (σ := L2.start N_Shelf_inside [V.ref ad.p]) (ev_fld (te := tVar 0) (ev_var rfl) A.ob U.cl T.na_Shelf_standing fl_standing) A.x1.1
    rw [e] at h
    exact s_retL h kk
def uShelf (T : Tx K mg) : Vt P w base T .shelf T.C_Shelf where
  toCl0 := clShelf T
  f_came := _
  fd_came := _
  m_came := T.m_Shelf_came
  b_came := T.b_Shelf_came
  ok_came := ok_Shelf_came T
  f_gone := _
  fd_gone := _
  m_gone := T.m_Shelf_gone
  b_gone := T.b_Shelf_gone
  ok_gone := ok_Shelf_gone T
  f_inside := _
  fd_inside := _
  m_inside := T.m_Shelf_inside
  b_inside := T.b_Shelf_inside
  ok_inside := ok_Shelf_inside T
/-! a new shelf -/
def spInitS (C : Addr) : Sp := fun vs H Q _ => ∃ (p dx : Addr) (pl a b : Int), vs = [.ref p, .int pl, .int a, .int b] ∧ 1 ≤ pl ∧ pl ≤ 1000 ∧ 1 ≤ a ∧ a ≤ 100000000000000000000 ∧ 2 ≤ b ∧ b ≤ 1000000000000000000000000000000 ∧ H p = some (.ins C dx []) ∧
  ∀ H' (ad : Ad), ad.p = p → (∀ x ∈ own .shelf ad, x ≠ p → H x = none) → At .shelf C ad H' (th0 a b pl) → (∀ x o, H x = some o → x ≠ p → H' x = some o) → Q .non H'
theorem ok_Shelf_init (T : Tx K mg) : FnOk P w K mg base CX0 4 T.f_Shelf_init T.fd_Shelf_init P_Shelf_init (spInitS T.C_Shelf) := by
  refine T.F_Shelf_init.ok sc_Shelf_init (fun vs H Q E h => ?_) (fun cdv A outer s H vs Q E hr h => ?_)
  · obtain ⟨_, _, _, _, _, rfl, _⟩ := h
    rfl
  · obtain ⟨p, dx, pl, a, b, rfl, l1, l2, h1, h2, h3, h4, hp, kk⟩ := h
    have U := clShelf T
    have G_init := ok_Book_init (P := P) (w := w) (base := base) T U
    have b_init := T.b_Book_init
    refine ⟨_, (pss_cons (ps_expr (pe_call (ok_want_number T) (hr.mono (by decide)) rfl T.mg_want_number T.F_want_number.kp T.b_want_number .nil pass0 (pa_cons (pv 1) (pa_cons pe_int (pa_cons (pe_glob (v := .int 1000) rfl T.c_MOST_PLACES.2 ⟨_, rfl⟩) pa_nil)))))
      (pss_cons (ps_expr (pe_clsCall (pe_glob (v := .ref T.C_Book) rfl T.mgC_Book rfl) T.cdf G_init (hr.mono (by decide)) b_init .nil pass0 (pa_cons (pv 0) (pa_cons (pv 2) (pa_cons (pv 3) pa_nil)))))
      (pss_cons (ps_fld (pv 0) (pv 1) rfl)
      (pss_cons (ps_fld (pv 0) pe_dnewK rfl)
      (pss_one (ps_fld (pv 0) (pe_lst pa_nil) rfl)))))), ?_⟩
    rw [show L2.start N_Shelf_init [V.ref p, V.int pl, V.int a, V.int b] = [some (V.ref p), some (V.int pl), some (V.int a), some (V.int b)] from rfl]
    have self : ∀ {H' : Hp}, Ev (tVar 0) [some (V.ref p), some (V.int pl), some (V.int a), some (V.int b)] H' (.ref p) := ev_var rfl
    refine s_drop0 (ev_call0 (ea_cons (ev_var rfl) (ea_cons ev_c (ea_cons ev_c ea_nil))) (sv_wantNumber l1 l2)) fun H1 e1 => ?_
    refine q_dropCls (vs := [.ref p, .int a, .int b]) (ea_cons (ev_var rfl) (ea_cons (ev_var rfl) (ea_cons (ev_var rfl) ea_nil))) fun H2 e2 => ?_
    have hp2 := (e1.trans e2) _ _ hp
    refine ⟨p, dx, a, b, rfl, h1, h2, h3, h4, hp2, fun H3 c l hc hl hcl q1 q2 q3 q4 => ?_⟩
    refine q_fld (w := .int pl) (ev_var rfl) self q1 U.cl T.na_Shelf_places (lenlt 6 rfl) fun H4 e4 => ?_
    refine q_fldNew self upd_same U.cl T.na_Shelf_standing (lenlt 7 (by kernel_rfl)) fun x1 H5 hx1 e5 h5 => ?_
    refine s_fldL (el_lst ea_nil (by decide)) self upd_same U.cl T.na_Shelf_went (lenlt 8 (by kernel_rfl)) fun x2 H6 hx2 e6 h6 => ?_
    have back : ∀ {X Y : Hp} {o : HO} {z : Addr}, Ex X Y → (upd Y p o) z = none → X z = none := fun {X Y o z} e h => by
      by_cases q : z = p
      · rw [q, upd_same] at h; cases h
      · rw [upd_ne q] at h; exact fresh_back e h
    have x1f : H3 x1 = none := back e4 hx1
    have x2f : H3 x2 = none := back e4 (back e5 hx2)
    have fr : ∀ {z : Addr}, H3 z = none → H z = none := fun {z} h => by
      refine fresh_back (e1.trans e2) ?_
      cases e : H2 z with
      | none => rfl
      | some o =>
        have hz : z ≠ p := fun q => by rw [q, q1] at h; cases h
        rw [q4 z o e hz] at h
        cases h
    have ne1 : x1 ≠ p := fun q => by rw [q, q1] at x1f; cases x1f
    have ne2 : x2 ≠ p := fun q => by rw [q, q1] at x2f; cases x2f
    have hc0 : H c = none := fresh_back (e1.trans e2) hc
    have hl0 : H l = none := fresh_back (e1.trans e2) hl
    have nec : c ≠ p := fun q => by rw [q, hp] at hc0; cases hc0
    have nel : l ≠ p := fun q => by rw [q, hp] at hl0; cases hl0
    have f : ∀ {X Y : Hp} {u o : HO} {x : Addr}, x ≠ p → Ex X Y → X x = some o → (upd Y p u) x = some o := fun hne e h => (upd_ne hne).trans (e _ _ h)
    refine kk _ ⟨p, dx, c, l, x1, x2⟩ rfl (fun z hz hzp => ?_) ⟨upd_same, ?_, ?_, hcl, ⟨?_, ?_, ?_⟩, ⟨[], ?_, .nil⟩⟩ (fun x o hx hne => f hne e6 (f hne e5 (f hne e4 (q4 x o ((e1.trans e2) _ _ hx) hne))))
    · simp only [own, List.mem_cons, List.not_mem_nil, or_false] at hz
      rcases hz with rfl | rfl | rfl | rfl | rfl
      · exact absurd rfl hzp
      · exact hc0
      · exact hl0
      · exact fr x1f
      · exact fr x2f
    · exact f nec e6 (f nec e5 (f nec e4 q2))
    · exact f nel e6 (f nel e5 (f nel e4 q3))
    · exact f ne1 e6 ((upd_ne ne1).trans h5)
    · exact fun (q : x1 = c) => by rw [q, q2] at x1f; cases x1f
    · exact fun (q : x1 = l) => by rw [q, q3] at x1f; cases x1f
    · rw [upd_ne ne2]; exact h6
/-- a new shelf: what stands where -/
theorem newShelf {T : Tx K mg} {σ : L2.St} {H : Hp} {ta : TA} {E : XK} {Q : VK} {pl a b : Int} (ha : EvA ta σ H [.int pl, .int a, .int b]) (l1 : 1 ≤ pl) (l2 : pl ≤ 1000) (h1 : 1 ≤ a) (h2 : a ≤ 100000000000000000000) (h3 : 2 ≤ b) (h4 : b ≤ 1000000000000000000000000000000)
    (k : ∀ ad H1, Ex H H1 → (∀ x ∈ own .shelf ad, H x = none) → At .shelf T.C_Shelf ad H1 (th0 a b pl) → Q (.ref ad.p) H1) : tMake T.C_Shelf (spInitS T.C_Shelf) [] E ta σ H Q := by
  refine ha H (Ex.refl H) _ fun H1 e1 => fun x dx hx hdx hne => ?_
  have E1 : Ex H1 (upd (upd H1 dx (.own x)) x (.ins T.C_Shelf dx [])) := (Ex.new hdx).trans (Ex.new (by rw [upd_ne (fun q => hne q.symm)]; exact hx))
  refine ⟨x, dx, pl, a, b, rfl, l1, l2, h1, h2, h3, h4, upd_same, fun H2 ad hp ow A q4 => ⟨rfl, ?_⟩⟩
  rw [← hp]
  refine k ad H2 (e1.trans fun y o hy => ?_) (fun y hy => ?_) A
  · refine q4 y o (E1 y o hy) fun q => ?_
    rw [q, hx] at hy
    cases hy
  · by_cases q : y = x
    · rw [q]; exact fresh_back e1 hx
    · exact fresh_back (e1.trans E1) (ow y hy q)
theorem q_asgShelf {T : Tx K mg} {σ : L2.St} {H : Hp} {ta : TA} {E : XK} {D : Ends} {tz : TS} {i : Nat} {pl a b : Int} (ha : EvA ta σ H [.int pl, .int a, .int b]) (l1 : 1 ≤ pl) (l2 : pl ≤ 1000) (h1 : 1 ≤ a) (h2 : a ≤ 100000000000000000000) (h3 : 2 ≤ b) (h4 : b ≤ 1000000000000000000000000000000)
    (k : ∀ ad H1, Ex H H1 → (∀ x ∈ own .shelf ad, H x = none) → At .shelf T.C_Shelf ad H1 (th0 a b pl) → tz D (σ.set i (some (.ref ad.p))) H1) : tSeq (tAsg (tMake T.C_Shelf (spInitS T.C_Shelf) [] E ta) (gName i)) tz D σ H :=
  newShelf (Q := fun v H1 => tz D (σ.set i (some v)) H1) ha l1 l2 h1 h2 h3 h4 k
end

section
variable {P : Program} {w : World} {K : PySem.W.Frag} {mg : Str → Option Value} {base : Heap}
def spHas (C : Addr) : Sp := fun vs H Q _ => ∃ (ad : Ad) (s : Th) (n : Str), vs = [.ref ad.p, .str n] ∧ At .shelf C ad H s ∧ GoodName n ∧ RetV (.bl (decide (n ∈ s.st))) H Q
theorem ok_Shelf_has (T : Tx K mg) : FnOk P w K mg base CX0 3 T.f_Shelf_has T.fd_Shelf_has P_Shelf_has (spHas T.C_Shelf) := by
  refine T.F_Shelf_has.ok sc_Shelf_has (fun vs H Q E h => ?_) (fun cdv A outer s H vs Q E hr h => ?_)
  · obtain ⟨_, _, _, rfl, _⟩ := h
    rfl
  · obtain ⟨ad, s, n, rfl, A, hg, kk⟩ := h
    have hu := hu_of hr
    have U := clShelf T
    refine ⟨_, (pss_cons (ps_expr (pe_call (ok_want_name T) (hr.mono (by decide)) rfl T.mg_want_name T.F_want_name.kp T.b_want_name .nil pass0 (pa_cons (pv 1) pa_nil)))
      (pss_one (ps_ret (pe_cmp (pc_din hu (pv 1) (pe_fld (pv 0) rfl)))))), ?_⟩
    rw [show L2.start N_Shelf_has [V.ref ad.p, V.str n] = [some (V.ref ad.p), some (V.str n)] from rfl]
    refine s_drop0 (ev_call0 (ea_cons (ev_var rfl) ea_nil) (sv_wantName hg)) fun H1 e1 => ?_
    have A1 := A.ex e1
    exact s_ret (ev_is (ev_din (ev_var rfl) (ev_fld (ev_var rfl) A1.ob U.cl T.na_Shelf_standing fl_standing) A1.x1.1) (by rw [val_st_some])) fun H2 e2 => kk H2 (e1.trans e2)
theorem ev_has {C : Addr} {ad : Ad} {s : Th} {H : Hp} {σ : L2.St} {ta tb : TE} {E : XK} {n : Str} (A : At .shelf C ad H s) (hg : GoodName n) (h : Ev ta σ H (.ref ad.p)) (hb : Ev tb σ H (.str n)) : Ev (tMeth C "has" (spHas C) [] E ta (tCons tb tNil)) σ H (.bl (decide (n ∈ s.st))) :=
  ev_meth h A.ob nm_has (ea_cons hb ea_nil) fun H1 e Q q E => ⟨ad, s, n, rfl, A.ex e, hg, q⟩
end

section
variable {P : Program} {w : World} {K : PySem.W.Frag} {mg : Str → Option Value} {base : Heap}
/-- a new list of the goings told -/
def RetTups (rows : List (List V)) (H : Hp) (Q : VK) : Prop := ∀ p H2, H p = none → Ex H H2 → TupsAt H2 p rows → Q (.ref p) H2
theorem tups_went {H : Hp} {p : Addr} : ∀ {ts : List Addr} {gs : List Going}, Paired (fun t g => H t = some (.tup (gV g))) ts gs → H p = some (.lst (ts.map V.ref)) → TupsAt H p (gs.map gV) := fun {ts gs} h hp => by
  obtain ⟨h1, h2⟩ := paired_at h
  refine ⟨ts.map V.ref, hp, by rw [List.length_map, List.length_map, h1], fun i r hr => ?_⟩
  rw [List.getElem?_map] at hr
  obtain ⟨g, hg, rfl⟩ := Option.map_eq_some_iff.mp hr
  have hi := (List.getElem?_eq_some_iff.mp hg).1
  obtain ⟨g', a, b⟩ := h2 i ts[i] (List.getElem?_eq_getElem (by omega))
  rw [hg] at a
  cases a
  exact ⟨ts[i], by rw [List.getElem?_map, List.getElem?_eq_getElem (by omega)]; rfl, b⟩
def spGoings (C : Addr) : Sp := fun vs H Q _ => ∃ (ad : Ad) (s : Th), vs = [.ref ad.p] ∧ At .shelf C ad H s ∧ RetTups (s.went.map gV) H Q
theorem ok_Shelf_goings (T : Tx K mg) : FnOk P w K mg base CX0 1 T.f_Shelf_goings T.fd_Shelf_goings P_Shelf_goings (spGoings T.C_Shelf) := by
  refine T.F_Shelf_goings.ok sc_Shelf_goings (fun vs H Q E h => ?_) (fun cdv A outer s H vs Q E hr h => ?_)
  · obtain ⟨_, _, rfl, _⟩ := h
    rfl
  · obtain ⟨ad, s, rfl, A, kk⟩ := h
    have U := clShelf T
    refine ⟨_, (pss_one (ps_ret (pe_callTy call_list_of (by rfl) T.n_list (by decide +kernel) (pa_cons (pe_fld (pv 0) rfl) pa_nil)))), ?_⟩
    obtain ⟨ts, h1, h2⟩ := A.x2
    exact s_retL (el_list (ev_fld (te := tVar 0) (ev_var rfl) A.ob U.cl T.na_Shelf_went fl_went) (SqL.of h1)) fun p H1 hp e1 h3 => kk p H1 hp e1 (tups_went (L2.Paired.mapP h2 fun t g e => e1 _ _ e) h3)
/-- what evaluates to a new list of such tuples -/
def EvTups (te : TE) (σ : L2.St) (H : Hp) (rows : List (List V)) : Prop := ∀ H1, Ex H H1 → ∀ Q : VK, (∀ p H2, H1 p = none → Ex H1 H2 → TupsAt H2 p rows → Q (.ref p) H2) → te σ H1 Q
theorem et_goings {C : Addr} {ad : Ad} {s : Th} {H : Hp} {σ : L2.St} {ta : TE} {E : XK} (A : At .shelf C ad H s) (h : Ev ta σ H (.ref ad.p)) : EvTups (tMeth C "goings" (spGoings C) [] E ta tNil) σ H (s.went.map gV) := fun H1 e Q q =>
  ev_methR (h.mono e) (e _ _ A.ob) nm_goings ea_nil fun H2 e2 => ⟨ad, s, rfl, A.ex (e.trans e2), fun p H3 hp e3 h3 => q p H3 (fresh_back e2 hp) (e2.trans e3) h3⟩
end

end Own
namespace Own
open PySem L2 PyProof.Rows Evl OwnS
/-- a condition of arithmetic -/
local macro_rules | `(tactic| walk_at "side") => `(tactic| first
  | assumption
  | (show _ ∧ _; omega)
  | (apply pos9 <;> omega)
  | (show (0 : Int) < _; omega)
  | (show _ ∨ _; omega)
  | decide
  | omega)
local macro_rules | `(tactic| walk_at "fn") => `(tactic| fail "no fn")
local macro_rules | `(tactic| walk_at "ev") => `(tactic| first
  | ((with_reducible apply ev_var) ; exact rfl)
  | with_reducible exact ev_c
  | ((with_reducible apply ev_op) <;> walk_at "ev")
  | with_reducible exact rv_I0
  | ((with_reducible apply rv_I) ; walk_at "side")
  | ((with_reducible apply rv_eq) ; rfl)
  | ((with_reducible apply rv_ne) ; rfl)
  | ((with_reducible apply ev_isInt) ; walk_at "ev")
  | ((with_reducible apply ev_isBoolI) ; walk_at "ev")
  | ((with_reducible apply ev_isIntB) ; walk_at "ev")
  | ((with_reducible apply ev_isBoolB) ; walk_at "ev")
  | ((with_reducible apply ev_notV) ; walk_at "ev")
  | ((with_reducible apply et_test) ; walk_at "ev")
  | ((with_reducible apply et_B) ; walk_at "ev")
  | ((with_reducible apply et_not) ; walk_at "ev")
  | with_reducible exact ea_nil
  | ((with_reducible apply ea_cons) <;> walk_at "ev")
  | ((with_reducible apply ev_call0) <;> walk_at "ev")
  | ((with_reducible show SpV _ _ _ _); walk_at "fn"))

/-! ### row.py -/
section
variable {P : Program} {w : World} {K : PySem.W.Frag} {mg : Str → Option Value} {base : Heap}
theorem nm_carry {ad : Ad} {s : Th} : (flds .row ad s).lookup ("carry" : Str) = none := by kernel_rfl
theorem nm_trim {ad : Ad} {s : Th} : (flds .row ad s).lookup ("trim" : Str) = none := by kernel_rfl
theorem At.upLaid {C : Addr} {ad : Ad} {H : Hp} {s : Th} {l : List (Option Str)} (A : At .row C ad H s) : At .row C ad (upd H ad.x1 (.lst (l.map oV))) { s with laid := l } where
  ob := by rw [upd_ne (A.px1 (by decide))]; exact A.ob
  ct := by rw [upd_ne (A.cx1 (by decide))]; exact A.ct
  ls := by rw [upd_ne (A.lx1 (by decide))]; exact A.ls
  cl := A.cl
  x1 := upd_same
  x2 := ⟨by rw [upd_ne A.x2.2.symm]; exact A.x2.1, A.x2.2⟩
theorem At.upDep {C : Addr} {ad : Ad} {H : Hp} {s : Th} {l : List (Option Int)} (A : At .row C ad H s) : At .row C ad (upd H ad.x2 (.lst (l.map oI))) { s with depths := l } where
  ob := by rw [upd_ne (A.px2 (by decide))]; exact A.ob
  ct := by rw [upd_ne (A.cx2 (by decide))]; exact A.ct
  ls := by rw [upd_ne (A.lx2 (by decide))]; exact A.ls
  cl := A.cl
  x1 := (upd_ne A.x2.2).trans A.x1
  x2 := ⟨upd_same, A.x2.2⟩
def clRow (T : Tx K mg) : Cl0 T T.C_Row where
  cl := T.cls_Row
  nspan := T.na_Row_span
  npart := T.na_Row_part
  ntime := T.na_Row_time
  ndeed := T.na_Row_deed
  ncounts := T.na_Row_counts
  nlasts := T.na_Row_lasts
  m_ask := T.m_Row_ask
  m_rest := T.m_Row_rest
  m_drop := T.m_Row_drop
  m_spend := T.m_Row_spend
  m_names := T.m_Row_names
  m_rank := T.m_Row_rank
  m_time_now := T.m_Row_time_now
  m_deeds_done := T.m_Row_deeds_done
  m_count_of := T.m_Row_count_of
  m_last_of := T.m_Row_last_of
  bm_rank := T.bm_Row_rank
  bm_asked_at := T.bm_Row_asked_at
/-- self.rank(x) < self.rank(y) -/
theorem ev_rankLt {k : Kd} {C : Addr} {ad : Ad} {s : Th} {H : Hp} {σ : L2.St} {ta tb tx ty : TE} {E E' : XK} {x y : Str} (A : At k C ad H s) (hx : x ∈ s.es.map (·.1)) (hy : y ∈ s.es.map (·.1)) (h1 : Ev ta σ H (.ref ad.p)) (h2 : Ev tx σ H (.str x)) (h3 : Ev tb σ H (.ref ad.p)) (h4 : Ev ty σ H (.str y)) :
    Ev (tOp (rLtT K) (tMeth C "rank" (spRank k C) [] E ta (tCons tx tNil)) (tMeth C "rank" (spRank k C) [] E' tb (tCons ty tNil))) σ H (.bl (lexQ (rankE s.es x) (rankE s.es y))) := fun H1 e Q q =>
  ev_methP (P := fun v H' => ∃ t, v = .ref t ∧ H' t = some (.tup [.int (cntE s.es x), .int (lstE s.es x)])) h1 A.ob nm_rank (ea_cons h2 ea_nil) (fun G1 g1 R r _ => ⟨ad, s, x, rfl, A.ex g1, hx, r⟩) H1 e _ fun v H2 e2 hv =>
    ev_methP (P := fun v H' => ∃ t, v = .ref t ∧ H' t = some (.tup [.int (cntE s.es y), .int (lstE s.es y)])) h3 A.ob nm_rank (ea_cons h4 ea_nil) (fun G1 g1 R r _ => ⟨ad, s, y, rfl, A.ex g1, hy, r⟩) H2 (e.trans e2) _ fun v2 H3 e3 hv2 => by
      obtain ⟨t, rfl, ht⟩ := hv
      obtain ⟨t2, rfl, ht2⟩ := hv2
      refine ⟨t, t2, [cntE s.es x, lstE s.es x], [cntE s.es y, lstE s.es y], rfl, rfl, SqT.of (e3 _ _ ht), SqT.of ht2, ?_⟩
      have : HT.lexLt [cntE s.es x, lstE s.es x] [cntE s.es y, lstE s.es y] = lexQ (rankE s.es x) (rankE s.es y) := by
        unfold lexQ rankE
        dsimp only
        rw [HT.lexLt, HT.lexLt, HT.lexLt]
        by_cases h : cntE s.es x = cntE s.es y
        · rw [if_pos h, if_pos h]
          by_cases h2 : lstE s.es x = lstE s.es y
          · rw [if_pos h2, h2, decide_eq_false (by omega)]
          · rw [if_neg h2]
        · rw [if_neg h, if_neg h]
      rw [this]
      exact q H3 (e2.trans e3)
def spTrim (C : Addr) : Sp := fun vs H Q _ => ∃ (ad : Ad) (s : Th), vs = [.ref ad.p] ∧ At .row C ad H s ∧ ∀ H', At .row C ad H' { s with laid := trim s.laid } → Kp .row ad H H' → Q .non H'
theorem trim_snoc (l : List (Option Str)) : trim (l ++ [none]) = trim l := by
  unfold trim
  rw [List.reverse_append]
  rfl
theorem trim_done {l : List (Option Str)} (h : l.getLast? ≠ some none) : trim l = l := by
  unfold trim
  cases e : l.reverse with
  | nil =>
    rw [List.reverse_eq_nil_iff] at e
    rw [e]
    rfl
  | cons o r =>
    have hl : l = (o :: r).reverse := by rw [← e, List.reverse_reverse]
    cases o with
    | none =>
      exfalso
      apply h
      rw [hl]
      simp
    | some m =>
      rw [List.dropWhile_cons]
      rw [hl]
      rfl
theorem ok_Row_trim (T : Tx K mg) : FnOk P w K mg base CX0 1 T.f_Row_trim T.fd_Row_trim P_Row_trim (spTrim T.C_Row) := by
  refine T.F_Row_trim.ok sc_Row_trim (fun vs H Q E h => ?_) (fun cdv A outer s H vs Q E hr h => ?_)
  · obtain ⟨_, _, rfl, _⟩ := h
    rfl
  · obtain ⟨ad, s, rfl, A, kk⟩ := h
    have U := clRow T
    refine ⟨_, (pss_one (ps_while PassesOwn.never (PW.pt (pw_and (pt_cmpR op_gt (pe_callB call_len_seq (by rfl) T.n_len PySem.boot_len (pa_cons (pe_fld (pv 0) rfl) pa_nil)) pe_int (nomark _)) (pw_and1 (pt_cmpR op_isN (pe_ix ix_list (pe_fld (pv 0) rfl) (pe_un un_neg pe_int) (fun _ _ => rfl)) pe_non (nomark _))))) (pss_one (ps_expr (pe_bm0 PySem.F.plainAttrs_list PySem.F.slot_list_pop PySem.F.type_list_pop mt_pop (pe_fld (pv 0) rfl)))))), ?_⟩
    rw [show L2.start N_Row_trim [V.ref ad.p] = [some (V.ref ad.p)] from rfl]
    have self : ∀ {H' : Hp}, Ev (tVar 0) [some (V.ref ad.p)] H' (.ref ad.p) := ev_var rfl
    refine s_while (fun m σ' H' => ∃ L, σ' = [some (V.ref ad.p)] ∧ At .row T.C_Row ad H' { s with laid := L } ∧ Kp .row ad H H' ∧ trim L = trim s.laid ∧ m = L.length) s.laid.length ⟨s.laid, rfl, A, Kp.refl, rfl, rfl⟩ ?_
    rintro m σ' H1 ⟨L, rfl, A1, K1, ht, rfl⟩
    have fld : Ev (tFld K (tVar 0) "laid") [some (V.ref ad.p)] H1 (.ref ad.x1) := ev_fld self A1.ob U.cl T.na_Row_laid fl_laid
    have hx1 : H1 ad.x1 = some (.lst (L.map oV)) := A1.x1
    refine ⟨decide (0 < L.length) && decide (L.getLast? = some none), et_is (et_and (a := decide (0 < L.length)) (b := decide (L.getLast? = some none)) (et_is (et_test (ev_op (ev_len fld (SqL.of hx1)) ev_c rv_I0)) (by rw [List.length_map]; show decide ((L.length : Int) > 0) = _; rw [decide_eq_decide]; omega)) (fun hb => ?_)) rfl, fun hb H2 e2 => ?_, fun hb H2 e2 => ?_⟩
    · have hb := of_decide_eq_true hb
      obtain ⟨o, ho⟩ : ∃ o, L.getLast? = some o := by
        cases L with
        | nil => exact absurd hb (Nat.lt_irrefl 0)
        | cons a r => exact ⟨_, List.getLast?_cons⟩
      refine et_is (et_test (ev_op (ev_op fld (ev_un ev_c ru_neg) (rv_ixL (SqL.of hx1) (atI_last (v := oV o) (by rw [List.getLast?_map, ho]; rfl)))) ev_c rv_isN)) ?_
      rw [ho]
      cases o with
      | none => rfl
      | some n => rfl
    · rw [Bool.and_eq_true, decide_eq_true_eq, decide_eq_true_eq] at hb
      refine ⟨_, fun σ2 H3 h => h, ?_⟩
      have ne : L ≠ [] := fun q => by rw [q] at hb; exact absurd hb.1 (Nat.lt_irrefl 0)
      have hL : L = L.dropLast ++ [none] := by
        have h1 := List.dropLast_concat_getLast ne
        have h2 : L.getLast ne = none := by
          have := List.getLast?_eq_some_getLast ne
          rw [hb.2] at this
          exact (Option.some.inj this).symm
        rw [h2] at h1
        exact h1.symm
      refine s_popL (fld.mono e2) (e2 _ _ hx1) (by simpa using ne) fun H3 e3 => ?_
      rw [← List.map_dropLast]
      refine ⟨L.dropLast.length, by rw [List.length_dropLast]; omega, L.dropLast, rfl, ((A1.ex e2).ex e3).upLaid, ((K1.trans (Kp.ex (e2.trans e3)))).trans (Kp.upd (own_x1 (k := .row) (by decide))), ?_, rfl⟩
      rw [← ht]
      conv => rhs; rw [hL]
      rw [trim_snoc]
    · have hd : L.getLast? ≠ some none := by
        intro q
        rw [q] at hb
        cases L with
        | nil => cases q
        | cons a r => simp at hb
      have e : trim s.laid = L := by rw [← ht, trim_done hd]
      rw [e] at kk
      exact kk H2 (A1.ex e2) (K1.trans (Kp.ex e2))
/-! carrying -/
def cgo (rk : Str → Int × Int) (j : Nat) (l : List (Option Str)) (n : Str) : List (Option Str) := if j = 0 then carry rk l n else carryGo rk l n
theorem cgo_nil (rk : Str → Int × Int) (j : Nat) (n : Str) : cgo rk j [] n = [some n] := by unfold cgo; split <;> rfl
theorem cgo_none (rk : Str → Int × Int) (j : Nat) (r : List (Option Str)) (n : Str) : cgo rk j (none :: r) n = some n :: r := by unfold cgo; split <;> rfl
theorem cgo_put {rk : Str → Int × Int} {j : Nat} {r : List (Option Str)} {n x : Str} (h : j = 0 ∨ lexQ (rk x) (rk n) = true) : cgo rk j (some x :: r) n = some n :: carryGo rk r x := by
  unfold cgo
  by_cases q : j = 0
  · rw [if_pos q]; rfl
  · rw [if_neg q]
    rcases h with h | h
    · exact absurd h q
    · conv => lhs; unfold carryGo
      rw [if_pos h]
theorem cgo_keep {rk : Str → Int × Int} {j : Nat} {r : List (Option Str)} {n x : Str} (q : j ≠ 0) (h : lexQ (rk x) (rk n) = false) : cgo rk j (some x :: r) n = some x :: carryGo rk r n := by
  unfold cgo
  rw [if_neg q]
  conv => lhs; unfold carryGo
  rw [if_neg (by rw [h]; decide)]
def spCarry (C : Addr) : Sp := fun vs H Q _ => ∃ (ad : Ad) (s : Th) (n : Str), vs = [.ref ad.p, .str n] ∧ At .row C ad H s ∧ (∀ m, some m ∈ s.laid → m ∈ s.es.map (·.1)) ∧ s.laid.length ≤ 1001 ∧ ∀ H', At .row C ad H' { s with laid := carry (rankE s.es) s.laid n } → Kp .row ad H H' → Q .non H'
/-- between two turns of carrying: o is carried, at spot j -/
def CarryI (ks : List Str) (rk : Str → Int × Int) (F : List (Option Str)) (z : Nat) (L : List (Option Str)) (o : Option Str) (j : Nat) : Prop :=
  (o = none ∧ L = F) ∨ ∃ m, o = some m ∧ (1 ≤ j → m ∈ ks) ∧ j ≤ L.length ∧ L.length = z ∧ (∀ x, some x ∈ L.drop j → x ∈ ks) ∧ L.take j ++ cgo rk j (L.drop j) m = F
theorem ok_Row_carry (T : Tx K mg) : FnOk P w K mg base CX0 2 T.f_Row_carry T.fd_Row_carry P_Row_carry (spCarry T.C_Row) := by
  refine T.F_Row_carry.ok sc_Row_carry (fun vs H Q E h => ?_) (fun cdv A outer s H vs Q E hr h => ?_)
  · obtain ⟨_, _, _, rfl, _⟩ := h
    rfl
  · obtain ⟨ad, s, n, rfl, A, hk, hz, kk⟩ := h
    have hu := hu_of hr
    have U := clRow T
    have G_rank := ok_Book_rank (P := P) (w := w) (base := base) (k := .row) T U
    have b_rank := T.b_Book_rank
    refine ⟨_, (pss_cons (ps_set (i := 2) sc_Row_carry.nd rfl (Or.inl rfl) pe_int)
      (pss_one (ps_while PassesOwn.never (pt_cmpR op_notN (pv 1) pe_non (nomark _)) (pss_cons (ps_if (pt_cmpR op_eq (pv 2) (pe_callB call_len_seq (by rfl) T.n_len PySem.boot_len (pa_cons (pe_fld (pv 0) rfl) pa_nil)) (nomark _)) (pss_one (ps_expr (pe_bm PySem.F.plainAttrs_list PySem.F.slot_list_append PySem.F.type_list_append mt_append (pe_fld (pv 0) rfl) (pa_cons pe_non pa_nil)))) pss_nil)
      (pss_cons (ps_set (i := 3) sc_Row_carry.nd rfl (Or.inl rfl) (pe_ix ix_list (pe_fld (pv 0) rfl) (pv 2) (fun _ _ => rfl)))
      (pss_cons (ps_if (PW.pt (pw_or (pt_cmpR op_eq (pv 2) pe_int (nomark _)) (pw_or (pt_cmpR op_isN (pv 3) pe_non (nomark _)) (pw_or1 (pt_cmpR (op_ltT hr.units0) (pe_meth (pv 0) U.cl U.m_rank G_rank (hr.mono (by decide)) b_rank .nil pass0 (pa_cons (pv 3) pa_nil)) (pe_meth (pv 0) U.cl U.m_rank G_rank (hr.mono (by decide)) b_rank .nil pass0 (pa_cons (pv 1) pa_nil)) (nomark _)))))) (pss_cons (ps_asg (pv 1) (pg_sub (pe_fld (pv 0) rfl) (pv 2) set_list))
      (pss_one (ps_set (i := 1) sc_Row_carry.nd rfl (Or.inl rfl) (pv 3)))) pss_nil)
      (pss_one (ps_aug (i := 2) sc_Row_carry.nd rfl (Or.inl rfl) pe_int ip_add)))))))), ?_⟩
    rw [show L2.start N_Row_carry [V.ref ad.p, V.str n] = [some (V.ref ad.p), some (V.str n), none, none] from rfl]
    refine q_asg (v := .int ((0 : Nat) : Int)) ev_c fun H0 e0 => ?_
    dsimp only [List.set]
    generalize hF : carry (rankE s.es) s.laid n = F at kk
    refine s_while (fun m σ' H' => ∃ (L : List (Option Str)) (o : Option Str) (j : Nat) (x3 : Option V), σ' = [some (V.ref ad.p), some (oV o), some (V.int (j : Int)), x3] ∧ At .row T.C_Row ad H' { s with laid := L } ∧ Kp .row ad H H' ∧ CarryI (s.es.map (·.1)) (rankE s.es) F s.laid.length L o j ∧ m = if o = none then 0 else s.laid.length + 1 - j) (s.laid.length + 1)
      ⟨s.laid, some n, 0, none, rfl, A.ex e0, Kp.ex e0, .inr ⟨n, rfl, (fun h => absurd h (by decide)), Nat.zero_le _, rfl, hk, hF⟩, rfl⟩ ?_
    rintro m σ' H1 ⟨L, o, j, x3, rfl, A1, K1, hI, rfl⟩
    refine ⟨!decide (oV o = .non), et_test (ev_op (ev_var rfl) ev_c rv_notN), fun hb H2 e2 => ?_, fun hb H2 e2 => ?_⟩
    · rcases hI with ⟨rfl, _⟩ | ⟨m, rfl, hm, hj, hL, hd, hf⟩
      · cases hb
      refine ⟨_, fun σ2 H3 h => h, ?_⟩
      have A2 := A1.ex e2
      have K2 := K1.trans (Kp.ex e2)
      have self : ∀ {y : Option V} {H' : Hp}, Ev (tVar 0) [some (V.ref ad.p), some (oV (some m)), some (V.int (j : Int)), y] H' (.ref ad.p) := ev_var rfl
      refine q_whenM (b := decide (j = L.length)) (M := fun σ' H' => σ' = [some (V.ref ad.p), some (oV (some m)), some (V.int (j : Int)), x3] ∧ ∃ L2, At .row T.C_Row ad H' { s with laid := L2 } ∧ Kp .row ad H H' ∧ j < L2.length ∧ (∀ x, some x ∈ L2.drop j → x ∈ s.es.map (·.1)) ∧ L2.take j ++ cgo (rankE s.es) j (L2.drop j) m = F ∧ ∀ x, L2[j]? = some (some x) → L2.length = s.laid.length)
        (et_is (et_test (ev_op (ev_var rfl) (ev_len (ev_fld self A2.ob U.cl T.na_Row_laid fl_laid) (SqL.of A2.x1)) (rv_eq rfl))) (by rw [dec_i, List.length_map, decide_eq_decide]; show ((j : Int) = (L.length : Int)) ↔ _; omega)) (fun hb H3 e3 D' k => ?_) (fun hb H3 e3 => ?_) ?_
      · have hb := of_decide_eq_true hb
        have A3 := A2.ex e3
        refine s_app (ev_fld self A3.ob U.cl T.na_Row_laid fl_laid) A3.x1 (v := .non) ev_c (by rw [List.length_map]; show L.length < _; omega) fun H4 e4 _ => ?_
        rw [show ({ s with laid := L } : Th).laid.map oV ++ [V.non] = (L ++ [none]).map oV by rw [List.map_append]; rfl]
        refine k _ _ ⟨rfl, L ++ [none], (A3.ex e4).upLaid, (K2.trans (Kp.ex (e3.trans e4))).trans (Kp.upd (own_x1 (k := .row) (by decide))), by rw [List.length_append, List.length_singleton]; omega, fun x hx => ?_, ?_, fun x hx => ?_⟩
        · rw [hb, List.drop_left] at hx
          cases List.mem_singleton.mp hx
        · rw [hb, List.take_left, List.drop_left, cgo_none]
          rw [hb, List.take_length, List.drop_length, cgo_nil] at hf
          exact hf
        · rw [hb, List.getElem?_append_right (Nat.le_refl _)] at hx
          simp at hx
      · have hb := of_decide_eq_false hb
        exact ⟨rfl, L, A2.ex e3, K2.trans (Kp.ex e3), by omega, hd, hf, fun _ _ => hL⟩
      rintro _ H3 ⟨rfl, L2, A3, K3, hj2, hd2, hf2, hl2⟩
      obtain ⟨y, hy⟩ : ∃ y, L2[j]? = some y := ⟨_, List.getElem?_eq_getElem hj2⟩
      have hyd : L2.drop j = y :: L2.drop (j + 1) := by
        rw [List.drop_eq_getElem_cons hj2]
        have := List.getElem?_eq_getElem hj2
        rw [hy] at this
        rw [← Option.some.inj this]
      have htk : L2.take (j + 1) = L2.take j ++ [y] := by rw [List.take_add_one, hy]; rfl
      rw [hyd] at hf2
      refine q_asg (v := oV y) (ev_ixLn (i := j) (ev_fld self A3.ob U.cl T.na_Row_laid fl_laid) (ev_var rfl) rfl A3.x1 (by rw [List.getElem?_map]; show (L2[j]?).map oV = _; rw [hy]; rfl)) fun H4 e4 => ?_
      dsimp only [List.set]
      have A4 := A3.ex e4
      have K4 := K3.trans (Kp.ex e4)
      have zl : j < L2.length := hj2
      refine q_whenM (b := decide (j = 0) || (decide (y = none) || match y with | none => false | some x => lexQ (rankE s.es x) (rankE s.es m))) (M := fun σ' H' => ∃ (L3 : List (Option Str)) (o3 : Option Str), σ' = [some (V.ref ad.p), some (oV o3), some (V.int (j : Int)), some (oV y)] ∧ At .row T.C_Row ad H' { s with laid := L3 } ∧ Kp .row ad H H' ∧ CarryI (s.es.map (·.1)) (rankE s.es) F s.laid.length L3 o3 (j + 1))
        (et_or (et_is (et_test (ev_op (ev_var rfl) ev_c (rv_eq rfl))) (by rw [dec_i, decide_eq_decide]; omega)) fun h0 => et_or (et_is (et_test (ev_op (ev_var rfl) ev_c rv_isN)) (by cases y <;> rfl)) fun h1 => by
          cases y with
          | none => exact absurd h1 (by decide)
          | some x =>
            have j1 : 1 ≤ j := by have := of_decide_eq_false h0; omega
            exact et_test (ev_rankLt (s := { s with laid := L2 }) A4 (hd2 x (by rw [hyd]; exact List.mem_cons_self)) (hm j1) (ev_var rfl) (ev_var rfl) (ev_var rfl) (ev_var rfl))) (fun hb H5 e5 D' k => ?_) (fun hb H5 e5 => ?_) ?_
      · have A5 := A4.ex e5
        refine q_setL (j := j) A5.x1 (v := .str m) (ev_var rfl) (ev_fld (ev_var rfl) A5.ob U.cl T.na_Row_laid fl_laid) (ev_var rfl) (by rw [List.length_map]; exact hj2) fun H6 e6 => ?_
        rw [show ({ s with laid := L2 } : Th).laid.map oV = L2.map oV from rfl, show (L2.map oV).set j (V.str m) = (L2.set j (some m)).map oV by rw [List.map_set]; rfl]
        have A6 := (A5.ex e6).upLaid (l := L2.set j (some m))
        have K6 := (K4.trans (Kp.ex (e5.trans e6))).trans (Kp.upd (o := .lst ((L2.set j (some m)).map oV)) (own_x1 (k := .row) (ad := ad) (by decide)))
        have st : L2.set j (some m) = L2.take j ++ some m :: L2.drop (j + 1) := by
          rw [List.set_eq_take_append_cons_drop, if_pos hj2]
        refine s_asg (v := oV y) (ev_var rfl) fun H7 e7 => k _ _ ⟨L2.set j (some m), y, rfl, A6.ex e7, K6.trans (Kp.ex e7), ?_⟩
        cases y with
        | none =>
          left
          refine ⟨rfl, ?_⟩
          rw [cgo_none] at hf2
          rw [st, hf2]
        | some x =>
          right
          have hb2 : j = 0 ∨ lexQ (rankE s.es x) (rankE s.es m) = true := by
            rw [Bool.or_eq_true, Bool.or_eq_true, decide_eq_true_eq] at hb
            rcases hb with h | h | h
            · exact .inl h
            · cases h
            · exact .inr h
          rw [cgo_put hb2] at hf2
          have hz2 := hl2 x hy
          have tl : (L2.take j).length = j := by rw [List.length_take]; omega
          have e1 : (L2.set j (some m)).take (j + 1) = L2.take j ++ [some m] := by
            rw [st, List.take_append, tl]
            rw [show j + 1 - j = 1 by omega, List.take_of_length_le (by omega)]
            rfl
          have e2 : (L2.set j (some m)).drop (j + 1) = L2.drop (j + 1) := by
            rw [st, List.drop_append, tl, List.drop_of_length_le (by omega)]
            rw [show j + 1 - j = 1 by omega]
            rfl
          refine ⟨x, rfl, fun _ => hd2 x (by rw [hyd]; exact List.mem_cons_self), by rw [List.length_set]; omega, by rw [List.length_set]; exact hz2, fun z hz => hd2 z (by rw [hyd]; rw [e2] at hz; exact List.mem_cons_of_mem _ hz), ?_⟩
          rw [e1, e2, List.append_assoc]
          exact hf2
      · rw [Bool.or_eq_false_iff, Bool.or_eq_false_iff, decide_eq_false_iff_not, decide_eq_false_iff_not] at hb
        refine ⟨L2, some m, rfl, A4.ex e5, K4.trans (Kp.ex e5), .inr ?_⟩
        cases y with
        | none => exact absurd rfl hb.2.1
        | some x =>
          rw [cgo_keep hb.1 hb.2.2] at hf2
          refine ⟨m, rfl, fun _ => hm (by have := hb.1; omega), hj2, hl2 x hy, fun z hz => hd2 z (by rw [hyd]; exact List.mem_cons_of_mem _ hz), ?_⟩
          rw [htk, List.append_assoc]
          exact hf2
      rintro _ H5 ⟨L3, o3, rfl, A5, K5, hI3⟩
      refine s_asg (v := .int ((j + 1 : Nat) : Int)) (ev_op (ev_var rfl) ev_c rv_I0) fun H6 e6 => ?_
      dsimp only [List.set]
      refine ⟨_, ?_, L3, o3, j + 1, _, rfl, A5.ex e6, K5.trans (Kp.ex e6), hI3, rfl⟩
      rw [if_neg (show (some m : Option Str) ≠ none by simp)]
      rcases hI3 with ⟨rfl, _⟩ | ⟨m3, rfl, _, hj3, hz3, _⟩
      · rw [if_pos rfl]
        omega
      · rw [if_neg (by simp)]
        omega
    · rcases hI with ⟨rfl, rfl⟩ | ⟨m, rfl, _⟩
      · exact kk H2 (A1.ex e2) (K1.trans (Kp.ex e2))
      · cases hb
theorem ok_Row_gone (T : Tx K mg) : FnOk P w K mg base CX0 4 T.f_Row_gone T.fd_Row_gone P_Row_gone (spGone .row T.C_Row) := by
  refine T.F_Row_gone.ok sc_Row_gone (fun vs H Q E h => ?_) (fun cdv A outer s H vs Q E hr h => ?_)
  · obtain ⟨_, _, _, _, rfl, _⟩ := h
    rfl
  · obtain ⟨ad, s, n, r, rfl, A, W, hd, kk⟩ := h
    have hu := hu_of hr
    have U := clRow T
    have G_trim := ok_Row_trim (P := P) (w := w) (base := base) T
    have b_trim := T.b_Row_trim
    refine ⟨_, (pss_cons (ps_if (pt_cmpR op_notIn_seq (pv 1) (pe_fld (pv 0) rfl) (by rfl)) (pss_one (ps_ret pe_bl)) pss_nil)
      (pss_cons (ps_asg pe_non (pg_sub (pe_fld (pv 0) rfl) (pe_bm PySem.F.plainAttrs_list PySem.F.slot_list_index PySem.F.type_list_index mt_index (pe_fld (pv 0) rfl) (pa_cons (pv 1) pa_nil)) set_list))
      (pss_cons (ps_expr (pe_meth0 (pv 0) U.cl T.m_Row_trim G_trim (hr.mono (by decide)) b_trim .nil pass0))
      (pss_one (ps_ret pe_bl))))), ?_⟩
    rw [show L2.start N_Row_gone [V.ref ad.p, V.str n, V.str r] = [some (V.ref ad.p), some (V.str n), some (V.str r)] from rfl]
    have self : ∀ {H' : Hp}, Ev (tVar 0) [some (V.ref ad.p), some (V.str n), some (V.str r)] H' (.ref ad.p) := ev_var rfl
    refine q_when (b := !decide (some n ∈ s.laid)) (et_is (et_test (ev_op (ev_var rfl) (ev_fld self A.ob U.cl T.na_Row_laid fl_laid) (rv_niL (SqL.of A.x1) rfl (flat_o _)))) (by rw [inV_o])) (fun hb H1 e1 => ?_) (fun hb H1 e1 => ?_)
    · have hb : some n ∉ s.laid := by simpa using hb
      have e : Kd.gone .row s n r = (false, s) := by unfold Kd.gone; dsimp only; rw [if_neg hb]
      rw [e] at kk
      exact s_ret ev_c fun H2 e2 => kk H2 ((A.ex e1).ex e2) (Kp.ex (e1.trans e2))
    · have hb : some n ∈ s.laid := by simpa using hb
      have e : Kd.gone .row s n r = (true, { s with laid := trim (takeOff s.laid n) }) := by unfold Kd.gone; dsimp only; rw [if_pos hb]
      rw [e] at kk
      have A1 := A.ex e1
      have hlt := idx_lt hb
      refine q_setL (j := idx s.laid n) A1.x1 (v := .non) ev_c (ev_fld self A1.ob U.cl T.na_Row_laid fl_laid) (ev_indexO (ev_fld self A1.ob U.cl T.na_Row_laid fl_laid) (ev_var rfl) A1.x1 hb) (by rw [List.length_map]; exact hlt) fun H2 e2 => ?_
      rw [show (s.laid.map oV).set (idx s.laid n) V.non = (takeOff s.laid n).map oV by unfold takeOff; rw [List.map_set]; rfl]
      have A2 := (A1.ex e2).upLaid (l := takeOff s.laid n)
      have K2 := (Kp.ex (k := .row) (ad := ad) (e1.trans e2)).trans (Kp.upd (o := .lst ((takeOff s.laid n).map oV)) (own_x1 (k := .row) (ad := ad) (by decide)))
      refine q_dropM self A2.ob nm_trim ea_nil fun H3 e3 => ⟨ad, _, rfl, A2.ex e3, fun H4 A4 K4 => ?_⟩
      exact s_ret ev_c fun H5 e5 => kk H5 (A4.ex e5) (((K2.trans (Kp.ex e3)).trans K4).trans (Kp.ex e5))
theorem ok_Row_came (T : Tx K mg) : FnOk P w K mg base CX0 8 T.f_Row_came T.fd_Row_came P_Row_came (spCame .row T.C_Row) := by
  refine T.F_Row_came.ok sc_Row_came (fun vs H Q E h => ?_) (fun cdv A outer s H vs Q E hr h => ?_)
  · obtain ⟨_, _, _, rfl, _⟩ := h
    rfl
  · obtain ⟨ad, s, n, rfl, A, W, hd, kk⟩ := h
    have hu := hu_of hr
    have U := clRow T
    have G_trim := ok_Row_trim (P := P) (w := w) (base := base) T
    have b_trim := T.b_Row_trim
    have G_carry := ok_Row_carry (P := P) (w := w) (base := base) T
    have b_carry := T.b_Row_carry
    refine ⟨_, (pss_cons (ps_set (i := 2) sc_Row_came.nd rfl (Or.inl rfl) pe_non)
      (pss_cons (ps_if (pt_cmpR op_in_seq (pv 1) (pe_fld (pv 0) rfl) (by rfl)) (pss_cons (ps_set (i := 2) sc_Row_came.nd rfl (Or.inl rfl) (pe_op op_add (pe_bm PySem.F.plainAttrs_list PySem.F.slot_list_index PySem.F.type_list_index mt_index (pe_fld (pv 0) rfl) (pa_cons (pv 1) pa_nil)) pe_int))
      (pss_one (ps_asg pe_non (pg_sub (pe_fld (pv 0) rfl) (pe_op op_sub (pv 2) pe_int) set_list)))) pss_nil)
      (pss_cons (ps_expr (pe_bm PySem.F.plainAttrs_list PySem.F.slot_list_append PySem.F.type_list_append mt_append (pe_fld (pv 0) rfl) (pa_cons (pv 2) pa_nil)))
      (pss_cons (ps_expr (pe_meth (pv 0) U.cl T.m_Row_carry G_carry (hr.mono (by decide)) b_carry .nil pass0 (pa_cons (pv 1) pa_nil)))
      (pss_cons (ps_expr (pe_meth0 (pv 0) U.cl T.m_Row_trim G_trim (hr.mono (by decide)) b_trim .nil pass0))
      (pss_one (ps_ret (pv 2)))))))), ?_⟩
    rw [show L2.start N_Row_came [V.ref ad.p, V.str n] = [some (V.ref ad.p), some (V.str n), none] from rfl]
    have hl := W.lsz
    have hds := W.dsz
    refine q_asg (v := .non) ev_c fun H0 e0 => ?_
    dsimp only [List.set]
    have A0 := A.ex e0
    have self : ∀ {x : Option V} {H' : Hp}, Ev (tVar 0) [some (V.ref ad.p), some (V.str n), x] H' (.ref ad.p) := ev_var rfl
    refine q_whenM (b := decide (some n ∈ s.laid)) (M := fun σ' H' => ∃ (l1 : List (Option Str)) (o : Option Int), σ' = [some (V.ref ad.p), some (V.str n), some (oI o)] ∧ At .row T.C_Row ad H' { s with laid := l1 } ∧ Kp .row ad H H' ∧ (∀ m, some m ∈ l1 → some m ∈ s.laid) ∧ l1.length = s.laid.length ∧ Kd.came .row s n = (oI o, { s with depths := s.depths ++ [o], laid := trim (carry (rankE s.es) l1 n) }))
      (et_is (et_test (ev_op (ev_var rfl) (ev_fld self A0.ob U.cl T.na_Row_laid fl_laid) (rv_isL (SqL.of A0.x1) rfl (flat_o _)))) (by rw [inV_o])) (fun hb H1 e1 D' k => ?_) (fun hb H1 e1 => ?_) ?_
    · have hb := of_decide_eq_true hb
      have A1 := A0.ex e1
      have hlt := idx_lt hb
      refine q_asg (v := .int ((idx s.laid n : Int) + 1)) (ev_op (ev_indexO (ev_fld self A1.ob U.cl T.na_Row_laid fl_laid) (ev_var rfl) A1.x1 hb) ev_c rv_I0) fun H2 e2 => ?_
      dsimp only [List.set]
      have A2 := A1.ex e2
      refine s_setL (j := idx s.laid n) A2.x1 (v := .non) ev_c (ev_fld self A2.ob U.cl T.na_Row_laid fl_laid) (ev_is (ev_op (ev_var rfl) ev_c rv_I0) (by congr 1; omega)) (by rw [List.length_map]; exact hlt) fun H3 e3 => ?_
      rw [show (s.laid.map oV).set (idx s.laid n) V.non = (takeOff s.laid n).map oV by unfold takeOff; rw [List.map_set]; rfl]
      have A3 := (A2.ex e3).upLaid (l := takeOff s.laid n)
      have K3 := (Kp.ex (k := .row) (ad := ad) (((e0.trans e1).trans e2).trans e3)).trans (Kp.upd (o := .lst ((takeOff s.laid n).map oV)) (own_x1 (k := .row) (ad := ad) (by decide)))
      refine k _ _ ⟨takeOff s.laid n, some ((idx s.laid n : Int) + 1), rfl, A3, K3, fun m hm => ?_, by unfold takeOff; rw [List.length_set], by unfold Kd.came; dsimp only; rw [if_pos hb]; rfl⟩
      unfold takeOff at hm
      rcases List.mem_or_eq_of_mem_set hm with h | h
      · exact h
      · cases h
    · have hb := of_decide_eq_false hb
      exact ⟨s.laid, none, rfl, A0.ex e1, Kp.ex (e0.trans e1), fun m hm => hm, rfl, by unfold Kd.came; dsimp only; rw [if_neg hb]; rfl⟩
    rintro _ H1 ⟨l1, o, rfl, A1, K1, hs, hl1, ec⟩
    rw [ec] at kk
    refine q_app (ev_fld self A1.ob U.cl T.na_Row_depths fl_depths) A1.x2.1 (v := oI o) (ev_var rfl) (by rw [List.length_map]; show s.depths.length < _; omega) fun H2 e2 _ => ?_
    rw [show ({ s with laid := l1 } : Th).depths.map oI ++ [oI o] = (s.depths ++ [o]).map oI by rw [List.map_append]; rfl]
    have A2 := (A1.ex e2).upDep (l := s.depths ++ [o])
    have K2 := (K1.trans (Kp.ex e2)).trans (Kp.upd (o := .lst ((s.depths ++ [o]).map oI)) (own_x2 (k := .row) (ad := ad) (by decide)))
    refine q_dropM self A2.ob nm_carry (ea_cons (ev_var rfl) ea_nil) fun H3 e3 => ⟨ad, _, n, rfl, A2.ex e3, fun m hm => W.lin m (hs m hm), by show l1.length ≤ 1001; omega, fun H4 A4 K4 => ?_⟩
    refine q_dropM self A4.ob nm_trim ea_nil fun H5 e5 => ⟨ad, _, rfl, A4.ex e5, fun H6 A6 K6 => ?_⟩
    exact s_ret (ev_var rfl) fun H7 e7 => kk H7 (A6.ex e7) (((((K2.trans (Kp.ex e3)).trans K4).trans (Kp.ex e5)).trans K6).trans (Kp.ex e7))
theorem ok_Row_inside (T : Tx K mg) : FnOk P w K mg base CX0 2 T.f_Row_inside T.fd_Row_inside P_Row_inside (spInside .row T.C_Row) := by
  refine T.F_Row_inside.ok sc_Row_inside (fun vs H Q E h => ?_) (fun cdv A outer s H vs Q E hr h => ?_)
  · obtain ⟨_, _, rfl, _⟩ := h
    rfl
  · obtain ⟨ad, s, rfl, A, W, hd, kk⟩ := h
    have U := clRow T
    have hl := W.lsz
    refine ⟨_, (pss_one (ps_ret (pe_lc (own := [("name", 1)]) (g := (gName 1)) (by rfl) sc_Row_inside.nd (pi_list (pe_fld (pv 0) rfl)) (blkOk_by (own := [("name", 1)]) (N := N_Row_inside) (sc := defScope s_Row_inside) (by decide +kernel)) (fun _ _ _ _ _ => (pg_name (i := 1) sc_Row_inside.nd rfl (Or.inl rfl))) (fun _ _ _ _ _ => (pts_one (pt_cmpR op_notN (pv 1) pe_non (nomark _)))) (fun _ _ _ _ _ => (pv 1))))), ?_⟩
    rw [show L2.start N_Row_inside [V.ref ad.p] = [some (V.ref ad.p), none] from rfl]
    have h := el_lcL (K := K) (σ := [some (V.ref ad.p), none]) (j := 1) (vs := [1]) (t := tTest (tOp (fun x y H Q => y = .non ∧ Q (.bl (!decide (x = .non))) H) (tVar 1) (tC .non))) (te := tVar 1) (fun i => (s.laid.getD i none).isSome) (fun i => oV (s.laid.getD i none)) (ev_fld (te := tVar 0) (ev_var rfl) A.ob U.cl T.na_Row_laid fl_laid) (SqL.of A.x1) (by rw [List.length_map]; omega) (fun x => rfl) (fun i x H1 e hx => ?_) (fun i x H1 e hx hf => ?_)
    · rw [List.length_map, given_o] at h
      exact s_retL h kk
    · rw [List.getElem?_map] at hx
      obtain ⟨o, ho, rfl⟩ := Option.map_eq_some_iff.mp hx
      refine et_is (et_test (ev_op (ev_var rfl) ev_c rv_notN)) ?_
      rw [List.getD_eq_getElem?_getD, ho]
      cases o <;> rfl
    · rw [List.getElem?_map] at hx
      obtain ⟨o, ho, rfl⟩ := Option.map_eq_some_iff.mp hx
      refine ev_is (ev_var rfl) ?_
      rw [List.getD_eq_getElem?_getD, ho]
      rfl
def uRow (T : Tx K mg) : Vt P w base T .row T.C_Row where
  toCl0 := clRow T
  f_came := _
  fd_came := _
  m_came := T.m_Row_came
  b_came := T.b_Row_came
  ok_came := ok_Row_came T
  f_gone := _
  fd_gone := _
  m_gone := T.m_Row_gone
  b_gone := T.b_Row_gone
  ok_gone := ok_Row_gone T
  f_inside := _
  fd_inside := _
  m_inside := T.m_Row_inside
  b_inside := T.b_Row_inside
  ok_inside := ok_Row_inside T
/-! a new row -/
def spInitR (C : Addr) : Sp := fun vs H Q _ => ∃ (p dx : Addr) (a b : Int), vs = [.ref p, .int a, .int b] ∧ 1 ≤ a ∧ a ≤ 100000000000000000000 ∧ 2 ≤ b ∧ b ≤ 1000000000000000000000000000000 ∧ H p = some (.ins C dx []) ∧
  ∀ H' (ad : Ad), ad.p = p → (∀ x ∈ own .row ad, x ≠ p → H x = none) → At .row C ad H' (th0 a b 0) → (∀ x o, H x = some o → x ≠ p → H' x = some o) → Q .non H'
theorem ok_Row_init (T : Tx K mg) : FnOk P w K mg base CX0 4 T.f_Row_init T.fd_Row_init P_Row_init (spInitR T.C_Row) := by
  refine T.F_Row_init.ok sc_Row_init (fun vs H Q E h => ?_) (fun cdv A outer s H vs Q E hr h => ?_)
  · obtain ⟨_, _, _, _, rfl, _⟩ := h
    rfl
  · obtain ⟨p, dx, a, b, rfl, h1, h2, h3, h4, hp, kk⟩ := h
    have U := clRow T
    have G_init := ok_Book_init (P := P) (w := w) (base := base) T U
    have b_init := T.b_Book_init
    refine ⟨_, (pss_cons (ps_expr (pe_clsCall (pe_glob (v := .ref T.C_Book) rfl T.mgC_Book rfl) T.cdf G_init (hr.mono (by decide)) b_init .nil pass0 (pa_cons (pv 0) (pa_cons (pv 1) (pa_cons (pv 2) pa_nil)))))
      (pss_cons (ps_fld (pv 0) (pe_lst pa_nil) rfl)
      (pss_one (ps_fld (pv 0) (pe_lst pa_nil) rfl)))), ?_⟩
    rw [show L2.start N_Row_init [V.ref p, V.int a, V.int b] = [some (V.ref p), some (V.int a), some (V.int b)] from rfl]
    have self : ∀ {H' : Hp}, Ev (tVar 0) [some (V.ref p), some (V.int a), some (V.int b)] H' (.ref p) := ev_var rfl
    refine q_dropCls (vs := [.ref p, .int a, .int b]) (ea_cons (ev_var rfl) (ea_cons (ev_var rfl) (ea_cons (ev_var rfl) ea_nil))) fun H2 e2 => ?_
    have hp2 := e2 _ _ hp
    refine ⟨p, dx, a, b, rfl, h1, h2, h3, h4, hp2, fun H3 c l hc hl hcl q1 q2 q3 q4 => ?_⟩
    refine q_fldL (el_lst ea_nil (by decide)) self q1 U.cl T.na_Row_laid (lenlt 6 rfl) fun x1 H5 hx1 e5 h5 => ?_
    refine s_fldL (el_lst ea_nil (by decide)) self upd_same U.cl T.na_Row_depths (lenlt 7 (by kernel_rfl)) fun x2 H6 hx2 e6 h6 => ?_
    have back : ∀ {X Y : Hp} {o : HO} {z : Addr}, Ex X Y → (upd Y p o) z = none → X z = none := fun {X Y o z} e h => by
      by_cases q : z = p
      · rw [q, upd_same] at h; cases h
      · rw [upd_ne q] at h; exact fresh_back e h
    have x2f : H3 x2 = none := back e5 hx2
    have fr : ∀ {z : Addr}, H3 z = none → H z = none := fun {z} h => by
      refine fresh_back e2 ?_
      cases e : H2 z with
      | none => rfl
      | some o =>
        have hz : z ≠ p := fun q => by rw [q, q1] at h; cases h
        rw [q4 z o e hz] at h
        cases h
    have ne1 : x1 ≠ p := fun q => by rw [q, q1] at hx1; cases hx1
    have ne2 : x2 ≠ p := fun q => by rw [q, q1] at x2f; cases x2f
    have hc0 : H c = none := fresh_back e2 hc
    have hl0 : H l = none := fresh_back e2 hl
    have nec : c ≠ p := fun q => by rw [q, hp] at hc0; cases hc0
    have nel : l ≠ p := fun q => by rw [q, hp] at hl0; cases hl0
    have f : ∀ {X Y : Hp} {u o : HO} {x : Addr}, x ≠ p → Ex X Y → X x = some o → (upd Y p u) x = some o := fun hne e h => (upd_ne hne).trans (e _ _ h)
    have x12 : x1 ≠ x2 := fun q => by
      have := f ne1 (u := .ins T.C_Row dx (putF "laid" (.ref x1) (six a b c l))) (Ex.refl H5) h5
      rw [← q, this] at hx2
      cases hx2
    refine kk _ ⟨p, dx, c, l, x1, x2⟩ rfl (fun z hz hzp => ?_) ⟨upd_same, ?_, ?_, hcl, ?_, ⟨?_, x12⟩⟩ (fun x o hx hne => f hne e6 (f hne e5 (q4 x o (e2 _ _ hx) hne)))
    · simp only [own, List.mem_cons, List.not_mem_nil, or_false] at hz
      rcases hz with rfl | rfl | rfl | rfl | rfl
      · exact absurd rfl hzp
      · exact hc0
      · exact hl0
      · exact fr hx1
      · exact fr x2f
    · exact f nec e6 (f nec e5 q2)
    · exact f nel e6 (f nel e5 q3)
    · exact f ne1 e6 ((upd_ne ne1).trans h5)
    · exact (upd_ne ne2).trans h6
theorem newRow {T : Tx K mg} {σ : L2.St} {H : Hp} {ta : TA} {E : XK} {Q : VK} {a b : Int} (ha : EvA ta σ H [.int a, .int b]) (h1 : 1 ≤ a) (h2 : a ≤ 100000000000000000000) (h3 : 2 ≤ b) (h4 : b ≤ 1000000000000000000000000000000)
    (k : ∀ ad H1, Ex H H1 → (∀ x ∈ own .row ad, H x = none) → At .row T.C_Row ad H1 (th0 a b 0) → Q (.ref ad.p) H1) : tMake T.C_Row (spInitR T.C_Row) [] E ta σ H Q := by
  refine ha H (Ex.refl H) _ fun H1 e1 => fun x dx hx hdx hne => ?_
  have E1 : Ex H1 (upd (upd H1 dx (.own x)) x (.ins T.C_Row dx [])) := (Ex.new hdx).trans (Ex.new (by rw [upd_ne (fun q => hne q.symm)]; exact hx))
  refine ⟨x, dx, a, b, rfl, h1, h2, h3, h4, upd_same, fun H2 ad hp ow A q4 => ⟨rfl, ?_⟩⟩
  rw [← hp]
  refine k ad H2 (e1.trans fun y o hy => ?_) (fun y hy => ?_) A
  · refine q4 y o (E1 y o hy) fun q => ?_
    rw [q, hx] at hy
    cases hy
  · by_cases q : y = x
    · rw [q]; exact fresh_back e1 hx
    · exact fresh_back (e1.trans E1) (ow y hy q)
theorem q_asgRow {T : Tx K mg} {σ : L2.St} {H : Hp} {ta : TA} {E : XK} {D : Ends} {tz : TS} {i : Nat} {a b : Int} (ha : EvA ta σ H [.int a, .int b]) (h1 : 1 ≤ a) (h2 : a ≤ 100000000000000000000) (h3 : 2 ≤ b) (h4 : b ≤ 1000000000000000000000000000000)
    (k : ∀ ad H1, Ex H H1 → (∀ x ∈ own .row ad, H x = none) → At .row T.C_Row ad H1 (th0 a b 0) → tz D (σ.set i (some (.ref ad.p))) H1) : tSeq (tAsg (tMake T.C_Row (spInitR T.C_Row) [] E ta) (gName i)) tz D σ H :=
  newRow (Q := fun v H1 => tz D (σ.set i (some v)) H1) ha h1 h2 h3 h4 k
end

section
variable {P : Program} {w : World} {K : PySem.W.Frag} {mg : Str → Option Value} {base : Heap}
theorem nm_spots {ad : Ad} {s : Th} : (flds .row ad s).lookup ("spots" : Str) = none := by kernel_rfl
def spSpots (C : Addr) : Sp := fun vs H Q _ => ∃ (ad : Ad) (s : Th), vs = [.ref ad.p] ∧ At .row C ad H s ∧ RetL (s.laid.map oV) H Q
theorem ok_Row_spots (T : Tx K mg) : FnOk P w K mg base CX0 1 T.f_Row_spots T.fd_Row_spots P_Row_spots (spSpots T.C_Row) := by
  refine T.F_Row_spots.ok sc_Row_spots (fun vs H Q E h => ?_) (fun cdv A outer s H vs Q E hr h => ?_)
  · obtain ⟨_, _, rfl, _⟩ := h
    rfl
  · obtain ⟨ad, s, rfl, A, kk⟩ := h
    have U := clRow T
    refine ⟨_, (pss_one (ps_ret (pe_callTy call_list_of (by rfl) T.n_list (by decide +kernel) (pa_cons (pe_fld (pv 0) rfl) pa_nil)))), ?_⟩
    exact s_retL (el_list (ev_fld (te := tVar 0) (ev_var rfl) A.ob U.cl T.na_Row_laid fl_laid) (SqL.of A.x1)) kk
theorem el_spots {C : Addr} {ad : Ad} {s : Th} {H : Hp} {σ : L2.St} {ta : TE} {E : XK} (A : At .row C ad H s) (h : Ev ta σ H (.ref ad.p)) : EvL (tMeth C "spots" (spSpots C) [] E ta tNil) σ H (s.laid.map oV) :=
  el_meth h A.ob nm_spots ea_nil fun H1 e Q q E => ⟨ad, s, rfl, A.ex e, q⟩
end

section
variable {P : Program} {w : World} {K : PySem.W.Frag} {mg : Str → Option Value} {base : Heap}
theorem nm_names_at {ad : Ad} {s : Th} : (flds .row ad s).lookup ("names_at" : Str) = none := by kernel_rfl
theorem cutV_take (xs : List V) (k : Nat) : cutV xs none (some (k : Int)) = xs.take k := by
  unfold cutV
  rw [HT.sIx_none, HT.sIx_nat, List.drop_zero, Nat.sub_zero]
  by_cases h : k ≤ xs.length
  · rw [Nat.min_eq_left h]
  · rw [Nat.min_eq_right (by omega), List.take_of_length_le (Nat.le_refl _), List.take_of_length_le (by omega)]
def spNamesAt (C : Addr) : Sp := fun vs H Q _ => ∃ (ad : Ad) (s : Th) (p : Nat), vs = [.ref ad.p, .int (p : Int)] ∧ At .row C ad H s ∧ WF .row s ∧ s.deed ≤ 1000 ∧ 1 ≤ p ∧ p ≤ 1000 ∧ RetL ((sortR s.es (tk p s.laid)).map V.str) H Q
theorem ok_Row_names_at (T : Tx K mg) : FnOk P w K mg base CX0 4 T.f_Row_names_at T.fd_Row_names_at P_Row_names_at (spNamesAt T.C_Row) := by
  refine T.F_Row_names_at.ok sc_Row_names_at (fun vs H Q E h => ?_) (fun cdv A outer s H vs Q E hr h => ?_)
  · obtain ⟨_, _, _, rfl, _⟩ := h
    rfl
  · obtain ⟨ad, s, p, rfl, A, W, hd, p1, p2, kk⟩ := h
    have U := clRow T
    have hl := W.lsz
    have G_rank := ok_Book_rank (P := P) (w := w) (base := base) (k := .row) T U
    have b_rank := T.b_Book_rank
    refine ⟨_, (pss_cons (ps_expr (pe_call (ok_want_number T) (hr.mono (by decide)) rfl T.mg_want_number T.F_want_number.kp T.b_want_number .nil pass0 (pa_cons (pv 1) (pa_cons pe_int (pa_cons (pe_glob (v := .int 1000) rfl T.c_MOST_PLACES.2 ⟨_, rfl⟩) pa_nil)))))
      (pss_one (ps_ret (pe_callBK (cr_sortedF (kdPair _) rfl G_rank (hr.mono (by decide)) b_rank) (by rfl) T.n_sorted (by decide +kernel) (pa_cons (pe_lc (own := [("name", 2)]) (g := (gName 2)) (by rfl) sc_Row_names_at.nd (pi_list (pe_slice sl_list (pe_fld (pv 0) rfl) po_none (po_some (pv 1)))) (blkOk_by (own := [("name", 2)]) (N := N_Row_names_at) (sc := defScope s_Row_names_at) (by decide +kernel)) (fun _ _ _ _ _ => (pg_name (i := 2) sc_Row_names_at.nd rfl (Or.inl rfl))) (fun _ _ _ _ _ => (pts_one (pt_cmpR op_notN (pv 2) pe_non (nomark _)))) (fun _ _ _ _ _ => (pv 2))) pa_nil) (pk_cons (pe_bound (pv 0) U.cl U.bm_rank) pk_nil))))), ?_⟩
    rw [show L2.start N_Row_names_at [V.ref ad.p, V.int (p : Int)] = [some (V.ref ad.p), some (V.int (p : Int)), none] from rfl]
    refine s_drop0 (ev_call0 (ea_cons (ev_var rfl) (ea_cons ev_c (ea_cons ev_c ea_nil))) (sv_wantNumber (by omega) (by omega))) fun H1 e1 => ?_
    have A1 := A.ex e1
    have hin : ∀ n ∈ tk p s.laid, n ∈ s.es.map (·.1) := fun n hn => W.lin n (tk_sub hn)
    have h := el_lcNL (K := K) (σ := [some (V.ref ad.p), some (V.int (p : Int)), none]) (j := 2) (vs := [2]) (t := tTest (tOp (fun x y H Q => y = .non ∧ Q (.bl (!decide (x = .non))) H) (tVar 2) (tC .non))) (te := tVar 2) (fun i => ((s.laid.take p).getD i none).isSome) (fun i => oV ((s.laid.take p).getD i none)) (el_eq (el_sl (K := K) (te := tFld K (tVar 0) "laid") (tl := tNoPart) (th := tPart (tVar 1)) (ev_fld (te := tVar 0) (ev_var rfl) A1.ob U.cl T.na_Row_laid fl_laid) eo_none (eo_some (ev_var rfl)) (SqL.of A1.x1)) (ys := (s.laid.take p).map oV) (by rw [cutV_take, List.map_take])) (by rw [List.length_map, List.length_take]; omega) (fun x => rfl) (fun i x H2 e hx => ?_) (fun i x H2 e hx hf => ?_)
    · rw [List.length_map, given_o] at h
      refine s_retL (EvLP.toL (elp_sortFN (xs := (tk p s.laid).map V.str) (kf := fun x => rankE s.es (strOf x)) h (ev_var rfl) A1.ob nm_rank (rank_calls A1 hin)) fun ys H' h => sortR_of W.nd W.ls hin h.1 h.2) fun q H2 hq e2 h2 => kk q H2 (fresh_back e1 hq) (e1.trans e2) h2
    · rw [List.getElem?_map] at hx
      obtain ⟨o, ho, rfl⟩ := Option.map_eq_some_iff.mp hx
      refine et_is (et_test (ev_op (ev_var rfl) ev_c rv_notN)) ?_
      rw [List.getD_eq_getElem?_getD, ho]
      cases o <;> rfl
    · rw [List.getElem?_map] at hx
      obtain ⟨o, ho, rfl⟩ := Option.map_eq_some_iff.mp hx
      refine ev_is (ev_var rfl) ?_
      rw [List.getD_eq_getElem?_getD, ho]
      rfl
theorem el_namesAt {C : Addr} {ad : Ad} {s : Th} {H : Hp} {σ : L2.St} {ta tb : TE} {E : XK} {p : Nat} (A : At .row C ad H s) (W : WF .row s) (hd : s.deed ≤ 1000) (p1 : 1 ≤ p) (p2 : p ≤ 1000) (h : Ev ta σ H (.ref ad.p)) (hb : Ev tb σ H (.int (p : Int))) : EvL (tMeth C "names_at" (spNamesAt C) [] E ta (tCons tb tNil)) σ H ((sortR s.es (tk p s.laid)).map V.str) :=
  el_meth h A.ob nm_names_at (ea_cons hb ea_nil) fun H1 e Q q E => ⟨ad, s, p, rfl, A.ex e, W, hd, p1, p2, q⟩
end

section
variable {P : Program} {w : World} {K : PySem.W.Frag} {mg : Str → Option Value} {base : Heap}
theorem nm_met_by {ad : Ad} {s : Th} : (flds .row ad s).lookup ("met_by" : Str) = none := by kernel_rfl
theorem given_met (ds : List (Option Int)) (p : Int) : given ds.length (fun i => match ds.getD i none with | some d => decide (d ≤ p) | none => false) (fun i => oI (ds.getD i none)) = ((ds.filterMap id).filter fun d => decide (d ≤ p)).map V.int := by
  unfold given
  have h1 : ∀ m : List (Option Int), ((m.filterMap id).filter fun d => decide (d ≤ p)).map V.int = (m.filter fun o => match o with | some d => decide (d ≤ p) | none => false).map oI := by
    intro m
    induction m with
    | nil => rfl
    | cons o r ih =>
      cases o with
      | none => exact ih
      | some n =>
        show (List.filter _ (n :: r.filterMap id)).map V.int = _
        rw [List.filter_cons, List.filter_cons]
        show List.map V.int (if decide (n ≤ p) = true then _ else _) = List.map oI (if decide (n ≤ p) = true then _ else _)
        by_cases q : n ≤ p
        · rw [if_pos (decide_eq_true q), if_pos (decide_eq_true q), List.map_cons, List.map_cons, ih]
          rfl
        · rw [if_neg (by rw [decide_eq_false q]; decide), if_neg (by rw [decide_eq_false q]; decide)]
          exact ih
  rw [h1]
  conv => rhs; rw [← range_getDO ds none]
  rw [List.filter_map, List.map_map]
  rfl
def spMetBy (C : Addr) : Sp := fun vs H Q _ => ∃ (ad : Ad) (s : Th) (p : Int), vs = [.ref ad.p, .int p] ∧ At .row C ad H s ∧ s.depths.length ≤ 1000 ∧ 1 ≤ p ∧ p ≤ 1000 ∧ RetV (.int (metBy s.depths p : Int)) H Q
theorem ok_Row_met_by (T : Tx K mg) : FnOk P w K mg base CX0 3 T.f_Row_met_by T.fd_Row_met_by P_Row_met_by (spMetBy T.C_Row) := by
  refine T.F_Row_met_by.ok sc_Row_met_by (fun vs H Q E h => ?_) (fun cdv A outer s H vs Q E hr h => ?_)
  · obtain ⟨_, _, _, rfl, _⟩ := h
    rfl
  · obtain ⟨ad, s, p, rfl, A, hd, p1, p2, kk⟩ := h
    have U := clRow T
    refine ⟨_, (pss_cons (ps_expr (pe_call (ok_want_number T) (hr.mono (by decide)) rfl T.mg_want_number T.F_want_number.kp T.b_want_number .nil pass0 (pa_cons (pv 1) (pa_cons pe_int (pa_cons (pe_glob (v := .int 1000) rfl T.c_MOST_PLACES.2 ⟨_, rfl⟩) pa_nil)))))
      (pss_one (ps_ret (pe_callB call_len_seq (by rfl) T.n_len PySem.boot_len (pa_cons (pe_lc (own := [("depth", 2)]) (g := (gName 2)) (by rfl) sc_Row_met_by.nd (pi_list (pe_fld (pv 0) rfl)) (blkOk_by (own := [("depth", 2)]) (N := N_Row_met_by) (sc := defScope s_Row_met_by) (by decide +kernel)) (fun _ _ _ _ _ => (pg_name (i := 2) sc_Row_met_by.nd rfl (Or.inl rfl))) (fun _ _ _ _ _ => (pts_one (PW.pt (pw_and (pt_cmpR op_notN (pv 2) pe_non (nomark _)) (pw_and1 (pt_cmpR op_le (pv 2) (pv 1) (nomark _))))))) (fun _ _ _ _ _ => (pv 2))) pa_nil))))), ?_⟩
    rw [show L2.start N_Row_met_by [V.ref ad.p, V.int p] = [some (V.ref ad.p), some (V.int p), none] from rfl]
    refine s_drop0 (ev_call0 (ea_cons (ev_var rfl) (ea_cons ev_c (ea_cons ev_c ea_nil))) (sv_wantNumber (by omega) (by omega))) fun H1 e1 => ?_
    have A1 := A.ex e1
    refine s_ret (ev_is (ev_lenN (el_lcL (j := 2) (vs := [2]) (fun i => match s.depths.getD i none with | some d => decide (d ≤ p) | none => false) (fun i => oI (s.depths.getD i none)) (ev_fld (te := tVar 0) (ev_var rfl) A1.ob U.cl T.na_Row_depths fl_depths) (SqL.of A1.x2.1) (by rw [List.length_map]; omega) (fun x => rfl) (fun i x H2 e hx => ?_) (fun i x H2 e hx hf => ?_))) ?_) fun H2 e2 => kk H2 (e1.trans e2)
    · rw [List.getElem?_map] at hx
      obtain ⟨o, ho, rfl⟩ := Option.map_eq_some_iff.mp hx
      rw [List.getD_eq_getElem?_getD, ho]
      cases o with
      | none => exact et_is (et_and (a := false) (b := false) (et_is (et_test (ev_op (ev_var rfl) ev_c rv_notN)) rfl) (fun hb => nomatch hb)) rfl
      | some d => exact et_is (et_and (a := true) (b := decide (d ≤ p)) (et_is (et_test (ev_op (ev_var rfl) ev_c rv_notN)) rfl) (fun _ => et_test (ev_op (ev_var rfl) (ev_var rfl) rv_I0))) (Bool.true_and _)
    · rw [List.getElem?_map] at hx
      obtain ⟨o, ho, rfl⟩ := Option.map_eq_some_iff.mp hx
      refine ev_is (ev_var rfl) ?_
      rw [List.getD_eq_getElem?_getD, ho]
      rfl
    · rw [List.length_map, given_met, List.length_map]
      rfl
theorem ev_metBy {C : Addr} {ad : Ad} {s : Th} {H : Hp} {σ : L2.St} {ta tb : TE} {E : XK} {p : Int} (A : At .row C ad H s) (hd : s.depths.length ≤ 1000) (p1 : 1 ≤ p) (p2 : p ≤ 1000) (h : Ev ta σ H (.ref ad.p)) (hb : Ev tb σ H (.int p)) : Ev (tMeth C "met_by" (spMetBy C) [] E ta (tCons tb tNil)) σ H (.int (metBy s.depths p : Int)) :=
  ev_meth h A.ob nm_met_by (ea_cons hb ea_nil) fun H1 e Q q E => ⟨ad, s, p, rfl, A.ex e, hd, p1, p2, q⟩
end

section
variable {P : Program} {w : World} {K : PySem.W.Frag} {mg : Str → Option Value} {base : Heap}
theorem nm_enough {ad : Ad} {s : Th} : (flds .row ad s).lookup ("enough" : Str) = none := by kernel_rfl
theorem given_oI (l : List (Option Int)) : given l.length (fun i => (l.getD i none).isSome) (fun i => oI (l.getD i none)) = (l.filterMap id).map V.int := by
  unfold given
  have h1 : ∀ m : List (Option Int), (m.filterMap id).map V.int = (m.filter (·.isSome)).map oI := by
    intro m
    induction m with
    | nil => rfl
    | cons o r ih =>
      cases o with
      | none => exact ih
      | some n =>
        show V.int n :: _ = oI (some n) :: _
        rw [ih]
        rfl
  rw [h1]
  conv => rhs; rw [← range_getDO l none]
  rw [List.filter_map, List.map_map]
  rfl
def spEnough (C : Addr) : Sp := fun vs H Q _ => ∃ (ad : Ad) (s : Th) (m : Int), vs = [.ref ad.p, .int m] ∧ At .row C ad H s ∧ s.depths.length ≤ 1000 ∧ 0 ≤ m ∧ m ≤ 1000000000000000000000000000000 ∧ RetV (enoughV s.depths m) H Q
theorem el_sortedI {K : PySem.W.Frag} {σ : L2.St} {H : Hp} {te : TE} {ns : List Int} (h : EvL te σ H (ns.map V.int)) : EvL (tCB (rSortedI K) (tCons te tNil)) σ H ((sortI ns).map V.int) := fun H1 e Q q =>
  h H1 e _ fun a H2 _ e2 h2 => ⟨a, ns, rfl, SqL.of h2, fun ns' p hp hs hq => by
    rw [sortI_uniq hp hs]
    exact q p _ (fresh_back e2 hq) (e2.trans (Ex.new hq)) upd_same⟩
theorem ok_Row_enough (T : Tx K mg) : FnOk P w K mg base CX0 3 T.f_Row_enough T.fd_Row_enough P_Row_enough (spEnough T.C_Row) := by
  refine T.F_Row_enough.ok sc_Row_enough (fun vs H Q E h => ?_) (fun cdv A outer s H vs Q E hr h => ?_)
  · obtain ⟨_, _, _, rfl, _⟩ := h
    rfl
  · obtain ⟨ad, s, m, rfl, A, hd, m1, m2, kk⟩ := h
    have U := clRow T
    refine ⟨_, (pss_cons (ps_expr (pe_call (ok_want_number T) (hr.mono (by decide)) rfl T.mg_want_number T.F_want_number.kp T.b_want_number .nil pass0 (pa_cons (pv 1) (pa_cons pe_int (pa_cons (pe_glob (v := .int 1000000000000000000000000000000) rfl T.c_MOST_NUMBER.2 ⟨_, rfl⟩) pa_nil)))))
      (pss_cons (ps_set (i := 3) sc_Row_enough.nd rfl (Or.inl rfl) (pe_callB cr_sortedI (by rfl) T.n_sorted (by decide +kernel) (pa_cons (pe_lc (own := [("depth", 2)]) (g := (gName 2)) (by rfl) sc_Row_enough.nd (pi_list (pe_fld (pv 0) rfl)) (blkOk_by (own := [("depth", 2)]) (N := N_Row_enough) (sc := defScope s_Row_enough) (by decide +kernel)) (fun _ _ _ _ _ => (pg_name (i := 2) sc_Row_enough.nd rfl (Or.inl rfl))) (fun _ _ _ _ _ => (pts_one (pt_cmpR op_notN (pv 2) pe_non (nomark _)))) (fun _ _ _ _ _ => (pv 2))) pa_nil)))
      (pss_cons (ps_if (pt_cmpR op_eq (pv 1) pe_int (nomark _)) (pss_one (ps_ret pe_int)) pss_nil)
      (pss_cons (ps_if (pt_cmpR op_gt (pv 1) (pe_callB call_len_seq (by rfl) T.n_len PySem.boot_len (pa_cons (pv 3) pa_nil)) (nomark _)) (pss_one (ps_ret pe_non)) pss_nil)
      (pss_one (ps_ret (pe_ix ix_list (pv 3) (pe_op op_sub (pv 1) pe_int) (fun _ _ => rfl)))))))), ?_⟩
    rw [show L2.start N_Row_enough [V.ref ad.p, V.int m] = [some (V.ref ad.p), some (V.int m), none, none] from rfl]
    refine s_drop0 (ev_call0 (ea_cons (ev_var rfl) (ea_cons ev_c (ea_cons ev_c ea_nil))) (sv_wantNumber m1 m2)) fun H1 e1 => ?_
    have A1 := A.ex e1
    refine q_asgL (el_sortedI (ns := s.depths.filterMap id) (el_eq (el_lcL (j := 2) (vs := [2]) (fun i => (s.depths.getD i none).isSome) (fun i => oI (s.depths.getD i none)) (ev_fld (te := tVar 0) (ev_var rfl) A1.ob U.cl T.na_Row_depths fl_depths) (SqL.of A1.x2.1) (by rw [List.length_map]; omega) (fun x => rfl) (fun i x H2 e hx => ?_) (fun i x H2 e hx hf => ?_)) (by rw [List.length_map, given_oI]))) fun q H2 hq e2 h2 => ?_
    · rw [List.getElem?_map] at hx
      obtain ⟨o, ho, rfl⟩ := Option.map_eq_some_iff.mp hx
      rw [List.getD_eq_getElem?_getD, ho]
      refine et_is (et_test (ev_op (ev_var rfl) ev_c rv_notN)) ?_
      cases o <;> rfl
    · rw [List.getElem?_map] at hx
      obtain ⟨o, ho, rfl⟩ := Option.map_eq_some_iff.mp hx
      refine ev_is (ev_var rfl) ?_
      rw [List.getD_eq_getElem?_getD, ho]
      rfl
    dsimp only [List.set]
    have E2 := e1.trans e2
    have sl : (sortI (s.depths.filterMap id)).length = (s.depths.filterMap id).length := (sortI_perm _).length_eq
    unfold enoughV at kk
    refine q_when (b := decide (m = 0)) (et_is (et_test (ev_op (ev_var rfl) ev_c (rv_eq rfl))) dec_i) (fun hb H3 e3 => ?_) (fun hb H3 e3 => ?_)
    · rw [if_pos (of_decide_eq_true hb)] at kk
      exact s_ret ev_c fun H4 e4 => kk H4 ((E2.trans e3).trans e4)
    rw [if_neg (of_decide_eq_false hb)] at kk
    have hb := of_decide_eq_false hb
    refine q_when (b := decide (m > ((s.depths.filterMap id).length : Int))) (et_is (et_test (ev_op (ev_var rfl) (ev_len (ev_var rfl) (SqL.of (e3 _ _ h2))) rv_I0)) (by rw [List.length_map, sl])) (fun hc H4 e4 => ?_) (fun hc H4 e4 => ?_)
    · rw [if_pos (of_decide_eq_true hc)] at kk
      exact s_ret ev_c fun H5 e5 => kk H5 (((E2.trans e3).trans e4).trans e5)
    · rw [if_neg (of_decide_eq_false hc)] at kk
      have hc := of_decide_eq_false hc
      have hlt : (m - 1).toNat < (sortI (s.depths.filterMap id)).length := by omega
      refine s_ret (ev_ixLn (i := (m - 1).toNat) (ev_var rfl) (ev_op (ev_var rfl) ev_c rv_I0) (by omega) (e4 _ _ (e3 _ _ h2)) (v := V.int ((sortI (s.depths.filterMap id)).getD (m - 1).toNat 0)) (by rw [List.getElem?_map, List.getD_eq_getElem?_getD, List.getElem?_eq_getElem hlt]; rfl)) fun H5 e5 => kk H5 (((E2.trans e3).trans e4).trans e5)
theorem ev_enough {C : Addr} {ad : Ad} {s : Th} {H : Hp} {σ : L2.St} {ta tb : TE} {E : XK} {m : Int} (A : At .row C ad H s) (hd : s.depths.length ≤ 1000) (m1 : 0 ≤ m) (m2 : m ≤ 1000000000000000000000000000000) (h : Ev ta σ H (.ref ad.p)) (hb : Ev tb σ H (.int m)) : Ev (tMeth C "enough" (spEnough C) [] E ta (tCons tb tNil)) σ H (enoughV s.depths m) :=
  ev_meth h A.ob nm_enough (ea_cons hb ea_nil) fun H1 e Q q E => ⟨ad, s, m, rfl, A.ex e, hd, m1, m2, q⟩
end

end Own
namespace Own
open PySem L2 PyProof.Rows Evl OwnS
/-- a condition of arithmetic -/
local macro_rules | `(tactic| walk_at "side") => `(tactic| first
  | assumption
  | (show _ ∧ _; omega)
  | (apply pos9 <;> omega)
  | (show (0 : Int) < _; omega)
  | (show _ ∨ _; omega)
  | decide
  | omega)
local macro_rules | `(tactic| walk_at "fn") => `(tactic| fail "no fn")
local macro_rules | `(tactic| walk_at "ev") => `(tactic| first
  | ((with_reducible apply ev_var) ; exact rfl)
  | with_reducible exact ev_c
  | ((with_reducible apply ev_op) <;> walk_at "ev")
  | with_reducible exact rv_I0
  | ((with_reducible apply rv_I) ; walk_at "side")
  | ((with_reducible apply rv_eq) ; rfl)
  | ((with_reducible apply rv_ne) ; rfl)
  | ((with_reducible apply ev_isInt) ; walk_at "ev")
  | ((with_reducible apply ev_isBoolI) ; walk_at "ev")
  | ((with_reducible apply ev_isIntB) ; walk_at "ev")
  | ((with_reducible apply ev_isBoolB) ; walk_at "ev")
  | ((with_reducible apply ev_notV) ; walk_at "ev")
  | ((with_reducible apply et_test) ; walk_at "ev")
  | ((with_reducible apply et_B) ; walk_at "ev")
  | ((with_reducible apply et_not) ; walk_at "ev")
  | with_reducible exact ea_nil
  | ((with_reducible apply ea_cons) <;> walk_at "ev")
  | ((with_reducible apply ev_call0) <;> walk_at "ev")
  | ((with_reducible show SpV _ _ _ _); walk_at "fn"))

/-! ### a book of its own -/
section
variable {P : Program} {w : World} {K : PySem.W.Frag} {mg : Str → Option Value} {base : Heap}
def clBook (T : Tx K mg) : Cl0 T T.C_Book where
  cl := T.cls_Book
  nspan := T.na_Book_span
  npart := T.na_Book_part
  ntime := T.na_Book_time
  ndeed := T.na_Book_deed
  ncounts := T.na_Book_counts
  nlasts := T.na_Book_lasts
  m_ask := T.m_Book_ask
  m_rest := T.m_Book_rest
  m_drop := T.m_Book_drop
  m_spend := T.m_Book_spend
  m_names := T.m_Book_names
  m_rank := T.m_Book_rank
  m_time_now := T.m_Book_time_now
  m_deeds_done := T.m_Book_deeds_done
  m_count_of := T.m_Book_count_of
  m_last_of := T.m_Book_last_of
  bm_rank := T.bm_Book_rank
  bm_asked_at := T.bm_Book_asked_at
theorem ok_Book_came (T : Tx K mg) : FnOk P w K mg base CX0 8 T.f_Book_came T.fd_Book_came P_Book_came (spCame .book T.C_Book) := by
  refine T.F_Book_came.ok sc_Book_came (fun vs H Q E h => ?_) (fun cdv A outer s H vs Q E hr h => ?_)
  · obtain ⟨_, _, _, rfl, _⟩ := h
    rfl
  · obtain ⟨ad, s, n, rfl, A, W, hd, kk⟩ := h
    have U := clBook T
    have hu := hu_of hr
    refine ⟨_, (pss_one (ps_ret (pe_cmp (pc_din hu (pv 1) (pe_fld (pv 0) rfl))))), ?_⟩
    refine s_ret (v := (Kd.book.came s n).1) (ev_is (ev_din (ev_var rfl) (ev_fld (ev_var rfl) A.ob U.cl U.ncounts fl_counts) A.ct) ?_) fun H1 e1 => kk H1 (A.ex e1) (Kp.ex e1)
    show V.bl _ = V.bl (decide (n ∈ s.es.map (·.1)))
    congr 1
    rw [valV_dOf, Option.isSome_map]
    by_cases h : n ∈ s.es.map (·.1)
    · rw [look_mem.mpr h, decide_eq_true h]
    · rw [decide_eq_false h, Bool.eq_false_iff]
      exact fun q => h (look_mem.mp q)
theorem ok_Book_gone (T : Tx K mg) : FnOk P w K mg base CX0 4 T.f_Book_gone T.fd_Book_gone P_Book_gone (spGone .book T.C_Book) := by
  refine T.F_Book_gone.ok sc_Book_gone (fun vs H Q E h => ?_) (fun cdv A outer s H vs Q E hr h => ?_)
  · obtain ⟨_, _, _, _, rfl, _⟩ := h
    rfl
  · obtain ⟨ad, s, n, r, rfl, A, W, hd, kk⟩ := h
    refine ⟨_, (pss_one (ps_ret pe_bl)), ?_⟩
    exact s_ret ev_c fun H1 e1 => kk H1 (A.ex e1) (Kp.ex e1)
theorem ok_Book_inside (T : Tx K mg) : FnOk P w K mg base CX0 2 T.f_Book_inside T.fd_Book_inside P_Book_inside (spInside .book T.C_Book) := by
  refine T.F_Book_inside.ok sc_Book_inside (fun vs H Q E h => ?_) (fun cdv A outer s H vs Q E hr h => ?_)
  · obtain ⟨_, _, rfl, _⟩ := h
    rfl
  · obtain ⟨ad, s, rfl, A, W, hd, kk⟩ := h
    have U := clBook T
    refine ⟨_, (pss_one (ps_ret (pe_callTy (call_list_dK rfl) (by rfl) T.n_list (by decide +kernel) (pa_cons (pe_fld (pv 0) rfl) pa_nil)))), ?_⟩
    have e : (dOf cV s.es).map (fun kv => kV kv.1) = ((Kd.book).inside s).map V.str := by
      unfold dOf Kd.inside
      rw [List.map_map, List.map_map]
      rfl
    have h := el_listD (σ := L2.start N_Book_inside [V.ref ad.p]) (ev_fld (te := tVar 0) (ev_var rfl) A.ob U.cl U.ncounts fl_counts) A.ct
    rw [e] at h
    exact s_retL h kk
def uBook (T : Tx K mg) : Vt P w base T .book T.C_Book where
  toCl0 := clBook T
  f_came := _
  fd_came := _
  m_came := T.m_Book_came
  b_came := T.b_Book_came
  ok_came := ok_Book_came T
  f_gone := _
  fd_gone := _
  m_gone := T.m_Book_gone
  b_gone := T.b_Book_gone
  ok_gone := ok_Book_gone T
  f_inside := _
  fd_inside := _
  m_inside := T.m_Book_inside
  b_inside := T.b_Book_inside
  ok_inside := ok_Book_inside T
/-- a new book: what stands where -/
theorem newBook {T : Tx K mg} {σ : L2.St} {H : Hp} {ta : TA} {E : XK} {Q : VK} {a b : Int} (ha : EvA ta σ H [.int a, .int b]) (h1 : 1 ≤ a) (h2 : a ≤ 100000000000000000000) (h3 : 2 ≤ b) (h4 : b ≤ 1000000000000000000000000000000)
    (k : ∀ ad H1, Ex H H1 → (∀ x ∈ own .book ad, H x = none) → At .book T.C_Book ad H1 (th0 a b 0) → Q (.ref ad.p) H1) : tMake T.C_Book (spInit T.C_Book) [] E ta σ H Q := by
  refine ha H (Ex.refl H) _ fun H1 e1 => fun x dx hx hdx hne => ?_
  refine ⟨x, dx, a, b, rfl, h1, h2, h3, h4, upd_same, fun H2 c l hc hl hcl p1 p2 p3 p4 => ⟨rfl, ?_⟩⟩
  have E1 : Ex H1 (upd (upd H1 dx (.own x)) x (.ins T.C_Book dx [])) := (Ex.new hdx).trans (Ex.new (by rw [upd_ne (fun q => hne q.symm)]; exact hx))
  have hc1 : H1 c = none := fresh_back E1 hc
  have hl1 : H1 l = none := fresh_back E1 hl
  refine k ⟨x, dx, c, l, x, x⟩ H2 (e1.trans fun y o hy => ?_) ?_ ⟨p1, p2, p3, hcl, trivial, trivial⟩
  · refine p4 y o (E1 y o hy) fun q => ?_
    rw [q, hx] at hy
    cases hy
  · intro y hy
    simp only [own, List.mem_cons, List.not_mem_nil, or_false] at hy
    rcases hy with rfl | rfl | rfl
    · exact fresh_back e1 hx
    · exact fresh_back e1 hc1
    · exact fresh_back e1 hl1
theorem q_asgBook {T : Tx K mg} {σ : L2.St} {H : Hp} {ta : TA} {E : XK} {D : Ends} {tz : TS} {i : Nat} {a b : Int} (ha : EvA ta σ H [.int a, .int b]) (h1 : 1 ≤ a) (h2 : a ≤ 100000000000000000000) (h3 : 2 ≤ b) (h4 : b ≤ 1000000000000000000000000000000)
    (k : ∀ ad H1, Ex H H1 → (∀ x ∈ own .book ad, H x = none) → At .book T.C_Book ad H1 (th0 a b 0) → tz D (σ.set i (some (.ref ad.p))) H1) : tSeq (tAsg (tMake T.C_Book (spInit T.C_Book) [] E ta) (gName i)) tz D σ H :=
  newBook (Q := fun v H1 => tz D (σ.set i (some v)) H1) ha h1 h2 h3 h4 k
end

/-! ### k04: bad names and bad numbers, as the law makes them -/
local macro_rules | `(tactic| walk_at "ev") => `(tactic| first | with_reducible exact ev_q20 | with_reducible exact ev_q30)
def BS : V → Hp → Prop := fun v H => BadS H v
def NV (a b : Int) : V → Hp → Prop := fun v H => NumV H a b v false
theorem monoB : Mono BS := fun _ _ _ e h => BadS.ex h e
theorem monoN {a b : Int} : Mono (NV a b) := fun _ _ _ e h => NumV.ex h e
theorem ng_len {s : Str} (h : s.length = 0 ∨ 40 < s.length) : ¬ GoodName s := fun g => by
  have h1 := g.1
  have h2 := g.2.1
  omega
theorem ng_sign {s : Str} {c : Nat} (hc : c ∈ s.cps.toList) (h : c < 32) : ¬ GoodName s := fun g => by
  have := g.2.2 c hc
  omega
theorem app_list (a b : Str) : (a ++ b).cps.toList = a.cps.toList ++ b.cps.toList := Array.toList_append
theorem app_len (a b : Str) : (a ++ b).length = a.length + b.length := Array.size_append
theorem mk_self (s : Str) : mkS s.cps.toList = s := by
  unfold mkS
  cases s
  simp
theorem cut41 {s : Str} (h : 41 ≤ s.length) : (cutS s none (some 41)).length = 41 := by
  have e := cut_take s.cps.toList 41 (by rw [Array.length_toList]; exact h)
  rw [mk_self] at e
  rw [show (some 41 : Option Int) = some ((41 : Nat) : Int) from rfl, e, mkS_len, List.length_take, Array.length_toList]
  have : s.cps.size = s.length := rfl
  omega
theorem nint {H : Hp} {a b i : Int} (h : i < a ∨ b < i) : NumV H a b (.int i) false := by
  have e : (decide (a ≤ i) && decide (i ≤ b)) = false := by
    rw [Bool.and_eq_false_iff, decide_eq_false_iff_not, decide_eq_false_iff_not]
    omega
  exact e ▸ NumV.int i
def dueN (w : Int) : Nat := if w < 14 then (if w % 7 < 5 then 0 else 1) else if w = 14 then 0 else if w < 20 then 1 else 2
def dueS : Nat → Str
  | 0 => "name"
  | 1 => "number"
  | _ => "rule"
section
variable {P : Program} {w : World} {K : PySem.W.Frag} {mg : Str → Option Value} {base : Heap}
def spBadName : Sp := fun vs H Q _ => ∃ (c : Int) (n : Str), vs = [.int c, .str n] ∧ GoodName n ∧ RetP BS H Q
theorem sp_badName {H : Hp} {c : Int} {n : Str} (h : GoodName n) : SpP spBadName [.int c, .str n] H BS := fun H1 e Q q E => ⟨c, n, rfl, h, q⟩
theorem ok_l_bad_name (T : Tx K mg) : FnOk P w K mg base CX0 1 T.f_l_bad_name T.fd_l_bad_name P_l_bad_name spBadName := by
  refine T.F_l_bad_name.ok sc_l_bad_name (fun vs H Q E h => ?_) (fun cdv A outer s H vs Q E hr h => ?_)
  · obtain ⟨_, _, rfl, _⟩ := h
    rfl
  · obtain ⟨c, n, rfl, hg, k⟩ := h
    refine ⟨_, (pss_cons (ps_set (i := 2) sc_l_bad_name.nd rfl (Or.inl rfl) (pe_lst (pa_cons pe_str (pa_cons (pe_slice sl_str (pe_op op_repS (pv 1) pe_int) po_none (po_some pe_int)) (pa_cons (pe_op op_add_str (pe_slice sl_str (pv 1) po_none (po_some pe_int)) pe_str) (pa_cons (pe_op op_add_str pe_str (pe_slice sl_str (pv 1) po_none (po_some pe_int))) (pa_cons (pe_op op_add_str (pe_op op_add_str (pe_slice sl_str (pv 1) po_none (po_some pe_int)) pe_str) (pe_slice sl_str (pv 1) po_none (po_some pe_int))) pa_nil)))))))
      (pss_cons (ps_set (i := 2) sc_l_bad_name.nd rfl (Or.inl rfl) (pe_op op_cat (pv 2) (pe_lst (pa_cons pe_int (pa_cons pe_int (pa_cons pe_non (pa_cons pe_bl (pa_cons (pe_lst (pa_cons (pv 1) pa_nil)) (pa_cons (pe_tup (pa_cons (pv 1) pa_nil)) (pa_cons pe_dnewK pa_nil))))))))))
      (pss_one (ps_ret (pe_ix ix_list (pv 2) (pe_op op_mod (pv 0) pe_int) (fun _ _ => rfl)))))), ?_⟩
    rw [show L2.start N_l_bad_name [V.int c, V.str n] = [some (V.int c), some (V.str n), none] from rfl]
    have hl := hg.1
    have hl2 := hg.2.1
    have l39 := cutS_length n none (some 39)
    have l19 := cutS_length n none (some 19)
    have l20 := cutS_length n none (some 20)
    have cut : ∀ {σ : L2.St} (i : Int), σ[1]? = some (some (V.str n)) → Ev (tSl rSlS (tVar 1) tNoPart (tPart (tC (.int i)))) σ H (.str (cutS n none (some i))) := fun i h => ev_slS (ev_var h) eo_none (eo_some ev_c) (by omega)
    have n1 : (Str.ofString "\n").length = 1 := by decide +kernel
    have t1 : (Str.ofString "\t").length = 1 := by decide +kernel
    have hn : 10 ∈ (Str.ofString "\n").cps.toList := by decide +kernel
    have ht : 9 ∈ (Str.ofString "\t").cps.toList := by decide +kernel
    refine q_asgLP (elp_lit monoB (n := 5) (eap_cons monoB (ep_v (v := .str "") ev_c fun _ _ => .str _ (ng_len (.inl (by decide +kernel))) (by decide +kernel))
      (eap_cons monoB (ep_v (v := .str (cutS (repS n 41) none (some 41))) (ev_slS (z := repS n 41) (fun H1 e Q q => ev_var (v := .str n) rfl H1 e _ fun H2 e2 => ⟨n, rfl, rfl, hl, hl2, q H2 e2⟩) eo_none (eo_some ev_c) (by rw [repS_len]; omega)) fun _ _ => .str _ (ng_len (.inr (by rw [cut41 (by rw [repS_len]; omega)]; omega))) (by rw [cut41 (by rw [repS_len]; omega)]; omega))
      (eap_cons monoB (ep_v (v := .str (cutS n none (some 39) ++ "\n")) (ev_op (cut 39 rfl) ev_c (rv_addS (by rw [n1]; omega))) fun _ _ => .str _ (ng_sign (c := 10) (by rw [app_list]; exact List.mem_append_right _ hn) (by decide)) (by rw [app_len, n1]; omega))
      (eap_cons monoB (ep_v (v := .str ("\t" ++ cutS n none (some 39))) (ev_op ev_c (cut 39 rfl) (rv_addS (by rw [t1]; omega))) fun _ _ => .str _ (ng_sign (c := 9) (by rw [app_list]; exact List.mem_append_left _ ht) (by decide)) (by rw [app_len, t1]; omega))
      (eap_cons monoB (ep_v (v := .str (cutS n none (some 19) ++ "\n" ++ cutS n none (some 20))) (ev_op (ev_op (cut 19 rfl) ev_c (rv_addS (by rw [n1]; omega))) (cut 20 rfl) (rv_addS (by rw [app_len, n1]; omega))) fun _ _ => .str _ (ng_sign (c := 10) (by rw [app_list, app_list]; exact List.mem_append_left _ (List.mem_append_right _ hn)) (by decide)) (by rw [app_len, app_len, n1]; omega)) eap_nil))))) (by decide)) fun p xs H1 hp e1 h1 hP => ?_
    dsimp only [List.set]
    refine q_asgLP (elp_cat monoB (m := 7) (ev_var rfl) h1 hP.2 (elp_lit monoB (eap_cons monoB (ep_v ev_c fun _ _ => .int _) (eap_cons monoB (ep_v ev_c fun _ _ => .int _) (eap_cons monoB (ep_v ev_c fun _ _ => .non) (eap_cons monoB (ep_v ev_c fun _ _ => .bl _)
      (eap_cons monoB (ep_L (el_lst (ea_cons (ev_var rfl) ea_nil) (by simp)) fun _ _ h => .lst h) (eap_cons monoB (ep_U (eu_tup (ea_cons (ev_var rfl) ea_nil) (by simp)) fun _ _ h => .tup h) (eap_cons monoB (ep_D fun _ _ h => .dict h) eap_nil))))))) (by decide)) (by rw [hP.1]; decide)) fun p2 ys H2 hp2 e2 h2 hP2 => ?_
    dsimp only [List.set]
    rw [hP.1] at hP2
    exact s_retP (ep_ix monoB (ev_var rfl) h2 hP2.2 (i := c % 12) (by walk_at "ev") (by omega) (by rw [hP2.1]; omega)) fun v H3 e3 hv => k v H3 ((e1.trans e2).trans e3) hv
def spBadNumber : Sp := fun vs H Q _ => ∃ (c a b : Int), vs = [.int c, .int a, .int b] ∧ 0 ≤ a ∧ a ≤ 2 ∧ a ≤ b ∧ RetP (NV a b) H Q
theorem sp_badNumber {H : Hp} {c a b : Int} (h0 : 0 ≤ a) (h1 : a ≤ 2) (h2 : a ≤ b) : SpP spBadNumber [.int c, .int a, .int b] H (NV a b) := fun H1 e Q q E => ⟨c, a, b, rfl, h0, h1, h2, q⟩
theorem ok_l_bad_number (T : Tx K mg) : FnOk P w K mg base CX0 1 T.f_l_bad_number T.fd_l_bad_number P_l_bad_number spBadNumber := by
  refine T.F_l_bad_number.ok sc_l_bad_number (fun vs H Q E h => ?_) (fun cdv A outer s H vs Q E hr h => ?_)
  · obtain ⟨_, _, _, rfl, _⟩ := h
    rfl
  · obtain ⟨c, a, b, rfl, h0, h1, h2, k⟩ := h
    refine ⟨_, (pss_cons (ps_set (i := 3) sc_l_bad_number.nd rfl (Or.inl rfl) (pe_op op_add pe_int (pe_op op_mod (pe_op op_fdivW (pv 0) pe_int) (pe_op op_pow pe_int pe_int))))
      (pss_cons (ps_set (i := 4) sc_l_bad_number.nd rfl (Or.inl rfl) (pe_lst (pa_cons (pe_op op_sub (pv 1) pe_int) (pa_cons (pe_op op_add (pv 2) pe_int) (pa_cons (pe_op op_sub (pv 1) (pv 3)) (pa_cons (pe_op op_add (pv 2) (pv 3)) (pa_cons pe_bl (pa_cons pe_bl (pa_cons pe_non (pa_cons (pe_callTy call_str_int (by rfl) T.n_str (by decide +kernel) (pa_cons (pv 1) pa_nil)) (pa_cons (pe_lst (pa_cons (pv 1) pa_nil)) pa_nil)))))))))))
      (pss_one (ps_ret (pe_ix ix_list (pv 4) (pe_op op_mod (pv 0) pe_int) (fun _ _ => rfl)))))), ?_⟩
    rw [show L2.start N_l_bad_number [V.int c, V.int a, V.int b] = [some (V.int c), some (V.int a), some (V.int b), none, none] from rfl]
    refine q_asgZ (n := 1 + c / 9 % 1000000000000000000000000000000) (by walk_at "ev") fun H1 e1 far hf => ?_
    dsimp only [List.set]
    have f1 : 1 ≤ far := by omega
    have lg : a.natAbs.log2 < 1920 := by
      obtain h | h | h : a = 0 ∨ a = 1 ∨ a = 2 := by omega
      all_goals (rw [h]; decide)
    have mo : Mono (NV a b) := monoN
    refine q_asgLP (elp_lit mo (n := 9) (eap_cons mo (ep_v (v := .int (a - 1)) (by walk_at "ev") fun _ _ => nint (.inl (by omega)))
      (eap_cons mo (ep_v (v := .int (b + 1)) (by walk_at "ev") fun _ _ => nint (.inr (by omega)))
      (eap_cons mo (ep_v (v := .int (a - far)) (by walk_at "ev") fun _ _ => nint (.inl (by omega)))
      (eap_cons mo (ep_v (v := .int (b + far)) (by walk_at "ev") fun _ _ => nint (.inr (by omega)))
      (eap_cons mo (ep_v ev_c fun _ _ => .bl _) (eap_cons mo (ep_v ev_c fun _ _ => .bl _) (eap_cons mo (ep_v ev_c fun _ _ => .non)
      (eap_cons mo (fun H2 e Q q => ev_var (v := .int a) rfl H2 e _ fun H3 e3 => ⟨a, rfl, lg, q _ H3 e3 (.str _)⟩)
      (eap_cons mo (ep_L (el_lst (ea_cons (ev_var rfl) ea_nil) (by simp)) fun _ _ h => .lst h) eap_nil))))))))) (by decide)) fun p xs H2 hp e2 h2 hP => ?_
    dsimp only [List.set]
    exact s_retP (ep_ix mo (ev_var rfl) h2 hP.2 (i := c % 9) (by walk_at "ev") (by omega) (by rw [hP.1]; omega)) fun v H3 e3 hv => k v H3 ((e1.trans e2).trans e3) hv
def spDue : Sp := fun vs H Q _ => ∃ w : Int, vs = [.int w] ∧ RetV (.str (dueS (dueN w))) H Q
theorem sv_due {H : Hp} {w : Int} : SpV spDue [.int w] H (.str (dueS (dueN w))) := spv_of fun H1 Q E e q => ⟨_, rfl, q⟩
theorem ok_l_due (T : Tx K mg) : FnOk P w K mg base CX0 1 T.f_l_due T.fd_l_due P_l_due spDue := by
  refine T.F_l_due.ok sc_l_due (fun vs H Q E h => ?_) (fun cdv A outer s H vs Q E hr h => ?_)
  · obtain ⟨_, rfl, _⟩ := h
    rfl
  · obtain ⟨z, rfl, k⟩ := h
    refine ⟨_, (pss_cons (ps_if (pt_cmpR op_lt (pv 0) pe_int (nomark _)) (pss_one (ps_ret (pe_ix ix_list (pe_lst (pa_cons pe_str (pa_cons pe_str (pa_cons pe_str (pa_cons pe_str (pa_cons pe_str (pa_cons pe_str (pa_cons pe_str pa_nil)))))))) (pe_op op_mod (pv 0) pe_int) (fun _ _ => rfl)))) pss_nil)
      (pss_cons (ps_if (pt_cmpR op_eq (pv 0) pe_int (nomark _)) (pss_one (ps_ret pe_str)) pss_nil)
      (pss_cons (ps_if (pt_cmpR op_lt (pv 0) pe_int (nomark _)) (pss_one (ps_ret pe_str)) pss_nil)
      (pss_one (ps_ret pe_str))))), ?_⟩
    unfold dueN at k
    refine q_when (b := decide (z < 14)) (by walk_at "ev") (fun hb H1 e1 => ?_) (fun hb H1 e1 => ?_)
    · rw [if_pos (of_decide_eq_true hb)] at k
      refine s_ret (ev_ixN (xs := [.str "name", .str "name", .str "name", .str "name", .str "name", .str "number", .str "number"]) (i := z % 7) (v := .str (dueS (if z % 7 < 5 then 0 else 1))) (el_lst (ea_cons ev_c (ea_cons ev_c (ea_cons ev_c (ea_cons ev_c (ea_cons ev_c (ea_cons ev_c (ea_cons ev_c ea_nil))))))) (by simp)) (by walk_at "ev") ?_) fun H2 e2 => k H2 (e1.trans e2)
      obtain h | h | h | h | h | h | h : z % 7 = 0 ∨ z % 7 = 1 ∨ z % 7 = 2 ∨ z % 7 = 3 ∨ z % 7 = 4 ∨ z % 7 = 5 ∨ z % 7 = 6 := by omega
      all_goals (rw [h]; rfl)
    · rw [if_neg (of_decide_eq_false hb)] at k
      refine q_when (b := decide (V.int z = V.int 14)) (by walk_at "ev") (fun hb H2 e2 => ?_) (fun hb H2 e2 => ?_)
      · rw [dec_i] at hb
        rw [if_pos (of_decide_eq_true hb)] at k
        exact s_ret ev_c fun H3 e3 => k H3 ((e1.trans e2).trans e3)
      · rw [dec_i] at hb
        rw [if_neg (of_decide_eq_false hb)] at k
        refine q_when (b := decide (z < 20)) (by walk_at "ev") (fun hb H3 e3 => ?_) (fun hb H3 e3 => ?_)
        · rw [if_pos (of_decide_eq_true hb)] at k
          exact s_ret ev_c fun H4 e4 => k H4 (((e1.trans e2).trans e3).trans e4)
        · rw [if_neg (of_decide_eq_false hb)] at k
          exact s_ret ev_c fun H4 e4 => k H4 (((e1.trans e2).trans e3).trans e4)
end

end Own
namespace Own
open PySem L2 PyProof.Rows Evl OwnS
/-- a condition of arithmetic -/
local macro_rules | `(tactic| walk_at "side") => `(tactic| first
  | assumption
  | (show _ ∧ _; omega)
  | (apply pos9 <;> omega)
  | (show (0 : Int) < _; omega)
  | (show _ ∨ _; omega)
  | decide
  | omega)
local macro_rules | `(tactic| walk_at "fn") => `(tactic| fail "no fn")
local macro_rules | `(tactic| walk_at "ev") => `(tactic| first
  | ((with_reducible apply ev_var) ; exact rfl)
  | with_reducible exact ev_c
  | ((with_reducible apply ev_op) <;> walk_at "ev")
  | with_reducible exact rv_I0
  | ((with_reducible apply rv_I) ; walk_at "side")
  | ((with_reducible apply rv_eq) ; rfl)
  | ((with_reducible apply rv_ne) ; rfl)
  | ((with_reducible apply ev_isInt) ; walk_at "ev")
  | ((with_reducible apply ev_isBoolI) ; walk_at "ev")
  | ((with_reducible apply ev_isIntB) ; walk_at "ev")
  | ((with_reducible apply ev_isBoolB) ; walk_at "ev")
  | ((with_reducible apply ev_notV) ; walk_at "ev")
  | ((with_reducible apply et_test) ; walk_at "ev")
  | ((with_reducible apply et_B) ; walk_at "ev")
  | ((with_reducible apply et_not) ; walk_at "ev")
  | with_reducible exact ea_nil
  | ((with_reducible apply ea_cons) <;> walk_at "ev")
  | ((with_reducible apply ev_call0) <;> walk_at "ev")
  | ((with_reducible show SpV _ _ _ _); walk_at "fn"))

/-! ### k04: the bad calls -/
section
variable {K : PySem.W.Frag} {σ : L2.St} {H : Hp} {D : Ends} {ta t1 t2 t3 : TE} {tr : TA} {P1 P2 P3 : V → Hp → Prop} {R : List V → Hp → Prop}
/-- arguments of which something is known -/
def EvQ (tr : TA) (σ : L2.St) (H : Hp) (R : List V → Hp → Prop) : Prop := ∀ H1, Ex H H1 → ∀ Q : List V → Hp → Prop, (∀ vs H2, Ex H1 H2 → R vs H2 → Q vs H2) → tr σ H1 Q
theorem eq_1 (h : EvP t1 σ H P1) : EvQ (tCons t1 tNil) σ H (fun vs H2 => ∃ v, vs = [v] ∧ P1 v H2) := fun H1 e Q q => h H1 e _ fun v H2 e2 hv => q [v] H2 e2 ⟨v, rfl, hv⟩
theorem eq_2 (m1 : Mono P1) (h1 : EvP t1 σ H P1) (h2 : EvP t2 σ H P2) : EvQ (tCons t1 (tCons t2 tNil)) σ H (fun vs H2 => ∃ v u, vs = [v, u] ∧ P1 v H2 ∧ P2 u H2) := fun H1 e Q q => h1 H1 e _ fun v H2 e2 hv => h2 H2 (e.trans e2) _ fun u H3 e3 hu => q [v, u] H3 (e2.trans e3) ⟨v, u, rfl, m1 _ _ _ e3 hv, hu⟩
theorem eq_3 (m1 : Mono P1) (m2 : Mono P2) (h1 : EvP t1 σ H P1) (h2 : EvP t2 σ H P2) (h3 : EvP t3 σ H P3) : EvQ (tCons t1 (tCons t2 (tCons t3 tNil))) σ H (fun vs H2 => ∃ v u x, vs = [v, u, x] ∧ P1 v H2 ∧ P2 u H2 ∧ P3 x H2) := fun H1 e Q q => h1 H1 e _ fun v H2 e2 hv => h2 H2 (e.trans e2) _ fun u H3 e3 hu => h3 H3 ((e.trans e2).trans e3) _ fun x H4 e4 hx => q [v, u, x] H4 ((e2.trans e3).trans e4) ⟨v, u, x, rfl, m1 _ _ _ (e3.trans e4) hv, m2 _ _ _ e4 hu, hx⟩
theorem ep_call {sp : Sp} {vs : List V} {E : XK} (h : EvA tr σ H vs) (hs : SpP sp vs H P1) : EvP (tCall sp [] E tr) σ H P1 := fun H1 e Q q => h H1 e _ fun H2 e2 => by
  rw [List.append_nil]
  exact hs H2 (e.trans e2) Q (fun v H3 e3 hv => q v H3 (e2.trans e3) hv) E
theorem s_methQ {C p dx : Addr} {fs : List (Str × V)} {m : Str} {sp : Sp} {dvs : List V} {E : XK} (ho : Ev ta σ H (.ref p)) (hp : H p = some (.ins C dx fs)) (hm : fs.lookup m = none) (hq : EvQ tr σ H R)
    (k : ∀ vs H1, Ex H H1 → R vs H1 → sp (.ref p :: (vs ++ dvs)) H1 (fun _ H2 => D.nx σ H2) E) : tDrop (tMeth C m sp dvs E ta tr) D σ H := by
  refine ho H (Ex.refl H) _ fun H1 e1 => ?_
  refine ⟨p, dx, fs, rfl, e1 p _ hp, hm, ?_⟩
  exact hq H1 e1 _ fun vs H2 e2 hR => k vs H2 (e1.trans e2) hR
theorem s_makeQ {C : Addr} {sp : Sp} {E : XK} (hq : EvQ tr σ H R) (k : ∀ z vs H1 H2 Q, Ex H H1 → R vs H1 → Ex H1 H2 → sp (z :: vs) H2 Q E) : tDrop (tMake C sp [] E tr) D σ H := by
  refine hq H (Ex.refl H) _ fun vs H1 e1 hR x dx hx hdx hne => ?_
  rw [List.append_nil]
  exact k _ vs H1 _ _ e1 hR ((Ex.new hdx).trans (Ex.new (by rw [upd_ne (fun q => hne q.symm)]; exact hx)))
theorem s_callQ {sp : Sp} {E : XK} (hq : EvQ tr σ H R) (k : ∀ vs H1, Ex H H1 → R vs H1 → sp vs H1 (fun _ H2 => D.nx σ H2) E) : tDrop (tCall sp [] E tr) D σ H := hq H (Ex.refl H) _ fun vs H1 e1 hR => by
  rw [List.append_nil]
  exact k vs H1 e1 hR
end
def IsV (x : V) : V → Hp → Prop := fun v _ => v = x
theorem monoI {x : V} : Mono (IsV x) := fun _ _ _ _ h => h
theorem ep_is {σ : L2.St} {H : Hp} {te : TE} {x : V} (h : Ev te σ H x) : EvP te σ H (IsV x) := ep_v h fun _ _ => rfl
section
variable {k : Kd} {ad : Ad} {s : Th}
theorem nm_has' : (flds .shelf ad s).lookup ("has" : Str) = none := by kernel_rfl
theorem nm_names_at' : (flds .row ad s).lookup ("names_at" : Str) = none := by kernel_rfl
theorem nm_met_by' : (flds .row ad s).lookup ("met_by" : Str) = none := by kernel_rfl
theorem nm_enough' : (flds .row ad s).lookup ("enough" : Str) = none := by kernel_rfl
end
section
variable {P : Program} {w : World} {K : PySem.W.Frag} {mg : Str → Option Value} {base : Heap}
def cOf (T : Tx K mg) : Kd → Addr
  | .book => T.C_Book
  | .shelf => T.C_Shelf
  | .row => T.C_Row
def uOf (T : Tx K mg) : ∀ k : Kd, Vt P w base T k (cOf T k)
  | .book => uBook T
  | .shelf => uShelf T
  | .row => uRow T
def errC (T : Tx K mg) : Nat → Addr
  | 0 => T.C_NoName
  | 1 => T.C_NoNumber
  | _ => T.C_NoRule
def spThingCall (T : Tx K mg) : Sp := fun vs H Q E => ∃ (k : Kd) (z c : Int) (ad : Ad) (s : Th) (n : Str), vs = [.int z, .ref ad.p, .str n, .int c] ∧ 0 ≤ z ∧ z < 7 ∧ At k (cOf T k) ad H s ∧ GoodName n ∧ XRet (errC T (if z < 5 then 0 else 1)) H E
theorem ok_l_thing_call (T : Tx K mg) : FnOk P w K mg base (L2.CX P w) 10 T.f_l_thing_call T.fd_l_thing_call P_l_thing_call (spThingCall T) := by
  refine T.F_l_thing_call.okX sc_l_thing_call (fun vs H Q E h => ?_) (fun cdv A outer s H vs Q E hr h => ?_)
  · obtain ⟨_, _, _, _, _, _, rfl, _⟩ := h
    rfl
  · obtain ⟨k, z, c, ad, s, n, rfl, h0, h7, A, hg, hx⟩ := h
    have U := uOf (P := P) (w := w) (base := base) T k
    have X_ask := okx_Book_ask (P := P) (w := w) (base := base) T
    have X_drop := okx_Book_drop (P := P) (w := w) (base := base) T
    have X_rest := okx_Book_rest (P := P) (w := w) (base := base) T
    have X_count_of := okx_Book_count_of (P := P) (w := w) (base := base) T
    have X_last_of := okx_Book_last_of (P := P) (w := w) (base := base) T
    have b_ask := T.b_Book_ask
    have b_drop := T.b_Book_drop
    have b_rest := T.b_Book_rest
    have b_count_of := T.b_Book_count_of
    have b_last_of := T.b_Book_last_of
    obtain ⟨ds, hv, hb1⟩ := T.bd_Book_ask
    refine ⟨_, (pss_cons (ps_set (i := 4) sc_l_thing_call.nd rfl (Or.inl rfl) (pe_call (ok_l_bad_name T) (hr.mono (by decide)) rfl T.mg_l_bad_name T.F_l_bad_name.kp T.b_l_bad_name .nil pass0 (pa_cons (pe_op op_fdivW (pv 3) pe_int) (pa_cons (pv 2) pa_nil))))
      (pss_one (ps_if (pt_cmpR op_eq (pv 0) pe_int (nomark _)) (pss_one (ps_expr (pe_meth (pv 1) U.cl U.m_ask X_ask (hr.mono (by decide)) hb1 hv (passes_call (takes_of rfl rfl rfl rfl) fun _ _ _ _ h => h) (pa_cons (pv 4) pa_nil)))) (pss_one (ps_if (pt_cmpR op_eq (pv 0) pe_int (nomark _)) (pss_one (ps_expr (pe_meth (pv 1) U.cl U.m_ask X_ask (hr.mono (by decide)) b_ask .nil (passes_call (takes_of rfl rfl rfl rfl) fun _ _ _ _ h => h) (pa_cons (pv 4) (pa_cons (pe_call (ok_l_bad_number T) (hr.mono (by decide)) rfl T.mg_l_bad_number T.F_l_bad_number.kp T.b_l_bad_number .nil pass0 (pa_cons (pe_op op_fdivW (pv 3) pe_int) (pa_cons pe_int (pa_cons (pe_op op_pow pe_int pe_int) pa_nil)))) pa_nil))))) (pss_one (ps_if (pt_cmpR op_eq (pv 0) pe_int (nomark _)) (pss_one (ps_expr (pe_meth (pv 1) U.cl U.m_drop X_drop (hr.mono (by decide)) b_drop .nil (passes_call (takes_of rfl rfl rfl rfl) fun _ _ _ _ h => h) (pa_cons (pv 4) pa_nil)))) (pss_one (ps_if (pt_cmpR op_eq (pv 0) pe_int (nomark _)) (pss_one (ps_expr (pe_meth (pv 1) U.cl U.m_count_of X_count_of (hr.mono (by decide)) b_count_of .nil (passes_call (takes_of rfl rfl rfl rfl) fun _ _ _ _ h => h) (pa_cons (pv 4) pa_nil)))) (pss_one (ps_if (pt_cmpR op_eq (pv 0) pe_int (nomark _)) (pss_one (ps_expr (pe_meth (pv 1) U.cl U.m_last_of X_last_of (hr.mono (by decide)) b_last_of .nil (passes_call (takes_of rfl rfl rfl rfl) fun _ _ _ _ h => h) (pa_cons (pv 4) pa_nil)))) (pss_one (ps_if (pt_cmpR op_eq (pv 0) pe_int (nomark _)) (pss_one (ps_expr (pe_meth (pv 1) U.cl U.m_ask X_ask (hr.mono (by decide)) b_ask .nil (passes_call (takes_of rfl rfl rfl rfl) fun _ _ _ _ h => h) (pa_cons (pv 2) (pa_cons (pe_call (ok_l_bad_number T) (hr.mono (by decide)) rfl T.mg_l_bad_number T.F_l_bad_number.kp T.b_l_bad_number .nil pass0 (pa_cons (pe_op op_fdivW (pv 3) pe_int) (pa_cons pe_int (pa_cons (pe_op op_pow pe_int pe_int) pa_nil)))) pa_nil))))) (pss_one (ps_expr (pe_meth (pv 1) U.cl U.m_rest X_rest (hr.mono (by decide)) b_rest .nil (passes_call (takes_of rfl rfl rfl rfl) fun _ _ _ _ h => h) (pa_cons (pe_call (ok_l_bad_number T) (hr.mono (by decide)) rfl T.mg_l_bad_number T.F_l_bad_number.kp T.b_l_bad_number .nil pass0 (pa_cons (pe_op op_fdivW (pv 3) pe_int) (pa_cons pe_int (pa_cons (pe_op op_pow pe_int pe_int) pa_nil)))) pa_nil))))))))))))))))), ?_⟩
    rw [show L2.start N_l_thing_call [V.int z, V.ref ad.p, V.str n, V.int c] = [some (V.int z), some (V.ref ad.p), some (V.str n), some (V.int c), none] from rfl]
    refine q_asgP (ep_call (vs := [.int (c / 3), .str n]) (ea_cons (by walk_at "ev") (ea_cons (ev_var rfl) ea_nil)) (sp_badName hg)) fun v H1 e1 hB => ?_
    dsimp only [List.set]
    have A1 := A.ex e1
    have x0 : z < 5 → ∀ H2, Ex H1 H2 → XRet T.C_NoName H2 E := fun hz H2 e2 => by rw [if_pos hz] at hx; exact hx.ex (e1.trans e2)
    have x1 : ¬ z < 5 → ∀ H2, Ex H1 H2 → XRet T.C_NoNumber H2 E := fun hz H2 e2 => by rw [if_neg hz] at hx; exact hx.ex (e1.trans e2)
    refine s_if (b := decide (V.int z = V.int 0)) (by walk_at "ev") (fun hb H2 e2 => ?_) (fun hb0 H2 e2 => ?_)
    · rw [dec_i, decide_eq_true_eq] at hb
      refine ev_methR (Q := fun _ _ => _) (dvs := [.int 1]) (ev_var rfl) (A1.ex e2).ob nm_ask (ea_cons (ev_var rfl) ea_nil) fun H3 e3 => ?_
      exact ⟨_, v, .int 1, rfl, .inl ⟨BadS.ex hB (e2.trans e3), x0 (by omega) _ (e2.trans e3)⟩⟩
    rw [dec_i, decide_eq_false_iff_not] at hb0
    refine s_if (b := decide (V.int z = V.int 1)) (by walk_at "ev") (fun hb H3 e3 => ?_) (fun hb1 H3 e3 => ?_)
    · rw [dec_i, decide_eq_true_eq] at hb
      refine s_methQ (R := fun vs _ => ∃ u, vs = [v, u]) (ev_var rfl) (A1.ex (e2.trans e3)).ob nm_ask (fun H4 e4 Q q => (ev_var (v := v) rfl) H4 e4 _ fun H5 e5 => ep_call (vs := [.int (c / 7), .int 1, .int 1000000000000000000000000000000]) (ea_cons (by walk_at "ev") (ea_cons ev_c (ea_cons ev_q30 ea_nil))) (sp_badNumber (by decide) (by decide) (by decide)) H5 (Ex.refl _) _ fun u H6 e6 _ => q [v, u] H6 (e5.trans e6) ⟨u, rfl⟩) fun vs H4 e4 hR => ?_
      obtain ⟨u, rfl⟩ := hR
      exact ⟨_, v, u, rfl, .inl ⟨BadS.ex hB ((e2.trans e3).trans e4), x0 (by omega) _ ((e2.trans e3).trans e4)⟩⟩
    rw [dec_i, decide_eq_false_iff_not] at hb1
    have E3 := e2.trans e3
    refine s_if (b := decide (V.int z = V.int 2)) (by walk_at "ev") (fun hb H4 e4 => ?_) (fun hb2 H4 e4 => ?_)
    · rw [dec_i, decide_eq_true_eq] at hb
      exact s_dropM (ev_var rfl) (A1.ex (E3.trans e4)).ob nm_drop (ea_cons (ev_var rfl) ea_nil) fun H5 e5 => ⟨_, v, rfl, BadS.ex hB ((E3.trans e4).trans e5), x0 (by omega) _ ((E3.trans e4).trans e5)⟩
    rw [dec_i, decide_eq_false_iff_not] at hb2
    have E4 := E3.trans e4
    refine s_if (b := decide (V.int z = V.int 3)) (by walk_at "ev") (fun hb H5 e5 => ?_) (fun hb3 H5 e5 => ?_)
    · rw [dec_i, decide_eq_true_eq] at hb
      exact s_dropM (ev_var rfl) (A1.ex (E4.trans e5)).ob nm_count_of (ea_cons (ev_var rfl) ea_nil) fun H6 e6 => ⟨_, v, rfl, BadS.ex hB ((E4.trans e5).trans e6), x0 (by omega) _ ((E4.trans e5).trans e6)⟩
    rw [dec_i, decide_eq_false_iff_not] at hb3
    have E5 := E4.trans e5
    refine s_if (b := decide (V.int z = V.int 4)) (by walk_at "ev") (fun hb H6 e6 => ?_) (fun hb4 H6 e6 => ?_)
    · rw [dec_i, decide_eq_true_eq] at hb
      exact s_dropM (ev_var rfl) (A1.ex (E5.trans e6)).ob nm_last_of (ea_cons (ev_var rfl) ea_nil) fun H7 e7 => ⟨_, v, rfl, BadS.ex hB ((E5.trans e6).trans e7), x0 (by omega) _ ((E5.trans e6).trans e7)⟩
    rw [dec_i, decide_eq_false_iff_not] at hb4
    have E6 := E5.trans e6
    refine s_if (b := decide (V.int z = V.int 5)) (by walk_at "ev") (fun hb H7 e7 => ?_) (fun hb5 H7 e7 => ?_)
    · rw [dec_i, decide_eq_true_eq] at hb
      refine s_methQ (dvs := []) (ev_var rfl) (A1.ex (E6.trans e7)).ob nm_ask (eq_2 monoI (ep_is (ev_var rfl)) (ep_call (vs := [.int (c / 3), .int 1, .int 1000000000000000000000000000000]) (ea_cons (by walk_at "ev") (ea_cons ev_c (ea_cons ev_q30 ea_nil))) (sp_badNumber (by decide) (by decide) (by decide)))) fun vs H8 e8 hR => ?_
      obtain ⟨v', u, rfl, rfl, hu⟩ := hR
      exact ⟨_, _, u, rfl, .inr ⟨n, rfl, hg, hu, x1 (by omega) _ ((E6.trans e7).trans e8)⟩⟩
    rw [dec_i, decide_eq_false_iff_not] at hb5
    refine s_methQ (dvs := []) (ev_var rfl) (A1.ex (E6.trans e7)).ob nm_rest (eq_1 (ep_call (vs := [.int (c / 3), .int 0, .int 1000000000000000000000000000000]) (ea_cons (by walk_at "ev") (ea_cons ev_c (ea_cons ev_q30 ea_nil))) (sp_badNumber (by decide) (by decide) (by decide)))) fun vs H8 e8 hR => ?_
    obtain ⟨u, rfl, hu⟩ := hR
    exact ⟨_, u, rfl, hu, x1 (by omega) _ ((E6.trans e7).trans e8)⟩
def spOwnCall (T : Tx K mg) : Sp := fun vs H Q E => ∃ (z c : Int) (a b : Ad) (s t : Th) (n : Str), vs = [.int z, .ref a.p, .ref b.p, .str n, .int c] ∧ 14 ≤ z ∧ z < 18 ∧ At .shelf T.C_Shelf a H s ∧ At .row T.C_Row b H t ∧ GoodName n ∧ XRet (errC T (if z = 14 then 0 else 1)) H E
theorem ok_l_own_call (T : Tx K mg) : FnOk P w K mg base (L2.CX P w) 10 T.f_l_own_call T.fd_l_own_call P_l_own_call (spOwnCall T) := by
  refine T.F_l_own_call.okX sc_l_own_call (fun vs H Q E h => ?_) (fun cdv A outer s H vs Q E hr h => ?_)
  · obtain ⟨_, _, _, _, _, _, _, rfl, _⟩ := h
    rfl
  · obtain ⟨z, c, a, b, s, t, n, rfl, h0, h7, A, B, hg, hx⟩ := h
    have S := uShelf (P := P) (w := w) (base := base) T
    have R := uRow (P := P) (w := w) (base := base) T
    have X_has := okx_Shelf_has (P := P) (w := w) (base := base) T
    have X_names_at := okx_Row_names_at (P := P) (w := w) (base := base) T
    have X_met_by := okx_Row_met_by (P := P) (w := w) (base := base) T
    have X_enough := okx_Row_enough (P := P) (w := w) (base := base) T
    have b_has := T.b_Shelf_has
    have b_names_at := T.b_Row_names_at
    have b_met_by := T.b_Row_met_by
    have b_enough := T.b_Row_enough
    refine ⟨_, (pss_one (ps_if (pt_cmpR op_eq (pv 0) pe_int (nomark _)) (pss_one (ps_expr (pe_meth (pv 1) S.cl T.m_Shelf_has X_has (hr.mono (by decide)) b_has .nil (passes_call (takes_of rfl rfl rfl rfl) fun _ _ _ _ h => h) (pa_cons (pe_call (ok_l_bad_name T) (hr.mono (by decide)) rfl T.mg_l_bad_name T.F_l_bad_name.kp T.b_l_bad_name .nil pass0 (pa_cons (pe_op op_fdivW (pv 4) pe_int) (pa_cons (pv 3) pa_nil))) pa_nil)))) (pss_one (ps_if (pt_cmpR op_eq (pv 0) pe_int (nomark _)) (pss_one (ps_expr (pe_meth (pv 2) R.cl T.m_Row_names_at X_names_at (hr.mono (by decide)) b_names_at .nil (passes_call (takes_of rfl rfl rfl rfl) fun _ _ _ _ h => h) (pa_cons (pe_call (ok_l_bad_number T) (hr.mono (by decide)) rfl T.mg_l_bad_number T.F_l_bad_number.kp T.b_l_bad_number .nil pass0 (pa_cons (pe_op op_fdivW (pv 4) pe_int) (pa_cons pe_int (pa_cons pe_int pa_nil)))) pa_nil)))) (pss_one (ps_if (pt_cmpR op_eq (pv 0) pe_int (nomark _)) (pss_one (ps_expr (pe_meth (pv 2) R.cl T.m_Row_met_by X_met_by (hr.mono (by decide)) b_met_by .nil (passes_call (takes_of rfl rfl rfl rfl) fun _ _ _ _ h => h) (pa_cons (pe_call (ok_l_bad_number T) (hr.mono (by decide)) rfl T.mg_l_bad_number T.F_l_bad_number.kp T.b_l_bad_number .nil pass0 (pa_cons (pe_op op_fdivW (pv 4) pe_int) (pa_cons pe_int (pa_cons pe_int pa_nil)))) pa_nil)))) (pss_one (ps_expr (pe_meth (pv 2) R.cl T.m_Row_enough X_enough (hr.mono (by decide)) b_enough .nil (passes_call (takes_of rfl rfl rfl rfl) fun _ _ _ _ h => h) (pa_cons (pe_call (ok_l_bad_number T) (hr.mono (by decide)) rfl T.mg_l_bad_number T.F_l_bad_number.kp T.b_l_bad_number .nil pass0 (pa_cons (pe_op op_fdivW (pv 4) pe_int) (pa_cons pe_int (pa_cons (pe_op op_pow pe_int pe_int) pa_nil)))) pa_nil)))))))))), ?_⟩
    rw [show L2.start N_l_own_call [V.int z, V.ref a.p, V.ref b.p, V.str n, V.int c] = [some (V.int z), some (V.ref a.p), some (V.ref b.p), some (V.str n), some (V.int c)] from rfl]
    refine s_if (b := decide (V.int z = V.int 14)) (by walk_at "ev") (fun hb H2 e2 => ?_) (fun hb0 H2 e2 => ?_)
    · rw [dec_i, decide_eq_true_eq] at hb
      rw [if_pos hb] at hx
      refine s_methQ (dvs := []) (ev_var rfl) (A.ex e2).ob nm_has' (eq_1 (ep_call (vs := [.int (c / 3), .str n]) (ea_cons (by walk_at "ev") (ea_cons (ev_var rfl) ea_nil)) (sp_badName hg))) fun vs H3 e3 hR => ?_
      obtain ⟨u, rfl, hu⟩ := hR
      exact ⟨_, u, rfl, hu, hx.ex (e2.trans e3)⟩
    rw [dec_i, decide_eq_false_iff_not] at hb0
    rw [if_neg hb0] at hx
    refine s_if (b := decide (V.int z = V.int 15)) (by walk_at "ev") (fun hb H3 e3 => ?_) (fun hb1 H3 e3 => ?_)
    · refine s_methQ (dvs := []) (ev_var rfl) (B.ex (e2.trans e3)).ob nm_names_at' (eq_1 (ep_call (vs := [.int (c / 3), .int 1, .int 1000]) (ea_cons (by walk_at "ev") (ea_cons ev_c (ea_cons ev_c ea_nil))) (sp_badNumber (by decide) (by decide) (by decide)))) fun vs H4 e4 hR => ?_
      obtain ⟨u, rfl, hu⟩ := hR
      exact ⟨_, u, rfl, hu, hx.ex ((e2.trans e3).trans e4)⟩
    refine s_if (b := decide (V.int z = V.int 16)) (by walk_at "ev") (fun hb H4 e4 => ?_) (fun hb2 H4 e4 => ?_)
    · refine s_methQ (dvs := []) (ev_var rfl) (B.ex ((e2.trans e3).trans e4)).ob nm_met_by' (eq_1 (ep_call (vs := [.int (c / 3), .int 1, .int 1000]) (ea_cons (by walk_at "ev") (ea_cons ev_c (ea_cons ev_c ea_nil))) (sp_badNumber (by decide) (by decide) (by decide)))) fun vs H5 e5 hR => ?_
      obtain ⟨u, rfl, hu⟩ := hR
      exact ⟨_, u, rfl, hu, hx.ex (((e2.trans e3).trans e4).trans e5)⟩
    · refine s_methQ (dvs := []) (ev_var rfl) (B.ex ((e2.trans e3).trans e4)).ob nm_enough' (eq_1 (ep_call (vs := [.int (c / 3), .int 0, .int 1000000000000000000000000000000]) (ea_cons (by walk_at "ev") (ea_cons ev_c (ea_cons ev_q30 ea_nil))) (sp_badNumber (by decide) (by decide) (by decide)))) fun vs H5 e5 hR => ?_
      obtain ⟨u, rfl, hu⟩ := hR
      exact ⟨_, u, rfl, hu, hx.ex (((e2.trans e3).trans e4).trans e5)⟩
def spNewCall (T : Tx K mg) : Sp := fun vs H Q E => ∃ (z c : Int), vs = [.int z, .int c] ∧ 18 ≤ z ∧ z < 26 ∧ XRet (errC T (if z < 20 then 1 else 2)) H E
theorem ok_l_new_call (T : Tx K mg) : FnOk P w K mg base (L2.CX P w) 10 T.f_l_new_call T.fd_l_new_call P_l_new_call (spNewCall T) := by
  refine T.F_l_new_call.okX sc_l_new_call (fun vs H Q E h => ?_) (fun cdv A outer s H vs Q E hr h => ?_)
  · obtain ⟨_, _, rfl, _⟩ := h
    rfl
  · obtain ⟨z, c, rfl, h0, h7, hx⟩ := h
    refine ⟨_, (pss_cons (ps_set (i := 2) sc_l_new_call.nd rfl (Or.inl rfl) (pe_call (ok_l_bad_number T) (hr.mono (by decide)) rfl T.mg_l_bad_number T.F_l_bad_number.kp T.b_l_bad_number .nil pass0 (pa_cons (pe_op op_fdivW (pv 1) pe_int) (pa_cons pe_int (pa_cons (pe_op op_pow pe_int pe_int) pa_nil)))))
      (pss_cons (ps_set (i := 3) sc_l_new_call.nd rfl (Or.inl rfl) (pe_call (ok_l_bad_number T) (hr.mono (by decide)) rfl T.mg_l_bad_number T.F_l_bad_number.kp T.b_l_bad_number .nil pass0 (pa_cons (pe_op op_fdivW (pv 1) pe_int) (pa_cons pe_int (pa_cons (pe_op op_pow pe_int pe_int) pa_nil)))))
      (pss_one (ps_if (pt_cmpR op_eq (pv 0) pe_int (nomark _)) (pss_one (ps_expr (pe_make T.M_Shelf (okx_Shelf_init T) (hr.mono (by decide)) rfl T.mgC_Shelf T.b_Shelf_init .nil (passes_call (takes_of rfl rfl rfl rfl) fun _ _ _ _ h => h) (pa_cons (pe_call (ok_l_bad_number T) (hr.mono (by decide)) rfl T.mg_l_bad_number T.F_l_bad_number.kp T.b_l_bad_number .nil pass0 (pa_cons (pe_op op_fdivW (pv 1) pe_int) (pa_cons pe_int (pa_cons pe_int pa_nil)))) (pa_cons pe_int (pa_cons pe_int pa_nil)))))) (pss_one (ps_if (pt_cmpR op_eq (pv 0) pe_int (nomark _)) (pss_one (ps_expr (pe_make T.M_Shelf (okx_Shelf_init T) (hr.mono (by decide)) rfl T.mgC_Shelf T.b_Shelf_init .nil (passes_call (takes_of rfl rfl rfl rfl) fun _ _ _ _ h => h) (pa_cons (pe_call (ok_l_bad_number T) (hr.mono (by decide)) rfl T.mg_l_bad_number T.F_l_bad_number.kp T.b_l_bad_number .nil pass0 (pa_cons (pe_op op_fdivW (pv 1) pe_int) (pa_cons pe_int (pa_cons pe_int pa_nil)))) (pa_cons (pv 2) (pa_cons (pv 3) pa_nil)))))) (pss_one (ps_if (pt_cmpR op_eq (pv 0) pe_int (nomark _)) (pss_one (ps_expr (pe_make T.M_Shelf (okx_Shelf_init T) (hr.mono (by decide)) rfl T.mgC_Shelf T.b_Shelf_init .nil (passes_call (takes_of rfl rfl rfl rfl) fun _ _ _ _ h => h) (pa_cons pe_int (pa_cons (pv 2) (pa_cons pe_int pa_nil)))))) (pss_one (ps_if (pt_cmpR op_eq (pv 0) pe_int (nomark _)) (pss_one (ps_expr (pe_make T.M_Shelf (okx_Shelf_init T) (hr.mono (by decide)) rfl T.mgC_Shelf T.b_Shelf_init .nil (passes_call (takes_of rfl rfl rfl rfl) fun _ _ _ _ h => h) (pa_cons pe_int (pa_cons pe_int (pa_cons (pv 3) pa_nil)))))) (pss_one (ps_if (pt_cmpR op_eq (pv 0) pe_int (nomark _)) (pss_one (ps_expr (pe_make T.M_Row (okx_Row_init T) (hr.mono (by decide)) rfl T.mgC_Row T.b_Row_init .nil (passes_call (takes_of rfl rfl rfl rfl) fun _ _ _ _ h => h) (pa_cons (pv 2) (pa_cons pe_int pa_nil))))) (pss_one (ps_if (pt_cmpR op_eq (pv 0) pe_int (nomark _)) (pss_one (ps_expr (pe_make T.M_Row (okx_Row_init T) (hr.mono (by decide)) rfl T.mgC_Row T.b_Row_init .nil (passes_call (takes_of rfl rfl rfl rfl) fun _ _ _ _ h => h) (pa_cons pe_int (pa_cons (pv 3) pa_nil))))) (pss_one (ps_if (pt_cmpR op_eq (pv 0) pe_int (nomark _)) (pss_one (ps_expr (pe_make T.M_Book (okx_Book_init T) (hr.mono (by decide)) rfl T.mgC_Book T.b_Book_init .nil (passes_call (takes_of rfl rfl rfl rfl) fun _ _ _ _ h => h) (pa_cons (pv 2) (pa_cons (pv 3) pa_nil))))) (pss_one (ps_expr (pe_make T.M_Book (okx_Book_init T) (hr.mono (by decide)) rfl T.mgC_Book T.b_Book_init .nil (passes_call (takes_of rfl rfl rfl rfl) fun _ _ _ _ h => h) (pa_cons pe_int (pa_cons (pv 3) pa_nil))))))))))))))))))))), ?_⟩
    rw [show L2.start N_l_new_call [V.int z, V.int c] = [some (V.int z), some (V.int c), none, none] from rfl]
    refine q_asgP (ep_call (vs := [.int (c / 3), .int 1, .int 100000000000000000000]) (ea_cons (by walk_at "ev") (ea_cons ev_c (ea_cons ev_q20 ea_nil))) (sp_badNumber (by decide) (by decide) (by decide))) fun u H1 e1 hu => ?_
    dsimp only [List.set]
    refine q_asgP (ep_call (vs := [.int (c / 5), .int 2, .int 1000000000000000000000000000000]) (ea_cons (by walk_at "ev") (ea_cons ev_c (ea_cons ev_q30 ea_nil))) (sp_badNumber (by decide) (by decide) (by decide))) fun v H2 e2 hv => ?_
    dsimp only [List.set]
    have E2 := e1.trans e2
    have hu2 : ∀ {H'}, Ex H2 H' → NumV H' 1 100000000000000000000 u false := fun e => NumV.ex hu (e2.trans e)
    have hv2 : ∀ {H'}, Ex H2 H' → NumV H' 2 1000000000000000000000000000000 v false := fun e => NumV.ex hv e
    have r1 : ∀ {H'} {y : V} {q : Bool}, Ex H2 H' → NumV H' 2 1000000000000000000000000000000 y q → BadR H' u y := fun e h => ⟨false, _, hu2 e, h, rfl⟩
    have r2 : ∀ {H'} {y : V} {q : Bool}, Ex H2 H' → NumV H' 1 100000000000000000000 y q → BadR H' y v := fun e h => ⟨_, false, h, hv2 e, Bool.and_false _⟩
    have pl4 : ∀ {H' : Hp}, NumV H' 1 1000 (.int 4) true := fun {H'} => NumV.int 4
    refine s_if (b := decide (V.int z = V.int 18)) (by walk_at "ev") (fun hb H3 e3 => ?_) (fun hb0 H3 e3 => ?_)
    · rw [dec_i, decide_eq_true_eq] at hb
      rw [if_pos (by omega)] at hx
      refine s_makeQ (eq_3 monoN monoI (ep_call (vs := [.int (c / 3), .int 1, .int 1000]) (ea_cons (by walk_at "ev") (ea_cons ev_c (ea_cons ev_c ea_nil))) (sp_badNumber (by decide) (by decide) (by decide))) (ep_is ev_c) (ep_is ev_c)) fun y vs H4 H5 Q' e4 hR e5 => ?_
      obtain ⟨x, _, _, rfl, hp, rfl, rfl⟩ := hR
      exact ⟨y, x, _, _, rfl, .inl ⟨NumV.ex hp e5, hx.ex (((E2.trans e3).trans e4).trans e5)⟩⟩
    rw [dec_i, decide_eq_false_iff_not] at hb0
    refine s_if (b := decide (V.int z = V.int 19)) (by walk_at "ev") (fun hb H4 e4 => ?_) (fun hb1 H4 e4 => ?_)
    · rw [dec_i, decide_eq_true_eq] at hb
      rw [if_pos (by omega)] at hx
      refine s_makeQ (eq_3 monoN monoI (ep_call (vs := [.int (c / 7), .int 1, .int 1000]) (ea_cons (by walk_at "ev") (ea_cons ev_c (ea_cons ev_c ea_nil))) (sp_badNumber (by decide) (by decide) (by decide))) (ep_is (ev_var rfl)) (ep_is (ev_var rfl))) fun y vs H5 H6 Q' e5 hR e6 => ?_
      obtain ⟨x, _, _, rfl, hp, rfl, rfl⟩ := hR
      exact ⟨y, x, _, _, rfl, .inl ⟨NumV.ex hp e6, hx.ex ((((E2.trans e3).trans e4).trans e5).trans e6)⟩⟩
    rw [dec_i, decide_eq_false_iff_not] at hb1
    rw [if_neg (by omega)] at hx
    have E4 := e3.trans e4
    have hx2 : ∀ {H'}, Ex H2 H' → XRet T.C_NoRule H' E := fun e => hx.ex (E2.trans e)
    refine s_if (b := decide (V.int z = V.int 20)) (by walk_at "ev") (fun hb H5 e5 => ?_) (fun hb2 H5 e5 => ?_)
    · refine s_makeQ (eq_3 monoI monoI (ep_is ev_c) (ep_is (ev_var rfl)) (ep_is ev_c)) fun y vs H6 H7 Q' e6 hR e7 => ?_
      obtain ⟨_, _, _, rfl, rfl, rfl, rfl⟩ := hR
      have E7 := ((E4.trans e5).trans e6).trans e7
      exact ⟨y, _, _, _, rfl, .inr ⟨pl4, r1 E7 (.int _), hx2 E7⟩⟩
    refine s_if (b := decide (V.int z = V.int 21)) (by walk_at "ev") (fun hb H6 e6 => ?_) (fun hb3 H6 e6 => ?_)
    · refine s_makeQ (eq_3 monoI monoI (ep_is ev_c) (ep_is ev_c) (ep_is (ev_var rfl))) fun y vs H7 H8 Q' e7 hR e8 => ?_
      obtain ⟨_, _, _, rfl, rfl, rfl, rfl⟩ := hR
      have E8 := (((E4.trans e5).trans e6).trans e7).trans e8
      exact ⟨y, _, _, _, rfl, .inr ⟨pl4, r2 E8 (.int _), hx2 E8⟩⟩
    have E6 := (E4.trans e5).trans e6
    refine s_if (b := decide (V.int z = V.int 22)) (by walk_at "ev") (fun hb H7 e7 => ?_) (fun hb4 H7 e7 => ?_)
    · refine s_makeQ (eq_2 monoI (ep_is (ev_var rfl)) (ep_is ev_c)) fun y vs H8 H9 Q' e8 hR e9 => ?_
      obtain ⟨_, _, rfl, rfl, rfl⟩ := hR
      have E9 := ((E6.trans e7).trans e8).trans e9
      exact ⟨y, _, _, rfl, r1 E9 (.int _), hx2 E9⟩
    refine s_if (b := decide (V.int z = V.int 23)) (by walk_at "ev") (fun hb H8 e8 => ?_) (fun hb5 H8 e8 => ?_)
    · refine s_makeQ (eq_2 monoI (ep_is ev_c) (ep_is (ev_var rfl))) fun y vs H9 H10 Q' e9 hR e10 => ?_
      obtain ⟨_, _, rfl, rfl, rfl⟩ := hR
      have E10 := (((E6.trans e7).trans e8).trans e9).trans e10
      exact ⟨y, _, _, rfl, r2 E10 (.int _), hx2 E10⟩
    refine s_if (b := decide (V.int z = V.int 24)) (by walk_at "ev") (fun hb H9 e9 => ?_) (fun hb6 H9 e9 => ?_)
    · refine s_makeQ (eq_2 monoI (ep_is (ev_var rfl)) (ep_is (ev_var rfl))) fun y vs H10 H11 Q' e10 hR e11 => ?_
      obtain ⟨_, _, rfl, rfl, rfl⟩ := hR
      have E11 := ((((E6.trans e7).trans e8).trans e9).trans e10).trans e11
      exact ⟨y, _, _, rfl, r1 E11 (hv2 E11), hx2 E11⟩
    · refine s_makeQ (eq_2 monoI (ep_is ev_c) (ep_is (ev_var rfl))) fun y vs H10 H11 Q' e10 hR e11 => ?_
      obtain ⟨_, _, rfl, rfl, rfl⟩ := hR
      have E11 := ((((E6.trans e7).trans e8).trans e9).trans e10).trans e11
      exact ⟨y, _, _, rfl, r2 E11 (.int _), hx2 E11⟩
end

end Own
namespace Own
open PySem L2 PyProof.Rows Evl OwnS
/-- a condition of arithmetic -/
local macro_rules | `(tactic| walk_at "side") => `(tactic| first
  | assumption
  | (show _ ∧ _; omega)
  | (apply pos9 <;> omega)
  | (show (0 : Int) < _; omega)
  | (show _ ∨ _; omega)
  | decide
  | omega)
local macro_rules | `(tactic| walk_at "fn") => `(tactic| fail "no fn")
local macro_rules | `(tactic| walk_at "ev") => `(tactic| first
  | ((with_reducible apply ev_var) ; exact rfl)
  | with_reducible exact ev_c
  | ((with_reducible apply ev_op) <;> walk_at "ev")
  | with_reducible exact rv_I0
  | ((with_reducible apply rv_I) ; walk_at "side")
  | ((with_reducible apply rv_eq) ; rfl)
  | ((with_reducible apply rv_ne) ; rfl)
  | ((with_reducible apply ev_isInt) ; walk_at "ev")
  | ((with_reducible apply ev_isBoolI) ; walk_at "ev")
  | ((with_reducible apply ev_isIntB) ; walk_at "ev")
  | ((with_reducible apply ev_isBoolB) ; walk_at "ev")
  | ((with_reducible apply ev_notV) ; walk_at "ev")
  | ((with_reducible apply et_test) ; walk_at "ev")
  | ((with_reducible apply et_B) ; walk_at "ev")
  | ((with_reducible apply et_not) ; walk_at "ev")
  | with_reducible exact ea_nil
  | ((with_reducible apply ea_cons) <;> walk_at "ev")
  | ((with_reducible apply ev_call0) <;> walk_at "ev")
  | ((with_reducible show SpV _ _ _ _); walk_at "fn"))

/-! ### k04: a bad call, caught; the twins -/
theorem pss_and {X : Cx} {b : List Stmt} {t : TS} {c : Prop} (h : c → PSs X b t) : PSs X b (fun D σ H => c ∧ t D σ H) := ⟨fun pins s σ H D I hh => (h hh.1).run pins s σ H D I hh.2⟩
theorem q_tryAs {K : PySem.W.Frag} {σ : L2.St} {H : Hp} {D : Ends} {tz : TS} {sp : Sp} {tA : TA} {vs : List V} {c : Value} {i : Nat} {ts : Addr → Value → Option Addr → TS} {Wout : WX} (ha : EvA tA σ H vs)
    (k : ∀ H1, Ex H H1 → sp vs H1 (fun _ H2 => tz D σ H2) (fun cls d H2 => wAs K c i ts Wout { D with nx := tz D } cls d σ H2)) : tSeq (fun D σ H => tDrop (tCallS sp (WE (wAs K c i ts Wout D)) tA) D σ H) tz D σ H := ha H (Ex.refl H) _ fun H1 e1 => k H1 e1
theorem q_tryMany {K : PySem.W.Frag} {σ : L2.St} {H : Hp} {D : Ends} {tz : TS} {sp : Sp} {tA : TA} {vs : List V} {Wout : WX} {l : List (Value × (Addr → Value → Option Addr → TS))} (ha : EvA tA σ H vs)
    (k : ∀ H1, Ex H H1 → sp vs H1 (fun _ H2 => tz D σ H2) (fun cls d H2 => wMany K Wout { D with nx := tz D } l cls d σ H2)) : tSeq (fun D σ H => tDrop (tCallS sp (WE (wMany K Wout D l)) tA) D σ H) tz D σ H := ha H (Ex.refl H) _ fun H1 e1 => k H1 e1
theorem ev_isE {K : PySem.W.Frag} {σ : L2.St} {H : Hp} {ta tb : TE} {D a : Addr} {c : V} {cv : Value} {b : Bool} (ha : Ev ta σ H (.ref a)) (hb : Ev tb σ H c) (hc : ∀ u, RelV c u → u = cv) (hk : PySem.W.kitOne K (.ref D) cv = some b) : Ev (tCB (rIsE K D a) (tCons ta (tCons tb tNil))) σ H (.bl b) := fun H1 e Q q =>
  ha H1 e _ fun H2 e2 => hb H2 (e.trans e2) _ fun H3 e3 => ⟨c, cv, b, rfl, hc, hk, q H3 (e2.trans e3)⟩
def AnsV (v : V) : Prop := v = .non ∨ (∃ i, v = .int i) ∨ ∃ b, v = .bl b
theorem oI_ans (o : Option Int) : AnsV (oI o) := by
  cases o with
  | none => exact .inl rfl
  | some i => exact .inr (.inl ⟨i, rfl⟩)
section
variable {P : Program} {w : World} {K : PySem.W.Frag} {mg : Str → Option Value} {base : Heap}
theorem errX (T : Tx K mg) : ∀ n, ExD K (errC T n)
  | 0 => T.xd_NoName
  | 1 => T.xd_NoNumber
  | _ + 2 => T.xd_NoRule
theorem err_base (T : Tx K mg) : ∀ n, PySem.W.exmOne K (.ref (errC T n)) (.ref T.C_ShelfError) = some true
  | 0 => T.em_NoName_ShelfError
  | 1 => T.em_NoNumber_ShelfError
  | _ + 2 => T.em_NoRule_ShelfError
theorem err_val (T : Tx K mg) : ∀ n, PySem.W.kitOne K (.ref (errC T n)) (.type "ValueError") = some true
  | 0 => T.kv_NoName
  | 1 => T.kv_NoNumber
  | _ + 2 => T.kv_NoRule
theorem err_0 (T : Tx K mg) : ∀ n, PySem.W.kitOne K (.ref (errC T n)) (.ref T.C_NoName) = some (decide (V.str (dueS n) = V.str "name"))
  | 0 => T.ki_NoName_NoName.trans (congrArg some (by decide +kernel))
  | 1 => T.ki_NoNumber_NoName.trans (congrArg some (by decide +kernel))
  | _ + 2 => T.ki_NoRule_NoName.trans (congrArg some (show false = decide (V.str (Str.ofString "rule") = V.str (Str.ofString "name")) from by decide +kernel))
theorem err_1 (T : Tx K mg) : ∀ n, PySem.W.kitOne K (.ref (errC T n)) (.ref T.C_NoNumber) = some (decide (V.str (dueS n) = V.str "number"))
  | 0 => T.ki_NoName_NoNumber.trans (congrArg some (by decide +kernel))
  | 1 => T.ki_NoNumber_NoNumber.trans (congrArg some (by decide +kernel))
  | _ + 2 => T.ki_NoRule_NoNumber.trans (congrArg some (show false = decide (V.str (Str.ofString "rule") = V.str (Str.ofString "number")) from by decide +kernel))
theorem err_2 (T : Tx K mg) : ∀ n, PySem.W.kitOne K (.ref (errC T n)) (.ref T.C_NoRule) = some (decide (V.str (dueS n) = V.str "rule"))
  | 0 => T.ki_NoName_NoRule.trans (congrArg some (by decide +kernel))
  | 1 => T.ki_NoNumber_NoRule.trans (congrArg some (by decide +kernel))
  | _ + 2 => T.ki_NoRule_NoRule.trans (congrArg some (show true = decide (V.str (Str.ofString "rule") = V.str (Str.ofString "rule")) from by decide +kernel))
def Things (T : Tx K mg) (H : Hp) (p : Addr) : Prop := ∃ (a b e : Ad) (s t u : Th), H p = some (.lst [.ref a.p, .ref b.p, .ref e.p]) ∧ At .shelf T.C_Shelf a H s ∧ At .row T.C_Row b H t ∧ At .book T.C_Book e H u
theorem Things.ex {T : Tx K mg} {H H' : Hp} {p : Addr} (h : Things T H p) (e : Ex H H') : Things T H' p := by
  obtain ⟨a, b, c, s, t, u, h1, h2, h3, h4⟩ := h
  exact ⟨a, b, c, s, t, u, e _ _ h1, h2.ex e, h3.ex e, h4.ex e⟩
def spCallX (T : Tx K mg) : Sp := fun vs H Q E => ∃ (z c : Int) (p : Addr) (n : Str), vs = [.int z, .ref p, .str n, .int c] ∧ 0 ≤ z ∧ z < 26 ∧ Things T H p ∧ GoodName n ∧ XRet (errC T (dueN z)) H E
theorem ok_l_call (T : Tx K mg) : FnOk P w K mg base (L2.CX P w) 11 T.f_l_call T.fd_l_call P_l_call (spCallX T) := by
  refine T.F_l_call.okX sc_l_call (fun vs H Q E h => ?_) (fun cdv A outer s H vs Q E hr h => ?_)
  · obtain ⟨_, _, _, _, rfl, _⟩ := h
    rfl
  · obtain ⟨z, c, p, n, rfl, h0, h26, ⟨a, b, e, s, t, u, hp, A1, A2, A3⟩, hg, hx⟩ := h
    refine ⟨_, (pss_one (ps_if (pt_cmpR op_lt (pv 0) pe_int (nomark _)) (pss_one (ps_expr (pe_call (ok_l_thing_call T) (hr.mono (by decide)) rfl T.mg_l_thing_call T.F_l_thing_call.kp T.b_l_thing_call .nil (passes_call (takes_of rfl rfl rfl rfl) fun _ _ _ _ h => h) (pa_cons (pv 0) (pa_cons (pe_ix ix_list (pv 1) pe_int (fun _ _ => rfl)) (pa_cons (pv 2) (pa_cons (pv 3) pa_nil))))))) (pss_one (ps_if (pt_cmpR op_lt (pv 0) pe_int (nomark _)) (pss_one (ps_expr (pe_call (ok_l_thing_call T) (hr.mono (by decide)) rfl T.mg_l_thing_call T.F_l_thing_call.kp T.b_l_thing_call .nil (passes_call (takes_of rfl rfl rfl rfl) fun _ _ _ _ h => h) (pa_cons (pe_op op_sub (pv 0) pe_int) (pa_cons (pe_ix ix_list (pv 1) (pe_op op_add pe_int (pe_op op_mod (pe_op op_fdivW (pv 3) pe_int) pe_int)) (fun _ _ => rfl)) (pa_cons (pv 2) (pa_cons (pv 3) pa_nil))))))) (pss_one (ps_if (pt_cmpR op_lt (pv 0) pe_int (nomark _)) (pss_one (ps_expr (pe_call (ok_l_own_call T) (hr.mono (by decide)) rfl T.mg_l_own_call T.F_l_own_call.kp T.b_l_own_call .nil (passes_call (takes_of rfl rfl rfl rfl) fun _ _ _ _ h => h) (pa_cons (pv 0) (pa_cons (pe_ix ix_list (pv 1) pe_int (fun _ _ => rfl)) (pa_cons (pe_ix ix_list (pv 1) pe_int (fun _ _ => rfl)) (pa_cons (pv 2) (pa_cons (pv 3) pa_nil)))))))) (pss_one (ps_expr (pe_call (ok_l_new_call T) (hr.mono (by decide)) rfl T.mg_l_new_call T.F_l_new_call.kp T.b_l_new_call .nil (passes_call (takes_of rfl rfl rfl rfl) fun _ _ _ _ h => h) (pa_cons (pv 0) (pa_cons (pv 3) pa_nil))))))))))), ?_⟩
    rw [show L2.start N_l_call [V.int z, V.ref p, V.str n, V.int c] = [some (V.int z), some (V.ref p), some (V.str n), some (V.int c)] from rfl]
    refine s_if (b := decide (z < 7)) (by walk_at "ev") (fun hb H1 e1 => ?_) (fun hb H1 e1 => ?_)
    · have hb := of_decide_eq_true hb
      have hd : dueN z = if z < 5 then 0 else 1 := by
        unfold dueN
        rw [if_pos (by omega), Int.emod_eq_of_lt h0 hb]
      rw [hd] at hx
      exact s_dropX (vs := [.int z, .ref a.p, .str n, .int c]) (ea_cons (ev_var rfl) (ea_cons (ev_op (ev_var rfl) ev_c (rv_ixL (sq_of (e1 _ _ hp)) rfl)) (ea_cons (ev_var rfl) (ea_cons (ev_var rfl) ea_nil)))) fun H2 e2 => ⟨.shelf, z, c, a, s, n, rfl, h0, hb, A1.ex (e1.trans e2), hg, hx.ex (e1.trans e2)⟩
    have hb := of_decide_eq_false hb
    refine s_if (b := decide (z < 14)) (by walk_at "ev") (fun hb2 H2 e2 => ?_) (fun hb2 H2 e2 => ?_)
    · have hb2 := of_decide_eq_true hb2
      have hd : dueN z = if z - 7 < 5 then 0 else 1 := by
        unfold dueN
        rw [if_pos hb2, show z % 7 = z - 7 by omega]
      rw [hd] at hx
      have E2 := e1.trans e2
      obtain hpar | hpar : c / 4 % 2 = 0 ∨ c / 4 % 2 = 1 := by omega
      · exact s_dropX (vs := [.int (z - 7), .ref b.p, .str n, .int c]) (ea_cons (by walk_at "ev") (ea_cons (ev_op (y := .int (1 + c / 4 % 2)) (ev_var rfl) (by walk_at "ev") (rv_ixL (sq_of (E2 _ _ hp)) (by rw [hpar]; rfl))) (ea_cons (ev_var rfl) (ea_cons (ev_var rfl) ea_nil)))) fun H3 e3 => ⟨.row, z - 7, c, b, t, n, rfl, by omega, by omega, A2.ex (E2.trans e3), hg, hx.ex (E2.trans e3)⟩
      · exact s_dropX (vs := [.int (z - 7), .ref e.p, .str n, .int c]) (ea_cons (by walk_at "ev") (ea_cons (ev_op (y := .int (1 + c / 4 % 2)) (ev_var rfl) (by walk_at "ev") (rv_ixL (sq_of (E2 _ _ hp)) (by rw [hpar]; rfl))) (ea_cons (ev_var rfl) (ea_cons (ev_var rfl) ea_nil)))) fun H3 e3 => ⟨.book, z - 7, c, e, u, n, rfl, by omega, by omega, A3.ex (E2.trans e3), hg, hx.ex (E2.trans e3)⟩
    have hb2 := of_decide_eq_false hb2
    have E2 := e1.trans e2
    refine s_if (b := decide (z < 18)) (by walk_at "ev") (fun hb3 H3 e3 => ?_) (fun hb3 H3 e3 => ?_)
    · have hb3 := of_decide_eq_true hb3
      have hd : dueN z = if z = 14 then 0 else 1 := by
        unfold dueN
        rw [if_neg hb2]
        by_cases q : z = 14
        · rw [if_pos q, if_pos q]
        · rw [if_neg q, if_neg q, if_pos (by omega)]
      rw [hd] at hx
      exact s_dropX (vs := [.int z, .ref a.p, .ref b.p, .str n, .int c]) (ea_cons (ev_var rfl) (ea_cons (ev_op (ev_var rfl) ev_c (rv_ixL (sq_of ((E2.trans e3) _ _ hp)) rfl)) (ea_cons (ev_op (ev_var rfl) ev_c (rv_ixL (sq_of ((E2.trans e3) _ _ hp)) rfl)) (ea_cons (ev_var rfl) (ea_cons (ev_var rfl) ea_nil))))) fun H4 e4 => ⟨z, c, a, b, s, t, n, rfl, by omega, hb3, A1.ex ((E2.trans e3).trans e4), A2.ex ((E2.trans e3).trans e4), hg, hx.ex ((E2.trans e3).trans e4)⟩
    · have hb3 := of_decide_eq_false hb3
      have hd : dueN z = if z < 20 then 1 else 2 := by
        unfold dueN
        rw [if_neg hb2, if_neg (by omega)]
      rw [hd] at hx
      exact s_dropX (vs := [.int z, .int c]) (ea_cons (ev_var rfl) (ea_cons (ev_var rfl) ea_nil)) fun H4 e4 => ⟨z, c, rfl, by omega, h26, hx.ex ((E2.trans e3).trans e4)⟩
def spBy (T : Tx K mg) : Sp := fun vs H Q _ => ∃ (z c : Int) (p : Addr) (n : Str), vs = [.int z, .ref p, .str n, .int c] ∧ 0 ≤ z ∧ z < 26 ∧ Things T H p ∧ GoodName n ∧ RetV (.bl true) H Q
theorem sv_by {T : Tx K mg} {H : Hp} {z c : Int} {p : Addr} {n : Str} (h0 : 0 ≤ z) (h1 : z < 26) (h : Things T H p) (hg : GoodName n) : SpV (spBy T) [.int z, .ref p, .str n, .int c] H (.bl true) := spv_of fun H1 Q E e q => ⟨_, _, _, _, rfl, h0, h1, h.ex e, hg, q⟩
theorem flat_bl {xs : List Bool} : ∀ x ∈ xs.map V.bl, FlatV x := fun x h => by
  obtain ⟨b, _, rfl⟩ := List.mem_map.mp h
  exact .bl b
theorem ok_l_by_base (T : Tx K mg) : FnOk P w K mg base CX0 12 T.f_l_by_base T.fd_l_by_base P_l_by_base (spBy T) := by
  refine T.F_l_by_base.ok sc_l_by_base (fun vs H Q E h => ?_) (fun cdv A outer s H vs Q E hr h => ?_)
  · obtain ⟨_, _, _, _, rfl, _⟩ := h
    rfl
  · obtain ⟨z, c, p, n, rfl, h0, h26, hT, hg, kk⟩ := h
    have XC := (errX T (dueN z)).c
    refine ⟨_, (pss_cons (ps_set (i := 4) sc_l_by_base.nd rfl (Or.inl rfl) (pe_lst pa_nil))
      (pss_cons (ps_try_as (i := 5) rfl rfl sc_l_by_base.nd rfl rfl ⟨rfl, by decide, .inl T.mgC_ShelfError⟩ takes0 (fun W pn xe tk _ => (pss_one (ps_expr (pe_callS (ok_l_call T) (hr.mono (by decide)) rfl T.mg_l_call T.F_l_call.kp T.b_l_call (fun σ => passAt tk σ) (pa_cons (pv 0) (pa_cons (pv 1) (pa_cons (pv 2) (pa_cons (pv 3) pa_nil)))))))) (fun a oe cls d pn hz hf => pss_and (c := cls = .ref (errC T (dueN z)) ∧ d = none) fun hc => (pss_one (ps_set (i := 4) sc_l_by_base.nd rfl (Or.inl rfl) (pe_lst (pa_cons (pe_callB (call_isE XC (by obtain ⟨h1, h2⟩ := hc; rw [← h1, ← h2]; exact hz) hf) (by rfl) T.n_isinstance (by decide +kernel) (pa_cons (pv 5) (pa_cons (pe_bltn (v := .ty "ValueError") (u := .type "ValueError") rfl T.n_ValueError (by decide +kernel) rfl) pa_nil))) (pa_cons (pe_callB (call_isE XC (by obtain ⟨h1, h2⟩ := hc; rw [← h1, ← h2]; exact hz) hf) (by rfl) T.n_isinstance (by decide +kernel) (pa_cons (pv 5) (pa_cons (pe_glob (v := .ref T.C_NoName) rfl T.mgC_NoName rfl) pa_nil))) (pa_cons (pe_callB (call_isE XC (by obtain ⟨h1, h2⟩ := hc; rw [← h1, ← h2]; exact hz) hf) (by rfl) T.n_isinstance (by decide +kernel) (pa_cons (pv 5) (pa_cons (pe_glob (v := .ref T.C_NoNumber) rfl T.mgC_NoNumber rfl) pa_nil))) (pa_cons (pe_callB (call_isE XC (by obtain ⟨h1, h2⟩ := hc; rw [← h1, ← h2]; exact hz) hf) (by rfl) T.n_isinstance (by decide +kernel) (pa_cons (pv 5) (pa_cons (pe_glob (v := .ref T.C_NoRule) rfl T.mgC_NoRule rfl) pa_nil))) pa_nil)))))))))
      (pss_cons (ps_set (i := 6) sc_l_by_base.nd rfl (Or.inl rfl) (pe_call (ok_l_due T) (hr.mono (by decide)) rfl T.mg_l_due T.F_l_due.kp T.b_l_due .nil pass0 (pa_cons (pv 0) pa_nil)))
      (pss_one (ps_ret (pe_cmpR (op_eqD hr.units) (pv 4) (pe_lst (pa_cons pe_bl (pa_cons (pe_cmpR op_eq (pv 6) pe_str (nomark _)) (pa_cons (pe_cmpR op_eq (pv 6) pe_str (nomark _)) (pa_cons (pe_cmpR op_eq (pv 6) pe_str (nomark _)) pa_nil))))) (nomark _))))))), ?_⟩
    rw [show L2.start N_l_by_base [V.int z, V.ref p, V.str n, V.int c] = [some (V.int z), some (V.ref p), some (V.str n), some (V.int c), none, none, none] from rfl]
    refine q_asgL (xs := []) (el_lst ea_nil (by decide)) fun l0 H1 _ e1 _ => ?_
    dsimp only [List.set]
    refine q_tryAs (vs := [.int z, .ref p, .str n, .int c]) (ea_cons (ev_var rfl) (ea_cons (ev_var rfl) (ea_cons (ev_var rfl) (ea_cons (ev_var rfl) ea_nil)))) fun H2 e2 => ?_
    refine ⟨z, c, p, n, rfl, h0, h26, hT.ex (e1.trans e2), hg, fun H3 e3 => ?_⟩
    refine ⟨true, err_base T _, fun _ a ha => ⟨⟨rfl, rfl⟩, ?_⟩, fun h => nomatch h⟩
    dsimp only [List.set]
    obtain ⟨bs, hbs⟩ : ∃ bs : List Bool, bs = [true, decide (V.str (dueS (dueN z)) = V.str "name"), decide (V.str (dueS (dueN z)) = V.str "number"), decide (V.str (dueS (dueN z)) = V.str "rule")] := ⟨_, rfl⟩
    refine s_asgL (xs := bs.map V.bl) (el_eq (el_lst (ea_cons (ev_isE (ev_var rfl) ev_c (fun u h => h) (err_val T _)) (ea_cons (ev_isE (ev_var rfl) ev_c (fun u h => h) (err_0 T _)) (ea_cons (ev_isE (ev_var rfl) ev_c (fun u h => h) (err_1 T _)) (ea_cons (ev_isE (ev_var rfl) ev_c (fun u h => h) (err_2 T _)) ea_nil)))) (by simp)) (by rw [hbs]; rfl)) fun l1 H4 hl1 e4 h4 => ?_
    dsimp only [List.set]
    refine q_asg (v := .str (dueS (dueN z))) (ev_call0 (ea_cons (ev_var rfl) ea_nil) sv_due) fun H5 e5 => ?_
    dsimp only [List.set]
    exact s_ret (v := .bl true) (ev_eqD (ed_R (ev_var rfl) (dp_list (e5 _ _ h4) flat_bl)) (ed_L (xs := bs.map V.bl) (el_eq (el_lst (ea_cons ev_c (ea_cons (ev_op (ev_var rfl) ev_c (rv_eq rfl)) (ea_cons (ev_op (ev_var rfl) ev_c (rv_eq rfl)) (ea_cons (ev_op (ev_var rfl) ev_c (rv_eq rfl)) ea_nil)))) (by simp)) (by rw [hbs]; rfl)) flat_bl) (shaped_list flat_bl)) fun H6 e6 => kk H6 (((((e1.trans e2).trans e3).trans e4).trans e5).trans e6)
theorem ok_l_by_name (T : Tx K mg) : FnOk P w K mg base CX0 12 T.f_l_by_name T.fd_l_by_name P_l_by_name (spBy T) := by
  refine T.F_l_by_name.ok sc_l_by_name (fun vs H Q E h => ?_) (fun cdv A outer s H vs Q E hr h => ?_)
  · obtain ⟨_, _, _, _, rfl, _⟩ := h
    rfl
  · obtain ⟨z, c, p, n, rfl, h0, h26, hT, hg, kk⟩ := h
    refine ⟨_, (pss_cons (ps_set (i := 4) sc_l_by_name.nd rfl (Or.inl rfl) pe_str)
      (pss_cons (ps_try_many rfl rfl takes0 (fun W pn xe tk _ => (pss_one (ps_expr (pe_callS (ok_l_call T) (hr.mono (by decide)) rfl T.mg_l_call T.F_l_call.kp T.b_l_call (fun σ => passAt tk σ) (pa_cons (pv 0) (pa_cons (pv 1) (pa_cons (pv 2) (pa_cons (pv 3) pa_nil)))))))) (HdsOk.cons (ts := fun _ _ _ => tAsg (tC (.str "name")) (gName 4)) ⟨rfl, by decide, .inl T.mgC_NoName⟩ (fun a oe cls d pn _ _ => (pss_one (ps_set (i := 4) sc_l_by_name.nd rfl (Or.inl rfl) pe_str))) (HdsOk.cons (ts := fun _ _ _ => tAsg (tC (.str "number")) (gName 4)) ⟨rfl, by decide, .inl T.mgC_NoNumber⟩ (fun a oe cls d pn _ _ => (pss_one (ps_set (i := 4) sc_l_by_name.nd rfl (Or.inl rfl) pe_str))) (HdsOk.cons (ts := fun _ _ _ => tAsg (tC (.str "rule")) (gName 4)) ⟨rfl, by decide, .inl T.mgC_NoRule⟩ (fun a oe cls d pn _ _ => (pss_one (ps_set (i := 4) sc_l_by_name.nd rfl (Or.inl rfl) pe_str))) HdsOk.nil))))
      (pss_one (ps_ret (pe_cmpR op_eq (pv 4) (pe_call (ok_l_due T) (hr.mono (by decide)) rfl T.mg_l_due T.F_l_due.kp T.b_l_due .nil pass0 (pa_cons (pv 0) pa_nil)) (nomark _)))))), ?_⟩
    rw [show L2.start N_l_by_name [V.int z, V.ref p, V.str n, V.int c] = [some (V.int z), some (V.ref p), some (V.str n), some (V.int c), none] from rfl]
    refine q_asg (v := .str "") ev_c fun H1 e1 => ?_
    dsimp only [List.set]
    refine q_tryMany (vs := [.int z, .ref p, .str n, .int c]) (ea_cons (ev_var rfl) (ea_cons (ev_var rfl) (ea_cons (ev_var rfl) (ea_cons (ev_var rfl) ea_nil)))) fun H2 e2 => ?_
    refine ⟨z, c, p, n, rfl, h0, h26, hT.ex (e1.trans e2), hg, fun H3 e3 => ?_⟩
    have last : ∀ (H4 : Hp), Ex H3 H4 → ∀ m, dueN z = m → (tSeq (tRet (tOp rEq (tVar 4) (tCall spDue [] E0 (tCons (tVar 0) tNil)))) tNext { nx := fun _ H' => Q .non H', rt := Q } [some (V.int z), some (V.ref p), some (V.str n), some (V.int c), some (V.str (dueS m))] H4) := fun H4 e4 m hm => by
      refine s_ret (v := .bl true) (ev_is (ev_op (ev_var rfl) (ev_call0 (ea_cons (ev_var rfl) ea_nil) sv_due) (rv_eq rfl)) (by rw [hm, decide_eq_true rfl])) fun H5 e5 => kk H5 ((((e1.trans e2).trans e3).trans e4).trans e5)
    cases hd : dueN z with
    | zero => exact ⟨true, T.em_NoName_NoName, fun _ a ha => s_asg ev_c fun H4 e4 => last H4 e4 0 hd, fun h => nomatch h⟩
    | succ m =>
      cases m with
      | zero => exact ⟨false, T.em_NoNumber_NoName, (fun h => nomatch h), fun _ => ⟨true, T.em_NoNumber_NoNumber, fun _ a ha => s_asg ev_c fun H4 e4 => last H4 e4 1 hd, fun h => nomatch h⟩⟩
      | succ m => exact ⟨false, T.em_NoRule_NoName, (fun h => nomatch h), fun _ => ⟨false, T.em_NoRule_NoNumber, (fun h => nomatch h), fun _ => ⟨true, T.em_NoRule_NoRule, fun _ a ha => s_asg ev_c fun H4 e4 => last H4 e4 (m + 2) hd, fun h => nomatch h⟩⟩⟩
def spSame : Sp := fun vs H Q _ => ∃ v : V, vs = [v, v] ∧ AnsV v ∧ RetV (.bl true) H Q
theorem ok_l_same (T : Tx K mg) : FnOk P w K mg base CX0 1 T.f_l_same T.fd_l_same P_l_same spSame := by
  refine T.F_l_same.ok sc_l_same (fun vs H Q E h => ?_) (fun cdv A outer s H vs Q E hr h => ?_)
  · obtain ⟨_, rfl, _⟩ := h
    rfl
  · obtain ⟨v, rfl, hv, kk⟩ := h
    refine ⟨_, (pss_cons (ps_if (pt_cmpR op_isN (pv 1) pe_non (nomark _)) (pss_one (ps_ret (pe_cmpR op_isN (pv 0) pe_non (nomark _)))) pss_nil)
      (pss_one (ps_ret (pe_and (pe_callB call_isi (by rfl) T.n_isinstance (by decide +kernel) (pa_cons (pv 0) (pa_cons (pe_bltn (v := .ty "int") (u := .type "int") rfl T.n_int (by decide +kernel) rfl) pa_nil))) (pe_and (pe_cmpR op_eq (pe_callB call_isi (by rfl) T.n_isinstance (by decide +kernel) (pa_cons (pv 0) (pa_cons (pe_bltn (v := .ty "bool") (u := .type "bool") rfl T.n_bool (by decide +kernel) rfl) pa_nil))) (pe_callB call_isi (by rfl) T.n_isinstance (by decide +kernel) (pa_cons (pv 1) (pa_cons (pe_bltn (v := .ty "bool") (u := .type "bool") rfl T.n_bool (by decide +kernel) rfl) pa_nil))) (nomark _)) (pe_one (pe_cmpR op_eq (pv 0) (pv 1) (nomark _)))))))), ?_⟩
    rw [show L2.start N_l_same [v, v] = [some v, some v] from rfl]
    rcases hv with rfl | ⟨i, rfl⟩ | ⟨b, rfl⟩
    · exact q_when (b := true) (et_is (et_test (ev_op (ev_var rfl) ev_c rv_isN)) (decide_eq_true rfl)) (fun _ H1 e1 => s_ret (v := .bl true) (ev_is (ev_op (ev_var rfl) ev_c rv_isN) (by rw [decide_eq_true rfl])) fun H2 e2 => kk H2 (e1.trans e2)) (fun h => nomatch h)
    · refine q_when (b := false) (et_is (et_test (ev_op (ev_var rfl) ev_c rv_isN)) (decide_eq_false (fun h => nomatch h))) (fun h => nomatch h) (fun _ H1 e1 => ?_)
      exact s_ret (v := .bl true) (ev_and1 (ev_isInt (ev_var rfl)) (ev_and1 (ev_is (ev_op (ev_isBoolI (ev_var rfl)) (ev_isBoolI (ev_var rfl)) (rv_eq rfl)) (by rw [decide_eq_true rfl])) (ev_is (ev_op (ev_var rfl) (ev_var rfl) (rv_eq rfl)) (by rw [decide_eq_true rfl])))) fun H2 e2 => kk H2 (e1.trans e2)
    · refine q_when (b := false) (et_is (et_test (ev_op (ev_var rfl) ev_c rv_isN)) (decide_eq_false (fun h => nomatch h))) (fun h => nomatch h) (fun _ H1 e1 => ?_)
      exact s_ret (v := .bl true) (ev_and1 (ev_isIntB (ev_var rfl)) (ev_and1 (ev_is (ev_op (ev_isBoolB (ev_var rfl)) (ev_isBoolB (ev_var rfl)) (rv_eq rfl)) (by rw [decide_eq_true rfl])) (ev_is (ev_op (ev_var rfl) (ev_var rfl) (rv_eq rfl)) (by rw [decide_eq_true rfl])))) fun H2 e2 => kk H2 (e1.trans e2)
/-- a deed, of whatever kind the thing is -/
def spDoA (T : Tx K mg) : Sp := fun vs H Q E => ∃ k : Kd, spDo k (cOf T k) K vs H Q E
theorem okA_l_do (T : Tx K mg) : FnOk P w K mg base CX0 10 T.f_l_do T.fd_l_do P_l_do (spDoA T) :=
  ⟨fun vs H Q E h => by
    obtain ⟨k, h⟩ := h
    exact (ok_l_do (P := P) (w := w) (base := base) T (uOf T k)).len _ _ _ _ h, fun A outer s H args us vs Q E hr e0 b r h => by
    obtain ⟨k, h⟩ := h
    exact (ok_l_do T (uOf T k)).run A outer s H args us vs Q E hr e0 b r h⟩
end

end Own
namespace Own
open PySem L2 PyProof.Rows Evl OwnS
/-- a condition of arithmetic -/
local macro_rules | `(tactic| walk_at "side") => `(tactic| first
  | assumption
  | (show _ ∧ _; omega)
  | (apply pos9 <;> omega)
  | (show (0 : Int) < _; omega)
  | (show _ ∨ _; omega)
  | decide
  | omega)
local macro_rules | `(tactic| walk_at "fn") => `(tactic| fail "no fn")
local macro_rules | `(tactic| walk_at "ev") => `(tactic| first
  | ((with_reducible apply ev_var) ; exact rfl)
  | with_reducible exact ev_c
  | ((with_reducible apply ev_op) <;> walk_at "ev")
  | with_reducible exact rv_I0
  | ((with_reducible apply rv_I) ; walk_at "side")
  | ((with_reducible apply rv_eq) ; rfl)
  | ((with_reducible apply rv_ne) ; rfl)
  | ((with_reducible apply ev_isInt) ; walk_at "ev")
  | ((with_reducible apply ev_isBoolI) ; walk_at "ev")
  | ((with_reducible apply ev_isIntB) ; walk_at "ev")
  | ((with_reducible apply ev_isBoolB) ; walk_at "ev")
  | ((with_reducible apply ev_notV) ; walk_at "ev")
  | ((with_reducible apply et_test) ; walk_at "ev")
  | ((with_reducible apply et_B) ; walk_at "ev")
  | ((with_reducible apply et_not) ; walk_at "ev")
  | with_reducible exact ea_nil
  | ((with_reducible apply ea_cons) <;> walk_at "ev")
  | ((with_reducible apply ev_call0) <;> walk_at "ev")
  | ((with_reducible show SpV _ _ _ _); walk_at "fn"))

/-! ### goings as data -/
section
variable {K : PySem.W.Frag}
theorem dp_tuple {H : Hp} {p : Addr} {xs : List V} (h : H p = some (.tup xs)) (hf : ∀ x ∈ xs, FlatV x) : Dp K H (.ref p) (.tuple (xs.map fdV)) := .tup (SqT.of h) (dpAll_flat hf)
def gD (g : Going) : PyData := .tuple ((gV g).map fdV)
structure OkN (g : Going) : Prop where
  name : PyData.strOk g.name = true
  reason : PyData.strOk g.reason = true
theorem flat_g {g : Going} (h : OkN g) : ∀ x ∈ gV g, FlatV x := fun x hx => by
  simp only [gV, List.mem_cons, List.not_mem_nil, or_false] at hx
  rcases hx with rfl | rfl | rfl | rfl | rfl
  · exact .int _
  · exact .str _ h.name
  · exact .str _ h.reason
  · exact .int _
  · exact .int _
theorem okN_of {ns : List Str} (gd : ∀ n ∈ ns, GoodName n) {g : Going} (h : OkG ns g) : OkN g := ⟨strOk_good (gd _ h.1), by rcases h.2 with h | h | h <;> rw [h] <;> decide +kernel⟩
theorem dp_tups {H : Hp} {p : Addr} {gs : List Going} (h : TupsAt H p (gs.map gV)) (ok : ∀ g ∈ gs, OkN g) : Dp K H (.ref p) (.list (gs.map gD)) := by
  obtain ⟨vs, h1, h2, h3⟩ := h
  refine .lst (SqL.of h1) ?_
  rw [List.length_map] at h2
  clear h1
  induction gs generalizing vs with
  | nil =>
    cases vs with
    | nil => exact .nil
    | cons a r => cases h2
  | cons g r ih =>
    cases vs with
    | nil => cases h2
    | cons a vs =>
      obtain ⟨q, q1, q2⟩ := h3 0 (gV g) rfl
      cases q1
      exact .cons (dp_tuple q2 (flat_g (ok g List.mem_cons_self))) (ih (fun x hx => ok x (List.mem_cons_of_mem _ hx)) vs (Nat.succ.inj h2) fun i r hr => h3 (i + 1) r hr)
theorem gD_shaped {gs : List Going} (ok : ∀ g ∈ gs, OkN g) : SeqAt.shaped (.list (gs.map gD)) = true := by
  refine shaped_all fun d hd => ?_
  obtain ⟨g, hg, rfl⟩ := List.mem_map.mp hd
  refine ⟨can_flat (flat_g (ok g hg)), ?_⟩
  unfold gD
  rw [PyData.depth, dep_flat (flat_g (ok g hg))]
  decide
theorem ed_rows {σ : L2.St} {H : Hp} {te : TE} {gs : List Going} (h : EvRows te σ H (gs.map gV)) (ok : ∀ g ∈ gs, OkN g) : EvD K te σ H (.list (gs.map gD)) := fun H1 e Q q => h H1 e Q fun p H2 hp e2 h2 => q _ H2 e2 (dp_tups h2 ok)
theorem er_goings {C : Addr} {ad : Ad} {s : Th} {H : Hp} {σ : L2.St} {ta : TE} {E : XK} (A : At .shelf C ad H s) (h : Ev ta σ H (.ref ad.p)) : EvRows (tMeth C "goings" (spGoings C) [] E ta tNil) σ H (s.went.map gV) := et_goings A h
end

/-! ### k04: the things and their twins -/
def kd3 : Nat → Kd
  | 0 => .shelf
  | 1 => .row
  | _ => .book
def kd6 (i : Nat) : Kd := kd3 (i % 3)
theorem kd6_3 (i : Nat) : kd6 (i + 3) = kd6 i := by
  unfold kd6
  rw [Nat.add_mod_right]
theorem act_ans (k : Kd) (s : Th) (d : Deed) : AnsV (k.act s d).1 := by
  cases d with
  | rest t => exact .inr (.inl ⟨_, rfl⟩)
  | drop n => exact .inr (.inr ⟨_, rfl⟩)
  | ask n c =>
    show AnsV (k.came (k.spend s.next 1) n).1
    generalize k.spend s.next 1 = r
    cases k with
    | book => exact .inr (.inr ⟨_, rfl⟩)
    | shelf =>
      unfold Kd.came
      by_cases h : n ∈ r.st
      · simp only [if_pos h]; exact .inr (.inr ⟨_, rfl⟩)
      · simp only [if_neg h]; exact .inr (.inr ⟨_, rfl⟩)
    | row =>
      unfold Kd.came
      by_cases h : some n ∈ r.laid
      · simp only [if_pos h]; exact .inr (.inl ⟨_, rfl⟩)
      · simp only [if_neg h]; exact .inl rfl
structure Ok4 (ns : List Str) (k : Kd) (s : Th) : Prop where
  wf : WF k s
  pos : Pos1 s
  keys : KeysIn ns s
  log : k = .shelf → OkW ns s
theorem Ok4.act {ns : List Str} {k : Kd} {s : Th} (h : Ok4 ns k s) {d : Deed} (g : d.Good ns) : Ok4 ns k (k.act s d).2 :=
  ⟨h.wf.act g, h.pos.act h.wf g, keysIn_act h.wf h.pos h.keys g, fun e => by
    subst e
    exact okW_act h.wf h.pos (h.log rfl) h.keys g⟩
theorem Ok4.names {ns : List Str} {k : Kd} {s : Th} (h : Ok4 ns k s) {n : Str} (hn : n ∈ k.names s) : n ∈ ns := h.keys n (h.wf.inside n ((sortR_perm _ _).mem_iff.mp hn))
section
variable {K : PySem.W.Frag} {mg : Str → Option Value}
structure HS (T : Tx K mg) (ad : Nat → Ad) (st : Nat → Th) (H : Hp) : Prop where
  at_ : ∀ i, i < 6 → At (kd6 i) (cOf T (kd6 i)) (ad i) H (st i)
  dis : ∀ i j, i < 6 → j < 6 → i ≠ j → ∀ b ∈ own (kd6 i) (ad i), b ∉ own (kd6 j) (ad j)
variable {T : Tx K mg} {ad : Nat → Ad} {st : Nat → Th} {H H' : Hp}
theorem HS.ex (S : HS T ad st H) (e : Ex H H') : HS T ad st H' := ⟨fun i hi => (S.at_ i hi).ex e, S.dis⟩
theorem HS.act (S : HS T ad st H) {i : Nat} (hi : i < 6) {s' : Th} (A : At (kd6 i) (cOf T (kd6 i)) (ad i) H' s') (k : Kp (kd6 i) (ad i) H H') : HS T ad (fun j => if j = i then s' else st j) H' := ⟨fun j hj => by
  by_cases h : j = i
  · subst h
    rw [if_pos rfl]
    exact A
  · rw [if_neg h]
    exact (S.at_ j hj).other (S.at_ i hi) k (S.dis j i hj hi h), S.dis⟩
theorem HS.congr {st' : Nat → Th} (S : HS T ad st H) (h : ∀ i, i < 6 → st i = st' i) : HS T ad st' H := ⟨fun i hi => by rw [← h i hi]; exact S.at_ i hi, S.dis⟩
theorem HS.fresh (S : HS T ad st H) {q : Addr} (h : H q = none) : ∀ i, i < 6 → q ∉ own (kd6 i) (ad i) := fun i hi => own_tracked (S.at_ i hi) h
def L3 (ad : Nat → Ad) (i : Nat) : List V := [.ref (ad i).p, .ref (ad (i + 1)).p, .ref (ad (i + 2)).p]
/-- the lists of the things, where they stand -/
structure St4 (T : Tx K mg) (Hb : Hp) (ad : Nat → Ad) (p q : Addr) (st : Nat → Th) (H : Hp) : Prop where
  ex : Ex Hb H
  l1 : H p = some (.lst (L3 ad 0))
  l2 : H q = some (.lst (L3 ad 3))
  hs : HS T ad st H
structure Off4 (Hb : Hp) (ad : Nat → Ad) (p q : Addr) : Prop where
  off : ∀ i, i < 6 → ∀ x ∈ own (kd6 i) (ad i), Hb x = none
  n1 : ∀ i, i < 6 → p ∉ own (kd6 i) (ad i)
  n2 : ∀ i, i < 6 → q ∉ own (kd6 i) (ad i)
theorem St4.mono {Hb : Hp} {p q : Addr} (S : St4 T Hb ad p q st H) (e : Ex H H') : St4 T Hb ad p q st H' := ⟨S.ex.trans e, e _ _ S.l1, e _ _ S.l2, S.hs.ex e⟩
theorem St4.act {Hb : Hp} {p q : Addr} (S : St4 T Hb ad p q st H) (O : Off4 Hb ad p q) {i : Nat} (hi : i < 6) {s' : Th} (A : At (kd6 i) (cOf T (kd6 i)) (ad i) H' s') (k : Kp (kd6 i) (ad i) H H') : St4 T Hb ad p q (fun j => if j = i then s' else st j) H' :=
  ⟨Ex.kp S.ex (O.off i hi) k, k _ _ S.l1 (O.n1 i hi), k _ _ S.l2 (O.n2 i hi), S.hs.act hi A k⟩
theorem St4.congr {Hb : Hp} {p q : Addr} {st' : Nat → Th} (S : St4 T Hb ad p q st H) (h : ∀ i, i < 6 → st i = st' i) : St4 T Hb ad p q st' H := ⟨S.ex, S.l1, S.l2, S.hs.congr h⟩
theorem St4.things {Hb : Hp} {p q : Addr} (S : St4 T Hb ad p q st H) : Things T H p := ⟨ad 0, ad 1, ad 2, st 0, st 1, st 2, S.l1, S.hs.at_ 0 (by decide), S.hs.at_ 1 (by decide), S.hs.at_ 2 (by decide)⟩
end
section
variable {K : PySem.W.Frag} {σ : L2.St} {H : Hp} {D : Ends} {tu : TS}
theorem s_notSame {a1 b1 a2 b2 : TE} {sp : Sp} {E E2 E3 : XK} {x y : V} {R : V → Hp → Prop} {R2 : V → V → Hp → Prop} (h1 : Ev a1 σ H x) (h2 : Ev b1 σ H y) (h3 : ∀ H1, Ex H H1 → ∀ Q1 : VK, (∀ v H2, R v H2 → Q1 v H2) → sp [x, y] H1 Q1 E2)
    (h4 : ∀ v H2, R v H2 → ∃ z u, Ev a2 σ H2 z ∧ Ev b2 σ H2 u ∧ ∀ H3, Ex H2 H3 → ∀ Q2 : VK, (∀ w H4, R2 v w H4 → Q2 w H4) → sp [z, u] H3 Q2 E3) (h5 : ∀ v w H4, R2 v w H4 → w = v ∧ AnsV v ∧ ∀ H5, Ex H4 H5 → D.nx σ H5) :
    tIfS (tNot (tB (tCall spSame [] E (tCons (tCall sp [] E2 (tCons a1 (tCons b1 tNil))) (tCons (tCall sp [] E3 (tCons a2 (tCons b2 tNil))) tNil))))) tu tNext D σ H :=
  h1 H (Ex.refl H) _ fun H1 e1 => h2 H1 e1 _ fun H2 e2 => h3 H2 (e1.trans e2) _ fun v H3 r => by
    obtain ⟨z, u, g1, g2, g3⟩ := h4 v H3 r
    exact g1 H3 (Ex.refl _) _ fun H4 e4 => g2 H4 e4 _ fun H5 e5 => g3 H5 (e4.trans e5) _ fun w H6 r2 => by
      obtain ⟨rfl, av, k⟩ := h5 v w H6 r2
      exact ⟨w, rfl, av, fun H7 e7 => ⟨true, rfl, k H7 e7⟩⟩
theorem q_asgL3 {t1 t2 t3 : TE} {i : Nat} {tz : TS} (h : t1 σ H fun x H1 => t2 σ H1 fun y H2 => t3 σ H2 fun z H3 => [x, y, z].length ≤ sizeLine ∧ ∀ p, H3 p = none → tz D (σ.set i (some (.ref p))) (upd H3 p (.lst [x, y, z]))) : tSeq (tAsg (tLst (tCons t1 (tCons t2 (tCons t3 tNil)))) (gName i)) tz D σ H := h
theorem ei_zip {a b : Addr} {xs ys : List V} {tr : TA} (h : EvA tr σ H [.ref a, .ref b]) (hx : SqL K H a xs) (hy : SqL K H b ys) (hl : xs.length = ys.length) : EvI (iZip K tr) σ H xs.length (YPair (fun i => xs[i]?) (fun i => ys[i]?)) := fun H1 e R q =>
  h H1 e _ fun H2 e2 => ⟨a, b, xs, ys, rfl, ex_l (e.trans e2) hx, ex_l (e.trans e2) hy, q _ H2 e2 ((walk_zip (n := xs.length) (by omega)).mono (fun H3 e3 => ⟨ex_l ((e.trans e2).trans e3) hx, ex_l ((e.trans e2).trans e3) hy⟩) fun _ _ _ _ _ _ y => y)⟩
end
section
variable {P : Program} {w : World} {K : PySem.W.Frag} {mg : Str → Option Value} {base : Heap}
def spTwins (T : Tx K mg) : Sp := fun vs H Q _ => ∃ (k : Kd) (a b : Ad) (s : Th) (na : Addr) (ns : List Str), vs = [.ref a.p, .ref b.p, .ref na] ∧ At k (cOf T k) a H s ∧ At k (cOf T k) b H s ∧ Ok4 ns k s ∧ s.deed ≤ 1000 ∧ (∀ n ∈ ns, GoodName n) ∧ H na = some (.lst (ns.map V.str)) ∧ RetV (.bl true) H Q
theorem sv_twins {T : Tx K mg} {H : Hp} {k : Kd} {a b : Ad} {s : Th} {na : Addr} {ns : List Str} (A : At k (cOf T k) a H s) (B : At k (cOf T k) b H s) (h : Ok4 ns k s) (hd : s.deed ≤ 1000) (hg : ∀ n ∈ ns, GoodName n) (hna : H na = some (.lst (ns.map V.str))) : SpV (spTwins T) [.ref a.p, .ref b.p, .ref na] H (.bl true) :=
  spv_of fun H1 Q E e q => ⟨k, a, b, s, na, ns, rfl, A.ex e, B.ex e, h, hd, hg, e _ _ hna, q⟩
theorem ok_l_twins (T : Tx K mg) : FnOk P w K mg base CX0 8 T.f_l_twins T.fd_l_twins P_l_twins (spTwins T) := by
  refine T.F_l_twins.ok sc_l_twins (fun vs H Q E h => ?_) (fun cdv A outer s H vs Q E hr h => ?_)
  · obtain ⟨_, _, _, _, _, _, rfl, _⟩ := h
    rfl
  · obtain ⟨k, a, b, s, na, ns, rfl, A, B, ok, hd, hg, hna, kk⟩ := h
    have U := uOf (P := P) (w := w) (base := base) T k
    have G_names := ok_Book_names T U
    have G_time_now := ok_Book_time_now (P := P) (w := w) (base := base) (k := k) T U.toCl0
    have G_deeds_done := ok_Book_deeds_done (P := P) (w := w) (base := base) (k := k) T U.toCl0
    have G_count_of := ok_Book_count_of (P := P) (w := w) (base := base) (k := k) T U.toCl0
    have G_last_of := ok_Book_last_of (P := P) (w := w) (base := base) (k := k) T U.toCl0
    have b_names := T.b_Book_names
    have b_time_now := T.b_Book_time_now
    have b_deeds_done := T.b_Book_deeds_done
    have b_count_of := T.b_Book_count_of
    have b_last_of := T.b_Book_last_of
    refine ⟨_, (pss_cons (ps_if (PW.pt (pw_or (pt_cmpR (op_neD hr.units) (pe_meth0 (pv 0) U.cl U.m_names G_names (hr.mono (by decide)) b_names .nil pass0) (pe_meth0 (pv 1) U.cl U.m_names G_names (hr.mono (by decide)) b_names .nil pass0) (nomark _)) (pw_or (pt_cmpR op_ne (pe_meth0 (pv 0) U.cl U.m_time_now G_time_now (hr.mono (by decide)) b_time_now .nil pass0) (pe_meth0 (pv 1) U.cl U.m_time_now G_time_now (hr.mono (by decide)) b_time_now .nil pass0) (nomark _)) (pw_or1 (pt_cmpR op_ne (pe_meth0 (pv 0) U.cl U.m_deeds_done G_deeds_done (hr.mono (by decide)) b_deeds_done .nil pass0) (pe_meth0 (pv 1) U.cl U.m_deeds_done G_deeds_done (hr.mono (by decide)) b_deeds_done .nil pass0) (nomark _)))))) (pss_one (ps_ret pe_bl)) pss_nil)
      (pss_cons (ps_for PassesOwn.never rfl (pi_list (pv 2)) (pg_name (i := 3) sc_l_twins.nd rfl (Or.inl rfl)) (pss_one (ps_if (PW.pt (pw_or (pt_cmpR op_ne (pe_meth (pv 0) U.cl U.m_count_of G_count_of (hr.mono (by decide)) b_count_of .nil pass0 (pa_cons (pv 3) pa_nil)) (pe_meth (pv 1) U.cl U.m_count_of G_count_of (hr.mono (by decide)) b_count_of .nil pass0 (pa_cons (pv 3) pa_nil)) (nomark _)) (pw_or1 (pt_cmpR op_ne (pe_meth (pv 0) U.cl U.m_last_of G_last_of (hr.mono (by decide)) b_last_of .nil pass0 (pa_cons (pv 3) pa_nil)) (pe_meth (pv 1) U.cl U.m_last_of G_last_of (hr.mono (by decide)) b_last_of .nil pass0 (pa_cons (pv 3) pa_nil)) (nomark _))))) (pss_one (ps_ret pe_bl)) pss_nil)))
      (pss_one (ps_ret pe_bl)))), ?_⟩
    rw [show L2.start N_l_twins [V.ref a.p, V.ref b.p, V.ref na] = [some (V.ref a.p), some (V.ref b.p), some (V.ref na), none] from rfl]
    have fl : ∀ x ∈ (k.names s).map V.str, FlatV x := flat_names fun n hn => hg n (ok.names hn)
    refine q_when (b := false) (et_is (et_or (a := false) (b := false) (et_is (et_test (ev_neD (ed_L (el_names A ok.wf hd (ev_var rfl)) fl) (ed_L (el_names B ok.wf hd (ev_var rfl)) fl) (shaped_list fl))) rfl) fun _ => et_or (a := false) (b := false) (et_is (et_test (ev_op (ev_time A (ev_var rfl)) (ev_time B (ev_var rfl)) (rv_ne rfl))) (by rw [decide_eq_true rfl]; rfl)) fun _ => et_is (et_test (ev_op (ev_deeds A (ev_var rfl)) (ev_deeds B (ev_var rfl)) (rv_ne rfl))) (by rw [decide_eq_true rfl]; rfl)) rfl) (fun hb => nomatch hb) (fun _ H1 e1 => ?_)
    refine q_forLn (a := na) (xs := ns.map V.str) (ev_var rfl) (SqL.of (e1 _ _ hna)) (fun _ σ' H' => ∃ x3, σ' = [some (V.ref a.p), some (V.ref b.p), some (V.ref na), x3] ∧ Ex H1 H') (fun H2 e2 => ⟨_, rfl, e2⟩) (fun j σ' H' _ h => by obtain ⟨_, _, e⟩ := h; exact SqL.of (e _ _ (e1 _ _ hna))) ?_ ?_
    · rintro j x σ' H2 hx ⟨x3, rfl, e2⟩
      dsimp only [List.set]
      rw [List.getElem?_map] at hx
      obtain ⟨n, hn, rfl⟩ := Option.map_eq_some_iff.mp hx
      have hmem := List.mem_of_getElem? hn
      have A2 := A.ex (e1.trans e2)
      have B2 := B.ex (e1.trans e2)
      have sc : scal (lastV s.es n) (lastV s.es n) = true := by
        unfold lastV lastO
        cases look s.es n <;> rfl
      exact s_when (b := false) (et_is (et_or (a := false) (b := false) (et_is (et_test (ev_op (ev_count A2 (hg n hmem) (ev_var rfl) (ev_var rfl)) (ev_count B2 (hg n hmem) (ev_var rfl) (ev_var rfl)) (rv_ne rfl))) (by rw [decide_eq_true rfl]; rfl)) fun _ => et_is (et_test (ev_op (ev_last A2 (hg n hmem) (ev_var rfl) (ev_var rfl)) (ev_last B2 (hg n hmem) (ev_var rfl) (ev_var rfl)) (rv_ne sc))) (by rw [decide_eq_true rfl]; rfl)) rfl) (fun hb => nomatch hb) (fun _ H3 e3 => ⟨_, rfl, e2.trans e3⟩)
    · rintro σ' H2 ⟨x3, rfl, e2⟩
      exact s_ret ev_c fun H3 e3 => kk H3 ((e1.trans e2).trans e3)
end

end Own
namespace Own
open PySem L2 PyProof.Rows Evl OwnS
/-- a condition of arithmetic -/
local macro_rules | `(tactic| walk_at "side") => `(tactic| first
  | assumption
  | (show _ ∧ _; omega)
  | (apply pos9 <;> omega)
  | (show (0 : Int) < _; omega)
  | (show _ ∨ _; omega)
  | decide
  | omega)
local macro_rules | `(tactic| walk_at "fn") => `(tactic| fail "no fn")
local macro_rules | `(tactic| walk_at "ev") => `(tactic| first
  | ((with_reducible apply ev_var) ; exact rfl)
  | with_reducible exact ev_c
  | ((with_reducible apply ev_op) <;> walk_at "ev")
  | with_reducible exact rv_I0
  | ((with_reducible apply rv_I) ; walk_at "side")
  | ((with_reducible apply rv_eq) ; rfl)
  | ((with_reducible apply rv_ne) ; rfl)
  | ((with_reducible apply ev_isInt) ; walk_at "ev")
  | ((with_reducible apply ev_isBoolI) ; walk_at "ev")
  | ((with_reducible apply ev_isIntB) ; walk_at "ev")
  | ((with_reducible apply ev_isBoolB) ; walk_at "ev")
  | ((with_reducible apply ev_notV) ; walk_at "ev")
  | ((with_reducible apply et_test) ; walk_at "ev")
  | ((with_reducible apply et_B) ; walk_at "ev")
  | ((with_reducible apply et_not) ; walk_at "ev")
  | with_reducible exact ea_nil
  | ((with_reducible apply ea_cons) <;> walk_at "ev")
  | ((with_reducible apply ev_call0) <;> walk_at "ev")
  | ((with_reducible show SpV _ _ _ _); walk_at "fn"))

def cellAt (ns : List Int) (k : Nat) : Int := ns.getD k 0
section
variable {P : Program} {w : World} {K : PySem.W.Frag} {mg : Str → Option Value} {base : Heap}
def spCell (K : PySem.W.Frag) : Sp := fun vs H Q _ => ∃ (a : Addr) (ns : List Int) (k : Nat), vs = [.ref a, .int k] ∧ SqL K H a (ns.map V.int) ∧ ns.length ≤ 63 ∧ RetV (.int (cellAt ns k)) H Q
theorem sv_cell {H : Hp} {a : Addr} {ns : List Int} {k : Nat} (h : SqL K H a (ns.map V.int)) (hl : ns.length ≤ 63) : SpV (spCell K) [.ref a, .int k] H (.int (cellAt ns k)) := spv_of fun H1 Q E e q => ⟨_, _, _, rfl, ex_l e h, hl, q⟩
theorem ok_l_cell_at (T : Tx K mg) : FnOk P w K mg base CX0 1 T.f_l_cell_at T.fd_l_cell_at P_l_cell_at (spCell K) := by
  refine T.F_l_cell_at.ok sc_l_cell_at (fun vs H Q E h => ?_) (fun cdv A outer s H vs Q E hr h => ?_)
  · obtain ⟨a, b, c, rfl, _⟩ := h
    rfl
  · obtain ⟨a, ns, c, rfl, hS, hl, k⟩ := h
    refine ⟨_, (pss_cons (ps_if (pt_cmpR op_lt (pv 1) (pe_callB call_len_seq (by rfl) T.n_len PySem.boot_len (pa_cons (pv 0) pa_nil)) (nomark _)) (pss_one (ps_ret (pe_ix ix_list (pv 0) (pv 1) (fun _ _ => rfl)))) pss_nil)
      (pss_one (ps_ret pe_int))), ?_⟩
    refine q_when (et_test (ev_op (ev_var rfl) (ev_len (ev_var rfl) hS) rv_I0)) (fun hb H1 e => ?_) (fun hb H1 e => ?_)
    · have hb := of_decide_eq_true hb
      rw [List.length_map] at hb
      refine s_ret (ev_op (ev_var rfl) (ev_var rfl) (rv_ixL (ex_l e hS) (at_of rfl (v := .int (cellAt ns c)) ?_))) fun H2 e2 => k H2 (e.trans e2)
      unfold cellAt
      rw [List.getElem?_map, List.getElem?_eq_getElem (by omega), List.getD_eq_getElem?_getD, List.getElem?_eq_getElem (by omega)]
      rfl
    · have hb := of_decide_eq_false hb
      rw [List.length_map] at hb
      have e0 : cellAt ns c = 0 := by
        unfold cellAt
        rw [List.getD_eq_getElem?_getD, List.getElem?_eq_none (by omega)]
        rfl
      rw [e0] at k
      exact s_ret ev_c fun H2 e2 => k H2 (e.trans e2)
end

/-! ### k04: the law -/
local macro_rules | `(tactic| walk_at "side") => `(tactic| first | (apply mul_l <;> omega) | (apply mul_s <;> omega))
section
variable {P : Program} {w : World} {K : PySem.W.Frag} {mg : Str → Option Value} {base : Heap}
theorem l3_at {ad : Nat → Ad} {u : Nat} {x y : V} (hx : (L3 ad 0)[u]? = some x) (hy : (L3 ad 3)[u]? = some y) : u < 3 ∧ x = .ref (ad u).p ∧ y = .ref (ad (u + 3)).p := by
  have hu : u < 3 := (List.getElem?_eq_some_iff.mp hx).1
  obtain rfl | rfl | rfl : u = 0 ∨ u = 1 ∨ u = 2 := by omega
  · have h1 : some (V.ref (ad 0).p) = some x := hx
    have h2 : some (V.ref (ad 3).p) = some y := hy
    exact ⟨hu, (Option.some.inj h1).symm, (Option.some.inj h2).symm⟩
  · have h1 : some (V.ref (ad 1).p) = some x := hx
    have h2 : some (V.ref (ad 4).p) = some y := hy
    exact ⟨hu, (Option.some.inj h1).symm, (Option.some.inj h2).symm⟩
  · have h1 : some (V.ref (ad 2).p) = some x := hx
    have h2 : some (V.ref (ad 5).p) = some y := hy
    exact ⟨hu, (Option.some.inj h1).symm, (Option.some.inj h2).symm⟩
theorem hs_dis {ad : Nat → Ad} (h : ∀ i j, j < i → i < 6 → ∀ b ∈ own (kd6 i) (ad i), b ∉ own (kd6 j) (ad j)) : ∀ i j, i < 6 → j < 6 → i ≠ j → ∀ b ∈ own (kd6 i) (ad i), b ∉ own (kd6 j) (ad j) := fun i j hi hj hne b hb q => by
  rcases Nat.lt_or_gt_of_ne hne with h' | h'
  · exact h j i h' hj b q hb
  · exact h i j h' hi b hb q
theorem ok_law (T : Tx K mg) : FnOk P w K mg base CX0 14 T.f_law T.fd_law P_law (spLaw K) := by
  refine T.F_law.ok sc_law (fun vs H Q E h => ?_) (fun cdv A outer s H vs Q E hr h => ?_)
  · obtain ⟨a, ns, rfl, _⟩ := h
    rfl
  · obtain ⟨a, cs, rfl, hS, hl, kk⟩ := h
    have hu := hu_of hr
    have S := uShelf (P := P) (w := w) (base := base) T
    have R := uRow (P := P) (w := w) (base := base) T
    have BK := (uBook (P := P) (w := w) (base := base) T).toCl0
    have G_S_goings := ok_Shelf_goings (P := P) (w := w) (base := base) T
    have b_S_goings := T.b_Shelf_goings
    have G_R_spots := ok_Row_spots (P := P) (w := w) (base := base) T
    have b_R_spots := T.b_Row_spots
    have G_R_met_by := ok_Row_met_by (P := P) (w := w) (base := base) T
    have b_R_met_by := T.b_Row_met_by
    refine ⟨_, (pss_cons (ps_set (i := 1) sc_law.nd rfl (Or.inr rfl) (pe_call (ok_l_names T) (hr.mono (by decide)) rfl T.mg_l_names T.F_l_names.kp T.b_l_names .nil pass0 (pa_cons (pe_call (ok_l_cell_at T) (hr.mono (by decide)) rfl T.mg_l_cell_at T.F_l_cell_at.kp T.b_l_cell_at .nil pass0 (pa_cons (pv 0) (pa_cons pe_int pa_nil))) (pa_cons (pe_op op_add pe_int (pe_op op_mod (pe_call (ok_l_cell_at T) (hr.mono (by decide)) rfl T.mg_l_cell_at T.F_l_cell_at.kp T.b_l_cell_at .nil pass0 (pa_cons (pv 0) (pa_cons pe_int pa_nil))) pe_int)) pa_nil))))
      (pss_cons (ps_set (i := 2) sc_law.nd rfl (Or.inl rfl) (pe_call (ok_l_span T) (hr.mono (by decide)) rfl T.mg_l_span T.F_l_span.kp T.b_l_span .nil pass0 (pa_cons (pe_call (ok_l_cell_at T) (hr.mono (by decide)) rfl T.mg_l_cell_at T.F_l_cell_at.kp T.b_l_cell_at .nil pass0 (pa_cons (pv 0) (pa_cons pe_int pa_nil))) pa_nil)))
      (pss_cons (ps_set (i := 3) sc_law.nd rfl (Or.inl rfl) (pe_call (ok_l_part T) (hr.mono (by decide)) rfl T.mg_l_part T.F_l_part.kp T.b_l_part .nil pass0 (pa_cons (pe_op op_fdivW (pe_call (ok_l_cell_at T) (hr.mono (by decide)) rfl T.mg_l_cell_at T.F_l_cell_at.kp T.b_l_cell_at .nil pass0 (pa_cons (pv 0) (pa_cons pe_int pa_nil))) pe_int) pa_nil)))
      (pss_cons (ps_set (i := 4) sc_law.nd rfl (Or.inl rfl) (pe_op op_mod (pe_call (ok_l_cell_at T) (hr.mono (by decide)) rfl T.mg_l_cell_at T.F_l_cell_at.kp T.b_l_cell_at .nil pass0 (pa_cons (pv 0) (pa_cons pe_int pa_nil))) pe_int))
      (pss_cons (ps_set (i := 5) sc_law.nd rfl (Or.inl rfl) (pe_op op_add pe_int (pe_op op_mod (pe_call (ok_l_cell_at T) (hr.mono (by decide)) rfl T.mg_l_cell_at T.F_l_cell_at.kp T.b_l_cell_at .nil pass0 (pa_cons (pv 0) (pa_cons pe_int pa_nil))) pe_int)))
      (pss_cons (ps_set (i := 6) sc_law.nd rfl (Or.inl rfl) (pe_lst (pa_cons (pe_make T.M_Shelf (ok_Shelf_init T) (hr.mono (by decide)) rfl T.mgC_Shelf T.b_Shelf_init .nil pass0 (pa_cons (pv 5) (pa_cons (pv 2) (pa_cons (pv 3) pa_nil)))) (pa_cons (pe_make T.M_Row (ok_Row_init T) (hr.mono (by decide)) rfl T.mgC_Row T.b_Row_init .nil pass0 (pa_cons (pv 2) (pa_cons (pv 3) pa_nil))) (pa_cons (pe_make T.M_Book (ok_Book_init T BK) (hr.mono (by decide)) rfl T.mgC_Book T.b_Book_init .nil pass0 (pa_cons (pv 2) (pa_cons (pv 3) pa_nil))) pa_nil)))))
      (pss_cons (ps_set (i := 7) sc_law.nd rfl (Or.inl rfl) (pe_lst (pa_cons (pe_make T.M_Shelf (ok_Shelf_init T) (hr.mono (by decide)) rfl T.mgC_Shelf T.b_Shelf_init .nil pass0 (pa_cons (pv 5) (pa_cons (pv 2) (pa_cons (pv 3) pa_nil)))) (pa_cons (pe_make T.M_Row (ok_Row_init T) (hr.mono (by decide)) rfl T.mgC_Row T.b_Row_init .nil pass0 (pa_cons (pv 2) (pa_cons (pv 3) pa_nil))) (pa_cons (pe_make T.M_Book (ok_Book_init T BK) (hr.mono (by decide)) rfl T.mgC_Book T.b_Book_init .nil pass0 (pa_cons (pv 2) (pa_cons (pv 3) pa_nil))) pa_nil)))))
      (pss_cons (ps_for PassesOwn.never rfl (pi_enum (by rfl) T.n_enumerate (pa_cons (pe_slice sl_list (pv 0) (po_some pe_int) po_none) pa_nil)) (pg_tup (by rfl) (pgs_cons (pg_name (i := 8) sc_law.nd rfl (Or.inl rfl)) (pgs_cons (pg_name (i := 9) sc_law.nd rfl (Or.inl rfl)) pgs_nil))) (pss_cons (ps_set (i := 10) sc_law.nd rfl (Or.inl rfl) (pe_op op_mod (pe_op op_mod (pe_op op_add (pe_op op_add (pe_op op_mul (pv 9) pe_int) (pe_op op_mul (pv 8) pe_int)) pe_int) pe_int) pe_int))
      (pss_cons (ps_set (i := 11) sc_law.nd rfl (Or.inl rfl) (pe_ix ix_list (pv 1) (pe_op op_mod (pv 8) (pe_callB call_len_seq (by rfl) T.n_len PySem.boot_len (pa_cons (pv 1) pa_nil))) (fun _ _ => rfl)))
      (pss_cons (ps_if (PW.pt (pw_and (pt_cmpR op_eq (pe_op op_mod (pe_op op_fdivW (pv 9) pe_int) pe_int) pe_int (nomark _)) (pw_and1 (pt_not (pt_val (pe_call (ok_l_by_base T) (hr.mono (by decide)) rfl T.mg_l_by_base T.F_l_by_base.kp T.b_l_by_base .nil pass0 (pa_cons (pv 10) (pa_cons (pv 6) (pa_cons (pv 11) (pa_cons (pv 9) pa_nil)))))))))) (pss_one (ps_ret pe_bl)) pss_nil)
      (pss_cons (ps_if (PW.pt (pw_and (pt_cmpR op_eq (pe_op op_mod (pe_op op_fdivW (pv 9) pe_int) pe_int) pe_int (nomark _)) (pw_and1 (pt_not (pt_val (pe_call (ok_l_by_name T) (hr.mono (by decide)) rfl T.mg_l_by_name T.F_l_by_name.kp T.b_l_by_name .nil pass0 (pa_cons (pv 10) (pa_cons (pv 6) (pa_cons (pv 11) (pa_cons (pv 9) pa_nil)))))))))) (pss_one (ps_ret pe_bl)) pss_nil)
      (pss_cons (ps_set (i := 12) sc_law.nd rfl (Or.inl rfl) (pe_call (ok_l_deed T) (hr.mono (by decide)) rfl T.mg_l_deed T.F_l_deed.kp T.b_l_deed .nil pass0 (pa_cons (pv 9) (pa_cons (pv 8) (pa_cons (pv 1) (pa_cons (pv 2) (pa_cons (pv 4) pa_nil)))))))
      (pss_one (ps_for PassesOwn.never rfl (pi_zip (by rfl) T.n_zip (pa_cons (pv 6) (pa_cons (pv 7) pa_nil))) (pg_tup (by rfl) (pgs_cons (pg_name (i := 13) sc_law.nd rfl (Or.inl rfl)) (pgs_cons (pg_name (i := 14) sc_law.nd rfl (Or.inl rfl)) pgs_nil))) (pss_one (ps_if (pt_not (pt_val (pe_call (ok_l_same T) (hr.mono (by decide)) rfl T.mg_l_same T.F_l_same.kp T.b_l_same .nil pass0 (pa_cons (pe_call (okA_l_do T) (hr.mono (by decide)) rfl T.mg_l_do T.F_l_do.kp T.b_l_do .nil pass0 (pa_cons (pv 13) (pa_cons (pv 12) pa_nil))) (pa_cons (pe_call (okA_l_do T) (hr.mono (by decide)) rfl T.mg_l_do T.F_l_do.kp T.b_l_do .nil pass0 (pa_cons (pv 14) (pa_cons (pv 12) pa_nil))) pa_nil))))) (pss_one (ps_ret pe_bl)) pss_nil))))))))))
      (pss_cons (ps_if (PW.pt (pw_or (pt_not (pt_val (pe_callB call_isi (by rfl) T.n_isinstance (by decide +kernel) (pa_cons (pe_ix ix_list (pv 6) pe_int (fun _ _ => rfl)) (pa_cons (pe_glob (v := .ref T.C_Book) rfl T.mgC_Book rfl) pa_nil))))) (pw_or1 (pt_not (pt_val (pe_callB call_isi (by rfl) T.n_isinstance (by decide +kernel) (pa_cons (pe_ix ix_list (pv 6) pe_int (fun _ _ => rfl)) (pa_cons (pe_glob (v := .ref T.C_Book) rfl T.mgC_Book rfl) pa_nil)))))))) (pss_one (ps_ret pe_bl)) pss_nil)
      (pss_cons (ps_if (PW.pt (pw_or (pt_cmpR (op_neD hr.units) (pe_meth0 (pe_ix ix_list (pv 6) pe_int (fun _ _ => rfl)) S.cl T.m_Shelf_goings G_S_goings (hr.mono (by decide)) b_S_goings .nil pass0) (pe_meth0 (pe_ix ix_list (pv 7) pe_int (fun _ _ => rfl)) S.cl T.m_Shelf_goings G_S_goings (hr.mono (by decide)) b_S_goings .nil pass0) (nomark _)) (pw_or1 (pt_cmpR (op_neD hr.units) (pe_meth0 (pe_ix ix_list (pv 6) pe_int (fun _ _ => rfl)) R.cl T.m_Row_spots G_R_spots (hr.mono (by decide)) b_R_spots .nil pass0) (pe_meth0 (pe_ix ix_list (pv 7) pe_int (fun _ _ => rfl)) R.cl T.m_Row_spots G_R_spots (hr.mono (by decide)) b_R_spots .nil pass0) (nomark _))))) (pss_one (ps_ret pe_bl)) pss_nil)
      (pss_cons (ps_if (pt_cmpR op_ne (pe_meth (pe_ix ix_list (pv 6) pe_int (fun _ _ => rfl)) R.cl T.m_Row_met_by G_R_met_by (hr.mono (by decide)) b_R_met_by .nil pass0 (pa_cons pe_int pa_nil)) (pe_meth (pe_ix ix_list (pv 7) pe_int (fun _ _ => rfl)) R.cl T.m_Row_met_by G_R_met_by (hr.mono (by decide)) b_R_met_by .nil pass0 (pa_cons pe_int pa_nil)) (nomark _)) (pss_one (ps_ret pe_bl)) pss_nil)
      (pss_one (ps_ret (pe_callB (cr_all rfl) (by rfl) T.n_all (by decide +kernel) (pa_cons (pe_lc (own := [("_law_twin", 14), ("_law_thing", 13)]) (g := (gTup K 2 (gCons (gName 13) (gCons (gName 14) gNil)))) (by rfl) sc_law.nd (pi_zip (by rfl) T.n_zip (pa_cons (pv 6) (pa_cons (pv 7) pa_nil))) (blkOk_by (own := [("_law_twin", 14), ("_law_thing", 13)]) (N := N_law) (sc := defScope s_law) (by decide +kernel)) (fun _ _ _ _ _ => (pg_tup (by rfl) (pgs_cons (pg_name (i := 13) sc_law.nd rfl (Or.inl rfl)) (pgs_cons (pg_name (i := 14) sc_law.nd rfl (Or.inl rfl)) pgs_nil)))) (fun _ _ _ _ _ => pts_nil) (fun _ _ _ _ _ => (pe_call (ok_l_twins T) (hr.mono (by decide)) rfl T.mg_l_twins T.F_l_twins.kp T.b_l_twins .nil pass0 (pa_cons (pv 13) (pa_cons (pv 14) (pa_cons (pv 1) pa_nil)))))) pa_nil))))))))))))))), ?_⟩
    rw [show L2.start N_law [V.ref a] = [some (V.ref a), none, none, none, none, none, none, none, none, none, none, none, none, none, none] from rfl]
    have cell : ∀ (i : Nat) {σ' H'} , Ex H H' → σ'[0]? = some (some (.ref a)) → Ev (tCall (spCell K) [] E0 (tCons (tVar 0) (tCons (tC (.int i)) tNil))) σ' H' (.int (cellAt cs i)) := fun i σ' H' e h0 =>
      ev_call0 (vs := [.ref a, .int i]) (ea_cons (ev_var h0) (ea_cons ev_c ea_nil)) (sv_cell (ex_l e hS) hl)
    have m0 : 0 ≤ cellAt cs 1 % 8 := Int.emod_nonneg _ (by decide)
    have m1 : cellAt cs 1 % 8 < 8 := Int.emod_lt_of_pos _ (by decide)
    refine q_asgLP (P := fun ys _ => ∃ ns, ys = ns.map V.str ∧ Names ns (1 + cellAt cs 1 % 8).toNat) (fun H1 e1 Q q => ev_callR (vs := [.int (cellAt cs 0), .int (1 + cellAt cs 1 % 8)]) (dvs := []) (ea_cons (cell 0 e1 rfl) (ea_cons (ev_op ev_c (ev_op (cell 1 e1 rfl) ev_c (rv_I (by decide))) rv_I0) ea_nil)) fun H2 e2 => ⟨_, _, rfl, by omega, by omega, fun ns hN p H3 hp e3 h3 => q p _ H3 (fresh_back e2 hp) (e2.trans e3) h3 ⟨ns, rfl, hN⟩⟩) ?_
    rintro na _ H1 hna0 e1 hna ⟨ns, rfl, hN⟩
    dsimp only [List.set]
    refine q_asgP (ev_callP (vs := [.int (cellAt cs 2)]) (ea_cons (cell 2 e1 rfl) ea_nil) sp_in) ?_
    rintro _ H3 e3 ⟨span, rfl, s1, s2⟩
    dsimp only [List.set]
    have E3 := e1.trans e3
    refine q_asgP (ev_callP (vs := [.int (cellAt cs 3 / 3)]) (ea_cons (ev_op (cell 3 E3 rfl) ev_c (rv_I (by walk_at "side"))) ea_nil) sp_in) ?_
    rintro _ H4 e4 ⟨part, rfl, p1, p2⟩
    dsimp only [List.set]
    have E4 := E3.trans e4
    have RU : Rule span part := ⟨s1, s2, p1, p2⟩
    refine q_asgZ (n := cellAt cs 3 % 3) (ev_op (cell 3 E4 rfl) ev_c (rv_I (by decide))) fun H5 e5 light hlight => ?_
    dsimp only [List.set]
    have l0 : 0 ≤ light := by rw [hlight]; exact Int.emod_nonneg _ (by decide)
    have l1 : light < 3 := by rw [hlight]; exact Int.emod_lt_of_pos _ (by decide)
    clear hlight
    have E5 := E4.trans e5
    refine q_asgZ (n := 1 + cellAt cs 4 % 6) (ev_op ev_c (ev_op (cell 4 E5 rfl) ev_c (rv_I (by decide))) rv_I0) fun H6 e6 pl hpl => ?_
    dsimp only [List.set]
    have pl0 : 1 ≤ pl ∧ pl ≤ 1000 := by
      have h0 := Int.emod_nonneg (cellAt cs 4) (show (6 : Int) ≠ 0 by decide)
      have h1 := Int.emod_lt_of_pos (cellAt cs 4) (show (0 : Int) < 6 by decide)
      omega
    clear hpl
    have E6 := E5.trans e6
    have hna6 := e6 _ _ (e5 _ _ (e4 _ _ (e3 _ _ hna)))
    have hlen := hN.len
    -- the things
    refine q_asgL3 (newShelf (T := T) (ea_cons (ev_var rfl) (ea_cons (ev_var rfl) (ea_cons (ev_var rfl) ea_nil))) pl0.1 pl0.2 s1 s2 p1 p2 fun a0 H7 e7 f0 A0 => newRow (T := T) (ea_cons (ev_var rfl) (ea_cons (ev_var rfl) ea_nil)) s1 s2 p1 p2 fun a1 H8 e8 f1 A1 => newBook (T := T) (ea_cons (ev_var rfl) (ea_cons (ev_var rfl) ea_nil)) s1 s2 p1 p2 fun a2 H9 e9 f2 A2 => ⟨sz_of (by simp), fun p hp0 => ?_⟩)
    dsimp only [List.set]
    have e10 : Ex H9 (upd H9 p (.lst [.ref a0.p, .ref a1.p, .ref a2.p])) := Ex.new hp0
    have h10 : (upd H9 p (.lst [.ref a0.p, .ref a1.p, .ref a2.p])) p = some (.lst [.ref a0.p, .ref a1.p, .ref a2.p]) := upd_same
    generalize upd H9 p (.lst [.ref a0.p, .ref a1.p, .ref a2.p]) = H10 at e10 h10 ⊢
    refine q_asgL3 (newShelf (T := T) (ea_cons (ev_var rfl) (ea_cons (ev_var rfl) (ea_cons (ev_var rfl) ea_nil))) pl0.1 pl0.2 s1 s2 p1 p2 fun a3 H11 e11 f3 A3 => newRow (T := T) (ea_cons (ev_var rfl) (ea_cons (ev_var rfl) ea_nil)) s1 s2 p1 p2 fun a4 H12 e12 f4 A4 => newBook (T := T) (ea_cons (ev_var rfl) (ea_cons (ev_var rfl) ea_nil)) s1 s2 p1 p2 fun a5 H13 e13 f5 A5 => ⟨sz_of (by simp), fun q hq0 => ?_⟩)
    dsimp only [List.set]
    have e14 : Ex H13 (upd H13 q (.lst [.ref a3.p, .ref a4.p, .ref a5.p])) := Ex.new hq0
    have h14 : (upd H13 q (.lst [.ref a3.p, .ref a4.p, .ref a5.p])) q = some (.lst [.ref a3.p, .ref a4.p, .ref a5.p]) := upd_same
    generalize upd H13 q (.lst [.ref a3.p, .ref a4.p, .ref a5.p]) = H14 at e14 h14 ⊢
    obtain ⟨ad, d0, d1, d2, d3, d4, d5⟩ : ∃ ad : Nat → Ad, ad 0 = a0 ∧ ad 1 = a1 ∧ ad 2 = a2 ∧ ad 3 = a3 ∧ ad 4 = a4 ∧ ad 5 = a5 := ⟨fun i => match i with | 0 => a0 | 1 => a1 | 2 => a2 | 3 => a3 | 4 => a4 | _ => a5, rfl, rfl, rfl, rfl, rfl, rfl⟩
    subst d0 d1 d2 d3 d4 d5
    obtain ⟨s0, hs00, hs01, hs02⟩ : ∃ s0 : Nat → Th, s0 0 = th0 span part pl ∧ s0 1 = th0 span part 0 ∧ s0 2 = th0 span part 0 := ⟨fun i => match i with | 0 => th0 span part pl | _ => th0 span part 0, rfl, rfl, rfl⟩
    rw [← hs00] at A0 A3
    rw [← hs01] at A1 A4
    rw [← hs02] at A2 A5
    have E10_13 := (e11.trans e12).trans e13
    have HS0 : HS T ad (fun i => s0 (i % 3)) H14 := by
      refine ⟨fun i hi => ?_, hs_dis fun i j hji hi b hb => ?_⟩
      · obtain rfl | rfl | rfl | rfl | rfl | rfl : i = 0 ∨ i = 1 ∨ i = 2 ∨ i = 3 ∨ i = 4 ∨ i = 5 := by omega
        · exact A0.ex ((((e8.trans e9).trans e10).trans E10_13).trans e14)
        · exact A1.ex (((e9.trans e10).trans E10_13).trans e14)
        · exact A2.ex ((e10.trans E10_13).trans e14)
        · exact A3.ex ((e12.trans e13).trans e14)
        · exact A4.ex (e13.trans e14)
        · exact A5.ex e14
      · have h1 : (i = 1 ∧ j = 0) ∨ (i = 2 ∧ j = 0) ∨ (i = 2 ∧ j = 1) ∨ (i = 3 ∧ j = 0) ∨ (i = 3 ∧ j = 1) ∨ (i = 3 ∧ j = 2) ∨ (i = 4 ∧ j = 0) ∨ (i = 4 ∧ j = 1) ∨ (i = 4 ∧ j = 2) ∨ (i = 4 ∧ j = 3) ∨ (i = 5 ∧ j = 0) ∨ (i = 5 ∧ j = 1) ∨ (i = 5 ∧ j = 2) ∨ (i = 5 ∧ j = 3) ∨ (i = 5 ∧ j = 4) := by omega
        rcases h1 with ⟨rfl, rfl⟩ | ⟨rfl, rfl⟩ | ⟨rfl, rfl⟩ | ⟨rfl, rfl⟩ | ⟨rfl, rfl⟩ | ⟨rfl, rfl⟩ | ⟨rfl, rfl⟩ | ⟨rfl, rfl⟩ | ⟨rfl, rfl⟩ | ⟨rfl, rfl⟩ | ⟨rfl, rfl⟩ | ⟨rfl, rfl⟩ | ⟨rfl, rfl⟩ | ⟨rfl, rfl⟩ | ⟨rfl, rfl⟩
        · exact own_tracked A0 (f1 b hb)
        · exact own_tracked (A0.ex e8) (f2 b hb)
        · exact own_tracked A1 (f2 b hb)
        · exact own_tracked (A0.ex ((e8.trans e9).trans e10)) (f3 b hb)
        · exact own_tracked (A1.ex (e9.trans e10)) (f3 b hb)
        · exact own_tracked (A2.ex e10) (f3 b hb)
        · exact own_tracked (A0.ex (((e8.trans e9).trans e10).trans e11)) (f4 b hb)
        · exact own_tracked (A1.ex ((e9.trans e10).trans e11)) (f4 b hb)
        · exact own_tracked (A2.ex (e10.trans e11)) (f4 b hb)
        · exact own_tracked A3 (f4 b hb)
        · exact own_tracked (A0.ex ((((e8.trans e9).trans e10).trans e11).trans e12)) (f5 b hb)
        · exact own_tracked (A1.ex (((e9.trans e10).trans e11).trans e12)) (f5 b hb)
        · exact own_tracked (A2.ex ((e10.trans e11).trans e12)) (f5 b hb)
        · exact own_tracked (A3.ex e12) (f5 b hb)
        · exact own_tracked A4 (f5 b hb)
    have OF : Off4 H6 ad p q := by
      refine ⟨fun i hi x hx => ?_, fun i hi hpi => ?_, fun i hi => ?_⟩
      · obtain rfl | rfl | rfl | rfl | rfl | rfl : i = 0 ∨ i = 1 ∨ i = 2 ∨ i = 3 ∨ i = 4 ∨ i = 5 := by omega
        · exact f0 x hx
        · exact fresh_back e7 (f1 x hx)
        · exact fresh_back (e7.trans e8) (f2 x hx)
        · exact fresh_back (((e7.trans e8).trans e9).trans e10) (f3 x hx)
        · exact fresh_back ((((e7.trans e8).trans e9).trans e10).trans e11) (f4 x hx)
        · exact fresh_back (((((e7.trans e8).trans e9).trans e10).trans e11).trans e12) (f5 x hx)
      · obtain rfl | rfl | rfl | rfl | rfl | rfl : i = 0 ∨ i = 1 ∨ i = 2 ∨ i = 3 ∨ i = 4 ∨ i = 5 := by omega
        · exact own_tracked (A0.ex (e8.trans e9)) hp0 hpi
        · exact own_tracked (A1.ex e9) hp0 hpi
        · exact own_tracked A2 hp0 hpi
        · have := f3 p hpi
          rw [h10] at this
          cases this
        · have := f4 p hpi
          rw [e11 _ _ h10] at this
          cases this
        · have := f5 p hpi
          rw [e12 _ _ (e11 _ _ h10)] at this
          cases this
      · obtain rfl | rfl | rfl | rfl | rfl | rfl : i = 0 ∨ i = 1 ∨ i = 2 ∨ i = 3 ∨ i = 4 ∨ i = 5 := by omega
        · exact own_tracked (A0.ex (((e8.trans e9).trans e10).trans E10_13)) hq0
        · exact own_tracked (A1.ex ((e9.trans e10).trans E10_13)) hq0
        · exact own_tracked (A2.ex (e10.trans E10_13)) hq0
        · exact own_tracked (A3.ex (e12.trans e13)) hq0
        · exact own_tracked (A4.ex e13) hq0
        · exact own_tracked A5 hq0
    have ok0 : ∀ i, i < 3 → Ok4 ns (kd6 i) (s0 i) ∧ (s0 i).deed = 0 := fun i hi => by
      obtain rfl | rfl | rfl : i = 0 ∨ i = 1 ∨ i = 2 := by omega
      · rw [hs00]
        exact ⟨⟨RU.wfS pl0.1, pos0 _ _ _, (fun m hm => nomatch hm), fun _ g hg => nomatch hg⟩, rfl⟩
      · rw [hs01]
        exact ⟨⟨RU.wfR, pos0 _ _ _, (fun m hm => nomatch hm), fun _ g hg => nomatch hg⟩, rfl⟩
      · rw [hs02]
        exact ⟨⟨wf0 (by omega) (by omega) p1 (by omega) (fun h => nomatch h), pos0 _ _ _, (fun m hm => nomatch hm), fun _ g hg => nomatch hg⟩, rfl⟩
    have S0 : St4 T H6 ad p q (fun i => s0 (i % 3)) H14 := ⟨((((e7.trans e8).trans e9).trans e10).trans E10_13).trans e14, e14 _ _ (E10_13 _ _ h10), h14, HS0⟩
    clear hs00 hs01 hs02 A0 A1 A2 A3 A4 A5 f0 f1 f2 f3 f4 f5 HS0 h10 h14 hp0 hq0
    have E14 := E6.trans S0.ex
    clear e7 e8 e9 e10 e11 e12 e13 e14 E10_13
    have hcut : (cutV (cs.map V.int) (some 5) none).length ≤ 63 := by
      have := cutV_length (cs.map V.int) (some 5) none
      rw [List.length_map] at this
      omega
    have cutI : ∀ (i : Nat) v, (cutV (cs.map V.int) (some 5) none)[i]? = some v → ∃ c, v = V.int c := fun i v h => by
      have : v ∈ cs.map V.int := by
        have h2 := List.mem_of_getElem? h
        unfold cutV at h2
        exact List.mem_of_mem_drop (List.mem_of_mem_take h2)
      obtain ⟨c, _, rfl⟩ := List.mem_map.mp this
      exact ⟨c, rfl⟩
    generalize hcutE : cutV (cs.map V.int) (some 5) none = cut at hcut cutI
    refine q_forEN (xs := cut) (by rw [← hcutE]; exact el_sl (ev_var rfl) (eo_some ev_c) eo_none (ex_l E14 hS))
      (fun pc t σ' H' => ∃ (s : Nat → Th) (x8 x9 x10 x11 x12 x13 x14 : Option V), σ' = [some (V.ref a), some (V.ref na), some (V.int span), some (V.int part), some (V.int light), some (V.int pl), some (V.ref p), some (V.ref q), x8, x9, x10, x11, x12, x13, x14] ∧
        St4 T H6 ad p q (fun i => s (i % 3)) H' ∧ (∀ i, i < 3 → Ok4 ns (kd6 i) (s i) ∧ (s i).deed = t) ∧ H' pc = some (.lst cut) ∧ (∀ i, i < 6 → pc ∉ own (kd6 i) (ad i)))
      (fun pc H15 hpc e15 h15 => ⟨s0, _, _, _, _, _, _, _, rfl, S0.mono e15, ok0, h15, S0.hs.fresh hpc⟩)
      (fun pc t σ' H' _ h => by obtain ⟨_, _, _, _, _, _, _, _, _, _, _, h, _⟩ := h; exact SqL.of h) ?_ ?_
    · rintro pc t x σ' H15 H16 hx ⟨s, x8, x9, x10, x11, x12, x13, x14, rfl, S15, ok, hpc, npc⟩ e16
      dsimp only [List.set]
      obtain ⟨c, rfl⟩ := cutI t x hx
      have ht : t < 63 := by have := (List.getElem?_eq_some_iff.mp hx).1; omega
      refine q_asgZ (n := (c * 69621 + (t : Int) * 48271 + 5) % 2147483629 % 26) (by walk_at "ev") fun H17 e17 wh hwh => ?_
      dsimp only [List.set]
      have w0 : 0 ≤ wh := by rw [hwh]; exact Int.emod_nonneg _ (by decide)
      have w1 : wh < 26 := by rw [hwh]; exact Int.emod_lt_of_pos _ (by decide)
      clear hwh
      have S17 := S15.mono (e16.trans e17)
      have hna17 := S17.ex _ _ hna6
      have hix : 0 ≤ (t : Int) % (ns.length : Int) := Int.emod_nonneg _ (by omega)
      have hix2 : (t : Int) % (ns.length : Int) < ns.length := Int.emod_lt_of_pos _ (by omega)
      obtain ⟨n, hn⟩ : ∃ n, ns[((t : Int) % (ns.length : Int)).toNat]? = some n := ⟨_, List.getElem?_eq_getElem (by omega)⟩
      have hmem := List.mem_of_getElem? hn
      have hlen' : ((ns.map V.str).length : Int) = ns.length := by rw [List.length_map]
      refine q_asg (v := .str n) (ev_ixLn (ev_var rfl) (ev_op (ev_var rfl) (ev_len (ev_var rfl) (SqL.of hna17)) (rv_I (by omega))) (i := ((t : Int) % (ns.length : Int)).toNat) (by rw [hlen']; omega) hna17 (by rw [List.getElem?_map, hn]; rfl)) fun H18 e18 => ?_
      dsimp only [List.set]
      have S18 := S17.mono e18
      refine q_when (b := false) (et_is (et_and (a := decide (V.int (c / 2 % 2) = V.int 0)) (b := false) (by walk_at "ev") (fun _ => et_not (et_B (ev_call0 (ea_cons (ev_var rfl) (ea_cons (ev_var rfl) (ea_cons (ev_var rfl) (ea_cons (ev_var rfl) ea_nil)))) (sv_by w0 w1 S18.things (hN.good n hmem)))))) (Bool.and_false _)) (fun hb => nomatch hb) (fun _ H19 e19 => ?_)
      have S19 := S18.mono e19
      refine q_when (b := false) (et_is (et_and (a := decide (V.int (c / 2 % 2) = V.int 1)) (b := false) (by walk_at "ev") (fun _ => et_not (et_B (ev_call0 (ea_cons (ev_var rfl) (ea_cons (ev_var rfl) (ea_cons (ev_var rfl) (ea_cons (ev_var rfl) ea_nil)))) (sv_by w0 w1 S19.things (hN.good n hmem)))))) (Bool.and_false _)) (fun hb => nomatch hb) (fun _ H20 e20 => ?_)
      have S20 := S19.mono e20
      refine q_asgC (vs := [.int c, .int (t : Int), .ref na, .int span, .int light]) (ea_cons (ev_var rfl) (ea_cons (ev_var rfl) (ea_cons (ev_var rfl) (ea_cons (ev_var rfl) (ea_cons (ev_var rfl) ea_nil))))) fun H21 e21 => ⟨c, t, na, ns, span, light, rfl, SqL.of (e21 _ _ (S20.ex _ _ hna6)), by omega, by omega, by omega, s1, s2, l0, l1, fun d hd dp H22 hdp e22 h22 => ?_⟩
      dsimp only [List.set]
      have S22 := S20.mono (e21.trans e22)
      have ndp := (S20.mono e21).hs.fresh hdp
      have hpc22 : H22 pc = some (.lst cut) := e22 _ _ (e21 _ _ (e20 _ _ (e19 _ _ (e18 _ _ (e17 _ _ (e16 _ _ hpc))))))
      obtain ⟨s', hs'⟩ : ∃ s' : Nat → Th, ∀ i, s' i = ((kd6 i).act (s i) d).2 := ⟨fun i => _, fun _ => rfl⟩
      refine s_forZ (a := p) (b := q) (xs := L3 ad 0) (ys := L3 ad 3) (ea_cons (ev_var rfl) (ea_cons (ev_var rfl) ea_nil)) (SqL.of S22.l1) (SqL.of S22.l2) rfl
        (fun u σ' H' => ∃ (y13 y14 : Option V), σ' = [some (V.ref a), some (V.ref na), some (V.int span), some (V.int part), some (V.int light), some (V.int pl), some (V.ref p), some (V.ref q), some (V.int (t : Int)), some (V.int c), some (V.int wh), some (V.str n), some (V.ref dp), y13, y14] ∧
          St4 T H6 ad p q (fun j => if j % 3 < u then s' (j % 3) else s (j % 3)) H' ∧ H' pc = some (.lst cut) ∧ H' dp = some (.tup d.V))
        (fun H23 e23 => ⟨_, _, rfl, (S22.mono e23).congr fun i _ => (if_neg (Nat.not_lt_zero _)).symm, e23 _ _ hpc22, e23 _ _ h22⟩)
        (fun u σ' H' _ h => by obtain ⟨_, _, _, S, _⟩ := h; exact ⟨SqL.of S.l1, SqL.of S.l2⟩) ?_ ?_
      · rintro u x y σ' H23 H24 hx hy ⟨y13, y14, rfl, S23, hpc23, hd23⟩ e24
        dsimp only [List.set]
        obtain ⟨hu3, rfl, rfl⟩ := l3_at hx hy
        have um : u % 3 = u := Nat.mod_eq_of_lt hu3
        have um3 : (u + 3) % 3 = u := by rw [Nat.add_mod_right, um]
        have okd := ok u hu3
        refine s_notSame (R := fun v H2 => v = ((kd6 u).act (s u) d).1 ∧ St4 T H6 ad p q (fun j => if j = u then s' u else if j % 3 < u then s' (j % 3) else s (j % 3)) H2 ∧ H2 pc = some (.lst cut) ∧ H2 dp = some (.tup d.V))
          (R2 := fun v w H2 => w = v ∧ AnsV v ∧ St4 T H6 ad p q (fun j => if j % 3 < u + 1 then s' (j % 3) else s (j % 3)) H2 ∧ H2 pc = some (.lst cut) ∧ H2 dp = some (.tup d.V)) (ev_var rfl) (ev_var rfl) ?_ ?_ ?_
        · intro H25 e25 Q1 q1
          have S25 := S23.mono (e24.trans e25)
          have Au := S25.hs.at_ u (by omega)
          have hsu : (if u % 3 < u then s' (u % 3) else s (u % 3)) = s u := by rw [um, if_neg (Nat.lt_irrefl _)]
          rw [hsu] at Au
          refine ⟨kd6 u, ad u, s u, d, dp, ns, rfl, Au, okd.1.wf, by omega, SqT.of ((e24.trans e25) _ _ hd23), hd, hN.good, fun H26 A26 K26 => q1 _ H26 ⟨rfl, ?_, K26 _ _ ((e24.trans e25) _ _ hpc23) (npc u (by omega)), K26 _ _ ((e24.trans e25) _ _ hd23) (ndp u (by omega))⟩⟩
          rw [← hs' u] at A26
          exact S25.act OF (by omega) A26 K26
        · rintro v H25 ⟨rfl, S25, hpc25, hd25⟩
          refine ⟨.ref (ad (u + 3)).p, .ref dp, ev_var rfl, ev_var rfl, fun H26 e26 Q2 q2 => ?_⟩
          have S26 := S25.mono e26
          have Au := S26.hs.at_ (u + 3) (by omega)
          have hsu : (if u + 3 = u then s' u else if (u + 3) % 3 < u then s' ((u + 3) % 3) else s ((u + 3) % 3)) = s u := by rw [if_neg (by omega), um3, if_neg (Nat.lt_irrefl _)]
          rw [hsu] at Au
          have Au' := Au
          rw [kd6_3] at Au'
          refine ⟨kd6 u, ad (u + 3), s u, d, dp, ns, rfl, Au', okd.1.wf, by omega, SqT.of (e26 _ _ hd25), hd, hN.good, fun H27 A27 K27 => q2 _ H27 ?_⟩
          rw [← hs' u] at A27
          rw [← kd6_3 u] at K27
          have A27' : At (kd6 (u + 3)) (cOf T (kd6 (u + 3))) (ad (u + 3)) H27 (s' u) := by rw [kd6_3]; exact A27
          refine ⟨rfl, act_ans _ _ _, (S26.act OF (by omega) A27' K27).congr fun j hj => ?_, K27 _ _ (e26 _ _ hpc25) (npc _ (by omega)), K27 _ _ (e26 _ _ hd25) (ndp _ (by omega))⟩
          show (if j = u + 3 then s' u else if j = u then s' u else if j % 3 < u then s' (j % 3) else s (j % 3)) = if j % 3 < u + 1 then s' (j % 3) else s (j % 3)
          by_cases g1 : j = u + 3
          · rw [if_pos g1, g1, um3, if_pos (by omega)]
          · by_cases g2 : j = u
            · rw [if_neg g1, if_pos g2, g2, um, if_pos (by omega)]
            · by_cases g3 : j % 3 < u
              · rw [if_neg g1, if_neg g2, if_pos g3, if_pos (by omega)]
              · rw [if_neg g1, if_neg g2, if_neg g3, if_neg (by omega)]
        · rintro v z H25 ⟨rfl, av, S25, hpc25, hd25⟩
          exact ⟨rfl, av, fun H26 e26 => ⟨_, _, rfl, S25.mono e26, e26 _ _ hpc25, e26 _ _ hd25⟩⟩
      · rintro σ' H23 ⟨y13, y14, rfl, S23, hpc23, hd23⟩
        refine ⟨s', _, _, _, _, _, _, _, rfl, S23.congr fun j hj => if_pos (Nat.mod_lt _ (by decide)), fun i hi => ?_, hpc23, npc⟩
        have core := act_core (kd6 i) (s i) d
        rw [hs' i]
        exact ⟨(ok i hi).1.act hd, by rw [core.2.2.2.1, (ok i hi).2]⟩
    rintro pc σ' H15 ⟨s, x8, x9, x10, x11, x12, x13, x14, rfl, S15, ok, hpc, npc⟩
    have ixp : ∀ (i : Nat) {σ' : L2.St} {H' : Hp} {v : V}, Ex H15 H' → σ'[6]? = some (some (.ref p)) → (L3 ad 0)[i]? = some v → Ev (tOp (rIxL K) (tVar 6) (tC (.int (i : Int)))) σ' H' v := fun i σ' H' v e h1 h2 => ev_ixLn (ev_var h1) ev_c rfl (e _ _ S15.l1) h2
    have ixq : ∀ (i : Nat) {σ' : L2.St} {H' : Hp} {v : V}, Ex H15 H' → σ'[7]? = some (some (.ref q)) → (L3 ad 3)[i]? = some v → Ev (tOp (rIxL K) (tVar 7) (tC (.int (i : Int)))) σ' H' v := fun i σ' H' v e h1 h2 => ev_ixLn (ev_var h1) ev_c rfl (e _ _ S15.l2) h2
    have A0 : At .shelf T.C_Shelf (ad 0) H15 (s 0) := S15.hs.at_ 0 (by decide)
    have A1 : At .row T.C_Row (ad 1) H15 (s 1) := S15.hs.at_ 1 (by decide)
    have B0 : At .shelf T.C_Shelf (ad 3) H15 (s 0) := S15.hs.at_ 3 (by decide)
    have B1 : At .row T.C_Row (ad 4) H15 (s 1) := S15.hs.at_ 4 (by decide)
    refine q_when (b := false) (et_is (et_or (a := false) (b := false) (et_is (et_not (et_B (ev_isi (ixp 0 (Ex.refl _) rfl rfl) ev_c (.own _) (fun H' e => .base (T.ti_Shelf (e _ _ A0.ob))) T.kb_Shelf))) rfl) fun _ => et_is (et_not (et_B (ev_isi (ixp 1 (Ex.refl _) rfl rfl) ev_c (.own _) (fun H' e => .base (T.ti_Row (e _ _ A1.ob))) T.kb_Row))) rfl) rfl) (fun hb => nomatch hb) (fun _ H16 e16 => ?_)
    have okW : ∀ g ∈ (s 0).went, OkN g := fun g hg => okN_of hN.good ((ok 0 (by decide)).1.log rfl g hg)
    have fl : ∀ x ∈ (s 1).laid.map oV, FlatV x := fun x hx => by
      obtain ⟨o, ho, rfl⟩ := List.mem_map.mp hx
      cases o with
      | none => exact .non
      | some n => exact .str n (strOk_good (hN.good n ((ok 1 (by decide)).1.keys n ((ok 1 (by decide)).1.wf.lin n ho))))
    refine q_when (b := false) (et_is (et_or (a := false) (b := false) (et_is (et_test (ev_neD (ed_rows (er_goings (A0.ex e16) (ixp 0 e16 rfl rfl)) okW) (ed_rows (er_goings (B0.ex e16) (ixq 0 e16 rfl rfl)) okW) (gD_shaped okW))) rfl) fun _ => et_is (et_test (ev_neD (ed_L (el_spots (A1.ex e16) (ixp 1 e16 rfl rfl)) fl) (ed_L (el_spots (B1.ex e16) (ixq 1 e16 rfl rfl)) fl) (shaped_list fl))) rfl) rfl) (fun hb => nomatch hb) (fun _ H17 e17 => ?_)
    have E17 := e16.trans e17
    have t63 : cut.length ≤ 63 := hcut
    have hds : (s 1).depths.length ≤ 1000 := by
      have h1 := (ok 1 (by decide)).1.wf.dsz
      have h2 := (ok 1 (by decide)).2
      omega
    refine q_when (b := false) (et_is (et_test (ev_op (ev_metBy (A1.ex E17) hds (by decide) (by decide) (ixp 1 E17 rfl rfl) ev_c) (ev_metBy (B1.ex E17) hds (by decide) (by decide) (ixq 1 E17 rfl rfl) ev_c) (rv_ne rfl))) (by rw [decide_eq_true rfl]; rfl)) (fun hb => nomatch hb) (fun _ H18 e18 => ?_)
    have S18 := S15.mono (E17.trans e18)
    refine s_ret (v := .bl true) (ev_is (ev_all (el_lcB (fun _ => true) (ei_zip (ea_cons (ev_var rfl) (ea_cons (ev_var rfl) ea_nil)) (SqL.of S18.l1) (SqL.of S18.l2) rfl) (by show 3 ≤ 40000; decide) ?_)) (by rfl)) fun H19 e19 => kk H19
    rintro u G1 x G2 hu6 eG ⟨T0, x', y', rfl, hT0, rfl, hx, hy⟩
    obtain ⟨hu3, rfl, rfl⟩ := l3_at hx hy
    have um : u % 3 = u := Nat.mod_eq_of_lt hu3
    have um3 : (u + 3) % 3 = u := by rw [Nat.add_mod_right, um]
    have S19 := S18.mono (eG.trans (Ex.new (o := .tup [.ref (ad u).p, .ref (ad (u + 3)).p]) hT0))
    have Au := S19.hs.at_ u (by omega)
    have Bu := S19.hs.at_ (u + 3) (by omega)
    rw [kd6_3] at Bu
    rw [um] at Au
    rw [um3] at Bu
    exact ⟨Ex.new hT0, _, got_pair (SqT.of upd_same), rfl, ev_call0 (ea_cons (ev_var rfl) (ea_cons (ev_var rfl) (ea_cons (ev_var rfl) ea_nil))) (sv_twins Au Bu (ok u hu3).1 (by have := (ok u hu3).2; omega) hN.good (S19.ex _ _ hna6))⟩
end

end Own
namespace Own
open PySem L2 PyProof.Rows Evl OwnS
section
variable {K : PySem.W.Frag} {f dT : Addr} {fd : FuncData} {od an : Option Addr} {sl : Array (Option Value)} {oc kV dc pm cd ct : Value} {dN : Nat} {dtk : Tok}
theorem mkD_Book_ask (l : K.lookup f = some ⟨oc, od, .func (PySem.W.fnOf "ask" "Book.ask" (defArgs s_Book_ask) (defBody s_Book_ask) (defScope s_Book_ask) (.ref dT) kV dc pm an cd ct), sl⟩) (c : PySem.W.codeIn K cd "Book.ask" = true) (d : K.lookup dT = some ⟨.type "tuple", none, .seq #[.int 1 dtk] dN, #[]⟩) (k : PySem.W.keepIn K (.ref f) = true) :
    FunD K "ask" "Book.ask" (defArgs s_Book_ask) (defBody s_Book_ask) (defScope s_Book_ask) [V.int 1] [] f (PySem.W.fnOf "ask" "Book.ask" (defArgs s_Book_ask) (defBody s_Book_ask) (defScope s_Book_ask) (.ref dT) kV dc pm an cd ct) :=
  ⟨⟨oc, od, .ref dT, kV, dc, pm, an, cd, ct, sl, rfl, l, c, .inr ⟨by simp, dT, _, [.int 1 dtk], dN, rfl, d, rfl, .cons ⟨_, rfl⟩ .nil⟩, .inl rfl⟩, k⟩
theorem bD_Book_ask (F : FunD K "ask" "Book.ask" (defArgs s_Book_ask) (defBody s_Book_ask) (defScope s_Book_ask) [V.int 1] [] f fd) : Binds K fd P_Book_ask [] := by
  obtain ⟨ds, h1, h2⟩ := F.binds1 (ps := P_Book_ask) 3 1 (by simp) rfl fun _ _ _ _ _ _ _ us its hu hi => match us, its, hu, hi with | [_, _, _], [_], _, _ => ⟨_, rfl, rfl⟩
  cases h1
  exact h2
theorem bdD_Book_ask (F : FunD K "ask" "Book.ask" (defArgs s_Book_ask) (defBody s_Book_ask) (defScope s_Book_ask) [V.int 1] [] f fd) : ∃ ds, Vals [V.int 1] ds ∧ Binds K fd P_Book_ask ds :=
  F.binds1 (ps := P_Book_ask) 2 0 (by simp) rfl fun _ _ _ _ _ _ _ us its hu hi => match us, its, hu, hi with | [_, _], [_], _, _ => ⟨_, rfl, rfl⟩
end
theorem all_mk {l : PySem.W.OpenLaw} {w : World} {K : PySem.W.Frag} {h : Heap} {mg : Str → Option Value} {fa : Addr} (X : K.In h) (G : h.Ns mainGlobals mg) (hfa : mg "law" = some (.ref fa))
    {C_NoRule : Addr}
    {C_NoNumber : Addr}
    {C_NoName : Addr}
    {C_ShelfError : Addr}
    {C_Row : Addr}
    {C_Shelf : Addr}
    {C_Book : Addr}
    {f_within : Addr} {od_within an_within : Option Addr} {sl_within : Array (Option Value)} {oc_within kV_within dc_within pm_within cd_within ct_within : Value}
    {f_want_number : Addr} {od_want_number an_want_number : Option Addr} {sl_want_number : Array (Option Value)} {oc_want_number kV_want_number dc_want_number pm_want_number cd_want_number ct_want_number : Value}
    {f_want_name : Addr} {od_want_name an_want_name : Option Addr} {sl_want_name : Array (Option Value)} {oc_want_name kV_want_name dc_want_name pm_want_name cd_want_name ct_want_name : Value}
    {f_want_rule : Addr} {od_want_rule an_want_rule : Option Addr} {sl_want_rule : Array (Option Value)} {oc_want_rule kV_want_rule dc_want_rule pm_want_rule cd_want_rule ct_want_rule : Value}
    {f_ageings : Addr} {od_ageings an_ageings : Option Addr} {sl_ageings : Array (Option Value)} {oc_ageings kV_ageings dc_ageings pm_ageings cd_ageings ct_ageings : Value}
    {f_aged : Addr} {od_aged an_aged : Option Addr} {sl_aged : Array (Option Value)} {oc_aged kV_aged dc_aged pm_aged cd_aged ct_aged : Value}
    {f_Book_init : Addr} {od_Book_init an_Book_init : Option Addr} {sl_Book_init : Array (Option Value)} {oc_Book_init kV_Book_init dc_Book_init pm_Book_init cd_Book_init ct_Book_init : Value}
    {f_Book_ask : Addr} {od_Book_ask an_Book_ask : Option Addr} {sl_Book_ask : Array (Option Value)} {oc_Book_ask kV_Book_ask dc_Book_ask pm_Book_ask cd_Book_ask ct_Book_ask : Value}
    {dT_Book_ask : Addr} {dN_Book_ask : Nat} {dtk_Book_ask : Tok}
    {f_Book_rest : Addr} {od_Book_rest an_Book_rest : Option Addr} {sl_Book_rest : Array (Option Value)} {oc_Book_rest kV_Book_rest dc_Book_rest pm_Book_rest cd_Book_rest ct_Book_rest : Value}
    {f_Book_drop : Addr} {od_Book_drop an_Book_drop : Option Addr} {sl_Book_drop : Array (Option Value)} {oc_Book_drop kV_Book_drop dc_Book_drop pm_Book_drop cd_Book_drop ct_Book_drop : Value}
    {f_Book_spend : Addr} {od_Book_spend an_Book_spend : Option Addr} {sl_Book_spend : Array (Option Value)} {oc_Book_spend kV_Book_spend dc_Book_spend pm_Book_spend cd_Book_spend ct_Book_spend : Value}
    {f_Book_asked_at : Addr} {od_Book_asked_at an_Book_asked_at : Option Addr} {sl_Book_asked_at : Array (Option Value)} {oc_Book_asked_at kV_Book_asked_at dc_Book_asked_at pm_Book_asked_at cd_Book_asked_at ct_Book_asked_at : Value}
    {f_Book_came : Addr} {od_Book_came an_Book_came : Option Addr} {sl_Book_came : Array (Option Value)} {oc_Book_came kV_Book_came dc_Book_came pm_Book_came cd_Book_came ct_Book_came : Value}
    {f_Book_gone : Addr} {od_Book_gone an_Book_gone : Option Addr} {sl_Book_gone : Array (Option Value)} {oc_Book_gone kV_Book_gone dc_Book_gone pm_Book_gone cd_Book_gone ct_Book_gone : Value}
    {f_Book_inside : Addr} {od_Book_inside an_Book_inside : Option Addr} {sl_Book_inside : Array (Option Value)} {oc_Book_inside kV_Book_inside dc_Book_inside pm_Book_inside cd_Book_inside ct_Book_inside : Value}
    {f_Book_rank : Addr} {od_Book_rank an_Book_rank : Option Addr} {sl_Book_rank : Array (Option Value)} {oc_Book_rank kV_Book_rank dc_Book_rank pm_Book_rank cd_Book_rank ct_Book_rank : Value}
    {f_Book_names : Addr} {od_Book_names an_Book_names : Option Addr} {sl_Book_names : Array (Option Value)} {oc_Book_names kV_Book_names dc_Book_names pm_Book_names cd_Book_names ct_Book_names : Value}
    {f_Book_time_now : Addr} {od_Book_time_now an_Book_time_now : Option Addr} {sl_Book_time_now : Array (Option Value)} {oc_Book_time_now kV_Book_time_now dc_Book_time_now pm_Book_time_now cd_Book_time_now ct_Book_time_now : Value}
    {f_Book_deeds_done : Addr} {od_Book_deeds_done an_Book_deeds_done : Option Addr} {sl_Book_deeds_done : Array (Option Value)} {oc_Book_deeds_done kV_Book_deeds_done dc_Book_deeds_done pm_Book_deeds_done cd_Book_deeds_done ct_Book_deeds_done : Value}
    {f_Book_count_of : Addr} {od_Book_count_of an_Book_count_of : Option Addr} {sl_Book_count_of : Array (Option Value)} {oc_Book_count_of kV_Book_count_of dc_Book_count_of pm_Book_count_of cd_Book_count_of ct_Book_count_of : Value}
    {f_Book_last_of : Addr} {od_Book_last_of an_Book_last_of : Option Addr} {sl_Book_last_of : Array (Option Value)} {oc_Book_last_of kV_Book_last_of dc_Book_last_of pm_Book_last_of cd_Book_last_of ct_Book_last_of : Value}
    {f_Row_init : Addr} {od_Row_init an_Row_init : Option Addr} {sl_Row_init : Array (Option Value)} {oc_Row_init kV_Row_init dc_Row_init pm_Row_init cd_Row_init ct_Row_init : Value}
    {f_Row_came : Addr} {od_Row_came an_Row_came : Option Addr} {sl_Row_came : Array (Option Value)} {oc_Row_came kV_Row_came dc_Row_came pm_Row_came cd_Row_came ct_Row_came : Value}
    {f_Row_carry : Addr} {od_Row_carry an_Row_carry : Option Addr} {sl_Row_carry : Array (Option Value)} {oc_Row_carry kV_Row_carry dc_Row_carry pm_Row_carry cd_Row_carry ct_Row_carry : Value}
    {f_Row_trim : Addr} {od_Row_trim an_Row_trim : Option Addr} {sl_Row_trim : Array (Option Value)} {oc_Row_trim kV_Row_trim dc_Row_trim pm_Row_trim cd_Row_trim ct_Row_trim : Value}
    {f_Row_gone : Addr} {od_Row_gone an_Row_gone : Option Addr} {sl_Row_gone : Array (Option Value)} {oc_Row_gone kV_Row_gone dc_Row_gone pm_Row_gone cd_Row_gone ct_Row_gone : Value}
    {f_Row_inside : Addr} {od_Row_inside an_Row_inside : Option Addr} {sl_Row_inside : Array (Option Value)} {oc_Row_inside kV_Row_inside dc_Row_inside pm_Row_inside cd_Row_inside ct_Row_inside : Value}
    {f_Row_spots : Addr} {od_Row_spots an_Row_spots : Option Addr} {sl_Row_spots : Array (Option Value)} {oc_Row_spots kV_Row_spots dc_Row_spots pm_Row_spots cd_Row_spots ct_Row_spots : Value}
    {f_Row_names_at : Addr} {od_Row_names_at an_Row_names_at : Option Addr} {sl_Row_names_at : Array (Option Value)} {oc_Row_names_at kV_Row_names_at dc_Row_names_at pm_Row_names_at cd_Row_names_at ct_Row_names_at : Value}
    {f_Row_met_by : Addr} {od_Row_met_by an_Row_met_by : Option Addr} {sl_Row_met_by : Array (Option Value)} {oc_Row_met_by kV_Row_met_by dc_Row_met_by pm_Row_met_by cd_Row_met_by ct_Row_met_by : Value}
    {f_Row_enough : Addr} {od_Row_enough an_Row_enough : Option Addr} {sl_Row_enough : Array (Option Value)} {oc_Row_enough kV_Row_enough dc_Row_enough pm_Row_enough cd_Row_enough ct_Row_enough : Value}
    {f_Shelf_init : Addr} {od_Shelf_init an_Shelf_init : Option Addr} {sl_Shelf_init : Array (Option Value)} {oc_Shelf_init kV_Shelf_init dc_Shelf_init pm_Shelf_init cd_Shelf_init ct_Shelf_init : Value}
    {f_Shelf_came : Addr} {od_Shelf_came an_Shelf_came : Option Addr} {sl_Shelf_came : Array (Option Value)} {oc_Shelf_came kV_Shelf_came dc_Shelf_came pm_Shelf_came cd_Shelf_came ct_Shelf_came : Value}
    {f_Shelf_gone : Addr} {od_Shelf_gone an_Shelf_gone : Option Addr} {sl_Shelf_gone : Array (Option Value)} {oc_Shelf_gone kV_Shelf_gone dc_Shelf_gone pm_Shelf_gone cd_Shelf_gone ct_Shelf_gone : Value}
    {f_Shelf_inside : Addr} {od_Shelf_inside an_Shelf_inside : Option Addr} {sl_Shelf_inside : Array (Option Value)} {oc_Shelf_inside kV_Shelf_inside dc_Shelf_inside pm_Shelf_inside cd_Shelf_inside ct_Shelf_inside : Value}
    {f_Shelf_has : Addr} {od_Shelf_has an_Shelf_has : Option Addr} {sl_Shelf_has : Array (Option Value)} {oc_Shelf_has kV_Shelf_has dc_Shelf_has pm_Shelf_has cd_Shelf_has ct_Shelf_has : Value}
    {f_Shelf_goings : Addr} {od_Shelf_goings an_Shelf_goings : Option Addr} {sl_Shelf_goings : Array (Option Value)} {oc_Shelf_goings kV_Shelf_goings dc_Shelf_goings pm_Shelf_goings cd_Shelf_goings ct_Shelf_goings : Value}
    {f_l_cell_at : Addr} {od_l_cell_at an_l_cell_at : Option Addr} {sl_l_cell_at : Array (Option Value)} {oc_l_cell_at kV_l_cell_at dc_l_cell_at pm_l_cell_at cd_l_cell_at ct_l_cell_at : Value}
    {f_l_sign : Addr} {od_l_sign an_l_sign : Option Addr} {sl_l_sign : Array (Option Value)} {oc_l_sign kV_l_sign dc_l_sign pm_l_sign cd_l_sign ct_l_sign : Value}
    {f_l_names : Addr} {od_l_names an_l_names : Option Addr} {sl_l_names : Array (Option Value)} {oc_l_names kV_l_names dc_l_names pm_l_names cd_l_names ct_l_names : Value}
    {f_l_span : Addr} {od_l_span an_l_span : Option Addr} {sl_l_span : Array (Option Value)} {oc_l_span kV_l_span dc_l_span pm_l_span cd_l_span ct_l_span : Value}
    {f_l_part : Addr} {od_l_part an_l_part : Option Addr} {sl_l_part : Array (Option Value)} {oc_l_part kV_l_part dc_l_part pm_l_part cd_l_part ct_l_part : Value}
    {f_l_deed : Addr} {od_l_deed an_l_deed : Option Addr} {sl_l_deed : Array (Option Value)} {oc_l_deed kV_l_deed dc_l_deed pm_l_deed cd_l_deed ct_l_deed : Value}
    {f_l_do : Addr} {od_l_do an_l_do : Option Addr} {sl_l_do : Array (Option Value)} {oc_l_do kV_l_do dc_l_do pm_l_do cd_l_do ct_l_do : Value}
    {f_l_bad_name : Addr} {od_l_bad_name an_l_bad_name : Option Addr} {sl_l_bad_name : Array (Option Value)} {oc_l_bad_name kV_l_bad_name dc_l_bad_name pm_l_bad_name cd_l_bad_name ct_l_bad_name : Value}
    {f_l_bad_number : Addr} {od_l_bad_number an_l_bad_number : Option Addr} {sl_l_bad_number : Array (Option Value)} {oc_l_bad_number kV_l_bad_number dc_l_bad_number pm_l_bad_number cd_l_bad_number ct_l_bad_number : Value}
    {f_l_thing_call : Addr} {od_l_thing_call an_l_thing_call : Option Addr} {sl_l_thing_call : Array (Option Value)} {oc_l_thing_call kV_l_thing_call dc_l_thing_call pm_l_thing_call cd_l_thing_call ct_l_thing_call : Value}
    {f_l_own_call : Addr} {od_l_own_call an_l_own_call : Option Addr} {sl_l_own_call : Array (Option Value)} {oc_l_own_call kV_l_own_call dc_l_own_call pm_l_own_call cd_l_own_call ct_l_own_call : Value}
    {f_l_new_call : Addr} {od_l_new_call an_l_new_call : Option Addr} {sl_l_new_call : Array (Option Value)} {oc_l_new_call kV_l_new_call dc_l_new_call pm_l_new_call cd_l_new_call ct_l_new_call : Value}
    {f_l_due : Addr} {od_l_due an_l_due : Option Addr} {sl_l_due : Array (Option Value)} {oc_l_due kV_l_due dc_l_due pm_l_due cd_l_due ct_l_due : Value}
    {f_l_call : Addr} {od_l_call an_l_call : Option Addr} {sl_l_call : Array (Option Value)} {oc_l_call kV_l_call dc_l_call pm_l_call cd_l_call ct_l_call : Value}
    {f_l_by_base : Addr} {od_l_by_base an_l_by_base : Option Addr} {sl_l_by_base : Array (Option Value)} {oc_l_by_base kV_l_by_base dc_l_by_base pm_l_by_base cd_l_by_base ct_l_by_base : Value}
    {f_l_by_name : Addr} {od_l_by_name an_l_by_name : Option Addr} {sl_l_by_name : Array (Option Value)} {oc_l_by_name kV_l_by_name dc_l_by_name pm_l_by_name cd_l_by_name ct_l_by_name : Value}
    {f_l_same : Addr} {od_l_same an_l_same : Option Addr} {sl_l_same : Array (Option Value)} {oc_l_same kV_l_same dc_l_same pm_l_same cd_l_same ct_l_same : Value}
    {f_l_twins : Addr} {od_l_twins an_l_twins : Option Addr} {sl_l_twins : Array (Option Value)} {oc_l_twins kV_l_twins dc_l_twins pm_l_twins cd_l_twins ct_l_twins : Value}
    {f_law : Addr} {od_law an_law : Option Addr} {sl_law : Array (Option Value)} {oc_law kV_law dc_law pm_law cd_law ct_law : Value}
    {t_MOST_SIGNS : Tok}
    {t_MOST_PLACES : Tok}
    {t_MOST_SPAN : Tok}
    {t_MOST_NUMBER : Tok}
    (aC_NoRule : PySem.W.nsIn K mainGlobals "NoRule" = some (some (.ref C_NoRule)))
    (aC_NoNumber : PySem.W.nsIn K mainGlobals "NoNumber" = some (some (.ref C_NoNumber)))
    (aC_NoName : PySem.W.nsIn K mainGlobals "NoName" = some (some (.ref C_NoName)))
    (aC_ShelfError : PySem.W.nsIn K mainGlobals "ShelfError" = some (some (.ref C_ShelfError)))
    (aC_Row : PySem.W.nsIn K mainGlobals "Row" = some (some (.ref C_Row)))
    (aC_Shelf : PySem.W.nsIn K mainGlobals "Shelf" = some (some (.ref C_Shelf)))
    (aC_Book : PySem.W.nsIn K mainGlobals "Book" = some (some (.ref C_Book)))
    (a_within : PySem.W.nsIn K mainGlobals "within" = some (some (.ref f_within)))
    (l_within : K.lookup f_within = some ⟨oc_within, od_within, .func (PySem.W.fnOf "within" "within" (defArgs s_within) (defBody s_within) (defScope s_within) .none kV_within dc_within pm_within an_within cd_within ct_within), sl_within⟩)
    (c_within : PySem.W.codeIn K cd_within "within" = true)
    (k_within : PySem.W.keepIn K (.ref f_within) = true)
    (a_want_number : PySem.W.nsIn K mainGlobals "want_number" = some (some (.ref f_want_number)))
    (l_want_number : K.lookup f_want_number = some ⟨oc_want_number, od_want_number, .func (PySem.W.fnOf "want_number" "want_number" (defArgs s_want_number) (defBody s_want_number) (defScope s_want_number) .none kV_want_number dc_want_number pm_want_number an_want_number cd_want_number ct_want_number), sl_want_number⟩)
    (c_want_number : PySem.W.codeIn K cd_want_number "want_number" = true)
    (k_want_number : PySem.W.keepIn K (.ref f_want_number) = true)
    (a_want_name : PySem.W.nsIn K mainGlobals "want_name" = some (some (.ref f_want_name)))
    (l_want_name : K.lookup f_want_name = some ⟨oc_want_name, od_want_name, .func (PySem.W.fnOf "want_name" "want_name" (defArgs s_want_name) (defBody s_want_name) (defScope s_want_name) .none kV_want_name dc_want_name pm_want_name an_want_name cd_want_name ct_want_name), sl_want_name⟩)
    (c_want_name : PySem.W.codeIn K cd_want_name "want_name" = true)
    (k_want_name : PySem.W.keepIn K (.ref f_want_name) = true)
    (a_want_rule : PySem.W.nsIn K mainGlobals "want_rule" = some (some (.ref f_want_rule)))
    (l_want_rule : K.lookup f_want_rule = some ⟨oc_want_rule, od_want_rule, .func (PySem.W.fnOf "want_rule" "want_rule" (defArgs s_want_rule) (defBody s_want_rule) (defScope s_want_rule) .none kV_want_rule dc_want_rule pm_want_rule an_want_rule cd_want_rule ct_want_rule), sl_want_rule⟩)
    (c_want_rule : PySem.W.codeIn K cd_want_rule "want_rule" = true)
    (k_want_rule : PySem.W.keepIn K (.ref f_want_rule) = true)
    (a_ageings : PySem.W.nsIn K mainGlobals "ageings" = some (some (.ref f_ageings)))
    (l_ageings : K.lookup f_ageings = some ⟨oc_ageings, od_ageings, .func (PySem.W.fnOf "ageings" "ageings" (defArgs s_ageings) (defBody s_ageings) (defScope s_ageings) .none kV_ageings dc_ageings pm_ageings an_ageings cd_ageings ct_ageings), sl_ageings⟩)
    (c_ageings : PySem.W.codeIn K cd_ageings "ageings" = true)
    (k_ageings : PySem.W.keepIn K (.ref f_ageings) = true)
    (a_aged : PySem.W.nsIn K mainGlobals "aged" = some (some (.ref f_aged)))
    (l_aged : K.lookup f_aged = some ⟨oc_aged, od_aged, .func (PySem.W.fnOf "aged" "aged" (defArgs s_aged) (defBody s_aged) (defScope s_aged) .none kV_aged dc_aged pm_aged an_aged cd_aged ct_aged), sl_aged⟩)
    (c_aged : PySem.W.codeIn K cd_aged "aged" = true)
    (k_aged : PySem.W.keepIn K (.ref f_aged) = true)
    (a_Book_init : PySem.W.findIn K (.ref C_Book) "__init__" = some (some (.ref f_Book_init)))
    (l_Book_init : K.lookup f_Book_init = some ⟨oc_Book_init, od_Book_init, .func (PySem.W.fnOf "__init__" "Book.__init__" (defArgs s_Book_init) (defBody s_Book_init) (defScope s_Book_init) .none kV_Book_init dc_Book_init pm_Book_init an_Book_init cd_Book_init ct_Book_init), sl_Book_init⟩)
    (c_Book_init : PySem.W.codeIn K cd_Book_init "Book.__init__" = true)
    (k_Book_init : PySem.W.keepIn K (.ref f_Book_init) = true)
    (i_Book_init : PySem.W.isFn K (.ref f_Book_init) = true)
    (a_Book_ask : PySem.W.findIn K (.ref C_Book) "ask" = some (some (.ref f_Book_ask)))
    (l_Book_ask : K.lookup f_Book_ask = some ⟨oc_Book_ask, od_Book_ask, .func (PySem.W.fnOf "ask" "Book.ask" (defArgs s_Book_ask) (defBody s_Book_ask) (defScope s_Book_ask) (.ref dT_Book_ask) kV_Book_ask dc_Book_ask pm_Book_ask an_Book_ask cd_Book_ask ct_Book_ask), sl_Book_ask⟩)
    (c_Book_ask : PySem.W.codeIn K cd_Book_ask "Book.ask" = true)
    (k_Book_ask : PySem.W.keepIn K (.ref f_Book_ask) = true)
    (i_Book_ask : PySem.W.isFn K (.ref f_Book_ask) = true)
    (d_Book_ask : K.lookup dT_Book_ask = some ⟨.type "tuple", none, .seq #[.int 1 dtk_Book_ask] dN_Book_ask, #[]⟩)
    (a_Book_rest : PySem.W.findIn K (.ref C_Book) "rest" = some (some (.ref f_Book_rest)))
    (l_Book_rest : K.lookup f_Book_rest = some ⟨oc_Book_rest, od_Book_rest, .func (PySem.W.fnOf "rest" "Book.rest" (defArgs s_Book_rest) (defBody s_Book_rest) (defScope s_Book_rest) .none kV_Book_rest dc_Book_rest pm_Book_rest an_Book_rest cd_Book_rest ct_Book_rest), sl_Book_rest⟩)
    (c_Book_rest : PySem.W.codeIn K cd_Book_rest "Book.rest" = true)
    (k_Book_rest : PySem.W.keepIn K (.ref f_Book_rest) = true)
    (i_Book_rest : PySem.W.isFn K (.ref f_Book_rest) = true)
    (a_Book_drop : PySem.W.findIn K (.ref C_Book) "drop" = some (some (.ref f_Book_drop)))
    (l_Book_drop : K.lookup f_Book_drop = some ⟨oc_Book_drop, od_Book_drop, .func (PySem.W.fnOf "drop" "Book.drop" (defArgs s_Book_drop) (defBody s_Book_drop) (defScope s_Book_drop) .none kV_Book_drop dc_Book_drop pm_Book_drop an_Book_drop cd_Book_drop ct_Book_drop), sl_Book_drop⟩)
    (c_Book_drop : PySem.W.codeIn K cd_Book_drop "Book.drop" = true)
    (k_Book_drop : PySem.W.keepIn K (.ref f_Book_drop) = true)
    (i_Book_drop : PySem.W.isFn K (.ref f_Book_drop) = true)
    (a_Book_spend : PySem.W.findIn K (.ref C_Book) "spend" = some (some (.ref f_Book_spend)))
    (l_Book_spend : K.lookup f_Book_spend = some ⟨oc_Book_spend, od_Book_spend, .func (PySem.W.fnOf "spend" "Book.spend" (defArgs s_Book_spend) (defBody s_Book_spend) (defScope s_Book_spend) .none kV_Book_spend dc_Book_spend pm_Book_spend an_Book_spend cd_Book_spend ct_Book_spend), sl_Book_spend⟩)
    (c_Book_spend : PySem.W.codeIn K cd_Book_spend "Book.spend" = true)
    (k_Book_spend : PySem.W.keepIn K (.ref f_Book_spend) = true)
    (i_Book_spend : PySem.W.isFn K (.ref f_Book_spend) = true)
    (a_Book_asked_at : PySem.W.findIn K (.ref C_Book) "asked_at" = some (some (.ref f_Book_asked_at)))
    (l_Book_asked_at : K.lookup f_Book_asked_at = some ⟨oc_Book_asked_at, od_Book_asked_at, .func (PySem.W.fnOf "asked_at" "Book.asked_at" (defArgs s_Book_asked_at) (defBody s_Book_asked_at) (defScope s_Book_asked_at) .none kV_Book_asked_at dc_Book_asked_at pm_Book_asked_at an_Book_asked_at cd_Book_asked_at ct_Book_asked_at), sl_Book_asked_at⟩)
    (c_Book_asked_at : PySem.W.codeIn K cd_Book_asked_at "Book.asked_at" = true)
    (k_Book_asked_at : PySem.W.keepIn K (.ref f_Book_asked_at) = true)
    (i_Book_asked_at : PySem.W.isFn K (.ref f_Book_asked_at) = true)
    (a_Book_came : PySem.W.findIn K (.ref C_Book) "came" = some (some (.ref f_Book_came)))
    (l_Book_came : K.lookup f_Book_came = some ⟨oc_Book_came, od_Book_came, .func (PySem.W.fnOf "came" "Book.came" (defArgs s_Book_came) (defBody s_Book_came) (defScope s_Book_came) .none kV_Book_came dc_Book_came pm_Book_came an_Book_came cd_Book_came ct_Book_came), sl_Book_came⟩)
    (c_Book_came : PySem.W.codeIn K cd_Book_came "Book.came" = true)
    (k_Book_came : PySem.W.keepIn K (.ref f_Book_came) = true)
    (i_Book_came : PySem.W.isFn K (.ref f_Book_came) = true)
    (a_Book_gone : PySem.W.findIn K (.ref C_Book) "gone" = some (some (.ref f_Book_gone)))
    (l_Book_gone : K.lookup f_Book_gone = some ⟨oc_Book_gone, od_Book_gone, .func (PySem.W.fnOf "gone" "Book.gone" (defArgs s_Book_gone) (defBody s_Book_gone) (defScope s_Book_gone) .none kV_Book_gone dc_Book_gone pm_Book_gone an_Book_gone cd_Book_gone ct_Book_gone), sl_Book_gone⟩)
    (c_Book_gone : PySem.W.codeIn K cd_Book_gone "Book.gone" = true)
    (k_Book_gone : PySem.W.keepIn K (.ref f_Book_gone) = true)
    (i_Book_gone : PySem.W.isFn K (.ref f_Book_gone) = true)
    (a_Book_inside : PySem.W.findIn K (.ref C_Book) "inside" = some (some (.ref f_Book_inside)))
    (l_Book_inside : K.lookup f_Book_inside = some ⟨oc_Book_inside, od_Book_inside, .func (PySem.W.fnOf "inside" "Book.inside" (defArgs s_Book_inside) (defBody s_Book_inside) (defScope s_Book_inside) .none kV_Book_inside dc_Book_inside pm_Book_inside an_Book_inside cd_Book_inside ct_Book_inside), sl_Book_inside⟩)
    (c_Book_inside : PySem.W.codeIn K cd_Book_inside "Book.inside" = true)
    (k_Book_inside : PySem.W.keepIn K (.ref f_Book_inside) = true)
    (i_Book_inside : PySem.W.isFn K (.ref f_Book_inside) = true)
    (a_Book_rank : PySem.W.findIn K (.ref C_Book) "rank" = some (some (.ref f_Book_rank)))
    (l_Book_rank : K.lookup f_Book_rank = some ⟨oc_Book_rank, od_Book_rank, .func (PySem.W.fnOf "rank" "Book.rank" (defArgs s_Book_rank) (defBody s_Book_rank) (defScope s_Book_rank) .none kV_Book_rank dc_Book_rank pm_Book_rank an_Book_rank cd_Book_rank ct_Book_rank), sl_Book_rank⟩)
    (c_Book_rank : PySem.W.codeIn K cd_Book_rank "Book.rank" = true)
    (k_Book_rank : PySem.W.keepIn K (.ref f_Book_rank) = true)
    (i_Book_rank : PySem.W.isFn K (.ref f_Book_rank) = true)
    (a_Book_names : PySem.W.findIn K (.ref C_Book) "names" = some (some (.ref f_Book_names)))
    (l_Book_names : K.lookup f_Book_names = some ⟨oc_Book_names, od_Book_names, .func (PySem.W.fnOf "names" "Book.names" (defArgs s_Book_names) (defBody s_Book_names) (defScope s_Book_names) .none kV_Book_names dc_Book_names pm_Book_names an_Book_names cd_Book_names ct_Book_names), sl_Book_names⟩)
    (c_Book_names : PySem.W.codeIn K cd_Book_names "Book.names" = true)
    (k_Book_names : PySem.W.keepIn K (.ref f_Book_names) = true)
    (i_Book_names : PySem.W.isFn K (.ref f_Book_names) = true)
    (a_Book_time_now : PySem.W.findIn K (.ref C_Book) "time_now" = some (some (.ref f_Book_time_now)))
    (l_Book_time_now : K.lookup f_Book_time_now = some ⟨oc_Book_time_now, od_Book_time_now, .func (PySem.W.fnOf "time_now" "Book.time_now" (defArgs s_Book_time_now) (defBody s_Book_time_now) (defScope s_Book_time_now) .none kV_Book_time_now dc_Book_time_now pm_Book_time_now an_Book_time_now cd_Book_time_now ct_Book_time_now), sl_Book_time_now⟩)
    (c_Book_time_now : PySem.W.codeIn K cd_Book_time_now "Book.time_now" = true)
    (k_Book_time_now : PySem.W.keepIn K (.ref f_Book_time_now) = true)
    (i_Book_time_now : PySem.W.isFn K (.ref f_Book_time_now) = true)
    (a_Book_deeds_done : PySem.W.findIn K (.ref C_Book) "deeds_done" = some (some (.ref f_Book_deeds_done)))
    (l_Book_deeds_done : K.lookup f_Book_deeds_done = some ⟨oc_Book_deeds_done, od_Book_deeds_done, .func (PySem.W.fnOf "deeds_done" "Book.deeds_done" (defArgs s_Book_deeds_done) (defBody s_Book_deeds_done) (defScope s_Book_deeds_done) .none kV_Book_deeds_done dc_Book_deeds_done pm_Book_deeds_done an_Book_deeds_done cd_Book_deeds_done ct_Book_deeds_done), sl_Book_deeds_done⟩)
    (c_Book_deeds_done : PySem.W.codeIn K cd_Book_deeds_done "Book.deeds_done" = true)
    (k_Book_deeds_done : PySem.W.keepIn K (.ref f_Book_deeds_done) = true)
    (i_Book_deeds_done : PySem.W.isFn K (.ref f_Book_deeds_done) = true)
    (a_Book_count_of : PySem.W.findIn K (.ref C_Book) "count_of" = some (some (.ref f_Book_count_of)))
    (l_Book_count_of : K.lookup f_Book_count_of = some ⟨oc_Book_count_of, od_Book_count_of, .func (PySem.W.fnOf "count_of" "Book.count_of" (defArgs s_Book_count_of) (defBody s_Book_count_of) (defScope s_Book_count_of) .none kV_Book_count_of dc_Book_count_of pm_Book_count_of an_Book_count_of cd_Book_count_of ct_Book_count_of), sl_Book_count_of⟩)
    (c_Book_count_of : PySem.W.codeIn K cd_Book_count_of "Book.count_of" = true)
    (k_Book_count_of : PySem.W.keepIn K (.ref f_Book_count_of) = true)
    (i_Book_count_of : PySem.W.isFn K (.ref f_Book_count_of) = true)
    (a_Book_last_of : PySem.W.findIn K (.ref C_Book) "last_of" = some (some (.ref f_Book_last_of)))
    (l_Book_last_of : K.lookup f_Book_last_of = some ⟨oc_Book_last_of, od_Book_last_of, .func (PySem.W.fnOf "last_of" "Book.last_of" (defArgs s_Book_last_of) (defBody s_Book_last_of) (defScope s_Book_last_of) .none kV_Book_last_of dc_Book_last_of pm_Book_last_of an_Book_last_of cd_Book_last_of ct_Book_last_of), sl_Book_last_of⟩)
    (c_Book_last_of : PySem.W.codeIn K cd_Book_last_of "Book.last_of" = true)
    (k_Book_last_of : PySem.W.keepIn K (.ref f_Book_last_of) = true)
    (i_Book_last_of : PySem.W.isFn K (.ref f_Book_last_of) = true)
    (a_Row_init : PySem.W.findIn K (.ref C_Row) "__init__" = some (some (.ref f_Row_init)))
    (l_Row_init : K.lookup f_Row_init = some ⟨oc_Row_init, od_Row_init, .func (PySem.W.fnOf "__init__" "Row.__init__" (defArgs s_Row_init) (defBody s_Row_init) (defScope s_Row_init) .none kV_Row_init dc_Row_init pm_Row_init an_Row_init cd_Row_init ct_Row_init), sl_Row_init⟩)
    (c_Row_init : PySem.W.codeIn K cd_Row_init "Row.__init__" = true)
    (k_Row_init : PySem.W.keepIn K (.ref f_Row_init) = true)
    (i_Row_init : PySem.W.isFn K (.ref f_Row_init) = true)
    (a_Row_came : PySem.W.findIn K (.ref C_Row) "came" = some (some (.ref f_Row_came)))
    (l_Row_came : K.lookup f_Row_came = some ⟨oc_Row_came, od_Row_came, .func (PySem.W.fnOf "came" "Row.came" (defArgs s_Row_came) (defBody s_Row_came) (defScope s_Row_came) .none kV_Row_came dc_Row_came pm_Row_came an_Row_came cd_Row_came ct_Row_came), sl_Row_came⟩)
    (c_Row_came : PySem.W.codeIn K cd_Row_came "Row.came" = true)
    (k_Row_came : PySem.W.keepIn K (.ref f_Row_came) = true)
    (i_Row_came : PySem.W.isFn K (.ref f_Row_came) = true)
    (a_Row_carry : PySem.W.findIn K (.ref C_Row) "carry" = some (some (.ref f_Row_carry)))
    (l_Row_carry : K.lookup f_Row_carry = some ⟨oc_Row_carry, od_Row_carry, .func (PySem.W.fnOf "carry" "Row.carry" (defArgs s_Row_carry) (defBody s_Row_carry) (defScope s_Row_carry) .none kV_Row_carry dc_Row_carry pm_Row_carry an_Row_carry cd_Row_carry ct_Row_carry), sl_Row_carry⟩)
    (c_Row_carry : PySem.W.codeIn K cd_Row_carry "Row.carry" = true)
    (k_Row_carry : PySem.W.keepIn K (.ref f_Row_carry) = true)
    (i_Row_carry : PySem.W.isFn K (.ref f_Row_carry) = true)
    (a_Row_trim : PySem.W.findIn K (.ref C_Row) "trim" = some (some (.ref f_Row_trim)))
    (l_Row_trim : K.lookup f_Row_trim = some ⟨oc_Row_trim, od_Row_trim, .func (PySem.W.fnOf "trim" "Row.trim" (defArgs s_Row_trim) (defBody s_Row_trim) (defScope s_Row_trim) .none kV_Row_trim dc_Row_trim pm_Row_trim an_Row_trim cd_Row_trim ct_Row_trim), sl_Row_trim⟩)
    (c_Row_trim : PySem.W.codeIn K cd_Row_trim "Row.trim" = true)
    (k_Row_trim : PySem.W.keepIn K (.ref f_Row_trim) = true)
    (i_Row_trim : PySem.W.isFn K (.ref f_Row_trim) = true)
    (a_Row_gone : PySem.W.findIn K (.ref C_Row) "gone" = some (some (.ref f_Row_gone)))
    (l_Row_gone : K.lookup f_Row_gone = some ⟨oc_Row_gone, od_Row_gone, .func (PySem.W.fnOf "gone" "Row.gone" (defArgs s_Row_gone) (defBody s_Row_gone) (defScope s_Row_gone) .none kV_Row_gone dc_Row_gone pm_Row_gone an_Row_gone cd_Row_gone ct_Row_gone), sl_Row_gone⟩)
    (c_Row_gone : PySem.W.codeIn K cd_Row_gone "Row.gone" = true)
    (k_Row_gone : PySem.W.keepIn K (.ref f_Row_gone) = true)
    (i_Row_gone : PySem.W.isFn K (.ref f_Row_gone) = true)
    (a_Row_inside : PySem.W.findIn K (.ref C_Row) "inside" = some (some (.ref f_Row_inside)))
    (l_Row_inside : K.lookup f_Row_inside = some ⟨oc_Row_inside, od_Row_inside, .func (PySem.W.fnOf "inside" "Row.inside" (defArgs s_Row_inside) (defBody s_Row_inside) (defScope s_Row_inside) .none kV_Row_inside dc_Row_inside pm_Row_inside an_Row_inside cd_Row_inside ct_Row_inside), sl_Row_inside⟩)
    (c_Row_inside : PySem.W.codeIn K cd_Row_inside "Row.inside" = true)
    (k_Row_inside : PySem.W.keepIn K (.ref f_Row_inside) = true)
    (i_Row_inside : PySem.W.isFn K (.ref f_Row_inside) = true)
    (a_Row_spots : PySem.W.findIn K (.ref C_Row) "spots" = some (some (.ref f_Row_spots)))
    (l_Row_spots : K.lookup f_Row_spots = some ⟨oc_Row_spots, od_Row_spots, .func (PySem.W.fnOf "spots" "Row.spots" (defArgs s_Row_spots) (defBody s_Row_spots) (defScope s_Row_spots) .none kV_Row_spots dc_Row_spots pm_Row_spots an_Row_spots cd_Row_spots ct_Row_spots), sl_Row_spots⟩)
    (c_Row_spots : PySem.W.codeIn K cd_Row_spots "Row.spots" = true)
    (k_Row_spots : PySem.W.keepIn K (.ref f_Row_spots) = true)
    (i_Row_spots : PySem.W.isFn K (.ref f_Row_spots) = true)
    (a_Row_names_at : PySem.W.findIn K (.ref C_Row) "names_at" = some (some (.ref f_Row_names_at)))
    (l_Row_names_at : K.lookup f_Row_names_at = some ⟨oc_Row_names_at, od_Row_names_at, .func (PySem.W.fnOf "names_at" "Row.names_at" (defArgs s_Row_names_at) (defBody s_Row_names_at) (defScope s_Row_names_at) .none kV_Row_names_at dc_Row_names_at pm_Row_names_at an_Row_names_at cd_Row_names_at ct_Row_names_at), sl_Row_names_at⟩)
    (c_Row_names_at : PySem.W.codeIn K cd_Row_names_at "Row.names_at" = true)
    (k_Row_names_at : PySem.W.keepIn K (.ref f_Row_names_at) = true)
    (i_Row_names_at : PySem.W.isFn K (.ref f_Row_names_at) = true)
    (a_Row_met_by : PySem.W.findIn K (.ref C_Row) "met_by" = some (some (.ref f_Row_met_by)))
    (l_Row_met_by : K.lookup f_Row_met_by = some ⟨oc_Row_met_by, od_Row_met_by, .func (PySem.W.fnOf "met_by" "Row.met_by" (defArgs s_Row_met_by) (defBody s_Row_met_by) (defScope s_Row_met_by) .none kV_Row_met_by dc_Row_met_by pm_Row_met_by an_Row_met_by cd_Row_met_by ct_Row_met_by), sl_Row_met_by⟩)
    (c_Row_met_by : PySem.W.codeIn K cd_Row_met_by "Row.met_by" = true)
    (k_Row_met_by : PySem.W.keepIn K (.ref f_Row_met_by) = true)
    (i_Row_met_by : PySem.W.isFn K (.ref f_Row_met_by) = true)
    (a_Row_enough : PySem.W.findIn K (.ref C_Row) "enough" = some (some (.ref f_Row_enough)))
    (l_Row_enough : K.lookup f_Row_enough = some ⟨oc_Row_enough, od_Row_enough, .func (PySem.W.fnOf "enough" "Row.enough" (defArgs s_Row_enough) (defBody s_Row_enough) (defScope s_Row_enough) .none kV_Row_enough dc_Row_enough pm_Row_enough an_Row_enough cd_Row_enough ct_Row_enough), sl_Row_enough⟩)
    (c_Row_enough : PySem.W.codeIn K cd_Row_enough "Row.enough" = true)
    (k_Row_enough : PySem.W.keepIn K (.ref f_Row_enough) = true)
    (i_Row_enough : PySem.W.isFn K (.ref f_Row_enough) = true)
    (a_Shelf_init : PySem.W.findIn K (.ref C_Shelf) "__init__" = some (some (.ref f_Shelf_init)))
    (l_Shelf_init : K.lookup f_Shelf_init = some ⟨oc_Shelf_init, od_Shelf_init, .func (PySem.W.fnOf "__init__" "Shelf.__init__" (defArgs s_Shelf_init) (defBody s_Shelf_init) (defScope s_Shelf_init) .none kV_Shelf_init dc_Shelf_init pm_Shelf_init an_Shelf_init cd_Shelf_init ct_Shelf_init), sl_Shelf_init⟩)
    (c_Shelf_init : PySem.W.codeIn K cd_Shelf_init "Shelf.__init__" = true)
    (k_Shelf_init : PySem.W.keepIn K (.ref f_Shelf_init) = true)
    (i_Shelf_init : PySem.W.isFn K (.ref f_Shelf_init) = true)
    (a_Shelf_came : PySem.W.findIn K (.ref C_Shelf) "came" = some (some (.ref f_Shelf_came)))
    (l_Shelf_came : K.lookup f_Shelf_came = some ⟨oc_Shelf_came, od_Shelf_came, .func (PySem.W.fnOf "came" "Shelf.came" (defArgs s_Shelf_came) (defBody s_Shelf_came) (defScope s_Shelf_came) .none kV_Shelf_came dc_Shelf_came pm_Shelf_came an_Shelf_came cd_Shelf_came ct_Shelf_came), sl_Shelf_came⟩)
    (c_Shelf_came : PySem.W.codeIn K cd_Shelf_came "Shelf.came" = true)
    (k_Shelf_came : PySem.W.keepIn K (.ref f_Shelf_came) = true)
    (i_Shelf_came : PySem.W.isFn K (.ref f_Shelf_came) = true)
    (a_Shelf_gone : PySem.W.findIn K (.ref C_Shelf) "gone" = some (some (.ref f_Shelf_gone)))
    (l_Shelf_gone : K.lookup f_Shelf_gone = some ⟨oc_Shelf_gone, od_Shelf_gone, .func (PySem.W.fnOf "gone" "Shelf.gone" (defArgs s_Shelf_gone) (defBody s_Shelf_gone) (defScope s_Shelf_gone) .none kV_Shelf_gone dc_Shelf_gone pm_Shelf_gone an_Shelf_gone cd_Shelf_gone ct_Shelf_gone), sl_Shelf_gone⟩)
    (c_Shelf_gone : PySem.W.codeIn K cd_Shelf_gone "Shelf.gone" = true)
    (k_Shelf_gone : PySem.W.keepIn K (.ref f_Shelf_gone) = true)
    (i_Shelf_gone : PySem.W.isFn K (.ref f_Shelf_gone) = true)
    (a_Shelf_inside : PySem.W.findIn K (.ref C_Shelf) "inside" = some (some (.ref f_Shelf_inside)))
    (l_Shelf_inside : K.lookup f_Shelf_inside = some ⟨oc_Shelf_inside, od_Shelf_inside, .func (PySem.W.fnOf "inside" "Shelf.inside" (defArgs s_Shelf_inside) (defBody s_Shelf_inside) (defScope s_Shelf_inside) .none kV_Shelf_inside dc_Shelf_inside pm_Shelf_inside an_Shelf_inside cd_Shelf_inside ct_Shelf_inside), sl_Shelf_inside⟩)
    (c_Shelf_inside : PySem.W.codeIn K cd_Shelf_inside "Shelf.inside" = true)
    (k_Shelf_inside : PySem.W.keepIn K (.ref f_Shelf_inside) = true)
    (i_Shelf_inside : PySem.W.isFn K (.ref f_Shelf_inside) = true)
    (a_Shelf_has : PySem.W.findIn K (.ref C_Shelf) "has" = some (some (.ref f_Shelf_has)))
    (l_Shelf_has : K.lookup f_Shelf_has = some ⟨oc_Shelf_has, od_Shelf_has, .func (PySem.W.fnOf "has" "Shelf.has" (defArgs s_Shelf_has) (defBody s_Shelf_has) (defScope s_Shelf_has) .none kV_Shelf_has dc_Shelf_has pm_Shelf_has an_Shelf_has cd_Shelf_has ct_Shelf_has), sl_Shelf_has⟩)
    (c_Shelf_has : PySem.W.codeIn K cd_Shelf_has "Shelf.has" = true)
    (k_Shelf_has : PySem.W.keepIn K (.ref f_Shelf_has) = true)
    (i_Shelf_has : PySem.W.isFn K (.ref f_Shelf_has) = true)
    (a_Shelf_goings : PySem.W.findIn K (.ref C_Shelf) "goings" = some (some (.ref f_Shelf_goings)))
    (l_Shelf_goings : K.lookup f_Shelf_goings = some ⟨oc_Shelf_goings, od_Shelf_goings, .func (PySem.W.fnOf "goings" "Shelf.goings" (defArgs s_Shelf_goings) (defBody s_Shelf_goings) (defScope s_Shelf_goings) .none kV_Shelf_goings dc_Shelf_goings pm_Shelf_goings an_Shelf_goings cd_Shelf_goings ct_Shelf_goings), sl_Shelf_goings⟩)
    (c_Shelf_goings : PySem.W.codeIn K cd_Shelf_goings "Shelf.goings" = true)
    (k_Shelf_goings : PySem.W.keepIn K (.ref f_Shelf_goings) = true)
    (i_Shelf_goings : PySem.W.isFn K (.ref f_Shelf_goings) = true)
    (a_l_cell_at : PySem.W.nsIn K mainGlobals "_law_cell_at" = some (some (.ref f_l_cell_at)))
    (l_l_cell_at : K.lookup f_l_cell_at = some ⟨oc_l_cell_at, od_l_cell_at, .func (PySem.W.fnOf "_law_cell_at" "_law_cell_at" (defArgs s_l_cell_at) (defBody s_l_cell_at) (defScope s_l_cell_at) .none kV_l_cell_at dc_l_cell_at pm_l_cell_at an_l_cell_at cd_l_cell_at ct_l_cell_at), sl_l_cell_at⟩)
    (c_l_cell_at : PySem.W.codeIn K cd_l_cell_at "_law_cell_at" = true)
    (k_l_cell_at : PySem.W.keepIn K (.ref f_l_cell_at) = true)
    (a_l_sign : PySem.W.nsIn K mainGlobals "_law_sign" = some (some (.ref f_l_sign)))
    (l_l_sign : K.lookup f_l_sign = some ⟨oc_l_sign, od_l_sign, .func (PySem.W.fnOf "_law_sign" "_law_sign" (defArgs s_l_sign) (defBody s_l_sign) (defScope s_l_sign) .none kV_l_sign dc_l_sign pm_l_sign an_l_sign cd_l_sign ct_l_sign), sl_l_sign⟩)
    (c_l_sign : PySem.W.codeIn K cd_l_sign "_law_sign" = true)
    (k_l_sign : PySem.W.keepIn K (.ref f_l_sign) = true)
    (a_l_names : PySem.W.nsIn K mainGlobals "_law_names" = some (some (.ref f_l_names)))
    (l_l_names : K.lookup f_l_names = some ⟨oc_l_names, od_l_names, .func (PySem.W.fnOf "_law_names" "_law_names" (defArgs s_l_names) (defBody s_l_names) (defScope s_l_names) .none kV_l_names dc_l_names pm_l_names an_l_names cd_l_names ct_l_names), sl_l_names⟩)
    (c_l_names : PySem.W.codeIn K cd_l_names "_law_names" = true)
    (k_l_names : PySem.W.keepIn K (.ref f_l_names) = true)
    (a_l_span : PySem.W.nsIn K mainGlobals "_law_span" = some (some (.ref f_l_span)))
    (l_l_span : K.lookup f_l_span = some ⟨oc_l_span, od_l_span, .func (PySem.W.fnOf "_law_span" "_law_span" (defArgs s_l_span) (defBody s_l_span) (defScope s_l_span) .none kV_l_span dc_l_span pm_l_span an_l_span cd_l_span ct_l_span), sl_l_span⟩)
    (c_l_span : PySem.W.codeIn K cd_l_span "_law_span" = true)
    (k_l_span : PySem.W.keepIn K (.ref f_l_span) = true)
    (a_l_part : PySem.W.nsIn K mainGlobals "_law_part" = some (some (.ref f_l_part)))
    (l_l_part : K.lookup f_l_part = some ⟨oc_l_part, od_l_part, .func (PySem.W.fnOf "_law_part" "_law_part" (defArgs s_l_part) (defBody s_l_part) (defScope s_l_part) .none kV_l_part dc_l_part pm_l_part an_l_part cd_l_part ct_l_part), sl_l_part⟩)
    (c_l_part : PySem.W.codeIn K cd_l_part "_law_part" = true)
    (k_l_part : PySem.W.keepIn K (.ref f_l_part) = true)
    (a_l_deed : PySem.W.nsIn K mainGlobals "_law_deed" = some (some (.ref f_l_deed)))
    (l_l_deed : K.lookup f_l_deed = some ⟨oc_l_deed, od_l_deed, .func (PySem.W.fnOf "_law_deed" "_law_deed" (defArgs s_l_deed) (defBody s_l_deed) (defScope s_l_deed) .none kV_l_deed dc_l_deed pm_l_deed an_l_deed cd_l_deed ct_l_deed), sl_l_deed⟩)
    (c_l_deed : PySem.W.codeIn K cd_l_deed "_law_deed" = true)
    (k_l_deed : PySem.W.keepIn K (.ref f_l_deed) = true)
    (a_l_do : PySem.W.nsIn K mainGlobals "_law_do" = some (some (.ref f_l_do)))
    (l_l_do : K.lookup f_l_do = some ⟨oc_l_do, od_l_do, .func (PySem.W.fnOf "_law_do" "_law_do" (defArgs s_l_do) (defBody s_l_do) (defScope s_l_do) .none kV_l_do dc_l_do pm_l_do an_l_do cd_l_do ct_l_do), sl_l_do⟩)
    (c_l_do : PySem.W.codeIn K cd_l_do "_law_do" = true)
    (k_l_do : PySem.W.keepIn K (.ref f_l_do) = true)
    (a_l_bad_name : PySem.W.nsIn K mainGlobals "_law_bad_name" = some (some (.ref f_l_bad_name)))
    (l_l_bad_name : K.lookup f_l_bad_name = some ⟨oc_l_bad_name, od_l_bad_name, .func (PySem.W.fnOf "_law_bad_name" "_law_bad_name" (defArgs s_l_bad_name) (defBody s_l_bad_name) (defScope s_l_bad_name) .none kV_l_bad_name dc_l_bad_name pm_l_bad_name an_l_bad_name cd_l_bad_name ct_l_bad_name), sl_l_bad_name⟩)
    (c_l_bad_name : PySem.W.codeIn K cd_l_bad_name "_law_bad_name" = true)
    (k_l_bad_name : PySem.W.keepIn K (.ref f_l_bad_name) = true)
    (a_l_bad_number : PySem.W.nsIn K mainGlobals "_law_bad_number" = some (some (.ref f_l_bad_number)))
    (l_l_bad_number : K.lookup f_l_bad_number = some ⟨oc_l_bad_number, od_l_bad_number, .func (PySem.W.fnOf "_law_bad_number" "_law_bad_number" (defArgs s_l_bad_number) (defBody s_l_bad_number) (defScope s_l_bad_number) .none kV_l_bad_number dc_l_bad_number pm_l_bad_number an_l_bad_number cd_l_bad_number ct_l_bad_number), sl_l_bad_number⟩)
    (c_l_bad_number : PySem.W.codeIn K cd_l_bad_number "_law_bad_number" = true)
    (k_l_bad_number : PySem.W.keepIn K (.ref f_l_bad_number) = true)
    (a_l_thing_call : PySem.W.nsIn K mainGlobals "_law_thing_call" = some (some (.ref f_l_thing_call)))
    (l_l_thing_call : K.lookup f_l_thing_call = some ⟨oc_l_thing_call, od_l_thing_call, .func (PySem.W.fnOf "_law_thing_call" "_law_thing_call" (defArgs s_l_thing_call) (defBody s_l_thing_call) (defScope s_l_thing_call) .none kV_l_thing_call dc_l_thing_call pm_l_thing_call an_l_thing_call cd_l_thing_call ct_l_thing_call), sl_l_thing_call⟩)
    (c_l_thing_call : PySem.W.codeIn K cd_l_thing_call "_law_thing_call" = true)
    (k_l_thing_call : PySem.W.keepIn K (.ref f_l_thing_call) = true)
    (a_l_own_call : PySem.W.nsIn K mainGlobals "_law_own_call" = some (some (.ref f_l_own_call)))
    (l_l_own_call : K.lookup f_l_own_call = some ⟨oc_l_own_call, od_l_own_call, .func (PySem.W.fnOf "_law_own_call" "_law_own_call" (defArgs s_l_own_call) (defBody s_l_own_call) (defScope s_l_own_call) .none kV_l_own_call dc_l_own_call pm_l_own_call an_l_own_call cd_l_own_call ct_l_own_call), sl_l_own_call⟩)
    (c_l_own_call : PySem.W.codeIn K cd_l_own_call "_law_own_call" = true)
    (k_l_own_call : PySem.W.keepIn K (.ref f_l_own_call) = true)
    (a_l_new_call : PySem.W.nsIn K mainGlobals "_law_new_call" = some (some (.ref f_l_new_call)))
    (l_l_new_call : K.lookup f_l_new_call = some ⟨oc_l_new_call, od_l_new_call, .func (PySem.W.fnOf "_law_new_call" "_law_new_call" (defArgs s_l_new_call) (defBody s_l_new_call) (defScope s_l_new_call) .none kV_l_new_call dc_l_new_call pm_l_new_call an_l_new_call cd_l_new_call ct_l_new_call), sl_l_new_call⟩)
    (c_l_new_call : PySem.W.codeIn K cd_l_new_call "_law_new_call" = true)
    (k_l_new_call : PySem.W.keepIn K (.ref f_l_new_call) = true)
    (a_l_due : PySem.W.nsIn K mainGlobals "_law_due" = some (some (.ref f_l_due)))
    (l_l_due : K.lookup f_l_due = some ⟨oc_l_due, od_l_due, .func (PySem.W.fnOf "_law_due" "_law_due" (defArgs s_l_due) (defBody s_l_due) (defScope s_l_due) .none kV_l_due dc_l_due pm_l_due an_l_due cd_l_due ct_l_due), sl_l_due⟩)
    (c_l_due : PySem.W.codeIn K cd_l_due "_law_due" = true)
    (k_l_due : PySem.W.keepIn K (.ref f_l_due) = true)
    (a_l_call : PySem.W.nsIn K mainGlobals "_law_call" = some (some (.ref f_l_call)))
    (l_l_call : K.lookup f_l_call = some ⟨oc_l_call, od_l_call, .func (PySem.W.fnOf "_law_call" "_law_call" (defArgs s_l_call) (defBody s_l_call) (defScope s_l_call) .none kV_l_call dc_l_call pm_l_call an_l_call cd_l_call ct_l_call), sl_l_call⟩)
    (c_l_call : PySem.W.codeIn K cd_l_call "_law_call" = true)
    (k_l_call : PySem.W.keepIn K (.ref f_l_call) = true)
    (a_l_by_base : PySem.W.nsIn K mainGlobals "_law_by_base" = some (some (.ref f_l_by_base)))
    (l_l_by_base : K.lookup f_l_by_base = some ⟨oc_l_by_base, od_l_by_base, .func (PySem.W.fnOf "_law_by_base" "_law_by_base" (defArgs s_l_by_base) (defBody s_l_by_base) (defScope s_l_by_base) .none kV_l_by_base dc_l_by_base pm_l_by_base an_l_by_base cd_l_by_base ct_l_by_base), sl_l_by_base⟩)
    (c_l_by_base : PySem.W.codeIn K cd_l_by_base "_law_by_base" = true)
    (k_l_by_base : PySem.W.keepIn K (.ref f_l_by_base) = true)
    (a_l_by_name : PySem.W.nsIn K mainGlobals "_law_by_name" = some (some (.ref f_l_by_name)))
    (l_l_by_name : K.lookup f_l_by_name = some ⟨oc_l_by_name, od_l_by_name, .func (PySem.W.fnOf "_law_by_name" "_law_by_name" (defArgs s_l_by_name) (defBody s_l_by_name) (defScope s_l_by_name) .none kV_l_by_name dc_l_by_name pm_l_by_name an_l_by_name cd_l_by_name ct_l_by_name), sl_l_by_name⟩)
    (c_l_by_name : PySem.W.codeIn K cd_l_by_name "_law_by_name" = true)
    (k_l_by_name : PySem.W.keepIn K (.ref f_l_by_name) = true)
    (a_l_same : PySem.W.nsIn K mainGlobals "_law_same" = some (some (.ref f_l_same)))
    (l_l_same : K.lookup f_l_same = some ⟨oc_l_same, od_l_same, .func (PySem.W.fnOf "_law_same" "_law_same" (defArgs s_l_same) (defBody s_l_same) (defScope s_l_same) .none kV_l_same dc_l_same pm_l_same an_l_same cd_l_same ct_l_same), sl_l_same⟩)
    (c_l_same : PySem.W.codeIn K cd_l_same "_law_same" = true)
    (k_l_same : PySem.W.keepIn K (.ref f_l_same) = true)
    (a_l_twins : PySem.W.nsIn K mainGlobals "_law_twins" = some (some (.ref f_l_twins)))
    (l_l_twins : K.lookup f_l_twins = some ⟨oc_l_twins, od_l_twins, .func (PySem.W.fnOf "_law_twins" "_law_twins" (defArgs s_l_twins) (defBody s_l_twins) (defScope s_l_twins) .none kV_l_twins dc_l_twins pm_l_twins an_l_twins cd_l_twins ct_l_twins), sl_l_twins⟩)
    (c_l_twins : PySem.W.codeIn K cd_l_twins "_law_twins" = true)
    (k_l_twins : PySem.W.keepIn K (.ref f_l_twins) = true)
    (a_law : PySem.W.nsIn K mainGlobals "law" = some (some (.ref f_law)))
    (l_law : K.lookup f_law = some ⟨oc_law, od_law, .func (PySem.W.fnOf "law" "law" (defArgs s_law) (defBody s_law) (defScope s_law) .none kV_law dc_law pm_law an_law cd_law ct_law), sl_law⟩)
    (c_law : PySem.W.codeIn K cd_law "law" = true)
    (k_law : PySem.W.keepIn K (.ref f_law) = true)
    (z_ValueError : PySem.W.nsIn K mainGlobals "ValueError" = some none)
    (z_all : PySem.W.nsIn K mainGlobals "all" = some none)
    (z_any : PySem.W.nsIn K mainGlobals "any" = some none)
    (z_bool : PySem.W.nsIn K mainGlobals "bool" = some none)
    (z_enumerate : PySem.W.nsIn K mainGlobals "enumerate" = some none)
    (z_int : PySem.W.nsIn K mainGlobals "int" = some none)
    (z_isinstance : PySem.W.nsIn K mainGlobals "isinstance" = some none)
    (z_len : PySem.W.nsIn K mainGlobals "len" = some none)
    (z_list : PySem.W.nsIn K mainGlobals "list" = some none)
    (z_min : PySem.W.nsIn K mainGlobals "min" = some none)
    (z_range : PySem.W.nsIn K mainGlobals "range" = some none)
    (z_sorted : PySem.W.nsIn K mainGlobals "sorted" = some none)
    (z_str : PySem.W.nsIn K mainGlobals "str" = some none)
    (z_zip : PySem.W.nsIn K mainGlobals "zip" = some none)
    (g_MOST_SIGNS : PySem.W.nsIn K mainGlobals "MOST_SIGNS" = some (some (.int 40 t_MOST_SIGNS)))
    (g_MOST_PLACES : PySem.W.nsIn K mainGlobals "MOST_PLACES" = some (some (.int 1000 t_MOST_PLACES)))
    (g_MOST_SPAN : PySem.W.nsIn K mainGlobals "MOST_SPAN" = some (some (.int 100000000000000000000 t_MOST_SPAN)))
    (g_MOST_NUMBER : PySem.W.nsIn K mainGlobals "MOST_NUMBER" = some (some (.int 1000000000000000000000000000000 t_MOST_NUMBER)))
    (pg_Book : PySem.W.plainGet K C_Book Str.empty = true)
    (hd_Book : PySem.W.hasDictIn K C_Book = true)
    (po_Book : PySem.W.plainOver K C_Book = true)
    (sa_Book : PySem.W.findIn K (.ref C_Book) "__setattr__" = some (some (.builtin "object.__setattr__")))
    (mk_Book : PySem.W.makesIn K C_Book = true)
    (kc_Book : PySem.W.keepIn K (.ref C_Book) = true)
    (na_Book_span : PySem.W.findIn K (.ref C_Book) "span" = some none)
    (na_Book_part : PySem.W.findIn K (.ref C_Book) "part" = some none)
    (na_Book_time : PySem.W.findIn K (.ref C_Book) "time" = some none)
    (na_Book_deed : PySem.W.findIn K (.ref C_Book) "deed" = some none)
    (na_Book_counts : PySem.W.findIn K (.ref C_Book) "counts" = some none)
    (na_Book_lasts : PySem.W.findIn K (.ref C_Book) "lasts" = some none)
    (pg_Shelf : PySem.W.plainGet K C_Shelf Str.empty = true)
    (hd_Shelf : PySem.W.hasDictIn K C_Shelf = true)
    (po_Shelf : PySem.W.plainOver K C_Shelf = true)
    (sa_Shelf : PySem.W.findIn K (.ref C_Shelf) "__setattr__" = some (some (.builtin "object.__setattr__")))
    (mk_Shelf : PySem.W.makesIn K C_Shelf = true)
    (kc_Shelf : PySem.W.keepIn K (.ref C_Shelf) = true)
    (na_Shelf_span : PySem.W.findIn K (.ref C_Shelf) "span" = some none)
    (na_Shelf_part : PySem.W.findIn K (.ref C_Shelf) "part" = some none)
    (na_Shelf_time : PySem.W.findIn K (.ref C_Shelf) "time" = some none)
    (na_Shelf_deed : PySem.W.findIn K (.ref C_Shelf) "deed" = some none)
    (na_Shelf_counts : PySem.W.findIn K (.ref C_Shelf) "counts" = some none)
    (na_Shelf_lasts : PySem.W.findIn K (.ref C_Shelf) "lasts" = some none)
    (na_Shelf_places : PySem.W.findIn K (.ref C_Shelf) "places" = some none)
    (na_Shelf_standing : PySem.W.findIn K (.ref C_Shelf) "standing" = some none)
    (na_Shelf_went : PySem.W.findIn K (.ref C_Shelf) "went" = some none)
    (fi_Shelf_ask : PySem.W.findIn K (.ref C_Shelf) "ask" = some (some (.ref f_Book_ask)))
    (fi_Shelf_rest : PySem.W.findIn K (.ref C_Shelf) "rest" = some (some (.ref f_Book_rest)))
    (fi_Shelf_drop : PySem.W.findIn K (.ref C_Shelf) "drop" = some (some (.ref f_Book_drop)))
    (fi_Shelf_spend : PySem.W.findIn K (.ref C_Shelf) "spend" = some (some (.ref f_Book_spend)))
    (fi_Shelf_asked_at : PySem.W.findIn K (.ref C_Shelf) "asked_at" = some (some (.ref f_Book_asked_at)))
    (fi_Shelf_rank : PySem.W.findIn K (.ref C_Shelf) "rank" = some (some (.ref f_Book_rank)))
    (fi_Shelf_names : PySem.W.findIn K (.ref C_Shelf) "names" = some (some (.ref f_Book_names)))
    (fi_Shelf_time_now : PySem.W.findIn K (.ref C_Shelf) "time_now" = some (some (.ref f_Book_time_now)))
    (fi_Shelf_deeds_done : PySem.W.findIn K (.ref C_Shelf) "deeds_done" = some (some (.ref f_Book_deeds_done)))
    (fi_Shelf_count_of : PySem.W.findIn K (.ref C_Shelf) "count_of" = some (some (.ref f_Book_count_of)))
    (fi_Shelf_last_of : PySem.W.findIn K (.ref C_Shelf) "last_of" = some (some (.ref f_Book_last_of)))
    (pg_Row : PySem.W.plainGet K C_Row Str.empty = true)
    (hd_Row : PySem.W.hasDictIn K C_Row = true)
    (po_Row : PySem.W.plainOver K C_Row = true)
    (sa_Row : PySem.W.findIn K (.ref C_Row) "__setattr__" = some (some (.builtin "object.__setattr__")))
    (mk_Row : PySem.W.makesIn K C_Row = true)
    (kc_Row : PySem.W.keepIn K (.ref C_Row) = true)
    (na_Row_span : PySem.W.findIn K (.ref C_Row) "span" = some none)
    (na_Row_part : PySem.W.findIn K (.ref C_Row) "part" = some none)
    (na_Row_time : PySem.W.findIn K (.ref C_Row) "time" = some none)
    (na_Row_deed : PySem.W.findIn K (.ref C_Row) "deed" = some none)
    (na_Row_counts : PySem.W.findIn K (.ref C_Row) "counts" = some none)
    (na_Row_lasts : PySem.W.findIn K (.ref C_Row) "lasts" = some none)
    (na_Row_laid : PySem.W.findIn K (.ref C_Row) "laid" = some none)
    (na_Row_depths : PySem.W.findIn K (.ref C_Row) "depths" = some none)
    (fi_Row_ask : PySem.W.findIn K (.ref C_Row) "ask" = some (some (.ref f_Book_ask)))
    (fi_Row_rest : PySem.W.findIn K (.ref C_Row) "rest" = some (some (.ref f_Book_rest)))
    (fi_Row_drop : PySem.W.findIn K (.ref C_Row) "drop" = some (some (.ref f_Book_drop)))
    (fi_Row_spend : PySem.W.findIn K (.ref C_Row) "spend" = some (some (.ref f_Book_spend)))
    (fi_Row_asked_at : PySem.W.findIn K (.ref C_Row) "asked_at" = some (some (.ref f_Book_asked_at)))
    (fi_Row_rank : PySem.W.findIn K (.ref C_Row) "rank" = some (some (.ref f_Book_rank)))
    (fi_Row_names : PySem.W.findIn K (.ref C_Row) "names" = some (some (.ref f_Book_names)))
    (fi_Row_time_now : PySem.W.findIn K (.ref C_Row) "time_now" = some (some (.ref f_Book_time_now)))
    (fi_Row_deeds_done : PySem.W.findIn K (.ref C_Row) "deeds_done" = some (some (.ref f_Book_deeds_done)))
    (fi_Row_count_of : PySem.W.findIn K (.ref C_Row) "count_of" = some (some (.ref f_Book_count_of)))
    (fi_Row_last_of : PySem.W.findIn K (.ref C_Row) "last_of" = some (some (.ref f_Book_last_of)))
    (gg_rank : PySem.W.specialIn K (.ref f_Book_rank) "__get__" = some (some (.builtin "function.__get__")))
    (gt_rank : PySem.W.takesIn K (.ref f_Book_rank) = some false)
    (gf_rank : PySem.W.fnIn K f_Book_rank = true)
    (gg_asked_at : PySem.W.specialIn K (.ref f_Book_asked_at) "__get__" = some (some (.builtin "function.__get__")))
    (gt_asked_at : PySem.W.takesIn K (.ref f_Book_asked_at) = some false)
    (gf_asked_at : PySem.W.fnIn K f_Book_asked_at = true)
    (cd_rd : PySem.W.readsIn K C_Book (.type "type") = true)
    (cd_ga : PySem.W.specialIn K (.ref C_Book) "__getattribute__" = some (some (.builtin "type.__getattribute__")))
    (cd_at : PySem.W.findCls K (.ref C_Book) (.type "type") "__init__" = some (.val (.ref f_Book_init)))
    (eb_ShelfError : PySem.W.subIn K (.ref C_ShelfError) (.type "BaseException") = some true)
    (et_ShelfError : PySem.W.typeIn K (.ref C_ShelfError) = some (.type "type"))
    (eh_ShelfError : PySem.W.hasDictIn K C_ShelfError = true)
    (eb_NoName : PySem.W.subIn K (.ref C_NoName) (.type "BaseException") = some true)
    (et_NoName : PySem.W.typeIn K (.ref C_NoName) = some (.type "type"))
    (eh_NoName : PySem.W.hasDictIn K C_NoName = true)
    (eb_NoNumber : PySem.W.subIn K (.ref C_NoNumber) (.type "BaseException") = some true)
    (et_NoNumber : PySem.W.typeIn K (.ref C_NoNumber) = some (.type "type"))
    (eh_NoNumber : PySem.W.hasDictIn K C_NoNumber = true)
    (eb_NoRule : PySem.W.subIn K (.ref C_NoRule) (.type "BaseException") = some true)
    (et_NoRule : PySem.W.typeIn K (.ref C_NoRule) = some (.type "type"))
    (eh_NoRule : PySem.W.hasDictIn K C_NoRule = true)
    (it_Book : PySem.W.typeIn K (.ref C_Book) = some (.type "type"))
    (ic_Shelf : PySem.W.findIn K (.ref C_Shelf) "__class__" = some (some (.builtin "object.__class__")))
    (im_Shelf : PySem.W.mroIn K C_Shelf (.type "object") = some true)
    (es_Shelf_Shelf : PySem.W.subIn K (.ref C_Shelf) (.ref C_Shelf) = some true)
    (es_Shelf_Book : PySem.W.subIn K (.ref C_Shelf) (.ref C_Book) = some true)
    (ic_Row : PySem.W.findIn K (.ref C_Row) "__class__" = some (some (.builtin "object.__class__")))
    (im_Row : PySem.W.mroIn K C_Row (.type "object") = some true)
    (es_Row_Row : PySem.W.subIn K (.ref C_Row) (.ref C_Row) = some true)
    (es_Row_Book : PySem.W.subIn K (.ref C_Row) (.ref C_Book) = some true)
    (en : PySem.W.specialIn K (.builtin "object.__class__") "__get__" = some (some (.builtin "getset_descriptor.__get__")))
    (etk : PySem.W.takesIn K (.builtin "object.__class__") = some true)
    (ex_NoName : PySem.W.excIn K C_NoName veT "ValueError.__new__" = true)
    (ek_NoName : PySem.W.keepIn K (.ref C_NoName) = true)
    (eg_NoName : PySem.W.findIn K (.ref C_NoName) "__getattribute__" = some (some (.builtin "BaseException.__getattribute__")))
    (ea_NoName : PySem.W.findIn K (.ref C_NoName) "__getattr__" = some none)
    (ec_NoName : PySem.W.findIn K (.ref C_NoName) "__class__" = some (some (.builtin "object.__class__")))
    (em_NoName : PySem.W.mroIn K C_NoName (.type "object") = some true)
    (ev_NoName : PySem.W.subIn K (.ref C_NoName) (.type "ValueError") = some true)
    (es_NoName_ShelfError : PySem.W.subIn K (.ref C_NoName) (.ref C_ShelfError) = some true)
    (es_NoName_NoName : PySem.W.subIn K (.ref C_NoName) (.ref C_NoName) = some true)
    (es_NoName_NoNumber : PySem.W.subIn K (.ref C_NoName) (.ref C_NoNumber) = some false)
    (es_NoName_NoRule : PySem.W.subIn K (.ref C_NoName) (.ref C_NoRule) = some false)
    (ex_NoNumber : PySem.W.excIn K C_NoNumber veT "ValueError.__new__" = true)
    (ek_NoNumber : PySem.W.keepIn K (.ref C_NoNumber) = true)
    (eg_NoNumber : PySem.W.findIn K (.ref C_NoNumber) "__getattribute__" = some (some (.builtin "BaseException.__getattribute__")))
    (ea_NoNumber : PySem.W.findIn K (.ref C_NoNumber) "__getattr__" = some none)
    (ec_NoNumber : PySem.W.findIn K (.ref C_NoNumber) "__class__" = some (some (.builtin "object.__class__")))
    (em_NoNumber : PySem.W.mroIn K C_NoNumber (.type "object") = some true)
    (ev_NoNumber : PySem.W.subIn K (.ref C_NoNumber) (.type "ValueError") = some true)
    (es_NoNumber_ShelfError : PySem.W.subIn K (.ref C_NoNumber) (.ref C_ShelfError) = some true)
    (es_NoNumber_NoName : PySem.W.subIn K (.ref C_NoNumber) (.ref C_NoName) = some false)
    (es_NoNumber_NoNumber : PySem.W.subIn K (.ref C_NoNumber) (.ref C_NoNumber) = some true)
    (es_NoNumber_NoRule : PySem.W.subIn K (.ref C_NoNumber) (.ref C_NoRule) = some false)
    (ex_NoRule : PySem.W.excIn K C_NoRule veT "ValueError.__new__" = true)
    (ek_NoRule : PySem.W.keepIn K (.ref C_NoRule) = true)
    (eg_NoRule : PySem.W.findIn K (.ref C_NoRule) "__getattribute__" = some (some (.builtin "BaseException.__getattribute__")))
    (ea_NoRule : PySem.W.findIn K (.ref C_NoRule) "__getattr__" = some none)
    (ec_NoRule : PySem.W.findIn K (.ref C_NoRule) "__class__" = some (some (.builtin "object.__class__")))
    (em_NoRule : PySem.W.mroIn K C_NoRule (.type "object") = some true)
    (ev_NoRule : PySem.W.subIn K (.ref C_NoRule) (.type "ValueError") = some true)
    (es_NoRule_ShelfError : PySem.W.subIn K (.ref C_NoRule) (.ref C_ShelfError) = some true)
    (es_NoRule_NoName : PySem.W.subIn K (.ref C_NoRule) (.ref C_NoName) = some false)
    (es_NoRule_NoNumber : PySem.W.subIn K (.ref C_NoRule) (.ref C_NoNumber) = some false)
    (es_NoRule_NoRule : PySem.W.subIn K (.ref C_NoRule) (.ref C_NoRule) = some true) :
    ∃ fd : FuncData, (∀ (s : Shared) (v : Value), BindsTo s fd ⟨[v], []⟩ [("_law_script", v)]) ∧ ∀ base : Heap, K.In base → base.Ns mainGlobals mg → FnOk l.prog w K mg base CX0 14 fa fd P_law (spLaw K) := by
  have e := hfa.symm.trans (PySem.W.mg_of X G a_law)
  cases e
  have F_within := fun_mk (st := s_within) l_within c_within k_within
  have b_within := F_within.binds (ps := P_within) fun _ _ _ _ _ _ us hl => match us, hl with | [_, _, _], _ => rfl
  have F_want_number := fun_mk (st := s_want_number) l_want_number c_want_number k_want_number
  have b_want_number := F_want_number.binds (ps := P_want_number) fun _ _ _ _ _ _ us hl => match us, hl with | [_, _, _], _ => rfl
  have F_want_name := fun_mk (st := s_want_name) l_want_name c_want_name k_want_name
  have b_want_name := F_want_name.binds (ps := P_want_name) fun _ _ _ _ _ _ us hl => match us, hl with | [_], _ => rfl
  have F_want_rule := fun_mk (st := s_want_rule) l_want_rule c_want_rule k_want_rule
  have b_want_rule := F_want_rule.binds (ps := P_want_rule) fun _ _ _ _ _ _ us hl => match us, hl with | [_, _], _ => rfl
  have F_ageings := fun_mk (st := s_ageings) l_ageings c_ageings k_ageings
  have b_ageings := F_ageings.binds (ps := P_ageings) fun _ _ _ _ _ _ us hl => match us, hl with | [_, _, _], _ => rfl
  have F_aged := fun_mk (st := s_aged) l_aged c_aged k_aged
  have b_aged := F_aged.binds (ps := P_aged) fun _ _ _ _ _ _ us hl => match us, hl with | [_, _, _], _ => rfl
  have F_Book_init := fun_mk (st := s_Book_init) l_Book_init c_Book_init k_Book_init
  have b_Book_init := F_Book_init.binds (ps := P_Book_init) fun _ _ _ _ _ _ us hl => match us, hl with | [_, _, _], _ => rfl
  have F_Book_ask := mkD_Book_ask l_Book_ask c_Book_ask d_Book_ask k_Book_ask
  have b_Book_ask := bD_Book_ask F_Book_ask
  have bd_Book_ask := bdD_Book_ask F_Book_ask
  have F_Book_rest := fun_mk (st := s_Book_rest) l_Book_rest c_Book_rest k_Book_rest
  have b_Book_rest := F_Book_rest.binds (ps := P_Book_rest) fun _ _ _ _ _ _ us hl => match us, hl with | [_, _], _ => rfl
  have F_Book_drop := fun_mk (st := s_Book_drop) l_Book_drop c_Book_drop k_Book_drop
  have b_Book_drop := F_Book_drop.binds (ps := P_Book_drop) fun _ _ _ _ _ _ us hl => match us, hl with | [_, _], _ => rfl
  have F_Book_spend := fun_mk (st := s_Book_spend) l_Book_spend c_Book_spend k_Book_spend
  have b_Book_spend := F_Book_spend.binds (ps := P_Book_spend) fun _ _ _ _ _ _ us hl => match us, hl with | [_, _], _ => rfl
  have F_Book_asked_at := fun_mk (st := s_Book_asked_at) l_Book_asked_at c_Book_asked_at k_Book_asked_at
  have b_Book_asked_at := F_Book_asked_at.binds (ps := P_Book_asked_at) fun _ _ _ _ _ _ us hl => match us, hl with | [_, _], _ => rfl
  have F_Book_came := fun_mk (st := s_Book_came) l_Book_came c_Book_came k_Book_came
  have b_Book_came := F_Book_came.binds (ps := P_Book_came) fun _ _ _ _ _ _ us hl => match us, hl with | [_, _], _ => rfl
  have F_Book_gone := fun_mk (st := s_Book_gone) l_Book_gone c_Book_gone k_Book_gone
  have b_Book_gone := F_Book_gone.binds (ps := P_Book_gone) fun _ _ _ _ _ _ us hl => match us, hl with | [_, _, _], _ => rfl
  have F_Book_inside := fun_mk (st := s_Book_inside) l_Book_inside c_Book_inside k_Book_inside
  have b_Book_inside := F_Book_inside.binds (ps := P_Book_inside) fun _ _ _ _ _ _ us hl => match us, hl with | [_], _ => rfl
  have F_Book_rank := fun_mk (st := s_Book_rank) l_Book_rank c_Book_rank k_Book_rank
  have b_Book_rank := F_Book_rank.binds (ps := P_Book_rank) fun _ _ _ _ _ _ us hl => match us, hl with | [_, _], _ => rfl
  have F_Book_names := fun_mk (st := s_Book_names) l_Book_names c_Book_names k_Book_names
  have b_Book_names := F_Book_names.binds (ps := P_Book_names) fun _ _ _ _ _ _ us hl => match us, hl with | [_], _ => rfl
  have F_Book_time_now := fun_mk (st := s_Book_time_now) l_Book_time_now c_Book_time_now k_Book_time_now
  have b_Book_time_now := F_Book_time_now.binds (ps := P_Book_time_now) fun _ _ _ _ _ _ us hl => match us, hl with | [_], _ => rfl
  have F_Book_deeds_done := fun_mk (st := s_Book_deeds_done) l_Book_deeds_done c_Book_deeds_done k_Book_deeds_done
  have b_Book_deeds_done := F_Book_deeds_done.binds (ps := P_Book_deeds_done) fun _ _ _ _ _ _ us hl => match us, hl with | [_], _ => rfl
  have F_Book_count_of := fun_mk (st := s_Book_count_of) l_Book_count_of c_Book_count_of k_Book_count_of
  have b_Book_count_of := F_Book_count_of.binds (ps := P_Book_count_of) fun _ _ _ _ _ _ us hl => match us, hl with | [_, _], _ => rfl
  have F_Book_last_of := fun_mk (st := s_Book_last_of) l_Book_last_of c_Book_last_of k_Book_last_of
  have b_Book_last_of := F_Book_last_of.binds (ps := P_Book_last_of) fun _ _ _ _ _ _ us hl => match us, hl with | [_, _], _ => rfl
  have F_Row_init := fun_mk (st := s_Row_init) l_Row_init c_Row_init k_Row_init
  have b_Row_init := F_Row_init.binds (ps := P_Row_init) fun _ _ _ _ _ _ us hl => match us, hl with | [_, _, _], _ => rfl
  have F_Row_came := fun_mk (st := s_Row_came) l_Row_came c_Row_came k_Row_came
  have b_Row_came := F_Row_came.binds (ps := P_Row_came) fun _ _ _ _ _ _ us hl => match us, hl with | [_, _], _ => rfl
  have F_Row_carry := fun_mk (st := s_Row_carry) l_Row_carry c_Row_carry k_Row_carry
  have b_Row_carry := F_Row_carry.binds (ps := P_Row_carry) fun _ _ _ _ _ _ us hl => match us, hl with | [_, _], _ => rfl
  have F_Row_trim := fun_mk (st := s_Row_trim) l_Row_trim c_Row_trim k_Row_trim
  have b_Row_trim := F_Row_trim.binds (ps := P_Row_trim) fun _ _ _ _ _ _ us hl => match us, hl with | [_], _ => rfl
  have F_Row_gone := fun_mk (st := s_Row_gone) l_Row_gone c_Row_gone k_Row_gone
  have b_Row_gone := F_Row_gone.binds (ps := P_Row_gone) fun _ _ _ _ _ _ us hl => match us, hl with | [_, _, _], _ => rfl
  have F_Row_inside := fun_mk (st := s_Row_inside) l_Row_inside c_Row_inside k_Row_inside
  have b_Row_inside := F_Row_inside.binds (ps := P_Row_inside) fun _ _ _ _ _ _ us hl => match us, hl with | [_], _ => rfl
  have F_Row_spots := fun_mk (st := s_Row_spots) l_Row_spots c_Row_spots k_Row_spots
  have b_Row_spots := F_Row_spots.binds (ps := P_Row_spots) fun _ _ _ _ _ _ us hl => match us, hl with | [_], _ => rfl
  have F_Row_names_at := fun_mk (st := s_Row_names_at) l_Row_names_at c_Row_names_at k_Row_names_at
  have b_Row_names_at := F_Row_names_at.binds (ps := P_Row_names_at) fun _ _ _ _ _ _ us hl => match us, hl with | [_, _], _ => rfl
  have F_Row_met_by := fun_mk (st := s_Row_met_by) l_Row_met_by c_Row_met_by k_Row_met_by
  have b_Row_met_by := F_Row_met_by.binds (ps := P_Row_met_by) fun _ _ _ _ _ _ us hl => match us, hl with | [_, _], _ => rfl
  have F_Row_enough := fun_mk (st := s_Row_enough) l_Row_enough c_Row_enough k_Row_enough
  have b_Row_enough := F_Row_enough.binds (ps := P_Row_enough) fun _ _ _ _ _ _ us hl => match us, hl with | [_, _], _ => rfl
  have F_Shelf_init := fun_mk (st := s_Shelf_init) l_Shelf_init c_Shelf_init k_Shelf_init
  have b_Shelf_init := F_Shelf_init.binds (ps := P_Shelf_init) fun _ _ _ _ _ _ us hl => match us, hl with | [_, _, _, _], _ => rfl
  have F_Shelf_came := fun_mk (st := s_Shelf_came) l_Shelf_came c_Shelf_came k_Shelf_came
  have b_Shelf_came := F_Shelf_came.binds (ps := P_Shelf_came) fun _ _ _ _ _ _ us hl => match us, hl with | [_, _], _ => rfl
  have F_Shelf_gone := fun_mk (st := s_Shelf_gone) l_Shelf_gone c_Shelf_gone k_Shelf_gone
  have b_Shelf_gone := F_Shelf_gone.binds (ps := P_Shelf_gone) fun _ _ _ _ _ _ us hl => match us, hl with | [_, _, _], _ => rfl
  have F_Shelf_inside := fun_mk (st := s_Shelf_inside) l_Shelf_inside c_Shelf_inside k_Shelf_inside
  have b_Shelf_inside := F_Shelf_inside.binds (ps := P_Shelf_inside) fun _ _ _ _ _ _ us hl => match us, hl with | [_], _ => rfl
  have F_Shelf_has := fun_mk (st := s_Shelf_has) l_Shelf_has c_Shelf_has k_Shelf_has
  have b_Shelf_has := F_Shelf_has.binds (ps := P_Shelf_has) fun _ _ _ _ _ _ us hl => match us, hl with | [_, _], _ => rfl
  have F_Shelf_goings := fun_mk (st := s_Shelf_goings) l_Shelf_goings c_Shelf_goings k_Shelf_goings
  have b_Shelf_goings := F_Shelf_goings.binds (ps := P_Shelf_goings) fun _ _ _ _ _ _ us hl => match us, hl with | [_], _ => rfl
  have F_l_cell_at := fun_mk (st := s_l_cell_at) l_l_cell_at c_l_cell_at k_l_cell_at
  have b_l_cell_at := F_l_cell_at.binds (ps := P_l_cell_at) fun _ _ _ _ _ _ us hl => match us, hl with | [_, _], _ => rfl
  have F_l_sign := fun_mk (st := s_l_sign) l_l_sign c_l_sign k_l_sign
  have b_l_sign := F_l_sign.binds (ps := P_l_sign) fun _ _ _ _ _ _ us hl => match us, hl with | [_], _ => rfl
  have F_l_names := fun_mk (st := s_l_names) l_l_names c_l_names k_l_names
  have b_l_names := F_l_names.binds (ps := P_l_names) fun _ _ _ _ _ _ us hl => match us, hl with | [_, _], _ => rfl
  have F_l_span := fun_mk (st := s_l_span) l_l_span c_l_span k_l_span
  have b_l_span := F_l_span.binds (ps := P_l_span) fun _ _ _ _ _ _ us hl => match us, hl with | [_], _ => rfl
  have F_l_part := fun_mk (st := s_l_part) l_l_part c_l_part k_l_part
  have b_l_part := F_l_part.binds (ps := P_l_part) fun _ _ _ _ _ _ us hl => match us, hl with | [_], _ => rfl
  have F_l_deed := fun_mk (st := s_l_deed) l_l_deed c_l_deed k_l_deed
  have b_l_deed := F_l_deed.binds (ps := P_l_deed) fun _ _ _ _ _ _ us hl => match us, hl with | [_, _, _, _, _], _ => rfl
  have F_l_do := fun_mk (st := s_l_do) l_l_do c_l_do k_l_do
  have b_l_do := F_l_do.binds (ps := P_l_do) fun _ _ _ _ _ _ us hl => match us, hl with | [_, _], _ => rfl
  have F_l_bad_name := fun_mk (st := s_l_bad_name) l_l_bad_name c_l_bad_name k_l_bad_name
  have b_l_bad_name := F_l_bad_name.binds (ps := P_l_bad_name) fun _ _ _ _ _ _ us hl => match us, hl with | [_, _], _ => rfl
  have F_l_bad_number := fun_mk (st := s_l_bad_number) l_l_bad_number c_l_bad_number k_l_bad_number
  have b_l_bad_number := F_l_bad_number.binds (ps := P_l_bad_number) fun _ _ _ _ _ _ us hl => match us, hl with | [_, _, _], _ => rfl
  have F_l_thing_call := fun_mk (st := s_l_thing_call) l_l_thing_call c_l_thing_call k_l_thing_call
  have b_l_thing_call := F_l_thing_call.binds (ps := P_l_thing_call) fun _ _ _ _ _ _ us hl => match us, hl with | [_, _, _, _], _ => rfl
  have F_l_own_call := fun_mk (st := s_l_own_call) l_l_own_call c_l_own_call k_l_own_call
  have b_l_own_call := F_l_own_call.binds (ps := P_l_own_call) fun _ _ _ _ _ _ us hl => match us, hl with | [_, _, _, _, _], _ => rfl
  have F_l_new_call := fun_mk (st := s_l_new_call) l_l_new_call c_l_new_call k_l_new_call
  have b_l_new_call := F_l_new_call.binds (ps := P_l_new_call) fun _ _ _ _ _ _ us hl => match us, hl with | [_, _], _ => rfl
  have F_l_due := fun_mk (st := s_l_due) l_l_due c_l_due k_l_due
  have b_l_due := F_l_due.binds (ps := P_l_due) fun _ _ _ _ _ _ us hl => match us, hl with | [_], _ => rfl
  have F_l_call := fun_mk (st := s_l_call) l_l_call c_l_call k_l_call
  have b_l_call := F_l_call.binds (ps := P_l_call) fun _ _ _ _ _ _ us hl => match us, hl with | [_, _, _, _], _ => rfl
  have F_l_by_base := fun_mk (st := s_l_by_base) l_l_by_base c_l_by_base k_l_by_base
  have b_l_by_base := F_l_by_base.binds (ps := P_l_by_base) fun _ _ _ _ _ _ us hl => match us, hl with | [_, _, _, _], _ => rfl
  have F_l_by_name := fun_mk (st := s_l_by_name) l_l_by_name c_l_by_name k_l_by_name
  have b_l_by_name := F_l_by_name.binds (ps := P_l_by_name) fun _ _ _ _ _ _ us hl => match us, hl with | [_, _, _, _], _ => rfl
  have F_l_same := fun_mk (st := s_l_same) l_l_same c_l_same k_l_same
  have b_l_same := F_l_same.binds (ps := P_l_same) fun _ _ _ _ _ _ us hl => match us, hl with | [_, _], _ => rfl
  have F_l_twins := fun_mk (st := s_l_twins) l_l_twins c_l_twins k_l_twins
  have b_l_twins := F_l_twins.binds (ps := P_l_twins) fun _ _ _ _ _ _ us hl => match us, hl with | [_, _, _], _ => rfl
  have F_law := fun_mk (st := s_law) l_law c_law k_law
  have b_law := F_law.binds (ps := P_law) fun _ _ _ _ _ _ us hl => match us, hl with | [_], _ => rfl
  let T : Tx K mg := { f_within := f_within, fd_within := _, F_within := F_within, b_within := b_within, mg_within := PySem.W.mg_of X G a_within, f_want_number := f_want_number, fd_want_number := _, F_want_number := F_want_number, b_want_number := b_want_number, mg_want_number := PySem.W.mg_of X G a_want_number, f_want_name := f_want_name, fd_want_name := _, F_want_name := F_want_name, b_want_name := b_want_name, mg_want_name := PySem.W.mg_of X G a_want_name, f_want_rule := f_want_rule, fd_want_rule := _, F_want_rule := F_want_rule, b_want_rule := b_want_rule, mg_want_rule := PySem.W.mg_of X G a_want_rule, f_ageings := f_ageings, fd_ageings := _, F_ageings := F_ageings, b_ageings := b_ageings, mg_ageings := PySem.W.mg_of X G a_ageings, f_aged := f_aged, fd_aged := _, F_aged := F_aged, b_aged := b_aged, mg_aged := PySem.W.mg_of X G a_aged, f_Book_init := f_Book_init, fd_Book_init := _, F_Book_init := F_Book_init, b_Book_init := b_Book_init, f_Book_ask := f_Book_ask, fd_Book_ask := _, F_Book_ask := F_Book_ask, b_Book_ask := b_Book_ask, bd_Book_ask := bd_Book_ask, f_Book_rest := f_Book_rest, fd_Book_rest := _, F_Book_rest := F_Book_rest, b_Book_rest := b_Book_rest, f_Book_drop := f_Book_drop, fd_Book_drop := _, F_Book_drop := F_Book_drop, b_Book_drop := b_Book_drop, f_Book_spend := f_Book_spend, fd_Book_spend := _, F_Book_spend := F_Book_spend, b_Book_spend := b_Book_spend, f_Book_asked_at := f_Book_asked_at, fd_Book_asked_at := _, F_Book_asked_at := F_Book_asked_at, b_Book_asked_at := b_Book_asked_at, f_Book_came := f_Book_came, fd_Book_came := _, F_Book_came := F_Book_came, b_Book_came := b_Book_came, f_Book_gone := f_Book_gone, fd_Book_gone := _, F_Book_gone := F_Book_gone, b_Book_gone := b_Book_gone, f_Book_inside := f_Book_inside, fd_Book_inside := _, F_Book_inside := F_Book_inside, b_Book_inside := b_Book_inside, f_Book_rank := f_Book_rank, fd_Book_rank := _, F_Book_rank := F_Book_rank, b_Book_rank := b_Book_rank, f_Book_names := f_Book_names, fd_Book_names := _, F_Book_names := F_Book_names, b_Book_names := b_Book_names, f_Book_time_now := f_Book_time_now, fd_Book_time_now := _, F_Book_time_now := F_Book_time_now, b_Book_time_now := b_Book_time_now, f_Book_deeds_done := f_Book_deeds_done, fd_Book_deeds_done := _, F_Book_deeds_done := F_Book_deeds_done, b_Book_deeds_done := b_Book_deeds_done, f_Book_count_of := f_Book_count_of, fd_Book_count_of := _, F_Book_count_of := F_Book_count_of, b_Book_count_of := b_Book_count_of, f_Book_last_of := f_Book_last_of, fd_Book_last_of := _, F_Book_last_of := F_Book_last_of, b_Book_last_of := b_Book_last_of, f_Row_init := f_Row_init, fd_Row_init := _, F_Row_init := F_Row_init, b_Row_init := b_Row_init, f_Row_came := f_Row_came, fd_Row_came := _, F_Row_came := F_Row_came, b_Row_came := b_Row_came, f_Row_carry := f_Row_carry, fd_Row_carry := _, F_Row_carry := F_Row_carry, b_Row_carry := b_Row_carry, f_Row_trim := f_Row_trim, fd_Row_trim := _, F_Row_trim := F_Row_trim, b_Row_trim := b_Row_trim, f_Row_gone := f_Row_gone, fd_Row_gone := _, F_Row_gone := F_Row_gone, b_Row_gone := b_Row_gone, f_Row_inside := f_Row_inside, fd_Row_inside := _, F_Row_inside := F_Row_inside, b_Row_inside := b_Row_inside, f_Row_spots := f_Row_spots, fd_Row_spots := _, F_Row_spots := F_Row_spots, b_Row_spots := b_Row_spots, f_Row_names_at := f_Row_names_at, fd_Row_names_at := _, F_Row_names_at := F_Row_names_at, b_Row_names_at := b_Row_names_at, f_Row_met_by := f_Row_met_by, fd_Row_met_by := _, F_Row_met_by := F_Row_met_by, b_Row_met_by := b_Row_met_by, f_Row_enough := f_Row_enough, fd_Row_enough := _, F_Row_enough := F_Row_enough, b_Row_enough := b_Row_enough, f_Shelf_init := f_Shelf_init, fd_Shelf_init := _, F_Shelf_init := F_Shelf_init, b_Shelf_init := b_Shelf_init, f_Shelf_came := f_Shelf_came, fd_Shelf_came := _, F_Shelf_came := F_Shelf_came, b_Shelf_came := b_Shelf_came, f_Shelf_gone := f_Shelf_gone, fd_Shelf_gone := _, F_Shelf_gone := F_Shelf_gone, b_Shelf_gone := b_Shelf_gone, f_Shelf_inside := f_Shelf_inside, fd_Shelf_inside := _, F_Shelf_inside := F_Shelf_inside, b_Shelf_inside := b_Shelf_inside, f_Shelf_has := f_Shelf_has, fd_Shelf_has := _, F_Shelf_has := F_Shelf_has, b_Shelf_has := b_Shelf_has, f_Shelf_goings := f_Shelf_goings, fd_Shelf_goings := _, F_Shelf_goings := F_Shelf_goings, b_Shelf_goings := b_Shelf_goings, f_l_cell_at := f_l_cell_at, fd_l_cell_at := _, F_l_cell_at := F_l_cell_at, b_l_cell_at := b_l_cell_at, mg_l_cell_at := PySem.W.mg_of X G a_l_cell_at, f_l_sign := f_l_sign, fd_l_sign := _, F_l_sign := F_l_sign, b_l_sign := b_l_sign, mg_l_sign := PySem.W.mg_of X G a_l_sign, f_l_names := f_l_names, fd_l_names := _, F_l_names := F_l_names, b_l_names := b_l_names, mg_l_names := PySem.W.mg_of X G a_l_names, f_l_span := f_l_span, fd_l_span := _, F_l_span := F_l_span, b_l_span := b_l_span, mg_l_span := PySem.W.mg_of X G a_l_span, f_l_part := f_l_part, fd_l_part := _, F_l_part := F_l_part, b_l_part := b_l_part, mg_l_part := PySem.W.mg_of X G a_l_part, f_l_deed := f_l_deed, fd_l_deed := _, F_l_deed := F_l_deed, b_l_deed := b_l_deed, mg_l_deed := PySem.W.mg_of X G a_l_deed, f_l_do := f_l_do, fd_l_do := _, F_l_do := F_l_do, b_l_do := b_l_do, mg_l_do := PySem.W.mg_of X G a_l_do, f_l_bad_name := f_l_bad_name, fd_l_bad_name := _, F_l_bad_name := F_l_bad_name, b_l_bad_name := b_l_bad_name, mg_l_bad_name := PySem.W.mg_of X G a_l_bad_name, f_l_bad_number := f_l_bad_number, fd_l_bad_number := _, F_l_bad_number := F_l_bad_number, b_l_bad_number := b_l_bad_number, mg_l_bad_number := PySem.W.mg_of X G a_l_bad_number, f_l_thing_call := f_l_thing_call, fd_l_thing_call := _, F_l_thing_call := F_l_thing_call, b_l_thing_call := b_l_thing_call, mg_l_thing_call := PySem.W.mg_of X G a_l_thing_call, f_l_own_call := f_l_own_call, fd_l_own_call := _, F_l_own_call := F_l_own_call, b_l_own_call := b_l_own_call, mg_l_own_call := PySem.W.mg_of X G a_l_own_call, f_l_new_call := f_l_new_call, fd_l_new_call := _, F_l_new_call := F_l_new_call, b_l_new_call := b_l_new_call, mg_l_new_call := PySem.W.mg_of X G a_l_new_call, f_l_due := f_l_due, fd_l_due := _, F_l_due := F_l_due, b_l_due := b_l_due, mg_l_due := PySem.W.mg_of X G a_l_due, f_l_call := f_l_call, fd_l_call := _, F_l_call := F_l_call, b_l_call := b_l_call, mg_l_call := PySem.W.mg_of X G a_l_call, f_l_by_base := f_l_by_base, fd_l_by_base := _, F_l_by_base := F_l_by_base, b_l_by_base := b_l_by_base, mg_l_by_base := PySem.W.mg_of X G a_l_by_base, f_l_by_name := f_l_by_name, fd_l_by_name := _, F_l_by_name := F_l_by_name, b_l_by_name := b_l_by_name, mg_l_by_name := PySem.W.mg_of X G a_l_by_name, f_l_same := f_l_same, fd_l_same := _, F_l_same := F_l_same, b_l_same := b_l_same, mg_l_same := PySem.W.mg_of X G a_l_same, f_l_twins := f_l_twins, fd_l_twins := _, F_l_twins := F_l_twins, b_l_twins := b_l_twins, mg_l_twins := PySem.W.mg_of X G a_l_twins, f_law := fa, fd_law := _, F_law := F_law, b_law := b_law, mg_law := PySem.W.mg_of X G a_law, n_ValueError := PySem.W.mg_none_of X G z_ValueError, n_all := PySem.W.mg_none_of X G z_all, n_any := PySem.W.mg_none_of X G z_any, n_bool := PySem.W.mg_none_of X G z_bool, n_enumerate := PySem.W.mg_none_of X G z_enumerate, n_int := PySem.W.mg_none_of X G z_int, n_isinstance := PySem.W.mg_none_of X G z_isinstance, n_len := PySem.W.mg_none_of X G z_len, n_list := PySem.W.mg_none_of X G z_list, n_min := PySem.W.mg_none_of X G z_min, n_range := PySem.W.mg_none_of X G z_range, n_sorted := PySem.W.mg_none_of X G z_sorted, n_str := PySem.W.mg_none_of X G z_str, n_zip := PySem.W.mg_none_of X G z_zip, c_MOST_SIGNS := ⟨t_MOST_SIGNS, PySem.W.mg_of X G g_MOST_SIGNS⟩, c_MOST_PLACES := ⟨t_MOST_PLACES, PySem.W.mg_of X G g_MOST_PLACES⟩, c_MOST_SPAN := ⟨t_MOST_SPAN, PySem.W.mg_of X G g_MOST_SPAN⟩, c_MOST_NUMBER := ⟨t_MOST_NUMBER, PySem.W.mg_of X G g_MOST_NUMBER⟩, C_Book := C_Book, mgC_Book := PySem.W.mg_of X G aC_Book, cls_Book := ⟨pg_Book, hd_Book, po_Book, sa_Book⟩, M_Book := ⟨mk_Book, a_Book_init, i_Book_init, kc_Book⟩, na_Book_span := na_Book_span, na_Book_part := na_Book_part, na_Book_time := na_Book_time, na_Book_deed := na_Book_deed, na_Book_counts := na_Book_counts, na_Book_lasts := na_Book_lasts, m_Book_ask := ⟨a_Book_ask, i_Book_ask, k_Book_ask⟩, m_Book_rest := ⟨a_Book_rest, i_Book_rest, k_Book_rest⟩, m_Book_drop := ⟨a_Book_drop, i_Book_drop, k_Book_drop⟩, m_Book_spend := ⟨a_Book_spend, i_Book_spend, k_Book_spend⟩, m_Book_asked_at := ⟨a_Book_asked_at, i_Book_asked_at, k_Book_asked_at⟩, bm_Book_asked_at := ⟨⟨a_Book_asked_at, i_Book_asked_at, k_Book_asked_at⟩, gg_asked_at, gt_asked_at, by decide +kernel, gf_asked_at⟩, m_Book_came := ⟨a_Book_came, i_Book_came, k_Book_came⟩, m_Book_gone := ⟨a_Book_gone, i_Book_gone, k_Book_gone⟩, m_Book_inside := ⟨a_Book_inside, i_Book_inside, k_Book_inside⟩, m_Book_rank := ⟨a_Book_rank, i_Book_rank, k_Book_rank⟩, bm_Book_rank := ⟨⟨a_Book_rank, i_Book_rank, k_Book_rank⟩, gg_rank, gt_rank, by decide +kernel, gf_rank⟩, m_Book_names := ⟨a_Book_names, i_Book_names, k_Book_names⟩, m_Book_time_now := ⟨a_Book_time_now, i_Book_time_now, k_Book_time_now⟩, m_Book_deeds_done := ⟨a_Book_deeds_done, i_Book_deeds_done, k_Book_deeds_done⟩, m_Book_count_of := ⟨a_Book_count_of, i_Book_count_of, k_Book_count_of⟩, m_Book_last_of := ⟨a_Book_last_of, i_Book_last_of, k_Book_last_of⟩, C_Shelf := C_Shelf, mgC_Shelf := PySem.W.mg_of X G aC_Shelf, cls_Shelf := ⟨pg_Shelf, hd_Shelf, po_Shelf, sa_Shelf⟩, M_Shelf := ⟨mk_Shelf, a_Shelf_init, i_Shelf_init, kc_Shelf⟩, na_Shelf_span := na_Shelf_span, na_Shelf_part := na_Shelf_part, na_Shelf_time := na_Shelf_time, na_Shelf_deed := na_Shelf_deed, na_Shelf_counts := na_Shelf_counts, na_Shelf_lasts := na_Shelf_lasts, na_Shelf_places := na_Shelf_places, na_Shelf_standing := na_Shelf_standing, na_Shelf_went := na_Shelf_went, m_Shelf_ask := ⟨fi_Shelf_ask, i_Book_ask, k_Book_ask⟩, m_Shelf_rest := ⟨fi_Shelf_rest, i_Book_rest, k_Book_rest⟩, m_Shelf_drop := ⟨fi_Shelf_drop, i_Book_drop, k_Book_drop⟩, m_Shelf_spend := ⟨fi_Shelf_spend, i_Book_spend, k_Book_spend⟩, m_Shelf_asked_at := ⟨fi_Shelf_asked_at, i_Book_asked_at, k_Book_asked_at⟩, bm_Shelf_asked_at := ⟨⟨fi_Shelf_asked_at, i_Book_asked_at, k_Book_asked_at⟩, gg_asked_at, gt_asked_at, by decide +kernel, gf_asked_at⟩, m_Shelf_came := ⟨a_Shelf_came, i_Shelf_came, k_Shelf_came⟩, m_Shelf_gone := ⟨a_Shelf_gone, i_Shelf_gone, k_Shelf_gone⟩, m_Shelf_inside := ⟨a_Shelf_inside, i_Shelf_inside, k_Shelf_inside⟩, m_Shelf_rank := ⟨fi_Shelf_rank, i_Book_rank, k_Book_rank⟩, bm_Shelf_rank := ⟨⟨fi_Shelf_rank, i_Book_rank, k_Book_rank⟩, gg_rank, gt_rank, by decide +kernel, gf_rank⟩, m_Shelf_names := ⟨fi_Shelf_names, i_Book_names, k_Book_names⟩, m_Shelf_time_now := ⟨fi_Shelf_time_now, i_Book_time_now, k_Book_time_now⟩, m_Shelf_deeds_done := ⟨fi_Shelf_deeds_done, i_Book_deeds_done, k_Book_deeds_done⟩, m_Shelf_count_of := ⟨fi_Shelf_count_of, i_Book_count_of, k_Book_count_of⟩, m_Shelf_last_of := ⟨fi_Shelf_last_of, i_Book_last_of, k_Book_last_of⟩, m_Shelf_has := ⟨a_Shelf_has, i_Shelf_has, k_Shelf_has⟩, m_Shelf_goings := ⟨a_Shelf_goings, i_Shelf_goings, k_Shelf_goings⟩, C_Row := C_Row, mgC_Row := PySem.W.mg_of X G aC_Row, cls_Row := ⟨pg_Row, hd_Row, po_Row, sa_Row⟩, M_Row := ⟨mk_Row, a_Row_init, i_Row_init, kc_Row⟩, na_Row_span := na_Row_span, na_Row_part := na_Row_part, na_Row_time := na_Row_time, na_Row_deed := na_Row_deed, na_Row_counts := na_Row_counts, na_Row_lasts := na_Row_lasts, na_Row_laid := na_Row_laid, na_Row_depths := na_Row_depths, m_Row_ask := ⟨fi_Row_ask, i_Book_ask, k_Book_ask⟩, m_Row_rest := ⟨fi_Row_rest, i_Book_rest, k_Book_rest⟩, m_Row_drop := ⟨fi_Row_drop, i_Book_drop, k_Book_drop⟩, m_Row_spend := ⟨fi_Row_spend, i_Book_spend, k_Book_spend⟩, m_Row_asked_at := ⟨fi_Row_asked_at, i_Book_asked_at, k_Book_asked_at⟩, bm_Row_asked_at := ⟨⟨fi_Row_asked_at, i_Book_asked_at, k_Book_asked_at⟩, gg_asked_at, gt_asked_at, by decide +kernel, gf_asked_at⟩, m_Row_came := ⟨a_Row_came, i_Row_came, k_Row_came⟩, m_Row_gone := ⟨a_Row_gone, i_Row_gone, k_Row_gone⟩, m_Row_inside := ⟨a_Row_inside, i_Row_inside, k_Row_inside⟩, m_Row_rank := ⟨fi_Row_rank, i_Book_rank, k_Book_rank⟩, bm_Row_rank := ⟨⟨fi_Row_rank, i_Book_rank, k_Book_rank⟩, gg_rank, gt_rank, by decide +kernel, gf_rank⟩, m_Row_names := ⟨fi_Row_names, i_Book_names, k_Book_names⟩, m_Row_time_now := ⟨fi_Row_time_now, i_Book_time_now, k_Book_time_now⟩, m_Row_deeds_done := ⟨fi_Row_deeds_done, i_Book_deeds_done, k_Book_deeds_done⟩, m_Row_count_of := ⟨fi_Row_count_of, i_Book_count_of, k_Book_count_of⟩, m_Row_last_of := ⟨fi_Row_last_of, i_Book_last_of, k_Book_last_of⟩, m_Row_carry := ⟨a_Row_carry, i_Row_carry, k_Row_carry⟩, m_Row_trim := ⟨a_Row_trim, i_Row_trim, k_Row_trim⟩, m_Row_spots := ⟨a_Row_spots, i_Row_spots, k_Row_spots⟩, m_Row_names_at := ⟨a_Row_names_at, i_Row_names_at, k_Row_names_at⟩, m_Row_met_by := ⟨a_Row_met_by, i_Row_met_by, k_Row_met_by⟩, m_Row_enough := ⟨a_Row_enough, i_Row_enough, k_Row_enough⟩, ti_Shelf := fun e => .ins e ⟨pg_Shelf, hd_Shelf, po_Shelf, sa_Shelf⟩ ic_Shelf en etk im_Shelf, kb_Shelf := kit_sub es_Shelf_Shelf hd_Book it_Book es_Shelf_Book, ti_Row := fun e => .ins e ⟨pg_Row, hd_Row, po_Row, sa_Row⟩ ic_Row en etk im_Row, kb_Row := kit_sub es_Row_Row hd_Book it_Book es_Row_Book, C_ShelfError := C_ShelfError, mgC_ShelfError := PySem.W.mg_of X G aC_ShelfError, C_NoName := C_NoName, mgC_NoName := PySem.W.mg_of X G aC_NoName, xd_NoName := ⟨ex_NoName, ek_NoName, eb_NoName, et_NoName, ⟨eg_NoName, ea_NoName, eb_NoName, eh_NoName, ec_NoName, en, etk, em_NoName⟩⟩, kv_NoName := kit_val ev_NoName, em_NoName_ShelfError := PySem.W.exm_ref eb_ShelfError eh_ShelfError et_ShelfError es_NoName_ShelfError, ki_NoName_ShelfError := kit_sub es_NoName_NoName eh_ShelfError et_ShelfError es_NoName_ShelfError, em_NoName_NoName := PySem.W.exm_ref eb_NoName eh_NoName et_NoName es_NoName_NoName, ki_NoName_NoName := kit_sub es_NoName_NoName eh_NoName et_NoName es_NoName_NoName, em_NoName_NoNumber := PySem.W.exm_ref eb_NoNumber eh_NoNumber et_NoNumber es_NoName_NoNumber, ki_NoName_NoNumber := kit_sub es_NoName_NoName eh_NoNumber et_NoNumber es_NoName_NoNumber, em_NoName_NoRule := PySem.W.exm_ref eb_NoRule eh_NoRule et_NoRule es_NoName_NoRule, ki_NoName_NoRule := kit_sub es_NoName_NoName eh_NoRule et_NoRule es_NoName_NoRule, C_NoNumber := C_NoNumber, mgC_NoNumber := PySem.W.mg_of X G aC_NoNumber, xd_NoNumber := ⟨ex_NoNumber, ek_NoNumber, eb_NoNumber, et_NoNumber, ⟨eg_NoNumber, ea_NoNumber, eb_NoNumber, eh_NoNumber, ec_NoNumber, en, etk, em_NoNumber⟩⟩, kv_NoNumber := kit_val ev_NoNumber, em_NoNumber_ShelfError := PySem.W.exm_ref eb_ShelfError eh_ShelfError et_ShelfError es_NoNumber_ShelfError, ki_NoNumber_ShelfError := kit_sub es_NoNumber_NoNumber eh_ShelfError et_ShelfError es_NoNumber_ShelfError, em_NoNumber_NoName := PySem.W.exm_ref eb_NoName eh_NoName et_NoName es_NoNumber_NoName, ki_NoNumber_NoName := kit_sub es_NoNumber_NoNumber eh_NoName et_NoName es_NoNumber_NoName, em_NoNumber_NoNumber := PySem.W.exm_ref eb_NoNumber eh_NoNumber et_NoNumber es_NoNumber_NoNumber, ki_NoNumber_NoNumber := kit_sub es_NoNumber_NoNumber eh_NoNumber et_NoNumber es_NoNumber_NoNumber, em_NoNumber_NoRule := PySem.W.exm_ref eb_NoRule eh_NoRule et_NoRule es_NoNumber_NoRule, ki_NoNumber_NoRule := kit_sub es_NoNumber_NoNumber eh_NoRule et_NoRule es_NoNumber_NoRule, C_NoRule := C_NoRule, mgC_NoRule := PySem.W.mg_of X G aC_NoRule, xd_NoRule := ⟨ex_NoRule, ek_NoRule, eb_NoRule, et_NoRule, ⟨eg_NoRule, ea_NoRule, eb_NoRule, eh_NoRule, ec_NoRule, en, etk, em_NoRule⟩⟩, kv_NoRule := kit_val ev_NoRule, em_NoRule_ShelfError := PySem.W.exm_ref eb_ShelfError eh_ShelfError et_ShelfError es_NoRule_ShelfError, ki_NoRule_ShelfError := kit_sub es_NoRule_NoRule eh_ShelfError et_ShelfError es_NoRule_ShelfError, em_NoRule_NoName := PySem.W.exm_ref eb_NoName eh_NoName et_NoName es_NoRule_NoName, ki_NoRule_NoName := kit_sub es_NoRule_NoRule eh_NoName et_NoName es_NoRule_NoName, em_NoRule_NoNumber := PySem.W.exm_ref eb_NoNumber eh_NoNumber et_NoNumber es_NoRule_NoNumber, ki_NoRule_NoNumber := kit_sub es_NoRule_NoRule eh_NoNumber et_NoNumber es_NoRule_NoNumber, em_NoRule_NoRule := PySem.W.exm_ref eb_NoRule eh_NoRule et_NoRule es_NoRule_NoRule, ki_NoRule_NoRule := kit_sub es_NoRule_NoRule eh_NoRule et_NoRule es_NoRule_NoRule, cdf := ⟨cd_rd, cd_ga, cd_at, k_Book_init⟩ }
  exact ⟨_, fun s v => .of_eq rfl, fun base _ _ => ok_law T⟩
theorem walk {l : PySem.W.OpenLaw} {q : Program} {loose : List Str} {XP : (Str → Option Value) → Heap → Prop} {YP : World → Heap → Prop} {d : DefRec} {K : Params → PySem.W.Frag} (hn : l.most = some 63) (hdf : d.params.defaults = [])
    (hY : ∀ (w : World) (h : Heap), YP w h → (K w.params).In h)
    (F : ∀ (w : World) (mg : Str → Option Value) (fa : Addr) (h : Heap), (K w.params).In h → h.Ns mainGlobals mg → mg d.name = some (.ref fa) →
      ∃ fd : FuncData, (∀ (s : Shared) (u : Value), BindsTo s fd ⟨[u], []⟩ [("_law_script", u)]) ∧ ∀ base : Heap, (K w.params).In base → base.Ns mainGlobals mg → FnOk l.prog w (K w.params) mg base CX0 14 fa fd P_law (spLaw (K w.params))) :
    PySem.W.WalkO q loose XP YP l.row.toRowW d [] (fun f vs => PySem.call f vs) :=
  L2.walk_of (n := 63) (k := 14) (x := "_law_script") (CX := fun _ => CX0) (sp := fun w => spLaw (K w.params)) hn (by decide) hdf ⟨rfl, by decide, by decide⟩ hY F (fun _ _ a ns hl _ hS => ⟨a, ns, rfl, hS, hl, fun _ => rfl⟩) fun _ _ _ _ _ z => z
end Own
open PySem PySem.W PyProof.Rows
set_option maxRecDepth 100000 in
set_option maxHeartbeats 0 in
theorem PySem.Challenge.cw_leastasked_k04_refused_holds : PySem.Challenge.rw_leastasked_k04_refused.Holds := by
  w_on; o_law; k_head; (case hw => w_witness2)
  k_fill
  refine Own.walk (l := PySem.Challenge.rw_leastasked_k04_refused) rfl rfl (fun w h Y => PySem.W.kIn_of Y) ?F
  case F =>
    intro w mg fa h KX G hmg
    refine' Own.all_mk KX G hmg ?aC_NoRule ?aC_NoNumber ?aC_NoName ?aC_ShelfError ?aC_Row ?aC_Shelf ?aC_Book ?a_within ?l_within ?c_within ?k_within ?a_want_number ?l_want_number ?c_want_number ?k_want_number ?a_want_name ?l_want_name ?c_want_name ?k_want_name ?a_want_rule ?l_want_rule ?c_want_rule ?k_want_rule ?a_ageings ?l_ageings ?c_ageings ?k_ageings ?a_aged ?l_aged ?c_aged ?k_aged ?a_Book_init ?l_Book_init ?c_Book_init ?k_Book_init ?i_Book_init ?a_Book_ask ?l_Book_ask ?c_Book_ask ?k_Book_ask ?i_Book_ask ?d_Book_ask ?a_Book_rest ?l_Book_rest ?c_Book_rest ?k_Book_rest ?i_Book_rest ?a_Book_drop ?l_Book_drop ?c_Book_drop ?k_Book_drop ?i_Book_drop ?a_Book_spend ?l_Book_spend ?c_Book_spend ?k_Book_spend ?i_Book_spend ?a_Book_asked_at ?l_Book_asked_at ?c_Book_asked_at ?k_Book_asked_at ?i_Book_asked_at ?a_Book_came ?l_Book_came ?c_Book_came ?k_Book_came ?i_Book_came ?a_Book_gone ?l_Book_gone ?c_Book_gone ?k_Book_gone ?i_Book_gone ?a_Book_inside ?l_Book_inside ?c_Book_inside ?k_Book_inside ?i_Book_inside ?a_Book_rank ?l_Book_rank ?c_Book_rank ?k_Book_rank ?i_Book_rank ?a_Book_names ?l_Book_names ?c_Book_names ?k_Book_names ?i_Book_names ?a_Book_time_now ?l_Book_time_now ?c_Book_time_now ?k_Book_time_now ?i_Book_time_now ?a_Book_deeds_done ?l_Book_deeds_done ?c_Book_deeds_done ?k_Book_deeds_done ?i_Book_deeds_done ?a_Book_count_of ?l_Book_count_of ?c_Book_count_of ?k_Book_count_of ?i_Book_count_of ?a_Book_last_of ?l_Book_last_of ?c_Book_last_of ?k_Book_last_of ?i_Book_last_of ?a_Row_init ?l_Row_init ?c_Row_init ?k_Row_init ?i_Row_init ?a_Row_came ?l_Row_came ?c_Row_came ?k_Row_came ?i_Row_came ?a_Row_carry ?l_Row_carry ?c_Row_carry ?k_Row_carry ?i_Row_carry ?a_Row_trim ?l_Row_trim ?c_Row_trim ?k_Row_trim ?i_Row_trim ?a_Row_gone ?l_Row_gone ?c_Row_gone ?k_Row_gone ?i_Row_gone ?a_Row_inside ?l_Row_inside ?c_Row_inside ?k_Row_inside ?i_Row_inside ?a_Row_spots ?l_Row_spots ?c_Row_spots ?k_Row_spots ?i_Row_spots ?a_Row_names_at ?l_Row_names_at ?c_Row_names_at ?k_Row_names_at ?i_Row_names_at ?a_Row_met_by ?l_Row_met_by ?c_Row_met_by ?k_Row_met_by ?i_Row_met_by ?a_Row_enough ?l_Row_enough ?c_Row_enough ?k_Row_enough ?i_Row_enough ?a_Shelf_init ?l_Shelf_init ?c_Shelf_init ?k_Shelf_init ?i_Shelf_init ?a_Shelf_came ?l_Shelf_came ?c_Shelf_came ?k_Shelf_came ?i_Shelf_came ?a_Shelf_gone ?l_Shelf_gone ?c_Shelf_gone ?k_Shelf_gone ?i_Shelf_gone ?a_Shelf_inside ?l_Shelf_inside ?c_Shelf_inside ?k_Shelf_inside ?i_Shelf_inside ?a_Shelf_has ?l_Shelf_has ?c_Shelf_has ?k_Shelf_has ?i_Shelf_has ?a_Shelf_goings ?l_Shelf_goings ?c_Shelf_goings ?k_Shelf_goings ?i_Shelf_goings ?a_l_cell_at ?l_l_cell_at ?c_l_cell_at ?k_l_cell_at ?a_l_sign ?l_l_sign ?c_l_sign ?k_l_sign ?a_l_names ?l_l_names ?c_l_names ?k_l_names ?a_l_span ?l_l_span ?c_l_span ?k_l_span ?a_l_part ?l_l_part ?c_l_part ?k_l_part ?a_l_deed ?l_l_deed ?c_l_deed ?k_l_deed ?a_l_do ?l_l_do ?c_l_do ?k_l_do ?a_l_bad_name ?l_l_bad_name ?c_l_bad_name ?k_l_bad_name ?a_l_bad_number ?l_l_bad_number ?c_l_bad_number ?k_l_bad_number ?a_l_thing_call ?l_l_thing_call ?c_l_thing_call ?k_l_thing_call ?a_l_own_call ?l_l_own_call ?c_l_own_call ?k_l_own_call ?a_l_new_call ?l_l_new_call ?c_l_new_call ?k_l_new_call ?a_l_due ?l_l_due ?c_l_due ?k_l_due ?a_l_call ?l_l_call ?c_l_call ?k_l_call ?a_l_by_base ?l_l_by_base ?c_l_by_base ?k_l_by_base ?a_l_by_name ?l_l_by_name ?c_l_by_name ?k_l_by_name ?a_l_same ?l_l_same ?c_l_same ?k_l_same ?a_l_twins ?l_l_twins ?c_l_twins ?k_l_twins ?a_law ?l_law ?c_law ?k_law ?z_ValueError ?z_all ?z_any ?z_bool ?z_enumerate ?z_int ?z_isinstance ?z_len ?z_list ?z_min ?z_range ?z_sorted ?z_str ?z_zip ?g_MOST_SIGNS ?g_MOST_PLACES ?g_MOST_SPAN ?g_MOST_NUMBER ?pg_Book ?hd_Book ?po_Book ?sa_Book ?mk_Book ?kc_Book ?na_Book_span ?na_Book_part ?na_Book_time ?na_Book_deed ?na_Book_counts ?na_Book_lasts ?pg_Shelf ?hd_Shelf ?po_Shelf ?sa_Shelf ?mk_Shelf ?kc_Shelf ?na_Shelf_span ?na_Shelf_part ?na_Shelf_time ?na_Shelf_deed ?na_Shelf_counts ?na_Shelf_lasts ?na_Shelf_places ?na_Shelf_standing ?na_Shelf_went ?fi_Shelf_ask ?fi_Shelf_rest ?fi_Shelf_drop ?fi_Shelf_spend ?fi_Shelf_asked_at ?fi_Shelf_rank ?fi_Shelf_names ?fi_Shelf_time_now ?fi_Shelf_deeds_done ?fi_Shelf_count_of ?fi_Shelf_last_of ?pg_Row ?hd_Row ?po_Row ?sa_Row ?mk_Row ?kc_Row ?na_Row_span ?na_Row_part ?na_Row_time ?na_Row_deed ?na_Row_counts ?na_Row_lasts ?na_Row_laid ?na_Row_depths ?fi_Row_ask ?fi_Row_rest ?fi_Row_drop ?fi_Row_spend ?fi_Row_asked_at ?fi_Row_rank ?fi_Row_names ?fi_Row_time_now ?fi_Row_deeds_done ?fi_Row_count_of ?fi_Row_last_of ?gg_rank ?gt_rank ?gf_rank ?gg_asked_at ?gt_asked_at ?gf_asked_at ?cd_rd ?cd_ga ?cd_at ?eb_ShelfError ?et_ShelfError ?eh_ShelfError ?eb_NoName ?et_NoName ?eh_NoName ?eb_NoNumber ?et_NoNumber ?eh_NoNumber ?eb_NoRule ?et_NoRule ?eh_NoRule ?it_Book ?ic_Shelf ?im_Shelf ?es_Shelf_Shelf ?es_Shelf_Book ?ic_Row ?im_Row ?es_Row_Row ?es_Row_Book ?en ?etk ?ex_NoName ?ek_NoName ?eg_NoName ?ea_NoName ?ec_NoName ?em_NoName ?ev_NoName ?es_NoName_ShelfError ?es_NoName_NoName ?es_NoName_NoNumber ?es_NoName_NoRule ?ex_NoNumber ?ek_NoNumber ?eg_NoNumber ?ea_NoNumber ?ec_NoNumber ?em_NoNumber ?ev_NoNumber ?es_NoNumber_ShelfError ?es_NoNumber_NoName ?es_NoNumber_NoNumber ?es_NoNumber_NoRule ?ex_NoRule ?ek_NoRule ?eg_NoRule ?ea_NoRule ?ec_NoRule ?em_NoRule ?ev_NoRule ?es_NoRule_ShelfError ?es_NoRule_NoName ?es_NoRule_NoNumber ?es_NoRule_NoRule
    (case aC_NoRule => k_is)
    (case aC_NoNumber => k_is)
    (case aC_NoName => k_is)
    (case aC_ShelfError => k_is)
    (case aC_Row => k_is)
    (case aC_Shelf => k_is)
    (case aC_Book => k_is)
    (case a_within => k_is)
    (case l_within => k_is)
    (case c_within => k_is)
    (case k_within => k_is)
    (case a_want_number => k_is)
    (case l_want_number => k_is)
    (case c_want_number => k_is)
    (case k_want_number => k_is)
    (case a_want_name => k_is)
    (case l_want_name => k_is)
    (case c_want_name => k_is)
    (case k_want_name => k_is)
    (case a_want_rule => k_is)
    (case l_want_rule => k_is)
    (case c_want_rule => k_is)
    (case k_want_rule => k_is)
    (case a_ageings => k_is)
    (case l_ageings => k_is)
    (case c_ageings => k_is)
    (case k_ageings => k_is)
    (case a_aged => k_is)
    (case l_aged => k_is)
    (case c_aged => k_is)
    (case k_aged => k_is)
    (case a_Book_init => k_is)
    (case l_Book_init => k_is)
    (case c_Book_init => k_is)
    (case k_Book_init => k_is)
    (case i_Book_init => k_is)
    (case a_Book_ask => k_is)
    (case l_Book_ask => k_is)
    (case c_Book_ask => k_is)
    (case k_Book_ask => k_is)
    (case i_Book_ask => k_is)
    (case d_Book_ask => k_is)
    (case a_Book_rest => k_is)
    (case l_Book_rest => k_is)
    (case c_Book_rest => k_is)
    (case k_Book_rest => k_is)
    (case i_Book_rest => k_is)
    (case a_Book_drop => k_is)
    (case l_Book_drop => k_is)
    (case c_Book_drop => k_is)
    (case k_Book_drop => k_is)
    (case i_Book_drop => k_is)
    (case a_Book_spend => k_is)
    (case l_Book_spend => k_is)
    (case c_Book_spend => k_is)
    (case k_Book_spend => k_is)
    (case i_Book_spend => k_is)
    (case a_Book_asked_at => k_is)
    (case l_Book_asked_at => k_is)
    (case c_Book_asked_at => k_is)
    (case k_Book_asked_at => k_is)
    (case i_Book_asked_at => k_is)
    (case a_Book_came => k_is)
    (case l_Book_came => k_is)
    (case c_Book_came => k_is)
    (case k_Book_came => k_is)
    (case i_Book_came => k_is)
    (case a_Book_gone => k_is)
    (case l_Book_gone => k_is)
    (case c_Book_gone => k_is)
    (case k_Book_gone => k_is)
    (case i_Book_gone => k_is)
    (case a_Book_inside => k_is)
    (case l_Book_inside => k_is)
    (case c_Book_inside => k_is)
    (case k_Book_inside => k_is)
    (case i_Book_inside => k_is)
    (case a_Book_rank => k_is)
    (case l_Book_rank => k_is)
    (case c_Book_rank => k_is)
    (case k_Book_rank => k_is)
    (case i_Book_rank => k_is)
    (case a_Book_names => k_is)
    (case l_Book_names => k_is)
    (case c_Book_names => k_is)
    (case k_Book_names => k_is)
    (case i_Book_names => k_is)
    (case a_Book_time_now => k_is)
    (case l_Book_time_now => k_is)
    (case c_Book_time_now => k_is)
    (case k_Book_time_now => k_is)
    (case i_Book_time_now => k_is)
    (case a_Book_deeds_done => k_is)
    (case l_Book_deeds_done => k_is)
    (case c_Book_deeds_done => k_is)
    (case k_Book_deeds_done => k_is)
    (case i_Book_deeds_done => k_is)
    (case a_Book_count_of => k_is)
    (case l_Book_count_of => k_is)
    (case c_Book_count_of => k_is)
    (case k_Book_count_of => k_is)
    (case i_Book_count_of => k_is)
    (case a_Book_last_of => k_is)
    (case l_Book_last_of => k_is)
    (case c_Book_last_of => k_is)
    (case k_Book_last_of => k_is)
    (case i_Book_last_of => k_is)
    (case a_Row_init => k_is)
    (case l_Row_init => k_is)
    (case c_Row_init => k_is)
    (case k_Row_init => k_is)
    (case i_Row_init => k_is)
    (case a_Row_came => k_is)
    (case l_Row_came => k_is)
    (case c_Row_came => k_is)
    (case k_Row_came => k_is)
    (case i_Row_came => k_is)
    (case a_Row_carry => k_is)
    (case l_Row_carry => k_is)
    (case c_Row_carry => k_is)
    (case k_Row_carry => k_is)
    (case i_Row_carry => k_is)
    (case a_Row_trim => k_is)
    (case l_Row_trim => k_is)
    (case c_Row_trim => k_is)
    (case k_Row_trim => k_is)
    (case i_Row_trim => k_is)
    (case a_Row_gone => k_is)
    (case l_Row_gone => k_is)
    (case c_Row_gone => k_is)
    (case k_Row_gone => k_is)
    (case i_Row_gone => k_is)
    (case a_Row_inside => k_is)
    (case l_Row_inside => k_is)
    (case c_Row_inside => k_is)
    (case k_Row_inside => k_is)
    (case i_Row_inside => k_is)
    (case a_Row_spots => k_is)
    (case l_Row_spots => k_is)
    (case c_Row_spots => k_is)
    (case k_Row_spots => k_is)
    (case i_Row_spots => k_is)
    (case a_Row_names_at => k_is)
    (case l_Row_names_at => k_is)
    (case c_Row_names_at => k_is)
    (case k_Row_names_at => k_is)
    (case i_Row_names_at => k_is)
    (case a_Row_met_by => k_is)
    (case l_Row_met_by => k_is)
    (case c_Row_met_by => k_is)
    (case k_Row_met_by => k_is)
    (case i_Row_met_by => k_is)
    (case a_Row_enough => k_is)
    (case l_Row_enough => k_is)
    (case c_Row_enough => k_is)
    (case k_Row_enough => k_is)
    (case i_Row_enough => k_is)
    (case a_Shelf_init => k_is)
    (case l_Shelf_init => k_is)
    (case c_Shelf_init => k_is)
    (case k_Shelf_init => k_is)
    (case i_Shelf_init => k_is)
    (case a_Shelf_came => k_is)
    (case l_Shelf_came => k_is)
    (case c_Shelf_came => k_is)
    (case k_Shelf_came => k_is)
    (case i_Shelf_came => k_is)
    (case a_Shelf_gone => k_is)
    (case l_Shelf_gone => k_is)
    (case c_Shelf_gone => k_is)
    (case k_Shelf_gone => k_is)
    (case i_Shelf_gone => k_is)
    (case a_Shelf_inside => k_is)
    (case l_Shelf_inside => k_is)
    (case c_Shelf_inside => k_is)
    (case k_Shelf_inside => k_is)
    (case i_Shelf_inside => k_is)
    (case a_Shelf_has => k_is)
    (case l_Shelf_has => k_is)
    (case c_Shelf_has => k_is)
    (case k_Shelf_has => k_is)
    (case i_Shelf_has => k_is)
    (case a_Shelf_goings => k_is)
    (case l_Shelf_goings => k_is)
    (case c_Shelf_goings => k_is)
    (case k_Shelf_goings => k_is)
    (case i_Shelf_goings => k_is)
    (case a_l_cell_at => k_is)
    (case l_l_cell_at => k_is)
    (case c_l_cell_at => k_is)
    (case k_l_cell_at => k_is)
    (case a_l_sign => k_is)
    (case l_l_sign => k_is)
    (case c_l_sign => k_is)
    (case k_l_sign => k_is)
    (case a_l_names => k_is)
    (case l_l_names => k_is)
    (case c_l_names => k_is)
    (case k_l_names => k_is)
    (case a_l_span => k_is)
    (case l_l_span => k_is)
    (case c_l_span => k_is)
    (case k_l_span => k_is)
    (case a_l_part => k_is)
    (case l_l_part => k_is)
    (case c_l_part => k_is)
    (case k_l_part => k_is)
    (case a_l_deed => k_is)
    (case l_l_deed => k_is)
    (case c_l_deed => k_is)
    (case k_l_deed => k_is)
    (case a_l_do => k_is)
    (case l_l_do => k_is)
    (case c_l_do => k_is)
    (case k_l_do => k_is)
    (case a_l_bad_name => k_is)
    (case l_l_bad_name => k_is)
    (case c_l_bad_name => k_is)
    (case k_l_bad_name => k_is)
    (case a_l_bad_number => k_is)
    (case l_l_bad_number => k_is)
    (case c_l_bad_number => k_is)
    (case k_l_bad_number => k_is)
    (case a_l_thing_call => k_is)
    (case l_l_thing_call => k_is)
    (case c_l_thing_call => k_is)
    (case k_l_thing_call => k_is)
    (case a_l_own_call => k_is)
    (case l_l_own_call => k_is)
    (case c_l_own_call => k_is)
    (case k_l_own_call => k_is)
    (case a_l_new_call => k_is)
    (case l_l_new_call => k_is)
    (case c_l_new_call => k_is)
    (case k_l_new_call => k_is)
    (case a_l_due => k_is)
    (case l_l_due => k_is)
    (case c_l_due => k_is)
    (case k_l_due => k_is)
    (case a_l_call => k_is)
    (case l_l_call => k_is)
    (case c_l_call => k_is)
    (case k_l_call => k_is)
    (case a_l_by_base => k_is)
    (case l_l_by_base => k_is)
    (case c_l_by_base => k_is)
    (case k_l_by_base => k_is)
    (case a_l_by_name => k_is)
    (case l_l_by_name => k_is)
    (case c_l_by_name => k_is)
    (case k_l_by_name => k_is)
    (case a_l_same => k_is)
    (case l_l_same => k_is)
    (case c_l_same => k_is)
    (case k_l_same => k_is)
    (case a_l_twins => k_is)
    (case l_l_twins => k_is)
    (case c_l_twins => k_is)
    (case k_l_twins => k_is)
    (case a_law => k_is)
    (case l_law => k_is)
    (case c_law => k_is)
    (case k_law => k_is)
    (case z_ValueError => k_is)
    (case z_all => k_is)
    (case z_any => k_is)
    (case z_bool => k_is)
    (case z_enumerate => k_is)
    (case z_int => k_is)
    (case z_isinstance => k_is)
    (case z_len => k_is)
    (case z_list => k_is)
    (case z_min => k_is)
    (case z_range => k_is)
    (case z_sorted => k_is)
    (case z_str => k_is)
    (case z_zip => k_is)
    (case g_MOST_SIGNS => k_is)
    (case g_MOST_PLACES => k_is)
    (case g_MOST_SPAN => k_is)
    (case g_MOST_NUMBER => k_is)
    (case pg_Book => k_is)
    (case hd_Book => k_is)
    (case po_Book => k_is)
    (case sa_Book => k_is)
    (case mk_Book => k_is)
    (case kc_Book => k_is)
    (case na_Book_span => k_is)
    (case na_Book_part => k_is)
    (case na_Book_time => k_is)
    (case na_Book_deed => k_is)
    (case na_Book_counts => k_is)
    (case na_Book_lasts => k_is)
    (case pg_Shelf => k_is)
    (case hd_Shelf => k_is)
    (case po_Shelf => k_is)
    (case sa_Shelf => k_is)
    (case mk_Shelf => k_is)
    (case kc_Shelf => k_is)
    (case na_Shelf_span => k_is)
    (case na_Shelf_part => k_is)
    (case na_Shelf_time => k_is)
    (case na_Shelf_deed => k_is)
    (case na_Shelf_counts => k_is)
    (case na_Shelf_lasts => k_is)
    (case na_Shelf_places => k_is)
    (case na_Shelf_standing => k_is)
    (case na_Shelf_went => k_is)
    (case fi_Shelf_ask => k_is)
    (case fi_Shelf_rest => k_is)
    (case fi_Shelf_drop => k_is)
    (case fi_Shelf_spend => k_is)
    (case fi_Shelf_asked_at => k_is)
    (case fi_Shelf_rank => k_is)
    (case fi_Shelf_names => k_is)
    (case fi_Shelf_time_now => k_is)
    (case fi_Shelf_deeds_done => k_is)
    (case fi_Shelf_count_of => k_is)
    (case fi_Shelf_last_of => k_is)
    (case pg_Row => k_is)
    (case hd_Row => k_is)
    (case po_Row => k_is)
    (case sa_Row => k_is)
    (case mk_Row => k_is)
    (case kc_Row => k_is)
    (case na_Row_span => k_is)
    (case na_Row_part => k_is)
    (case na_Row_time => k_is)
    (case na_Row_deed => k_is)
    (case na_Row_counts => k_is)
    (case na_Row_lasts => k_is)
    (case na_Row_laid => k_is)
    (case na_Row_depths => k_is)
    (case fi_Row_ask => k_is)
    (case fi_Row_rest => k_is)
    (case fi_Row_drop => k_is)
    (case fi_Row_spend => k_is)
    (case fi_Row_asked_at => k_is)
    (case fi_Row_rank => k_is)
    (case fi_Row_names => k_is)
    (case fi_Row_time_now => k_is)
    (case fi_Row_deeds_done => k_is)
    (case fi_Row_count_of => k_is)
    (case fi_Row_last_of => k_is)
    (case gg_rank => k_is)
    (case gt_rank => k_is)
    (case gf_rank => k_is)
    (case gg_asked_at => k_is)
    (case gt_asked_at => k_is)
    (case gf_asked_at => k_is)
    (case cd_rd => k_is)
    (case cd_ga => k_is)
    (case cd_at => k_is)
    (case eb_ShelfError => k_is)
    (case et_ShelfError => k_is)
    (case eh_ShelfError => k_is)
    (case eb_NoName => k_is)
    (case et_NoName => k_is)
    (case eh_NoName => k_is)
    (case eb_NoNumber => k_is)
    (case et_NoNumber => k_is)
    (case eh_NoNumber => k_is)
    (case eb_NoRule => k_is)
    (case et_NoRule => k_is)
    (case eh_NoRule => k_is)
    (case it_Book => k_is)
    (case ic_Shelf => k_is)
    (case im_Shelf => k_is)
    (case es_Shelf_Shelf => first | rfl | k_is)
    (case es_Shelf_Book => first | rfl | k_is)
    (case ic_Row => k_is)
    (case im_Row => k_is)
    (case es_Row_Row => first | rfl | k_is)
    (case es_Row_Book => first | rfl | k_is)
    (case en => k_is)
    (case etk => k_is)
    (case ex_NoName => k_exc)
    (case ek_NoName => k_is)
    (case eg_NoName => k_is)
    (case ea_NoName => k_is)
    (case ec_NoName => k_is)
    (case em_NoName => k_is)
    (case ev_NoName => k_is)
    (case es_NoName_ShelfError => first | rfl | k_is)
    (case es_NoName_NoName => first | rfl | k_is)
    (case es_NoName_NoNumber => first | rfl | k_is)
    (case es_NoName_NoRule => first | rfl | k_is)
    (case ex_NoNumber => k_exc)
    (case ek_NoNumber => k_is)
    (case eg_NoNumber => k_is)
    (case ea_NoNumber => k_is)
    (case ec_NoNumber => k_is)
    (case em_NoNumber => k_is)
    (case ev_NoNumber => k_is)
    (case es_NoNumber_ShelfError => first | rfl | k_is)
    (case es_NoNumber_NoName => first | rfl | k_is)
    (case es_NoNumber_NoNumber => first | rfl | k_is)
    (case es_NoNumber_NoRule => first | rfl | k_is)
    (case ex_NoRule => k_exc)
    (case ek_NoRule => k_is)
    (case eg_NoRule => k_is)
    (case ea_NoRule => k_is)
    (case ec_NoRule => k_is)
    (case em_NoRule => k_is)
    (case ev_NoRule => k_is)
    (case es_NoRule_ShelfError => first | rfl | k_is)
    (case es_NoRule_NoName => first | rfl | k_is)
    (case es_NoRule_NoNumber => first | rfl | k_is)
    (case es_NoRule_NoRule => first | rfl | k_is)
