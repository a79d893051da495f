/- Regions that draw their order: what holds may speak of values that the effects yielded; loads that stand ahead of a write. Conditions: none. -/
import Derived.Test.YtnjeoobcejlojaaMut
namespace Go.Proofs.Ytnjeoobcejlojaa
open Go.RowKit
set_option linter.unusedVariables false
/-- What is known of the operations ahead: their values lie in the frame, and are those of u. -/
def DepU (u0 : Fr) (Φ : List Fact) (Ds : List (Option Nat)) (H : HF) (K : Fr → Prop) : List Edge → Fr → Prop
  | [], f => K f
  | e :: es, f => bif Region.binds .any e then (match Ds.getD e.on none with | some d => ∀ v, u0 d = v → factAt Φ e.on v H → DepU u0 Φ Ds H K es (upd f d v) | none => DepU u0 Φ Ds H K es f) else DepU u0 Φ Ds H K es f
def bOk : Option Nat → Nat → Prop
  | none, _ => True
  | some k, c => c ≤ k
/-- One operation's duty. 'G c u': the world behind c effects, u: the values so far. -/
def StepU (P : Program) (r : Option Nat) (G : Nat → Fr → HF → World → Prop) (Φ : List Fact) (ops : Array Oper) (Ds : List (Option Nat)) (D : List Nat) (f0 : Fr) (o : Oper) (φ : Fact) (b : Option Nat) : Option Nat → Prop
  | none => ∀ (c : Nat) (u : Fr) (H : HF) (w : World), bOk b c → G c u H w → DepU u Φ Ds H (fun f =>
      if wantF ops o f then OpW P r o f w (fun v w' => ∃ H', HLe H H' ∧ G c (updO u o.dst v) H' w' ∧ ∀ H'', HLe H' H'' → φ v H'') else G c (updO u o.dst undef) H w ∧ ∀ H'', HLe H H'' → φ undef H'') o.after.toList (over D u f0)
  | some c => ∀ (u : Fr) (H : HF) (w : World), G c u H w → DepU u Φ Ds H (fun f =>
      if wantF ops o f then OpW P r o f w (fun v w' => ∃ H', HLe H H' ∧ G (c + 1) (updO u o.dst v) H' w' ∧ ∀ H'', HLe H' H'' → φ v H'') else False) o.after.toList (over D u f0)
def StepsU (P : Program) (r : Option Nat) (G : Nat → Fr → HF → World → Prop) (Φ : List Fact) (ops : Array Oper) (Ds : List (Option Nat)) (D : List Nat) (f0 : Fr) : List Oper → List Fact → List (Option Nat) → List (Option Nat) → Prop
  | o :: os, φ :: φs, e :: es, b :: bs => StepU P r G Φ ops Ds D f0 o φ b e ∧ StepsU P r G Φ ops Ds D f0 os φs es bs
  | [], [], [], [] => True
  | _, _, _, _ => False
theorem stepsU_cons {P : Program} {r : Option Nat} {G : Nat → Fr → HF → World → Prop} {Φ : List Fact} {ops : Array Oper} {Ds : List (Option Nat)} {D : List Nat} {f0 : Fr} {o : Oper} {os : List Oper} {φ : Fact} {φs : List Fact} {e b : Option Nat} {es bs : List (Option Nat)}
    (h1 : StepU P r G Φ ops Ds D f0 o φ b e) (h2 : StepsU P r G Φ ops Ds D f0 os φs es bs) : StepsU P r G Φ ops Ds D f0 (o :: os) (φ :: φs) (e :: es) (b :: bs) := ⟨h1, h2⟩
def FinU (u0 : Fr) (Q : Fr → World → Prop) (H : HF) (w : World) : List Oper → List Fact → Fr → Prop
  | o :: os, φ :: φs, f => match o.dst with | some d => ∀ v, u0 d = v → φ v H → FinU u0 Q H w os φs (upd f d v) | none => FinU u0 Q H w os φs f
  | _, _, f => Q f w
/-- o stands behind operation i, by one edge or more (q at most). -/
def behind (ops : Array Oper) (i : Nat) : Nat → Oper → Bool
  | 0, _ => false
  | q + 1, o => o.after.toList.any (fun a => Region.binds .any a && a.on == i) || o.after.toList.any fun a => Region.binds .any a && (match ops[a.on]? with | some o' => behind ops i q o' | none => false)
theorem behind_listed {ops : Array Oper} {listed : Array Bool} {i : Nat} (hd : ∀ (i : Nat) (o : Oper), listed.getD i false = true → ops[i]? = some o → ∀ e ∈ o.after.toList, Region.binds .any e = true → listed.getD e.on false = true) :
    ∀ (q j : Nat) (o : Oper), ops[j]? = some o → listed.getD j false = true → behind ops i q o = true → listed.getD i false = true
  | 0, _, _, _, _, h => by simp [behind] at h
  | q + 1, j, o, ho, hl, h => by
    simp only [behind, Bool.or_eq_true, List.any_eq_true, Bool.and_eq_true] at h
    rcases h with ⟨a, ha, hb, hi⟩ | ⟨a, ha, hb, hi⟩
    · have h7 := hd j o hl ho a ha hb
      have h8 : a.on = i := by simpa using hi
      rw [h8] at h7; exact h7
    · have h7 := hd j o hl ho a ha hb
      split at hi
      · rename_i o' ho'
        exact behind_listed hd q a.on o' ho' h7 hi
      · cases hi
/-- The operation that is effect k stands behind each one that is bound by k. -/
def boundOk (ops : Array Oper) (es bs : List (Option Nat)) : Bool :=
  (bs.zipIdx).all fun (b, i) => match b with
    | none => true
    | some k => (ops.toList.zip es).any fun (o, e) => (e == some k) && behind ops i 4 o
section
variable {P : Program} {r : Option Nat} {n : Nat} {f : Fr} {H : HF} {w : World}
theorem stepsU_at {G : Nat → Fr → HF → World → Prop} {Φ : List Fact} {ops : Array Oper} {Ds : List (Option Nat)} {D : List Nat} {f0 : Fr} : ∀ (os : List Oper) (φs : List Fact) (es bs : List (Option Nat)), StepsU P r G Φ ops Ds D f0 os φs es bs →
    os.length = φs.length ∧ os.length = es.length ∧ os.length = bs.length ∧ ∀ (i : Nat) (o : Oper) (φ : Fact) (e b : Option Nat), os[i]? = some o → φs[i]? = some φ → es[i]? = some e → bs[i]? = some b → StepU P r G Φ ops Ds D f0 o φ b e
  | [], [], [], [], _ => ⟨rfl, rfl, rfl, fun i o φ e b h => by simp at h⟩
  | o :: os, φ :: φs, e :: es, b :: bs, h => by
    obtain ⟨h1, h2, h3, h4⟩ := stepsU_at os φs es bs h.2
    refine ⟨by simp [h1], by simp [h2], by simp [h3], fun i o' φ' e' b' ho hφ he hb => ?_⟩
    cases i with
    | zero =>
      simp at ho hφ he hb
      subst ho hφ he hb
      exact h.1
    | succ i => exact h4 i o' φ' e' b' (by simpa using ho) (by simpa using hφ) (by simpa using he) (by simpa using hb)
  | [], _ :: _, _, _, h => by cases h
  | [], [], _ :: _, _, h => by cases h
  | [], [], [], _ :: _, h => by cases h
  | _ :: _, [], _, _, h => by cases h
  | _ :: _, _ :: _, [], _, h => by cases h
  | _ :: _, _ :: _, _ :: _, [], h => by cases h
theorem depU_of {Φ : List Fact} {Ds : List (Option Nat)} {D : List Nat} {u f0 : Fr} {H : HF} {K : Fr → Prop} (hD : ∀ (j d : Nat), Ds[j]? = some (some d) → d ∈ D) : ∀ (es : List Edge),
    (∀ e ∈ es, Region.binds .any e = true → ∀ d, Ds[e.on]? = some (some d) → factAt Φ e.on (u d) H) → DepU u Φ Ds H K es (over D u f0) → K (over D u f0)
  | [], _, h => h
  | e :: es, hf, h => by
    have ih := depU_of (K := K) (f0 := f0) hD es (fun e' he' => hf e' (by simp [he']))
    simp only [DepU] at h
    cases hb : Region.binds .any e with
    | false => rw [hb] at h; exact ih h
    | true =>
      rw [hb] at h
      simp only [cond_true] at h
      cases hd : Ds.getD e.on none with
      | none => rw [hd] at h; exact ih h
      | some d =>
        rw [hd] at h
        have hd2 : Ds[e.on]? = some (some d) := by
          rw [List.getD_eq_getElem?_getD] at hd
          cases h5 : Ds[e.on]? with
          | none => rw [h5] at hd; simp at hd
          | some x => rw [h5] at hd; simp at hd; rw [hd]
        have h1 := h (u d) rfl (hf e (by simp) hb d hd2)
        rw [upd_over_same (hD _ _ hd2)] at h1
        exact ih h1
theorem finU_of {Q : Fr → World → Prop} {H : HF} {w : World} {u : Fr} : ∀ (os : List Oper) (φs : List Fact) (f : Fr),
    (∀ i o, os[i]? = some o → ∀ d, o.dst = some d → factAt φs i (u d) H) → os.length = φs.length → FinU u Q H w os φs f → Q (over (dstsOf os) u f) w
  | [], [], f, _, _, h => by
    have : over (dstsOf []) u f = f := by funext t; simp [dstsOf, over, memb]
    rw [this]; exact h
  | o :: os, φ :: φs, f, hf, hl, h => by
    simp only [FinU] at h
    cases hd : o.dst with
    | none =>
      rw [hd] at h
      have e : dstsOf (o :: os) = dstsOf os := by simp [dstsOf, hd]
      rw [e]
      exact finU_of os φs f (fun i o' ho d hd' => hf (i + 1) o' (by simpa using ho) d hd') (by simpa using hl) h
    | some d =>
      rw [hd] at h
      have e : dstsOf (o :: os) = d :: dstsOf os := by simp [dstsOf, hd]
      have h1 := h (u d) rfl (hf 0 o (by simp) d hd)
      have h2 := finU_of os φs _ (fun i o' ho d hd' => hf (i + 1) o' (by simpa using ho) d hd') (by simpa using hl) h1
      have e2 : over (dstsOf (o :: os)) u f = over (dstsOf os) u (upd f d (u d)) := by
        funext t
        rw [e]
        simp only [over, memb_eq, List.elem_cons, upd]
        by_cases ht : t = d
        · subst ht; cases (dstsOf os).elem t <;> simp
        · have : (t == d) = false := by simp [ht]
          have h3 : Nat.beq t d = false := by cases hh : Nat.beq t d; rfl; exact absurd (Nat.eq_of_beq_eq_true hh) ht
          rw [this, h3]
          simp
      rw [e2]; exact h2
  | [], _ :: _, _, _, hl, _ => by simp at hl
  | _ :: _, [], _, _, hl, _ => by simp at hl
/-- What holds while the operations of such a region are carried out. -/
structure InvU (n : Nat) (d0 : List Deferred) (G : Nat → Fr → HF → World → Prop) (Φ : List Fact) (es : List (Option Nat)) (ops : Array Oper) (f0 : Fr) (listed : Array Bool) (a : Act) (w : World) : Prop where
  size : listed.size = ops.size
  def_ : a.defers = d0
  deps : ∀ (i : Nat) (o : Oper), listed.getD i false = true → ops[i]? = some o → ∀ e ∈ o.after.toList, Region.binds .any e = true → listed.getD e.on false = true
  st : ∃ (u : Fr) (H : HF) (c : Nat), Rep n a (over (dstsOf ops.toList) u f0) ∧ G c u H w ∧ (∀ (i k : Nat), es[i]? = some (some k) → (listed.getD i false = true ↔ k < c)) ∧
    ∀ (i : Nat) (o : Oper) (d : Nat), listed.getD i false = true → ops[i]? = some o → o.dst = some d → ∀ H', HLe H H' → factAt Φ i (u d) H'
theorem es_inj {k : Nat} : ∀ (l : List (Option Nat)), (l.filterMap id).Nodup → ∀ (i j : Nat), l[i]? = some (some k) → l[j]? = some (some k) → i = j := by
  intro l
  induction l with
  | nil => intro _ i j h; simp at h
  | cons x l ihl =>
    intro hn i j h1 h2
    have hmem : ∀ m, l[m]? = some (some k) → k ∈ l.filterMap id := fun m hm => List.mem_filterMap.2 ⟨some k, List.mem_of_getElem? hm, rfl⟩
    have htail : (l.filterMap id).Nodup := by
      cases x with
      | none => simpa using hn
      | some y => simp at hn; simpa using hn.2
    cases i with
    | zero =>
      cases j with
      | zero => rfl
      | succ j =>
        simp at h1 h2
        subst h1
        have := hmem j h2
        simp only [List.filterMap_cons, id, List.nodup_cons] at hn
        exact absurd this hn.1
    | succ i =>
      cases j with
      | zero =>
        simp at h1 h2
        subst h2
        have := hmem i h1
        simp only [List.filterMap_cons, id, List.nodup_cons] at hn
        exact absurd this hn.1
      | succ j =>
        simp at h1 h2
        rw [ihl htail i j h1 h2]
theorem region_anyU_core {rid : Nat} {ops : Array Oper} {Q' : Exit → Act → World → Prop} {Qn : Fr → World → Prop} {d0 : List Deferred} (hQ : ∀ a f w, Rep n a f → a.defers = d0 → Qn f w → Q' .normal a w) (G : Nat → Fr → HF → World → Prop) (Φ : List Fact) (es bs : List (Option Nat)) (Ds : List (Option Nat)) (D : List Nat)
    (hm : P.follows .mixedOrders = true) (hd : dstsOk n ops = true) (he : edgesOk ops = true) (hDs : ops.toList.map (·.dst) = Ds) (hD : dstsOf ops.toList = D) (hu : decide D.Nodup = true) (hef : effOk ops es = true) (heu : effUniq es = true) (hbo : boundOk ops es bs = true)
    (h0 : G 0 f H w.drew) (hst : StepsU P r G Φ ops Ds D f ops.toList Φ es bs) (hfin : ∀ c u H w, G c u H w → (∀ (j k : Nat), es[j]? = some (some k) → k < c) → FinU u Qn H w ops.toList Φ f) : ∀ a, Rep n a f → a.defers = d0 → (Code.region rid ops true).wpIn (FW r) 0 P Q' a w := by
  subst hD
  subst hDs
  intro a ha hd0
  refine wpIn_region_any hm ?_
  obtain ⟨hl1, hl2, hl3, hsteps⟩ := stepsU_at _ _ _ _ hst
  have hnd : (dstsOf ops.toList).Nodup := of_decide_eq_true hu
  have hget : ∀ i : Nat, ops.toList[i]? = ops[i]? := fun i => by simp
  have hlen : ∀ (j k : Nat), es[j]? = some (some k) → j < ops.size := fun j k hj => by have h9 := (List.getElem?_eq_some_iff.1 hj).1; rw [← hl2] at h9; simpa using h9
  have key : ∀ (fuel : Nat) (listed : Array Bool) (a : Act) (w : World), InvU n d0 G Φ es ops f listed a w → ops.size ≤ fuel + (listed.toList.filter id).length →
      wpAnyIn (FW r) 0 P .any ops Q' fuel listed a w := by
    intro fuel
    induction fuel with
    | zero =>
      intro listed a w hI hc
      have hall : ∀ i, i < ops.size → listed.getD i false = true := by
        have h1 : (listed.toList.filter id).length = listed.toList.length := by
          have := List.length_filter_le id listed.toList
          have h2 : listed.toList.length = ops.size := by simpa using hI.size
          omega
        have h3 := List.length_filter_eq_length_iff.1 h1
        intro i hi
        have h4 : i < listed.size := by rw [hI.size]; exact hi
        simp [Array.getD_eq_getD_getElem?, h4]
        exact h3 _ (by simp)
      have hnil : Region.ready .any ops listed = [] := by
        apply List.eq_nil_iff_forall_not_mem.2
        intro i hi
        obtain ⟨o, ho, h1, _⟩ := mem_ready hi
        have h2 := hall i (Array.getElem?_eq_some_iff.1 ho).1
        have h3 : i < listed.size := by rw [hI.size]; exact (Array.getElem?_eq_some_iff.1 ho).1
        simp [Array.getD_eq_getD_getElem?, h3] at h1 h2
        rw [h1] at h2; cases h2
      refine ⟨hnil, ?_⟩
      obtain ⟨u, H, c, hr, hG, hcc, hf⟩ := hI.st
      refine hQ _ _ _ hr hI.def_ ?_
      exact finU_of (u := u) ops.toList Φ f (fun i o ho d hd' => hf i o d (hall i (by simpa using (List.getElem?_eq_some_iff.1 ho).1)) (by rw [← hget]; exact ho) hd' H (HLe.refl H)) hl1 (hfin c u H w hG (fun j k hj => (hcc j k hj).1 (hall j (hlen j k hj))))
    | succ fuel ih =>
      intro listed a w hI hc
      obtain ⟨u, H, c, hr, hG, hcc, hf⟩ := hI.st
      refine ⟨fun hnil => ?_, fun i hi => ?_⟩
      · have hall := all_listed he hI.size hnil
        refine hQ _ _ _ hr hI.def_ ?_
        exact finU_of (u := u) ops.toList Φ f (fun i o ho d hd' => hf i o d (hall i (by simpa using (List.getElem?_eq_some_iff.1 ho).1)) (by rw [← hget]; exact ho) hd' H (HLe.refl H)) hl1 (hfin c u H w hG (fun j k hj => (hcc j k hj).1 (hall j (hlen j k hj))))
      · obtain ⟨o, ho, hno, hdeps⟩ := mem_ready hi
        have hlt : i < ops.size := (Array.getElem?_eq_some_iff.1 ho).1
        have hlt2 : i < listed.size := by rw [hI.size]; exact hlt
        have hno2 : listed.getD i false = false := by simp [Array.getD_eq_getD_getElem?, hlt2] at hno ⊢; exact hno
        have hφi : Φ[i]? = some (factAt Φ i) := by
          have : i < Φ.length := by rw [← hl1]; simpa using hlt
          simp [factAt, List.getD_eq_getElem?_getD, this]
        have hei : es[i]? = some (es.getD i none) := by
          have : i < es.length := by rw [← hl2]; simpa using hlt
          simp [List.getD_eq_getElem?_getD, this]
        have hbi : bs[i]? = some (bs.getD i none) := by
          have : i < bs.length := by rw [← hl3]; simpa using hlt
          simp [List.getD_eq_getElem?_getD, this]
        have hstep := hsteps i o _ _ _ (by rw [hget]; exact ho) hφi hei hbi
        have hDm : ∀ (j d : Nat), (ops.toList.map (·.dst))[j]? = some (some d) → d ∈ dstsOf ops.toList := by
          intro j d hj
          rw [List.getElem?_map, Option.map_eq_some_iff] at hj
          obtain ⟨o', ho', hd'⟩ := hj
          exact mem_dsts (List.mem_of_getElem? ho') hd'
        have hdep : ∀ e ∈ o.after.toList, Region.binds .any e = true → ∀ d, (ops.toList.map (·.dst))[e.on]? = some (some d) → factAt Φ e.on (u d) H := by
          intro e he' hb d hj
          rw [List.getElem?_map, Option.map_eq_some_iff] at hj
          obtain ⟨o', ho', hd'⟩ := hj
          exact hf e.on o' d (hdeps e he' hb) (by rw [← hget]; exact ho') hd' H (HLe.refl H)
        have hbo' : ∀ d, o.dst = some d → d < n := fun d => dstsOk_spec hd o (List.mem_of_getElem? (by rw [hget]; exact ho)) d
        have hcount : ops.size ≤ fuel + ((listed.setIfInBounds i true).toList.filter id).length := by
          have hlen : ((listed.setIfInBounds i true).toList.filter id).length = (listed.toList.filter id).length + 1 := by
            rw [Array.toList_setIfInBounds]
            have hl : i < listed.toList.length := by simpa using hlt2
            have hv : listed.toList[i] = false := by simpa [Array.getD_eq_getD_getElem?, hlt2] using hno2
            rw [List.set_eq_take_append_cons_drop, if_pos hl]
            conv => rhs; rw [← List.take_append_drop i listed.toList, List.drop_eq_getElem_cons hl, hv]
            simp only [List.filter_append, List.length_append, List.filter_cons, id]
            simp
            omega
          omega
        have next : ∀ (v : Value) (w' : World) (H' : HF) (c' : Nat), HLe H H' → G c' (updO u o.dst v) H' w' → (∀ H'', HLe H' H'' → factAt Φ i v H'') →
            (∀ (j k : Nat), es[j]? = some (some k) → (((if j = i then true else listed.getD j false) = true) ↔ k < c')) → InvU n d0 G Φ es ops f (listed.setIfInBounds i true) (a.put o.dst v) w' := by
          intro v w' H' c' hle hG' hφ hcc'
          refine ⟨by simp [hI.size], (put_defers _ _ _).trans hI.def_, ?_, updO u o.dst v, H', c', ?_, hG', ?_, ?_⟩
          · intro j o' hj ho' e he' hb
            rw [getD_set _ _ _ hlt2] at hj ⊢
            by_cases e1 : e.on = i
            · rw [if_pos e1]
            · rw [if_neg e1]
              by_cases e2 : j = i
              · subst e2; rw [ho] at ho'; cases ho'; exact hdeps e he' hb
              · rw [if_neg e2] at hj; exact hI.deps j o' hj ho' e he' hb
          · have := hr.put o.dst hbo' v
            cases hdst : o.dst with
            | none => rw [hdst] at this; exact this
            | some d =>
              rw [hdst] at this
              simp only [updO] at this
              rw [over_put (mem_dsts (List.mem_of_getElem? (by rw [hget]; exact ho)) hdst)] at this
              exact this
          · intro j k hj
            rw [getD_set _ _ _ hlt2]
            exact hcc' j k hj
          · intro j o' d' hj ho' hd' H'' hle''
            rw [getD_set _ _ _ hlt2] at hj
            by_cases e : j = i
            · subst e
              rw [ho] at ho'
              cases ho'
              have : updO u o.dst v d' = v := by
                rw [hd']
                have : Nat.beq d' d' = true := by simp
                simp [updO, upd, this]
              rw [this]
              exact hφ H'' hle''
            · rw [if_neg e] at hj
              have : updO u o.dst v d' = u d' := by
                cases h : o.dst with
                | none => rfl
                | some d =>
                  have hne : d' ≠ d := by
                    intro e2
                    subst e2
                    exact e (dst_inj hnd (i := j) (j := i) (by rw [hget]; exact ho') (by rw [hget]; exact ho) hd' h)
                  have : Nat.beq d' d = false := by cases hh : Nat.beq d' d; rfl; exact absurd (Nat.eq_of_beq_eq_true hh) hne
                  simp [updO, upd, this]
              rw [this]
              exact hf j o' d' hj ho' hd' H'' (hle.trans hle'')
        have hbnd : bOk (bs.getD i none) c := by
          cases hbb : bs.getD i none with
          | none => trivial
          | some k =>
            rw [hbb] at hbi
            have h3 := List.all_eq_true.1 hbo (some k, i) (by rw [List.mem_zipIdx_iff_getElem?]; simpa using hbi)
            simp only [List.any_eq_true, Bool.and_eq_true] at h3
            obtain ⟨⟨o2, e2⟩, hm2, he2, hb2⟩ := h3
            obtain ⟨j, hj, hje⟩ := List.mem_iff_getElem.1 hm2
            have hz : (ops.toList.zip es)[j]? = some (o2, e2) := by rw [List.getElem?_eq_getElem hj, hje]
            rw [List.getElem?_zip_eq_some] at hz
            have he3 : e2 = some k := by simpa using he2
            subst he3
            show c ≤ k
            rcases Nat.lt_or_ge k c with h5 | h5
            · have h6 := (hcc j k hz.2).2 h5
              have h7 := behind_listed hI.deps 4 j o2 (by rw [← hget]; exact hz.1) h6 hb2
              rw [hno2] at h7; cases h7
            · exact h5
        unfold wpOpIn
        simp only [ho]
        rw [wantF_eq hr]
        cases hee : es.getD i none with
        | none =>
          rw [hee] at hstep hei
          have hcc' : ∀ (j k : Nat), es[j]? = some (some k) → (((if j = i then true else listed.getD j false) = true) ↔ k < c) := by
            intro j k hj
            by_cases e : j = i
            · subst e; rw [hei] at hj; simp at hj
            · rw [if_neg e]; exact hcc j k hj
          have h2 := depU_of hDm _ hdep (hstep c u H w hbnd hG)
          by_cases hw : wantF ops o (over (dstsOf ops.toList) u f) = true
          · simp only [hw, if_true] at h2 ⊢
            refine Oper.wpIn_mono ?_ (h2 a n hr _)
            rintro a' w' ⟨v, rfl, H', hle, hG', hφ⟩
            exact ih _ _ _ (next v w' H' c hle hG' hφ hcc') hcount
          · simp only [hw] at h2 ⊢
            exact ⟨fun _ _ => trivial, ih _ _ _ (next undef w H c (HLe.refl H) h2.1 h2.2 hcc') hcount⟩
        | some k =>
          rw [hee] at hstep hei
          have hck : c = k := by
            have h1 := hcc i k hei
            rw [hno2] at h1
            have h2 : ¬ k < c := fun h => by have := h1.2 h; cases this
            cases k with
            | zero => omega
            | succ k =>
              have h3 := List.all_eq_true.1 hef (o, some (k + 1)) (by
                rw [List.mem_iff_getElem?]
                refine ⟨i, ?_⟩
                rw [List.getElem?_zip_eq_some]
                exact ⟨by rw [hget]; exact ho, hei⟩)
              simp only [List.any_eq_true, Bool.and_eq_true, decide_eq_true_eq] at h3
              obtain ⟨e, he', hb, hk⟩ := h3
              have h4 : es[e.on]? = some (some k) := by
                rw [List.getD_eq_getElem?_getD] at hk
                cases h5 : es[e.on]? with
                | none => rw [h5] at hk; simp at hk
                | some x => rw [h5] at hk; simp at hk; rw [hk]
              have h5 := (hcc e.on k h4).1 (hdeps e he' hb)
              omega
          subst hck
          have hcc' : ∀ (j k : Nat), es[j]? = some (some k) → (((if j = i then true else listed.getD j false) = true) ↔ k < c + 1) := by
            intro j k hj
            by_cases e : j = i
            · subst e; rw [hei] at hj; cases hj; simp
            · rw [if_neg e, hcc j k hj]
              have hne : k ≠ c := by
                intro e2
                subst e2
                exact e (es_inj es (of_decide_eq_true heu) j i hj hei)
              omega
          have h2 := depU_of hDm _ hdep (hstep u H w hG)
          by_cases hw : wantF ops o (over (dstsOf ops.toList) u f) = true
          · simp only [hw, if_true] at h2 ⊢
            refine Oper.wpIn_mono ?_ (h2 a n hr _)
            rintro a' w' ⟨v, rfl, H', hle, hG', hφ⟩
            exact ih _ _ _ (next v w' H' (c + 1) hle hG' hφ hcc') hcount
          · simp only [hw] at h2
            exact h2.elim
  refine key ops.size _ a w.drew ⟨by simp, hd0, ?_, f, H, 0, ?_, h0, ?_, ?_⟩ (by simp)
  · intro i o hi
    have h1 : (Array.replicate ops.size false).getD i false = false := by simp [Array.getD_eq_getD_getElem?, Array.getElem?_replicate]; split <;> rfl
    rw [h1] at hi; cases hi
  · have : over (dstsOf ops.toList) f f = f := by funext t; simp [over]
    rw [this]; exact ha
  · intro i k hk
    have h1 : (Array.replicate ops.size false).getD i false = false := by simp [Array.getD_eq_getD_getElem?, Array.getElem?_replicate]; split <;> rfl
    rw [h1]
    simp
  · intro i o d hi
    have h1 : (Array.replicate ops.size false).getD i false = false := by simp [Array.getD_eq_getD_getElem?, Array.getElem?_replicate]; split <;> rfl
    rw [h1] at hi; cases hi
theorem CWD_region_anyU {rid : Nat} {ops : Array Oper} {Qn Qr : List Nat → Fr → World → Prop} {Qx : Nat → List Nat → Fr → World → Prop} {ds : List Nat} (G : Nat → Fr → HF → World → Prop) (Φ : List Fact) (es bs : List (Option Nat)) (Ds : List (Option Nat)) (D : List Nat)
    (hm : P.follows .mixedOrders = true) (hd : dstsOk n ops = true) (he : edgesOk ops = true) (hDs : ops.toList.map (·.dst) = Ds) (hD : dstsOf ops.toList = D) (hu : decide D.Nodup = true) (hef : effOk ops es = true) (heu : effUniq es = true) (hbo : boundOk ops es bs = true)
    (h0 : G 0 f H w.drew) (hst : StepsU P r G Φ ops Ds D f ops.toList Φ es bs) (hfin : ∀ c u H w, G c u H w → (∀ (j k : Nat), es[j]? = some (some k) → k < c) → FinU u (Qn ds) H w ops.toList Φ f) : CWD P r n (.region rid ops true) Qn Qr Qx ds f w :=
  fun a ha hda => region_anyU_core (Qn := Qn ds) (fun a f w h1 h2 h3 => ⟨f, ds, h1, h2, h3⟩) G Φ es bs Ds D hm hd he hDs hD hu hef heu hbo h0 hst hfin a ha hda
theorem CW_region_anyU {rid : Nat} {ops : Array Oper} {Qn Qr : Fr → World → Prop} {Qx : Nat → Fr → World → Prop} (G : Nat → Fr → HF → World → Prop) (Φ : List Fact) (es bs : List (Option Nat)) (Ds : List (Option Nat)) (D : List Nat)
    (hm : P.follows .mixedOrders = true) (hd : dstsOk n ops = true) (he : edgesOk ops = true) (hDs : ops.toList.map (·.dst) = Ds) (hD : dstsOf ops.toList = D) (hu : decide D.Nodup = true) (hef : effOk ops es = true) (heu : effUniq es = true) (hbo : boundOk ops es bs = true)
    (h0 : G 0 f H w.drew) (hst : StepsU P r G Φ ops Ds D f ops.toList Φ es bs) (hfin : ∀ c u H w, G c u H w → (∀ (j k : Nat), es[j]? = some (some k) → k < c) → FinU u Qn H w ops.toList Φ f) : CW P r n (.region rid ops true) Qn Qr Qx f w :=
  fun a ha hda => region_anyU_core (Qn := Qn) (fun a f w h1 h2 h3 => ⟨f, [], h1, h2, rfl, h3⟩) G Φ es bs Ds D hm hd he hDs hD hu hef heu hbo h0 hst hfin a ha hda
end
/-! ### Duties -/
/-- Behind c effects M c holds; it speaks of the values that lie in L alone. -/
structure GU (H0 : HF) (w0 : World) (Hr : HF) (L : List Nat) (M : Nat → Fr → HF → World → Prop) (c : Nat) (u : Fr) (H : HF) (w : World) : Prop where
  grow : Grow H0 w0 H w
  le : HLe Hr H
  m : M c u H w
  cl : ∀ c u u' H w H' w', (∀ t, memb t L = true → u' t = u t) → M c u H w → Grow H w H' w' → M c u' H' w'
section
variable {P : Program} {r : Option Nat} {n : Nat} {f : Fr} {H0 Hr H H' : HF} {w0 w w' : World} {L : List Nat} {M : Nat → Fr → HF → World → Prop} {c : Nat} {u : Fr}
theorem GU.sub (h : GU H0 w0 Hr L M c u H w) : Sub H w := h.grow.sub
theorem GU.subOld (h : GU H0 w0 Hr L M c u H w) : Sub Hr w := ⟨fun b o e => h.grow.sub.out b o (h.le b o e)⟩
theorem GU.trans (h : GU H0 w0 Hr L M c u H w) (k : Grow H w H' w') : GU H0 w0 Hr L M c u H' w' := ⟨h.grow.trans k, h.le.trans k.le, h.cl _ _ _ _ _ _ _ (fun _ _ => rfl) h.m k, h.cl⟩
theorem GU.skip {d : Nat} {v : Value} (hd : memb d L = false) (h : GU H0 w0 Hr L M c u H w) : GU H0 w0 Hr L M c (upd u d v) H w :=
  ⟨h.grow, h.le, h.cl _ _ _ _ _ _ _ (fun t ht => by
    have : Nat.beq t d = false := by
      cases hh : Nat.beq t d
      · rfl
      · rw [Nat.eq_of_beq_eq_true hh] at ht; rw [ht] at hd; cases hd
    simp only [upd, this, cond_false]) h.m (Grow.refl h.grow.sub), h.cl⟩
theorem GU.next {d : Option Nat} {v : Value} (h : GU H0 w0 Hr L M c u H w) (hg : Grow H0 w0 H' w') (hle : HLe H H') (hf : M (c + 1) (updO u d v) H' w') : GU H0 w0 Hr L M (c + 1) (updO u d v) H' w' := ⟨hg, h.le.trans hle, hf, h.cl⟩
variable {Φ : List Fact} {ops : Array Oper} {Ds : List (Option Nat)} {D : List Nat} {f0 : Fr} {t : Nat} {p : Op} {gd : Option (Nat × Bool)} {ty : TypeId} {pos : String} {af : Array Edge} {b : Option Nat}
theorem depU_nil {K : Fr → Prop} {f : Fr} (h : K f) : DepU u Φ Ds H K [] f := h
theorem depU_eq {K : Fr → Prop} {e : Edge} {es : List Edge} {f : Fr} {d : Nat} {X : Value} (hb : Region.binds .any e = true) (hd : Ds.getD e.on none = some d) (hφ : factAt Φ e.on = fun v _ => v = X) (h : DepU u Φ Ds H K es (upd f d X)) : DepU u Φ Ds H K (e :: es) f := by
  simp only [DepU, hb, cond_true, hd, hφ]
  intro v _ hv
  rw [hv]; exact h
theorem depU_fact {K : Fr → Prop} {e : Edge} {es : List Edge} {f : Fr} {d : Nat} {φ : Fact} (hb : Region.binds .any e = true) (hd : Ds.getD e.on none = some d) (hφ : factAt Φ e.on = φ) (h : ∀ v, u d = v → φ v H → DepU u Φ Ds H K es (upd f d v)) : DepU u Φ Ds H K (e :: es) f := by
  simp only [DepU, hb, cond_true, hd, hφ]
  exact h
theorem depU_skip {K : Fr → Prop} {e : Edge} {es : List Edge} {f : Fr} (hb : Region.binds .any e = false) (h : DepU u Φ Ds H K es f) : DepU u Φ Ds H K (e :: es) f := by
  simp only [DepU, hb, cond_false]
  exact h
theorem depU_none {K : Fr → Prop} {e : Edge} {es : List Edge} {f : Fr} (hd : Ds.getD e.on none = none) (h : DepU u Φ Ds H K es f) : DepU u Φ Ds H K (e :: es) f := by
  simp only [DepU, hd]
  cases Region.binds .any e <;> exact h
theorem finU_eq {Q : Fr → World → Prop} {o : Oper} {os : List Oper} {φs : List Fact} {φ : Fact} {f : Fr} {d : Nat} {X : Value} (ho : o.dst = some d) (hφ : φ = fun v _ => v = X) (h : FinU u Q H w os φs (upd f d X)) : FinU u Q H w (o :: os) (φ :: φs) f := by
  simp only [FinU, ho, hφ]
  intro v _ hv
  rw [hv]; exact h
theorem finU_fact {Q : Fr → World → Prop} {o : Oper} {os : List Oper} {φs : List Fact} {φ : Fact} {f : Fr} {d : Nat} (ho : o.dst = some d) (h : ∀ v, u d = v → φ v H → FinU u Q H w os φs (upd f d v)) : FinU u Q H w (o :: os) (φ :: φs) f := by
  simp only [FinU, ho]
  exact h
theorem finU_none {Q : Fr → World → Prop} {o : Oper} {os : List Oper} {φs : List Fact} {φ : Fact} {f : Fr} (ho : o.dst = none) (h : FinU u Q H w os φs f) : FinU u Q H w (o :: os) (φ :: φs) f := by
  simp only [FinU, ho]
  exact h
theorem finU_nil {Q : Fr → World → Prop} {f : Fr} (h : Q f w) : FinU u Q H w [] [] f := h
theorem depU_mono {K K' : Fr → Prop} (hk : ∀ f, K f → K' f) : ∀ (es : List Edge) (f : Fr), DepU u Φ Ds H K es f → DepU u Φ Ds H K' es f
  | [], f, h => hk f h
  | e :: es, f, h => by
    simp only [DepU] at h ⊢
    cases hb : Region.binds .any e with
    | false => rw [hb] at h; exact depU_mono hk es f h
    | true =>
      rw [hb] at h
      simp only [cond_true] at h ⊢
      cases hd : Ds.getD e.on none with
      | none => rw [hd] at h; exact depU_mono hk es f h
      | some d => rw [hd] at h; exact fun v hu hv => depU_mono hk es _ (h v hu hv)
theorem U_pure {val : Value} (hd : memb t L = false) (h : ∀ (c : Nat) (u : Fr) (H : HF) (w : World), bOk b c → GU H0 w0 Hr L M c u H w → DepU u Φ Ds H (fun f => Pure1 P r ⟨some t, p, ty, pos, af, none⟩ f w val) af.toList (over D u f0)) :
    StepU P r (GU H0 w0 Hr L M) Φ ops Ds D f0 ⟨some t, p, ty, pos, af, none⟩ (fun v _ => v = val) b none := by
  intro c u H w hb hG
  refine depU_mono ?_ _ _ (h c u H w hb hG)
  intro f hf
  have : wantF ops ⟨some t, p, ty, pos, af, none⟩ f = true := rfl
  rw [if_pos this]
  exact hf.out _ ⟨H, HLe.refl H, hG.skip hd, fun _ _ => rfl⟩
theorem U_want {val : Value} {j : Nat} {q : Bool} (hd : memb t L = false) (h : ∀ (c : Nat) (u : Fr) (H : HF) (w : World), bOk b c → GU H0 w0 Hr L M c u H w → DepU u Φ Ds H (fun f => Pure2 P r ops j q ⟨some t, p, ty, pos, af, some (j, q)⟩ f w val) af.toList (over D u f0)) :
    StepU P r (GU H0 w0 Hr L M) Φ ops Ds D f0 ⟨some t, p, ty, pos, af, some (j, q)⟩ (fun v _ => v = val) b none := by
  intro c u H w hb hG
  refine depU_mono ?_ _ _ (h c u H w hb hG)
  rintro f ⟨hy, hf⟩
  have : wantF ops ⟨some t, p, ty, pos, af, some (j, q)⟩ f = true := by simp [wantF, hy]
  rw [if_pos this]
  exact hf _ ⟨H, HLe.refl H, hG.skip hd, fun _ _ => rfl⟩
theorem U_pass {j : Nat} {q : Bool} (hd : memb t L = false) (h : ∀ (c : Nat) (u : Fr) (H : HF) (w : World), bOk b c → GU H0 w0 Hr L M c u H w → DepU u Φ Ds H (fun f => Pass1 ops j q f) af.toList (over D u f0)) :
    StepU P r (GU H0 w0 Hr L M) Φ ops Ds D f0 ⟨some t, p, ty, pos, af, some (j, q)⟩ (fun v _ => v = undef) b none := by
  intro c u H w hb hG
  refine depU_mono ?_ _ _ (h c u H w hb hG)
  rintro f ⟨hy⟩
  have : ¬ wantF ops ⟨some t, p, ty, pos, af, some (j, q)⟩ f = true := by simp [wantF, hy]
  rw [if_neg this]
  exact ⟨hG.skip hd, fun _ _ => rfl⟩
theorem U_passU {j : Nat} {q : Bool} (hd : memb t L = false) (h : ∀ (c : Nat) (u : Fr) (H : HF) (w : World), bOk b c → GU H0 w0 Hr L M c u H w → DepU u Φ Ds H (fun f => Pass2 ops j f) af.toList (over D u f0)) :
    StepU P r (GU H0 w0 Hr L M) Φ ops Ds D f0 ⟨some t, p, ty, pos, af, some (j, q)⟩ (fun v _ => v = undef) b none := by
  intro c u H w hb hG
  refine depU_mono ?_ _ _ (h c u H w hb hG)
  rintro f ⟨hy⟩
  have : ¬ wantF ops ⟨some t, p, ty, pos, af, some (j, q)⟩ f = true := by simp [wantF, hy]
  rw [if_neg this]
  exact ⟨hG.skip hd, fun _ _ => rfl⟩
theorem U_fact {φ : Fact} (hd : memb t L = false) (h : ∀ (c : Nat) (u : Fr) (H : HF) (w : World), bOk b c → GU H0 w0 Hr L M c u H w → DepU u Φ Ds H (fun f => OpW P r ⟨some t, p, ty, pos, af, none⟩ f w (fun v w' => ∃ H', HLe H H' ∧ GU H0 w0 Hr L M c u H' w' ∧ ∀ H'', HLe H' H'' → φ v H'')) af.toList (over D u f0)) :
    StepU P r (GU H0 w0 Hr L M) Φ ops Ds D f0 ⟨some t, p, ty, pos, af, none⟩ φ b none := by
  intro c u H w hb hG
  refine depU_mono ?_ _ _ (h c u H w hb hG)
  intro f hf
  have : wantF ops ⟨some t, p, ty, pos, af, none⟩ f = true := rfl
  rw [if_pos this]
  exact hf.mono fun v w' ⟨H', h1, h2, h3⟩ => ⟨H', h1, h2.skip hd, h3⟩
theorem U_factG {φ : Fact} {j : Nat} {q : Bool} (hd : memb t L = false) (h : ∀ (c : Nat) (u : Fr) (H : HF) (w : World), bOk b c → GU H0 w0 Hr L M c u H w → DepU u Φ Ds H (fun f => yieldF ops f j = some q ∧ OpW P r ⟨some t, p, ty, pos, af, some (j, q)⟩ f w (fun v w' => ∃ H', HLe H H' ∧ GU H0 w0 Hr L M c u H' w' ∧ ∀ H'', HLe H' H'' → φ v H'')) af.toList (over D u f0)) :
    StepU P r (GU H0 w0 Hr L M) Φ ops Ds D f0 ⟨some t, p, ty, pos, af, some (j, q)⟩ φ b none := by
  intro c u H w hb hG
  refine depU_mono ?_ _ _ (h c u H w hb hG)
  rintro f ⟨hy, hf⟩
  have : wantF ops ⟨some t, p, ty, pos, af, some (j, q)⟩ f = true := by simp [wantF, hy]
  rw [if_pos this]
  exact hf.mono fun v w' ⟨H', h1, h2, h3⟩ => ⟨H', h1, h2.skip hd, h3⟩
theorem U_eff {φ : Fact} {k : Nat} {d : Option Nat} (h : ∀ (u : Fr) (H : HF) (w : World), GU H0 w0 Hr L M k u H w → DepU u Φ Ds H (fun f => OpW P r ⟨d, p, ty, pos, af, none⟩ f w (fun v w' => ∃ H', HLe H H' ∧ GU H0 w0 Hr L M (k + 1) (updO u d v) H' w' ∧ ∀ H'', HLe H' H'' → φ v H'')) af.toList (over D u f0)) :
    StepU P r (GU H0 w0 Hr L M) Φ ops Ds D f0 ⟨d, p, ty, pos, af, none⟩ φ b (some k) := by
  intro u H w hG
  refine depU_mono ?_ _ _ (h u H w hG)
  intro f hf
  have : wantF ops ⟨d, p, ty, pos, af, none⟩ f = true := rfl
  rw [if_pos this]
  exact hf
theorem CW_region_gu {rid : Nat} {Qn Qr : Fr → World → Prop} {Qx : Nat → Fr → World → Prop} (L : List Nat) (M : Nat → Fr → HF → World → Prop) (c0 : Nat) (Φ : List Fact) (es bs : List (Option Nat)) (Ds : List (Option Nat)) (D : List Nat)
    (hm : P.follows .mixedOrders = true) (hd : dstsOk n ops = true) (he : edgesOk ops = true) (hDs : ops.toList.map (·.dst) = Ds) (hD : dstsOf ops.toList = D) (hu : decide D.Nodup = true) (hef : effOk ops es = true) (heu : effUniq es = true) (hbo : boundOk ops es bs = true)
    (hl : (es.any fun e => e == some c0) = true) (hG : Grow H0 w0 H w) (hM : M 0 f H w) (cl : ∀ c u u' H w H' w', (∀ t, memb t L = true → u' t = u t) → M c u H w → Grow H w H' w' → M c u' H' w') (hst : StepsU P r (GU H0 w0 H L M) Φ ops Ds D f ops.toList Φ es bs)
    (hfin : ∀ c u H' w', c0 < c → Grow H0 w0 H' w' → HLe H H' → M c u H' w' → FinU u Qn H' w' ops.toList Φ f) : CW P r n (.region rid ops true) Qn Qr Qx f w := by
  refine CW_region_anyU (H := H) (GU H0 w0 H L M) Φ es bs Ds D hm hd he hDs hD hu hef heu hbo ⟨hG.trans (Grow.drew hG.sub), HLe.refl _, cl _ _ _ _ _ _ _ (fun _ _ => rfl) hM (Grow.drew hG.sub), cl⟩ hst ?_
  intro c u H' w' hG hc
  simp only [List.any_eq_true] at hl
  obtain ⟨e, he1, he2⟩ := hl
  obtain ⟨j, hj, hje⟩ := List.mem_iff_getElem.1 he1
  have hes : es[j]? = some (some c0) := by
    rw [List.getElem?_eq_getElem hj, hje]
    simpa using he2
  exact hfin c u H' w' (hc j c0 hes) hG.grow hG.le hG.m
end
end Go.Proofs.Ytnjeoobcejlojaa
