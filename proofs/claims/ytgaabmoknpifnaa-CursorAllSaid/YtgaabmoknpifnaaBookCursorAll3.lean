/- Texts of this proof in one file, each with its conditions ahead of it. First: Regions that draw their order: what holds may speak of values that the effects yielded; loads that stand ahead of a write. Conditions: none. -/
import Derived.Test.YtgaabmoknpifnaaMut
import Derived.Test.YtgaabmoknpifnaaBookCursorAll2
import Derived.Test.YtgaabmoknpifnaaBookCursorAll1
namespace Go.Proofs.Ytgaabmoknpifnaa
open Go.RowKit
set_option linter.unusedVariables false
/-- What is known of the operations ahead: their values lie in the frame, and are those of u. -/
def DepU (u0 : Fr) (Φ : List Fact) (Ds : List (Option Nat)) (H : HF) (K : Fr → Prop) : List Edge → Fr → Prop
  | [], f => K f
  | e :: es, f => bif Region.binds .any e then (match Ds.getD e.on none with | some d => ∀ v, u0 d = v → factAt Φ e.on v H → DepU u0 Φ Ds H K es (upd f d v) | none => DepU u0 Φ Ds H K es f) else DepU u0 Φ Ds H K es f
def bOk : Option Nat → Nat → Prop
  | none, _ => True
  | some k, c => c ≤ k
/-- One operation's duty. 'G c u': the world behind c effects, u: the values so far. -/
def StepU (P : Program) (r : Option Nat) (G : Nat → Fr → HF → World → Prop) (Φ : List Fact) (ops : Array Oper) (Ds : List (Option Nat)) (D : List Nat) (f0 : Fr) (o : Oper) (φ : Fact) (b : Option Nat) : Option Nat → Prop
  | none => ∀ (c : Nat) (u : Fr) (H : HF) (w : World), bOk b c → G c u H w → DepU u Φ Ds H (fun f =>
      if wantF ops o f then OpW P r o f w (fun v w' => ∃ H', HLe H H' ∧ G c (updO u o.dst v) H' w' ∧ ∀ H'', HLe H' H'' → φ v H'') else G c (updO u o.dst undef) H w ∧ ∀ H'', HLe H H'' → φ undef H'') o.after.toList (over D u f0)
  | some c => ∀ (u : Fr) (H : HF) (w : World), G c u H w → DepU u Φ Ds H (fun f =>
      if wantF ops o f then OpW P r o f w (fun v w' => ∃ H', HLe H H' ∧ G (c + 1) (updO u o.dst v) H' w' ∧ ∀ H'', HLe H' H'' → φ v H'') else False) o.after.toList (over D u f0)
def StepsU (P : Program) (r : Option Nat) (G : Nat → Fr → HF → World → Prop) (Φ : List Fact) (ops : Array Oper) (Ds : List (Option Nat)) (D : List Nat) (f0 : Fr) : List Oper → List Fact → List (Option Nat) → List (Option Nat) → Prop
  | o :: os, φ :: φs, e :: es, b :: bs => StepU P r G Φ ops Ds D f0 o φ b e ∧ StepsU P r G Φ ops Ds D f0 os φs es bs
  | [], [], [], [] => True
  | _, _, _, _ => False
theorem stepsU_cons {P : Program} {r : Option Nat} {G : Nat → Fr → HF → World → Prop} {Φ : List Fact} {ops : Array Oper} {Ds : List (Option Nat)} {D : List Nat} {f0 : Fr} {o : Oper} {os : List Oper} {φ : Fact} {φs : List Fact} {e b : Option Nat} {es bs : List (Option Nat)}
    (h1 : StepU P r G Φ ops Ds D f0 o φ b e) (h2 : StepsU P r G Φ ops Ds D f0 os φs es bs) : StepsU P r G Φ ops Ds D f0 (o :: os) (φ :: φs) (e :: es) (b :: bs) := ⟨h1, h2⟩
def FinU (u0 : Fr) (Q : Fr → World → Prop) (H : HF) (w : World) : List Oper → List Fact → Fr → Prop
  | o :: os, φ :: φs, f => match o.dst with | some d => ∀ v, u0 d = v → φ v H → FinU u0 Q H w os φs (upd f d v) | none => FinU u0 Q H w os φs f
  | _, _, f => Q f w
/-- o stands behind operation i, by one edge or more (q at most). -/
def behind (ops : Array Oper) (i : Nat) : Nat → Oper → Bool
  | 0, _ => false
  | q + 1, o => o.after.toList.any (fun a => Region.binds .any a && a.on == i) || o.after.toList.any fun a => Region.binds .any a && (match ops[a.on]? with | some o' => behind ops i q o' | none => false)
theorem behind_listed {ops : Array Oper} {listed : Array Bool} {i : Nat} (hd : ∀ (i : Nat) (o : Oper), listed.getD i false = true → ops[i]? = some o → ∀ e ∈ o.after.toList, Region.binds .any e = true → listed.getD e.on false = true) :
    ∀ (q j : Nat) (o : Oper), ops[j]? = some o → listed.getD j false = true → behind ops i q o = true → listed.getD i false = true
  | 0, _, _, _, _, h => by simp [behind] at h
  | q + 1, j, o, ho, hl, h => by
    simp only [behind, Bool.or_eq_true, List.any_eq_true, Bool.and_eq_true] at h
    rcases h with ⟨a, ha, hb, hi⟩ | ⟨a, ha, hb, hi⟩
    · have h7 := hd j o hl ho a ha hb
      have h8 : a.on = i := by simpa using hi
      rw [h8] at h7; exact h7
    · have h7 := hd j o hl ho a ha hb
      split at hi
      · rename_i o' ho'
        exact behind_listed hd q a.on o' ho' h7 hi
      · cases hi
/-- The operation that is effect k stands behind each one that is bound by k. -/
def boundOk (ops : Array Oper) (es bs : List (Option Nat)) : Bool :=
  (bs.zipIdx).all fun (b, i) => match b with
    | none => true
    | some k => (ops.toList.zip es).any fun (o, e) => (e == some k) && behind ops i 4 o
section
variable {P : Program} {r : Option Nat} {n : Nat} {f : Fr} {H : HF} {w : World}
theorem stepsU_at {G : Nat → Fr → HF → World → Prop} {Φ : List Fact} {ops : Array Oper} {Ds : List (Option Nat)} {D : List Nat} {f0 : Fr} : ∀ (os : List Oper) (φs : List Fact) (es bs : List (Option Nat)), StepsU P r G Φ ops Ds D f0 os φs es bs →
    os.length = φs.length ∧ os.length = es.length ∧ os.length = bs.length ∧ ∀ (i : Nat) (o : Oper) (φ : Fact) (e b : Option Nat), os[i]? = some o → φs[i]? = some φ → es[i]? = some e → bs[i]? = some b → StepU P r G Φ ops Ds D f0 o φ b e
  | [], [], [], [], _ => ⟨rfl, rfl, rfl, fun i o φ e b h => by simp at h⟩
  | o :: os, φ :: φs, e :: es, b :: bs, h => by
    obtain ⟨h1, h2, h3, h4⟩ := stepsU_at os φs es bs h.2
    refine ⟨by simp [h1], by simp [h2], by simp [h3], fun i o' φ' e' b' ho hφ he hb => ?_⟩
    cases i with
    | zero =>
      simp at ho hφ he hb
      subst ho hφ he hb
      exact h.1
    | succ i => exact h4 i o' φ' e' b' (by simpa using ho) (by simpa using hφ) (by simpa using he) (by simpa using hb)
  | [], _ :: _, _, _, h => by cases h
  | [], [], _ :: _, _, h => by cases h
  | [], [], [], _ :: _, h => by cases h
  | _ :: _, [], _, _, h => by cases h
  | _ :: _, _ :: _, [], _, h => by cases h
  | _ :: _, _ :: _, _ :: _, [], h => by cases h
theorem depU_of {Φ : List Fact} {Ds : List (Option Nat)} {D : List Nat} {u f0 : Fr} {H : HF} {K : Fr → Prop} (hD : ∀ (j d : Nat), Ds[j]? = some (some d) → d ∈ D) : ∀ (es : List Edge),
    (∀ e ∈ es, Region.binds .any e = true → ∀ d, Ds[e.on]? = some (some d) → factAt Φ e.on (u d) H) → DepU u Φ Ds H K es (over D u f0) → K (over D u f0)
  | [], _, h => h
  | e :: es, hf, h => by
    have ih := depU_of (K := K) (f0 := f0) hD es (fun e' he' => hf e' (by simp [he']))
    simp only [DepU] at h
    cases hb : Region.binds .any e with
    | false => rw [hb] at h; exact ih h
    | true =>
      rw [hb] at h
      simp only [cond_true] at h
      cases hd : Ds.getD e.on none with
      | none => rw [hd] at h; exact ih h
      | some d =>
        rw [hd] at h
        have hd2 : Ds[e.on]? = some (some d) := by
          rw [List.getD_eq_getElem?_getD] at hd
          cases h5 : Ds[e.on]? with
          | none => rw [h5] at hd; simp at hd
          | some x => rw [h5] at hd; simp at hd; rw [hd]
        have h1 := h (u d) rfl (hf e (by simp) hb d hd2)
        rw [upd_over_same (hD _ _ hd2)] at h1
        exact ih h1
theorem finU_of {Q : Fr → World → Prop} {H : HF} {w : World} {u : Fr} : ∀ (os : List Oper) (φs : List Fact) (f : Fr),
    (∀ i o, os[i]? = some o → ∀ d, o.dst = some d → factAt φs i (u d) H) → os.length = φs.length → FinU u Q H w os φs f → Q (over (dstsOf os) u f) w
  | [], [], f, _, _, h => by
    have : over (dstsOf []) u f = f := by funext t; simp [dstsOf, over, memb]
    rw [this]; exact h
  | o :: os, φ :: φs, f, hf, hl, h => by
    simp only [FinU] at h
    cases hd : o.dst with
    | none =>
      rw [hd] at h
      have e : dstsOf (o :: os) = dstsOf os := by simp [dstsOf, hd]
      rw [e]
      exact finU_of os φs f (fun i o' ho d hd' => hf (i + 1) o' (by simpa using ho) d hd') (by simpa using hl) h
    | some d =>
      rw [hd] at h
      have e : dstsOf (o :: os) = d :: dstsOf os := by simp [dstsOf, hd]
      have h1 := h (u d) rfl (hf 0 o (by simp) d hd)
      have h2 := finU_of os φs _ (fun i o' ho d hd' => hf (i + 1) o' (by simpa using ho) d hd') (by simpa using hl) h1
      have e2 : over (dstsOf (o :: os)) u f = over (dstsOf os) u (upd f d (u d)) := by
        funext t
        rw [e]
        simp only [over, memb_eq, List.elem_cons, upd]
        by_cases ht : t = d
        · subst ht; cases (dstsOf os).elem t <;> simp
        · have : (t == d) = false := by simp [ht]
          have h3 : Nat.beq t d = false := by cases hh : Nat.beq t d; rfl; exact absurd (Nat.eq_of_beq_eq_true hh) ht
          rw [this, h3]
          simp
      rw [e2]; exact h2
  | [], _ :: _, _, _, hl, _ => by simp at hl
  | _ :: _, [], _, _, hl, _ => by simp at hl
/-- What holds while the operations of such a region are carried out. -/
structure InvU (n : Nat) (d0 : List Deferred) (G : Nat → Fr → HF → World → Prop) (Φ : List Fact) (es : List (Option Nat)) (ops : Array Oper) (f0 : Fr) (listed : Array Bool) (a : Act) (w : World) : Prop where
  size : listed.size = ops.size
  def_ : a.defers = d0
  deps : ∀ (i : Nat) (o : Oper), listed.getD i false = true → ops[i]? = some o → ∀ e ∈ o.after.toList, Region.binds .any e = true → listed.getD e.on false = true
  st : ∃ (u : Fr) (H : HF) (c : Nat), Rep n a (over (dstsOf ops.toList) u f0) ∧ G c u H w ∧ (∀ (i k : Nat), es[i]? = some (some k) → (listed.getD i false = true ↔ k < c)) ∧
    ∀ (i : Nat) (o : Oper) (d : Nat), listed.getD i false = true → ops[i]? = some o → o.dst = some d → ∀ H', HLe H H' → factAt Φ i (u d) H'
theorem es_inj {k : Nat} : ∀ (l : List (Option Nat)), (l.filterMap id).Nodup → ∀ (i j : Nat), l[i]? = some (some k) → l[j]? = some (some k) → i = j := by
  intro l
  induction l with
  | nil => intro _ i j h; simp at h
  | cons x l ihl =>
    intro hn i j h1 h2
    have hmem : ∀ m, l[m]? = some (some k) → k ∈ l.filterMap id := fun m hm => List.mem_filterMap.2 ⟨some k, List.mem_of_getElem? hm, rfl⟩
    have htail : (l.filterMap id).Nodup := by
      cases x with
      | none => simpa using hn
      | some y => simp at hn; simpa using hn.2
    cases i with
    | zero =>
      cases j with
      | zero => rfl
      | succ j =>
        simp at h1 h2
        subst h1
        have := hmem j h2
        simp only [List.filterMap_cons, id, List.nodup_cons] at hn
        exact absurd this hn.1
    | succ i =>
      cases j with
      | zero =>
        simp at h1 h2
        subst h2
        have := hmem i h1
        simp only [List.filterMap_cons, id, List.nodup_cons] at hn
        exact absurd this hn.1
      | succ j =>
        simp at h1 h2
        rw [ihl htail i j h1 h2]
theorem region_anyU_core {rid : Nat} {ops : Array Oper} {Q' : Exit → Act → World → Prop} {Qn : Fr → World → Prop} {d0 : List Deferred} (hQ : ∀ a f w, Rep n a f → a.defers = d0 → Qn f w → Q' .normal a w) (G : Nat → Fr → HF → World → Prop) (Φ : List Fact) (es bs : List (Option Nat)) (Ds : List (Option Nat)) (D : List Nat)
    (hm : P.follows .mixedOrders = true) (hd : dstsOk n ops = true) (he : edgesOk ops = true) (hDs : ops.toList.map (·.dst) = Ds) (hD : dstsOf ops.toList = D) (hu : decide D.Nodup = true) (hef : effOk ops es = true) (heu : effUniq es = true) (hbo : boundOk ops es bs = true)
    (h0 : G 0 f H w.drew) (hst : StepsU P r G Φ ops Ds D f ops.toList Φ es bs) (hfin : ∀ c u H w, G c u H w → (∀ (j k : Nat), es[j]? = some (some k) → k < c) → FinU u Qn H w ops.toList Φ f) : ∀ a, Rep n a f → a.defers = d0 → (Code.region rid ops true).wpIn (FW r) 0 P Q' a w := by
  subst hD
  subst hDs
  intro a ha hd0
  refine wpIn_region_any hm ?_
  obtain ⟨hl1, hl2, hl3, hsteps⟩ := stepsU_at _ _ _ _ hst
  have hnd : (dstsOf ops.toList).Nodup := of_decide_eq_true hu
  have hget : ∀ i : Nat, ops.toList[i]? = ops[i]? := fun i => by simp
  have hlen : ∀ (j k : Nat), es[j]? = some (some k) → j < ops.size := fun j k hj => by have h9 := (List.getElem?_eq_some_iff.1 hj).1; rw [← hl2] at h9; simpa using h9
  have key : ∀ (fuel : Nat) (listed : Array Bool) (a : Act) (w : World), InvU n d0 G Φ es ops f listed a w → ops.size ≤ fuel + (listed.toList.filter id).length →
      wpAnyIn (FW r) 0 P .any ops Q' fuel listed a w := by
    intro fuel
    induction fuel with
    | zero =>
      intro listed a w hI hc
      have hall : ∀ i, i < ops.size → listed.getD i false = true := by
        have h1 : (listed.toList.filter id).length = listed.toList.length := by
          have := List.length_filter_le id listed.toList
          have h2 : listed.toList.length = ops.size := by simpa using hI.size
          omega
        have h3 := List.length_filter_eq_length_iff.1 h1
        intro i hi
        have h4 : i < listed.size := by rw [hI.size]; exact hi
        simp [Array.getD_eq_getD_getElem?, h4]
        exact h3 _ (by simp)
      have hnil : Region.ready .any ops listed = [] := by
        apply List.eq_nil_iff_forall_not_mem.2
        intro i hi
        obtain ⟨o, ho, h1, _⟩ := mem_ready hi
        have h2 := hall i (Array.getElem?_eq_some_iff.1 ho).1
        have h3 : i < listed.size := by rw [hI.size]; exact (Array.getElem?_eq_some_iff.1 ho).1
        simp [Array.getD_eq_getD_getElem?, h3] at h1 h2
        rw [h1] at h2; cases h2
      refine ⟨hnil, ?_⟩
      obtain ⟨u, H, c, hr, hG, hcc, hf⟩ := hI.st
      refine hQ _ _ _ hr hI.def_ ?_
      exact finU_of (u := u) ops.toList Φ f (fun i o ho d hd' => hf i o d (hall i (by simpa using (List.getElem?_eq_some_iff.1 ho).1)) (by rw [← hget]; exact ho) hd' H (HLe.refl H)) hl1 (hfin c u H w hG (fun j k hj => (hcc j k hj).1 (hall j (hlen j k hj))))
    | succ fuel ih =>
      intro listed a w hI hc
      obtain ⟨u, H, c, hr, hG, hcc, hf⟩ := hI.st
      refine ⟨fun hnil => ?_, fun i hi => ?_⟩
      · have hall := all_listed he hI.size hnil
        refine hQ _ _ _ hr hI.def_ ?_
        exact finU_of (u := u) ops.toList Φ f (fun i o ho d hd' => hf i o d (hall i (by simpa using (List.getElem?_eq_some_iff.1 ho).1)) (by rw [← hget]; exact ho) hd' H (HLe.refl H)) hl1 (hfin c u H w hG (fun j k hj => (hcc j k hj).1 (hall j (hlen j k hj))))
      · obtain ⟨o, ho, hno, hdeps⟩ := mem_ready hi
        have hlt : i < ops.size := (Array.getElem?_eq_some_iff.1 ho).1
        have hlt2 : i < listed.size := by rw [hI.size]; exact hlt
        have hno2 : listed.getD i false = false := by simp [Array.getD_eq_getD_getElem?, hlt2] at hno ⊢; exact hno
        have hφi : Φ[i]? = some (factAt Φ i) := by
          have : i < Φ.length := by rw [← hl1]; simpa using hlt
          simp [factAt, List.getD_eq_getElem?_getD, this]
        have hei : es[i]? = some (es.getD i none) := by
          have : i < es.length := by rw [← hl2]; simpa using hlt
          simp [List.getD_eq_getElem?_getD, this]
        have hbi : bs[i]? = some (bs.getD i none) := by
          have : i < bs.length := by rw [← hl3]; simpa using hlt
          simp [List.getD_eq_getElem?_getD, this]
        have hstep := hsteps i o _ _ _ (by rw [hget]; exact ho) hφi hei hbi
        have hDm : ∀ (j d : Nat), (ops.toList.map (·.dst))[j]? = some (some d) → d ∈ dstsOf ops.toList := by
          intro j d hj
          rw [List.getElem?_map, Option.map_eq_some_iff] at hj
          obtain ⟨o', ho', hd'⟩ := hj
          exact mem_dsts (List.mem_of_getElem? ho') hd'
        have hdep : ∀ e ∈ o.after.toList, Region.binds .any e = true → ∀ d, (ops.toList.map (·.dst))[e.on]? = some (some d) → factAt Φ e.on (u d) H := by
          intro e he' hb d hj
          rw [List.getElem?_map, Option.map_eq_some_iff] at hj
          obtain ⟨o', ho', hd'⟩ := hj
          exact hf e.on o' d (hdeps e he' hb) (by rw [← hget]; exact ho') hd' H (HLe.refl H)
        have hbo' : ∀ d, o.dst = some d → d < n := fun d => dstsOk_spec hd o (List.mem_of_getElem? (by rw [hget]; exact ho)) d
        have hcount : ops.size ≤ fuel + ((listed.setIfInBounds i true).toList.filter id).length := by
          have hlen : ((listed.setIfInBounds i true).toList.filter id).length = (listed.toList.filter id).length + 1 := by
            rw [Array.toList_setIfInBounds]
            have hl : i < listed.toList.length := by simpa using hlt2
            have hv : listed.toList[i] = false := by simpa [Array.getD_eq_getD_getElem?, hlt2] using hno2
            rw [List.set_eq_take_append_cons_drop, if_pos hl]
            conv => rhs; rw [← List.take_append_drop i listed.toList, List.drop_eq_getElem_cons hl, hv]
            simp only [List.filter_append, List.length_append, List.filter_cons, id]
            simp
            omega
          omega
        have next : ∀ (v : Value) (w' : World) (H' : HF) (c' : Nat), HLe H H' → G c' (updO u o.dst v) H' w' → (∀ H'', HLe H' H'' → factAt Φ i v H'') →
            (∀ (j k : Nat), es[j]? = some (some k) → (((if j = i then true else listed.getD j false) = true) ↔ k < c')) → InvU n d0 G Φ es ops f (listed.setIfInBounds i true) (a.put o.dst v) w' := by
          intro v w' H' c' hle hG' hφ hcc'
          refine ⟨by simp [hI.size], (put_defers _ _ _).trans hI.def_, ?_, updO u o.dst v, H', c', ?_, hG', ?_, ?_⟩
          · intro j o' hj ho' e he' hb
            rw [getD_set _ _ _ hlt2] at hj ⊢
            by_cases e1 : e.on = i
            · rw [if_pos e1]
            · rw [if_neg e1]
              by_cases e2 : j = i
              · subst e2; rw [ho] at ho'; cases ho'; exact hdeps e he' hb
              · rw [if_neg e2] at hj; exact hI.deps j o' hj ho' e he' hb
          · have := hr.put o.dst hbo' v
            cases hdst : o.dst with
            | none => rw [hdst] at this; exact this
            | some d =>
              rw [hdst] at this
              simp only [updO] at this
              rw [over_put (mem_dsts (List.mem_of_getElem? (by rw [hget]; exact ho)) hdst)] at this
              exact this
          · intro j k hj
            rw [getD_set _ _ _ hlt2]
            exact hcc' j k hj
          · intro j o' d' hj ho' hd' H'' hle''
            rw [getD_set _ _ _ hlt2] at hj
            by_cases e : j = i
            · subst e
              rw [ho] at ho'
              cases ho'
              have : updO u o.dst v d' = v := by
                rw [hd']
                have : Nat.beq d' d' = true := by simp
                simp [updO, upd, this]
              rw [this]
              exact hφ H'' hle''
            · rw [if_neg e] at hj
              have : updO u o.dst v d' = u d' := by
                cases h : o.dst with
                | none => rfl
                | some d =>
                  have hne : d' ≠ d := by
                    intro e2
                    subst e2
                    exact e (dst_inj hnd (i := j) (j := i) (by rw [hget]; exact ho') (by rw [hget]; exact ho) hd' h)
                  have : Nat.beq d' d = false := by cases hh : Nat.beq d' d; rfl; exact absurd (Nat.eq_of_beq_eq_true hh) hne
                  simp [updO, upd, this]
              rw [this]
              exact hf j o' d' hj ho' hd' H'' (hle.trans hle'')
        have hbnd : bOk (bs.getD i none) c := by
          cases hbb : bs.getD i none with
          | none => trivial
          | some k =>
            rw [hbb] at hbi
            have h3 := List.all_eq_true.1 hbo (some k, i) (by rw [List.mem_zipIdx_iff_getElem?]; simpa using hbi)
            simp only [List.any_eq_true, Bool.and_eq_true] at h3
            obtain ⟨⟨o2, e2⟩, hm2, he2, hb2⟩ := h3
            obtain ⟨j, hj, hje⟩ := List.mem_iff_getElem.1 hm2
            have hz : (ops.toList.zip es)[j]? = some (o2, e2) := by rw [List.getElem?_eq_getElem hj, hje]
            rw [List.getElem?_zip_eq_some] at hz
            have he3 : e2 = some k := by simpa using he2
            subst he3
            show c ≤ k
            rcases Nat.lt_or_ge k c with h5 | h5
            · have h6 := (hcc j k hz.2).2 h5
              have h7 := behind_listed hI.deps 4 j o2 (by rw [← hget]; exact hz.1) h6 hb2
              rw [hno2] at h7; cases h7
            · exact h5
        unfold wpOpIn
        simp only [ho]
        rw [wantF_eq hr]
        cases hee : es.getD i none with
        | none =>
          rw [hee] at hstep hei
          have hcc' : ∀ (j k : Nat), es[j]? = some (some k) → (((if j = i then true else listed.getD j false) = true) ↔ k < c) := by
            intro j k hj
            by_cases e : j = i
            · subst e; rw [hei] at hj; simp at hj
            · rw [if_neg e]; exact hcc j k hj
          have h2 := depU_of hDm _ hdep (hstep c u H w hbnd hG)
          by_cases hw : wantF ops o (over (dstsOf ops.toList) u f) = true
          · simp only [hw, if_true] at h2 ⊢
            refine Oper.wpIn_mono ?_ (h2 a n hr _)
            rintro a' w' ⟨v, rfl, H', hle, hG', hφ⟩
            exact ih _ _ _ (next v w' H' c hle hG' hφ hcc') hcount
          · simp only [hw] at h2 ⊢
            exact ⟨fun _ _ => trivial, ih _ _ _ (next undef w H c (HLe.refl H) h2.1 h2.2 hcc') hcount⟩
        | some k =>
          rw [hee] at hstep hei
          have hck : c = k := by
            have h1 := hcc i k hei
            rw [hno2] at h1
            have h2 : ¬ k < c := fun h => by have := h1.2 h; cases this
            cases k with
            | zero => omega
            | succ k =>
              have h3 := List.all_eq_true.1 hef (o, some (k + 1)) (by
                rw [List.mem_iff_getElem?]
                refine ⟨i, ?_⟩
                rw [List.getElem?_zip_eq_some]
                exact ⟨by rw [hget]; exact ho, hei⟩)
              simp only [List.any_eq_true, Bool.and_eq_true, decide_eq_true_eq] at h3
              obtain ⟨e, he', hb, hk⟩ := h3
              have h4 : es[e.on]? = some (some k) := by
                rw [List.getD_eq_getElem?_getD] at hk
                cases h5 : es[e.on]? with
                | none => rw [h5] at hk; simp at hk
                | some x => rw [h5] at hk; simp at hk; rw [hk]
              have h5 := (hcc e.on k h4).1 (hdeps e he' hb)
              omega
          subst hck
          have hcc' : ∀ (j k : Nat), es[j]? = some (some k) → (((if j = i then true else listed.getD j false) = true) ↔ k < c + 1) := by
            intro j k hj
            by_cases e : j = i
            · subst e; rw [hei] at hj; cases hj; simp
            · rw [if_neg e, hcc j k hj]
              have hne : k ≠ c := by
                intro e2
                subst e2
                exact e (es_inj es (of_decide_eq_true heu) j i hj hei)
              omega
          have h2 := depU_of hDm _ hdep (hstep u H w hG)
          by_cases hw : wantF ops o (over (dstsOf ops.toList) u f) = true
          · simp only [hw, if_true] at h2 ⊢
            refine Oper.wpIn_mono ?_ (h2 a n hr _)
            rintro a' w' ⟨v, rfl, H', hle, hG', hφ⟩
            exact ih _ _ _ (next v w' H' (c + 1) hle hG' hφ hcc') hcount
          · simp only [hw] at h2
            exact h2.elim
  refine key ops.size _ a w.drew ⟨by simp, hd0, ?_, f, H, 0, ?_, h0, ?_, ?_⟩ (by simp)
  · intro i o hi
    have h1 : (Array.replicate ops.size false).getD i false = false := by simp [Array.getD_eq_getD_getElem?, Array.getElem?_replicate]; split <;> rfl
    rw [h1] at hi; cases hi
  · have : over (dstsOf ops.toList) f f = f := by funext t; simp [over]
    rw [this]; exact ha
  · intro i k hk
    have h1 : (Array.replicate ops.size false).getD i false = false := by simp [Array.getD_eq_getD_getElem?, Array.getElem?_replicate]; split <;> rfl
    rw [h1]
    simp
  · intro i o d hi
    have h1 : (Array.replicate ops.size false).getD i false = false := by simp [Array.getD_eq_getD_getElem?, Array.getElem?_replicate]; split <;> rfl
    rw [h1] at hi; cases hi
theorem CWD_region_anyU {rid : Nat} {ops : Array Oper} {Qn Qr : List Nat → Fr → World → Prop} {Qx : Nat → List Nat → Fr → World → Prop} {ds : List Nat} (G : Nat → Fr → HF → World → Prop) (Φ : List Fact) (es bs : List (Option Nat)) (Ds : List (Option Nat)) (D : List Nat)
    (hm : P.follows .mixedOrders = true) (hd : dstsOk n ops = true) (he : edgesOk ops = true) (hDs : ops.toList.map (·.dst) = Ds) (hD : dstsOf ops.toList = D) (hu : decide D.Nodup = true) (hef : effOk ops es = true) (heu : effUniq es = true) (hbo : boundOk ops es bs = true)
    (h0 : G 0 f H w.drew) (hst : StepsU P r G Φ ops Ds D f ops.toList Φ es bs) (hfin : ∀ c u H w, G c u H w → (∀ (j k : Nat), es[j]? = some (some k) → k < c) → FinU u (Qn ds) H w ops.toList Φ f) : CWD P r n (.region rid ops true) Qn Qr Qx ds f w :=
  fun a ha hda => region_anyU_core (Qn := Qn ds) (fun a f w h1 h2 h3 => ⟨f, ds, h1, h2, h3⟩) G Φ es bs Ds D hm hd he hDs hD hu hef heu hbo h0 hst hfin a ha hda
theorem CW_region_anyU {rid : Nat} {ops : Array Oper} {Qn Qr : Fr → World → Prop} {Qx : Nat → Fr → World → Prop} (G : Nat → Fr → HF → World → Prop) (Φ : List Fact) (es bs : List (Option Nat)) (Ds : List (Option Nat)) (D : List Nat)
    (hm : P.follows .mixedOrders = true) (hd : dstsOk n ops = true) (he : edgesOk ops = true) (hDs : ops.toList.map (·.dst) = Ds) (hD : dstsOf ops.toList = D) (hu : decide D.Nodup = true) (hef : effOk ops es = true) (heu : effUniq es = true) (hbo : boundOk ops es bs = true)
    (h0 : G 0 f H w.drew) (hst : StepsU P r G Φ ops Ds D f ops.toList Φ es bs) (hfin : ∀ c u H w, G c u H w → (∀ (j k : Nat), es[j]? = some (some k) → k < c) → FinU u Qn H w ops.toList Φ f) : CW P r n (.region rid ops true) Qn Qr Qx f w :=
  fun a ha hda => region_anyU_core (Qn := Qn) (fun a f w h1 h2 h3 => ⟨f, [], h1, h2, rfl, h3⟩) G Φ es bs Ds D hm hd he hDs hD hu hef heu hbo h0 hst hfin a ha hda
end
/-! ### Duties -/
/-- Behind c effects M c holds; it speaks of the values that lie in L alone. -/
structure GU (H0 : HF) (w0 : World) (Hr : HF) (L : List Nat) (M : Nat → Fr → HF → World → Prop) (c : Nat) (u : Fr) (H : HF) (w : World) : Prop where
  grow : Grow H0 w0 H w
  le : HLe Hr H
  m : M c u H w
  cl : ∀ c u u' H w H' w', (∀ t, memb t L = true → u' t = u t) → M c u H w → Grow H w H' w' → M c u' H' w'
section
variable {P : Program} {r : Option Nat} {n : Nat} {f : Fr} {H0 Hr H H' : HF} {w0 w w' : World} {L : List Nat} {M : Nat → Fr → HF → World → Prop} {c : Nat} {u : Fr}
theorem GU.sub (h : GU H0 w0 Hr L M c u H w) : Sub H w := h.grow.sub
theorem GU.subOld (h : GU H0 w0 Hr L M c u H w) : Sub Hr w := ⟨fun b o e => h.grow.sub.out b o (h.le b o e)⟩
theorem GU.trans (h : GU H0 w0 Hr L M c u H w) (k : Grow H w H' w') : GU H0 w0 Hr L M c u H' w' := ⟨h.grow.trans k, h.le.trans k.le, h.cl _ _ _ _ _ _ _ (fun _ _ => rfl) h.m k, h.cl⟩
theorem GU.skip {d : Nat} {v : Value} (hd : memb d L = false) (h : GU H0 w0 Hr L M c u H w) : GU H0 w0 Hr L M c (upd u d v) H w :=
  ⟨h.grow, h.le, h.cl _ _ _ _ _ _ _ (fun t ht => by
    have : Nat.beq t d = false := by
      cases hh : Nat.beq t d
      · rfl
      · rw [Nat.eq_of_beq_eq_true hh] at ht; rw [ht] at hd; cases hd
    simp only [upd, this, cond_false]) h.m (Grow.refl h.grow.sub), h.cl⟩
theorem GU.next {d : Option Nat} {v : Value} (h : GU H0 w0 Hr L M c u H w) (hg : Grow H0 w0 H' w') (hle : HLe H H') (hf : M (c + 1) (updO u d v) H' w') : GU H0 w0 Hr L M (c + 1) (updO u d v) H' w' := ⟨hg, h.le.trans hle, hf, h.cl⟩
variable {Φ : List Fact} {ops : Array Oper} {Ds : List (Option Nat)} {D : List Nat} {f0 : Fr} {t : Nat} {p : Op} {gd : Option (Nat × Bool)} {ty : TypeId} {pos : String} {af : Array Edge} {b : Option Nat}
theorem depU_nil {K : Fr → Prop} {f : Fr} (h : K f) : DepU u Φ Ds H K [] f := h
theorem depU_eq {K : Fr → Prop} {e : Edge} {es : List Edge} {f : Fr} {d : Nat} {X : Value} (hb : Region.binds .any e = true) (hd : Ds.getD e.on none = some d) (hφ : factAt Φ e.on = fun v _ => v = X) (h : DepU u Φ Ds H K es (upd f d X)) : DepU u Φ Ds H K (e :: es) f := by
  simp only [DepU, hb, cond_true, hd, hφ]
  intro v _ hv
  rw [hv]; exact h
theorem depU_fact {K : Fr → Prop} {e : Edge} {es : List Edge} {f : Fr} {d : Nat} {φ : Fact} (hb : Region.binds .any e = true) (hd : Ds.getD e.on none = some d) (hφ : factAt Φ e.on = φ) (h : ∀ v, u d = v → φ v H → DepU u Φ Ds H K es (upd f d v)) : DepU u Φ Ds H K (e :: es) f := by
  simp only [DepU, hb, cond_true, hd, hφ]
  exact h
theorem depU_skip {K : Fr → Prop} {e : Edge} {es : List Edge} {f : Fr} (hb : Region.binds .any e = false) (h : DepU u Φ Ds H K es f) : DepU u Φ Ds H K (e :: es) f := by
  simp only [DepU, hb, cond_false]
  exact h
theorem depU_none {K : Fr → Prop} {e : Edge} {es : List Edge} {f : Fr} (hd : Ds.getD e.on none = none) (h : DepU u Φ Ds H K es f) : DepU u Φ Ds H K (e :: es) f := by
  simp only [DepU, hd]
  cases Region.binds .any e <;> exact h
theorem finU_eq {Q : Fr → World → Prop} {o : Oper} {os : List Oper} {φs : List Fact} {φ : Fact} {f : Fr} {d : Nat} {X : Value} (ho : o.dst = some d) (hφ : φ = fun v _ => v = X) (h : FinU u Q H w os φs (upd f d X)) : FinU u Q H w (o :: os) (φ :: φs) f := by
  simp only [FinU, ho, hφ]
  intro v _ hv
  rw [hv]; exact h
theorem finU_fact {Q : Fr → World → Prop} {o : Oper} {os : List Oper} {φs : List Fact} {φ : Fact} {f : Fr} {d : Nat} (ho : o.dst = some d) (h : ∀ v, u d = v → φ v H → FinU u Q H w os φs (upd f d v)) : FinU u Q H w (o :: os) (φ :: φs) f := by
  simp only [FinU, ho]
  exact h
theorem finU_none {Q : Fr → World → Prop} {o : Oper} {os : List Oper} {φs : List Fact} {φ : Fact} {f : Fr} (ho : o.dst = none) (h : FinU u Q H w os φs f) : FinU u Q H w (o :: os) (φ :: φs) f := by
  simp only [FinU, ho]
  exact h
theorem finU_nil {Q : Fr → World → Prop} {f : Fr} (h : Q f w) : FinU u Q H w [] [] f := h
theorem depU_mono {K K' : Fr → Prop} (hk : ∀ f, K f → K' f) : ∀ (es : List Edge) (f : Fr), DepU u Φ Ds H K es f → DepU u Φ Ds H K' es f
  | [], f, h => hk f h
  | e :: es, f, h => by
    simp only [DepU] at h ⊢
    cases hb : Region.binds .any e with
    | false => rw [hb] at h; exact depU_mono hk es f h
    | true =>
      rw [hb] at h
      simp only [cond_true] at h ⊢
      cases hd : Ds.getD e.on none with
      | none => rw [hd] at h; exact depU_mono hk es f h
      | some d => rw [hd] at h; exact fun v hu hv => depU_mono hk es _ (h v hu hv)
theorem U_pure {val : Value} (hd : memb t L = false) (h : ∀ (c : Nat) (u : Fr) (H : HF) (w : World), bOk b c → GU H0 w0 Hr L M c u H w → DepU u Φ Ds H (fun f => Pure1 P r ⟨some t, p, ty, pos, af, none⟩ f w val) af.toList (over D u f0)) :
    StepU P r (GU H0 w0 Hr L M) Φ ops Ds D f0 ⟨some t, p, ty, pos, af, none⟩ (fun v _ => v = val) b none := by
  intro c u H w hb hG
  refine depU_mono ?_ _ _ (h c u H w hb hG)
  intro f hf
  have : wantF ops ⟨some t, p, ty, pos, af, none⟩ f = true := rfl
  rw [if_pos this]
  exact hf.out _ ⟨H, HLe.refl H, hG.skip hd, fun _ _ => rfl⟩
theorem U_want {val : Value} {j : Nat} {q : Bool} (hd : memb t L = false) (h : ∀ (c : Nat) (u : Fr) (H : HF) (w : World), bOk b c → GU H0 w0 Hr L M c u H w → DepU u Φ Ds H (fun f => Pure2 P r ops j q ⟨some t, p, ty, pos, af, some (j, q)⟩ f w val) af.toList (over D u f0)) :
    StepU P r (GU H0 w0 Hr L M) Φ ops Ds D f0 ⟨some t, p, ty, pos, af, some (j, q)⟩ (fun v _ => v = val) b none := by
  intro c u H w hb hG
  refine depU_mono ?_ _ _ (h c u H w hb hG)
  rintro f ⟨hy, hf⟩
  have : wantF ops ⟨some t, p, ty, pos, af, some (j, q)⟩ f = true := by simp [wantF, hy]
  rw [if_pos this]
  exact hf _ ⟨H, HLe.refl H, hG.skip hd, fun _ _ => rfl⟩
theorem U_pass {j : Nat} {q : Bool} (hd : memb t L = false) (h : ∀ (c : Nat) (u : Fr) (H : HF) (w : World), bOk b c → GU H0 w0 Hr L M c u H w → DepU u Φ Ds H (fun f => Pass1 ops j q f) af.toList (over D u f0)) :
    StepU P r (GU H0 w0 Hr L M) Φ ops Ds D f0 ⟨some t, p, ty, pos, af, some (j, q)⟩ (fun v _ => v = undef) b none := by
  intro c u H w hb hG
  refine depU_mono ?_ _ _ (h c u H w hb hG)
  rintro f ⟨hy⟩
  have : ¬ wantF ops ⟨some t, p, ty, pos, af, some (j, q)⟩ f = true := by simp [wantF, hy]
  rw [if_neg this]
  exact ⟨hG.skip hd, fun _ _ => rfl⟩
theorem U_passU {j : Nat} {q : Bool} (hd : memb t L = false) (h : ∀ (c : Nat) (u : Fr) (H : HF) (w : World), bOk b c → GU H0 w0 Hr L M c u H w → DepU u Φ Ds H (fun f => Pass2 ops j f) af.toList (over D u f0)) :
    StepU P r (GU H0 w0 Hr L M) Φ ops Ds D f0 ⟨some t, p, ty, pos, af, some (j, q)⟩ (fun v _ => v = undef) b none := by
  intro c u H w hb hG
  refine depU_mono ?_ _ _ (h c u H w hb hG)
  rintro f ⟨hy⟩
  have : ¬ wantF ops ⟨some t, p, ty, pos, af, some (j, q)⟩ f = true := by simp [wantF, hy]
  rw [if_neg this]
  exact ⟨hG.skip hd, fun _ _ => rfl⟩
theorem U_fact {φ : Fact} (hd : memb t L = false) (h : ∀ (c : Nat) (u : Fr) (H : HF) (w : World), bOk b c → GU H0 w0 Hr L M c u H w → DepU u Φ Ds H (fun f => OpW P r ⟨some t, p, ty, pos, af, none⟩ f w (fun v w' => ∃ H', HLe H H' ∧ GU H0 w0 Hr L M c u H' w' ∧ ∀ H'', HLe H' H'' → φ v H'')) af.toList (over D u f0)) :
    StepU P r (GU H0 w0 Hr L M) Φ ops Ds D f0 ⟨some t, p, ty, pos, af, none⟩ φ b none := by
  intro c u H w hb hG
  refine depU_mono ?_ _ _ (h c u H w hb hG)
  intro f hf
  have : wantF ops ⟨some t, p, ty, pos, af, none⟩ f = true := rfl
  rw [if_pos this]
  exact hf.mono fun v w' ⟨H', h1, h2, h3⟩ => ⟨H', h1, h2.skip hd, h3⟩
theorem U_factG {φ : Fact} {j : Nat} {q : Bool} (hd : memb t L = false) (h : ∀ (c : Nat) (u : Fr) (H : HF) (w : World), bOk b c → GU H0 w0 Hr L M c u H w → DepU u Φ Ds H (fun f => yieldF ops f j = some q ∧ OpW P r ⟨some t, p, ty, pos, af, some (j, q)⟩ f w (fun v w' => ∃ H', HLe H H' ∧ GU H0 w0 Hr L M c u H' w' ∧ ∀ H'', HLe H' H'' → φ v H'')) af.toList (over D u f0)) :
    StepU P r (GU H0 w0 Hr L M) Φ ops Ds D f0 ⟨some t, p, ty, pos, af, some (j, q)⟩ φ b none := by
  intro c u H w hb hG
  refine depU_mono ?_ _ _ (h c u H w hb hG)
  rintro f ⟨hy, hf⟩
  have : wantF ops ⟨some t, p, ty, pos, af, some (j, q)⟩ f = true := by simp [wantF, hy]
  rw [if_pos this]
  exact hf.mono fun v w' ⟨H', h1, h2, h3⟩ => ⟨H', h1, h2.skip hd, h3⟩
theorem U_eff {φ : Fact} {k : Nat} {d : Option Nat} (h : ∀ (u : Fr) (H : HF) (w : World), GU H0 w0 Hr L M k u H w → DepU u Φ Ds H (fun f => OpW P r ⟨d, p, ty, pos, af, none⟩ f w (fun v w' => ∃ H', HLe H H' ∧ GU H0 w0 Hr L M (k + 1) (updO u d v) H' w' ∧ ∀ H'', HLe H' H'' → φ v H'')) af.toList (over D u f0)) :
    StepU P r (GU H0 w0 Hr L M) Φ ops Ds D f0 ⟨d, p, ty, pos, af, none⟩ φ b (some k) := by
  intro u H w hG
  refine depU_mono ?_ _ _ (h u H w hG)
  intro f hf
  have : wantF ops ⟨d, p, ty, pos, af, none⟩ f = true := rfl
  rw [if_pos this]
  exact hf
theorem CW_region_gu {rid : Nat} {Qn Qr : Fr → World → Prop} {Qx : Nat → Fr → World → Prop} (L : List Nat) (M : Nat → Fr → HF → World → Prop) (c0 : Nat) (Φ : List Fact) (es bs : List (Option Nat)) (Ds : List (Option Nat)) (D : List Nat)
    (hm : P.follows .mixedOrders = true) (hd : dstsOk n ops = true) (he : edgesOk ops = true) (hDs : ops.toList.map (·.dst) = Ds) (hD : dstsOf ops.toList = D) (hu : decide D.Nodup = true) (hef : effOk ops es = true) (heu : effUniq es = true) (hbo : boundOk ops es bs = true)
    (hl : (es.any fun e => e == some c0) = true) (hG : Grow H0 w0 H w) (hM : M 0 f H w) (cl : ∀ c u u' H w H' w', (∀ t, memb t L = true → u' t = u t) → M c u H w → Grow H w H' w' → M c u' H' w') (hst : StepsU P r (GU H0 w0 H L M) Φ ops Ds D f ops.toList Φ es bs)
    (hfin : ∀ c u H' w', c0 < c → Grow H0 w0 H' w' → HLe H H' → M c u H' w' → FinU u Qn H' w' ops.toList Φ f) : CW P r n (.region rid ops true) Qn Qr Qx f w := by
  refine CW_region_anyU (H := H) (GU H0 w0 H L M) Φ es bs Ds D hm hd he hDs hD hu hef heu hbo ⟨hG.trans (Grow.drew hG.sub), HLe.refl _, cl _ _ _ _ _ _ _ (fun _ _ => rfl) hM (Grow.drew hG.sub), cl⟩ hst ?_
  intro c u H' w' hG hc
  simp only [List.any_eq_true] at hl
  obtain ⟨e, he1, he2⟩ := hl
  obtain ⟨j, hj, hje⟩ := List.mem_iff_getElem.1 he1
  have hes : es[j]? = some (some c0) := by
    rw [List.getElem?_eq_getElem hj, hje]
    simpa using he2
  exact hfin c u H' w' (hc j c0 hes) hG.grow hG.le hG.m
end
end Go.Proofs.Ytgaabmoknpifnaa
/- Regions that draw, where effects turn rows of S of the caller's; loads that stand ahead of a write. Conditions: none. -/
namespace Go.Proofs.Ytgaabmoknpifnaa
open Go.RowKit
set_option linter.unusedVariables false
/-! ### Duties -/
/-- Behind c effects M c holds; it speaks of the values that lie in L alone. -/
structure GV (S : Nat → Prop) (H0 : HF) (w0 : World) (Hr : HF) (L : List Nat) (M : Nat → Fr → HF → World → Prop) (c : Nat) (u : Fr) (H : HF) (w : World) : Prop where
  grow : Turn S H0 w0 H w
  le : HLe Hr H
  m : M c u H w
  cl : ∀ c u u' H w H' w', (∀ t, memb t L = true → u' t = u t) → M c u H w → Grow H w H' w' → M c u' H' w'
section
variable {P : Program} {r : Option Nat} {n : Nat} {f : Fr} {S : Nat → Prop} {H0 Hr H H' : HF} {w0 w w' : World} {L : List Nat} {M : Nat → Fr → HF → World → Prop} {c : Nat} {u : Fr}
theorem GV.sub (h : GV S H0 w0 Hr L M c u H w) : Sub H w := h.grow.sub
theorem GV.subOld (h : GV S H0 w0 Hr L M c u H w) : Sub Hr w := ⟨fun b o e => h.grow.sub.out b o (h.le b o e)⟩
theorem GV.trans (h : GV S H0 w0 Hr L M c u H w) (k : Grow H w H' w') : GV S H0 w0 Hr L M c u H' w' := ⟨h.grow.trans k.turn, h.le.trans k.le, h.cl _ _ _ _ _ _ _ (fun _ _ => rfl) h.m k, h.cl⟩
theorem GV.skip {d : Nat} {v : Value} (hd : memb d L = false) (h : GV S H0 w0 Hr L M c u H w) : GV S H0 w0 Hr L M c (upd u d v) H w :=
  ⟨h.grow, h.le, h.cl _ _ _ _ _ _ _ (fun t ht => by
    have : Nat.beq t d = false := by
      cases hh : Nat.beq t d
      · rfl
      · rw [Nat.eq_of_beq_eq_true hh] at ht; rw [ht] at hd; cases hd
    simp only [upd, this, cond_false]) h.m (Grow.refl h.grow.sub), h.cl⟩
theorem GV.next {d : Option Nat} {v : Value} (h : GV S H0 w0 Hr L M c u H w) (hg : Turn S H0 w0 H' w') (hle : HLe H H') (hf : M (c + 1) (updO u d v) H' w') : GV S H0 w0 Hr L M (c + 1) (updO u d v) H' w' := ⟨hg, h.le.trans hle, hf, h.cl⟩
variable {Φ : List Fact} {ops : Array Oper} {Ds : List (Option Nat)} {D : List Nat} {f0 : Fr} {t : Nat} {p : Op} {gd : Option (Nat × Bool)} {ty : TypeId} {pos : String} {af : Array Edge} {b : Option Nat}
theorem V_pure {val : Value} (hd : memb t L = false) (h : ∀ (c : Nat) (u : Fr) (H : HF) (w : World), bOk b c → GV S H0 w0 Hr L M c u H w → DepU u Φ Ds H (fun f => Pure1 P r ⟨some t, p, ty, pos, af, none⟩ f w val) af.toList (over D u f0)) :
    StepU P r (GV S H0 w0 Hr L M) Φ ops Ds D f0 ⟨some t, p, ty, pos, af, none⟩ (fun v _ => v = val) b none := by
  intro c u H w hb hG
  refine depU_mono ?_ _ _ (h c u H w hb hG)
  intro f hf
  have : wantF ops ⟨some t, p, ty, pos, af, none⟩ f = true := rfl
  rw [if_pos this]
  exact hf.out _ ⟨H, HLe.refl H, hG.skip hd, fun _ _ => rfl⟩
theorem V_want {val : Value} {j : Nat} {q : Bool} (hd : memb t L = false) (h : ∀ (c : Nat) (u : Fr) (H : HF) (w : World), bOk b c → GV S H0 w0 Hr L M c u H w → DepU u Φ Ds H (fun f => Pure2 P r ops j q ⟨some t, p, ty, pos, af, some (j, q)⟩ f w val) af.toList (over D u f0)) :
    StepU P r (GV S H0 w0 Hr L M) Φ ops Ds D f0 ⟨some t, p, ty, pos, af, some (j, q)⟩ (fun v _ => v = val) b none := by
  intro c u H w hb hG
  refine depU_mono ?_ _ _ (h c u H w hb hG)
  rintro f ⟨hy, hf⟩
  have : wantF ops ⟨some t, p, ty, pos, af, some (j, q)⟩ f = true := by simp [wantF, hy]
  rw [if_pos this]
  exact hf _ ⟨H, HLe.refl H, hG.skip hd, fun _ _ => rfl⟩
theorem V_pass {j : Nat} {q : Bool} (hd : memb t L = false) (h : ∀ (c : Nat) (u : Fr) (H : HF) (w : World), bOk b c → GV S H0 w0 Hr L M c u H w → DepU u Φ Ds H (fun f => Pass1 ops j q f) af.toList (over D u f0)) :
    StepU P r (GV S H0 w0 Hr L M) Φ ops Ds D f0 ⟨some t, p, ty, pos, af, some (j, q)⟩ (fun v _ => v = undef) b none := by
  intro c u H w hb hG
  refine depU_mono ?_ _ _ (h c u H w hb hG)
  rintro f ⟨hy⟩
  have : ¬ wantF ops ⟨some t, p, ty, pos, af, some (j, q)⟩ f = true := by simp [wantF, hy]
  rw [if_neg this]
  exact ⟨hG.skip hd, fun _ _ => rfl⟩
theorem V_passU {j : Nat} {q : Bool} (hd : memb t L = false) (h : ∀ (c : Nat) (u : Fr) (H : HF) (w : World), bOk b c → GV S H0 w0 Hr L M c u H w → DepU u Φ Ds H (fun f => Pass2 ops j f) af.toList (over D u f0)) :
    StepU P r (GV S H0 w0 Hr L M) Φ ops Ds D f0 ⟨some t, p, ty, pos, af, some (j, q)⟩ (fun v _ => v = undef) b none := by
  intro c u H w hb hG
  refine depU_mono ?_ _ _ (h c u H w hb hG)
  rintro f ⟨hy⟩
  have : ¬ wantF ops ⟨some t, p, ty, pos, af, some (j, q)⟩ f = true := by simp [wantF, hy]
  rw [if_neg this]
  exact ⟨hG.skip hd, fun _ _ => rfl⟩
theorem V_fact {φ : Fact} (hd : memb t L = false) (h : ∀ (c : Nat) (u : Fr) (H : HF) (w : World), bOk b c → GV S H0 w0 Hr L M c u H w → DepU u Φ Ds H (fun f => OpW P r ⟨some t, p, ty, pos, af, none⟩ f w (fun v w' => ∃ H', HLe H H' ∧ GV S H0 w0 Hr L M c u H' w' ∧ ∀ H'', HLe H' H'' → φ v H'')) af.toList (over D u f0)) :
    StepU P r (GV S H0 w0 Hr L M) Φ ops Ds D f0 ⟨some t, p, ty, pos, af, none⟩ φ b none := by
  intro c u H w hb hG
  refine depU_mono ?_ _ _ (h c u H w hb hG)
  intro f hf
  have : wantF ops ⟨some t, p, ty, pos, af, none⟩ f = true := rfl
  rw [if_pos this]
  exact hf.mono fun v w' ⟨H', h1, h2, h3⟩ => ⟨H', h1, h2.skip hd, h3⟩
theorem V_factG {φ : Fact} {j : Nat} {q : Bool} (hd : memb t L = false) (h : ∀ (c : Nat) (u : Fr) (H : HF) (w : World), bOk b c → GV S H0 w0 Hr L M c u H w → DepU u Φ Ds H (fun f => yieldF ops f j = some q ∧ OpW P r ⟨some t, p, ty, pos, af, some (j, q)⟩ f w (fun v w' => ∃ H', HLe H H' ∧ GV S H0 w0 Hr L M c u H' w' ∧ ∀ H'', HLe H' H'' → φ v H'')) af.toList (over D u f0)) :
    StepU P r (GV S H0 w0 Hr L M) Φ ops Ds D f0 ⟨some t, p, ty, pos, af, some (j, q)⟩ φ b none := by
  intro c u H w hb hG
  refine depU_mono ?_ _ _ (h c u H w hb hG)
  rintro f ⟨hy, hf⟩
  have : wantF ops ⟨some t, p, ty, pos, af, some (j, q)⟩ f = true := by simp [wantF, hy]
  rw [if_pos this]
  exact hf.mono fun v w' ⟨H', h1, h2, h3⟩ => ⟨H', h1, h2.skip hd, h3⟩
theorem V_eff {φ : Fact} {k : Nat} {d : Option Nat} (h : ∀ (u : Fr) (H : HF) (w : World), GV S H0 w0 Hr L M k u H w → DepU u Φ Ds H (fun f => OpW P r ⟨d, p, ty, pos, af, none⟩ f w (fun v w' => ∃ H', HLe H H' ∧ GV S H0 w0 Hr L M (k + 1) (updO u d v) H' w' ∧ ∀ H'', HLe H' H'' → φ v H'')) af.toList (over D u f0)) :
    StepU P r (GV S H0 w0 Hr L M) Φ ops Ds D f0 ⟨d, p, ty, pos, af, none⟩ φ b (some k) := by
  intro u H w hG
  refine depU_mono ?_ _ _ (h u H w hG)
  intro f hf
  have : wantF ops ⟨d, p, ty, pos, af, none⟩ f = true := rfl
  rw [if_pos this]
  exact hf
theorem V_effG {φ : Fact} {k : Nat} {d : Option Nat} {j : Nat} {q : Bool} (h : ∀ (u : Fr) (H : HF) (w : World), GV S H0 w0 Hr L M k u H w → DepU u Φ Ds H (fun f => yieldF ops f j = some q ∧ OpW P r ⟨d, p, ty, pos, af, some (j, q)⟩ f w (fun v w' => ∃ H', HLe H H' ∧ GV S H0 w0 Hr L M (k + 1) (updO u d v) H' w' ∧ ∀ H'', HLe H' H'' → φ v H'')) af.toList (over D u f0)) :
    StepU P r (GV S H0 w0 Hr L M) Φ ops Ds D f0 ⟨d, p, ty, pos, af, some (j, q)⟩ φ b (some k) := by
  intro u H w hG
  refine depU_mono ?_ _ _ (h u H w hG)
  rintro f ⟨hy, hf⟩
  have : wantF ops ⟨d, p, ty, pos, af, some (j, q)⟩ f = true := by simp [wantF, hy]
  rw [if_pos this]
  exact hf
theorem CW_region_gv {rid : Nat} {Qn Qr : Fr → World → Prop} {Qx : Nat → Fr → World → Prop} (L : List Nat) (M : Nat → Fr → HF → World → Prop) (c0 : Nat) (Φ : List Fact) (es bs : List (Option Nat)) (Ds : List (Option Nat)) (D : List Nat)
    (hm : P.follows .mixedOrders = true) (hd : dstsOk n ops = true) (he : edgesOk ops = true) (hDs : ops.toList.map (·.dst) = Ds) (hD : dstsOf ops.toList = D) (hu : decide D.Nodup = true) (hef : effOk ops es = true) (heu : effUniq es = true) (hbo : boundOk ops es bs = true)
    (hl : (es.any fun e => e == some c0) = true) (hG : Turn S H0 w0 H w) (hM : M 0 f H w) (cl : ∀ c u u' H w H' w', (∀ t, memb t L = true → u' t = u t) → M c u H w → Grow H w H' w' → M c u' H' w') (hst : StepsU P r (GV S H0 w0 H L M) Φ ops Ds D f ops.toList Φ es bs)
    (hfin : ∀ c u H' w', c0 < c → Turn S H0 w0 H' w' → HLe H H' → M c u H' w' → FinU u Qn H' w' ops.toList Φ f) : CW P r n (.region rid ops true) Qn Qr Qx f w := by
  refine CW_region_anyU (H := H) (GV S H0 w0 H L M) Φ es bs Ds D hm hd he hDs hD hu hef heu hbo ⟨hG.trans (Grow.drew hG.sub).turn, HLe.refl _, cl _ _ _ _ _ _ _ (fun _ _ => rfl) hM (Grow.drew hG.sub), cl⟩ hst ?_
  intro c u H' w' hG hc
  simp only [List.any_eq_true] at hl
  obtain ⟨e, he1, he2⟩ := hl
  obtain ⟨j, hj, hje⟩ := List.mem_iff_getElem.1 he1
  have hes : es[j]? = some (some c0) := by
    rw [List.getElem?_eq_getElem hj, hje]
    simpa using he2
  exact hfin c u H' w' (hc j c0 hes) hG.grow hG.le hG.m
theorem CWD_region_gv {rid : Nat} {Qn Qr : List Nat → Fr → World → Prop} {Qx : Nat → List Nat → Fr → World → Prop} {ds : List Nat} (L : List Nat) (M : Nat → Fr → HF → World → Prop) (c0 : Nat) (Φ : List Fact) (es bs : List (Option Nat)) (Ds : List (Option Nat)) (D : List Nat)
    (hm : P.follows .mixedOrders = true) (hd : dstsOk n ops = true) (he : edgesOk ops = true) (hDs : ops.toList.map (·.dst) = Ds) (hD : dstsOf ops.toList = D) (hu : decide D.Nodup = true) (hef : effOk ops es = true) (heu : effUniq es = true) (hbo : boundOk ops es bs = true)
    (hl : (es.any fun e => e == some c0) = true) (hG : Turn S H0 w0 H w) (hM : M 0 f H w) (cl : ∀ c u u' H w H' w', (∀ t, memb t L = true → u' t = u t) → M c u H w → Grow H w H' w' → M c u' H' w') (hst : StepsU P r (GV S H0 w0 H L M) Φ ops Ds D f ops.toList Φ es bs)
    (hfin : ∀ c u H' w', c0 < c → Turn S H0 w0 H' w' → HLe H H' → M c u H' w' → FinU u (Qn ds) H' w' ops.toList Φ f) : CWD P r n (.region rid ops true) Qn Qr Qx ds f w := by
  refine CWD_region_anyU (H := H) (GV S H0 w0 H L M) Φ es bs Ds D hm hd he hDs hD hu hef heu hbo ⟨hG.trans (Grow.drew hG.sub).turn, HLe.refl _, cl _ _ _ _ _ _ _ (fun _ _ => rfl) hM (Grow.drew hG.sub), cl⟩ hst ?_
  intro c u H' w' hG hc
  simp only [List.any_eq_true] at hl
  obtain ⟨e, he1, he2⟩ := hl
  obtain ⟨j, hj, hje⟩ := List.mem_iff_getElem.1 he1
  have hes : es[j]? = some (some c0) := by
    rw [List.getElem?_eq_getElem hj, hje]
    simpa using he2
  exact hfin c u H' w' (hc j c0 hes) hG.grow hG.le hG.m
end
end Go.Proofs.Ytgaabmoknpifnaa
/- cursor.Cursor's methods, walked. Conditions: none but the tree's. -/
namespace Go.Proofs.Ytgaabmoknpifnaa
open Go.Proofs Go.RowKit
set_option linter.unusedVariables false
attribute [local irreducible] CW CWD SeqW OpW CallV
set_option maxHeartbeats 4000000
/-- A cursor's cells, where it stands at such an entry. -/
def curC (root : Value) : Option Ent → List Value
  | none => [root, .string ⟨#[]⟩, .string ⟨#[]⟩, .bool false]
  | some e => [root, .string e.key, .string e.val, .bool true]
theorem curC_form (root : Value) (o : Option Ent) : ∃ k v, curC root o = [root, .string k, .string v, .bool o.isSome] := by
  cases o with
  | none => exact ⟨_, _, rfl⟩
  | some e => exact ⟨_, _, rfl⟩
def firstNot (but : ByteArray) (l : List Ent) : Option Ent := l.find? fun e => decide (e.key ≠ but)
theorem firstNot_none {but : ByteArray} {l : List Ent} (h : ∀ e ∈ l, e.key = but) : firstNot but l = none := by
  unfold firstNot
  rw [List.find?_eq_none]
  intro x hx
  simp [h x hx]
theorem firstNot_some {but : ByteArray} {l r : List Ent} {x : Ent} (h : ∀ e ∈ l, e.key = but) (hx : x.key ≠ but) : firstNot but (l ++ x :: r) = some x := by
  have h1 := firstNot_none h
  unfold firstNot at h1 ⊢
  rw [List.find?_append, h1, List.find?_cons_of_pos (by simpa using hx)]
  rfl
theorem to_c {H0 : HF} {w0 : World} {b : Nat} {root : Value} {k0 v0 : ByteArray} {t0 : Bool} {xs : List Ent} {it : Value} {but : ByteArray} (hS : Sub H0 w0) (hm : Mut H0 w0 b [root, .string k0, .string v0, .bool t0]) (hit : IterV Try.prog encP xs it H0) :
    CallW Try.prog 55 [.pointer (some ⟨b, 0, none⟩), it, .string but].toArray w0 fun v w' => ∃ H', Turn (fun k => k = b) H0 w0 H' w' ∧ v = .bool (firstNot but xs).isSome ∧ Mut H' w' b (curC root (firstNot but xs)) := by
  obtain ⟨gf, lb, hfc, rfl, hit⟩ := hit
  refine CallW_of_CWD Try.func55 rfl Try.ntmps55 Try.results55 rfl ?_
  have hG := Grow.refl hS
  have hbl := hm.lt
  (refine CWD_seq ?_; refine CWD_region rfl ?_)
  (refine S_op (W_box1 hS (by rfl) (by first | rfl | assumption) ?_)); intro H w _ hG' h3; replace hG := hG.trans hG'; replace hS := hG'.sub; replace hm := hm.grow hG'; clear hG'
  skip
  (refine S_op (W_box1 hS (by rfl) (by first | rfl | assumption) ?_)); intro H w _ hG' h5; replace hG := hG.trans hG'; replace hS := hG'.sub; replace h3 := hG'.le _ _ h3; replace hm := hm.grow hG'; clear hG'
  (refine S_op ?_; refine W_assignBool (by first | rfl | assumption) ?_; refine S_nil ?_; refine CWD_seq ?_)
  have hT := hG.turn (S := fun k => k = b)
  have hle := hG.le
  have hsz := hG.below.size
  clear hG
  apply CWD_region_gt (fun c H w => Mut H w b (match c with | 0 => [root, .string k0, .string v0, .bool t0] | 1 => [root, .string ⟨#[]⟩, .string ⟨#[]⟩, .bool t0] | _ => curC root none)) 1 [_, _, _, _, _, _, _, _, _] [none, none, none, none, none, some 0, none, none, some 1] [some 9, some 10, some 11, some 12, some 13, none, some 14, some 15, none] [9, 10, 11, 12, 13, 14, 15] mixed rfl rfl rfl rfl (by decide) rfl rfl rfl (by assumption)
  · exact hm
  · intro c H w H' w' h hg
    exact h.grow hg
  · ((apply steps_cons; case h1 => (apply A_pure; intro c u H' w' hG; have hS' := hG.sub; have hS2' := hG.subOld; (repeat (first | refine depGo_eq rfl rfl rfl ?_ | (refine depGo_fact rfl rfl rfl ?_; intro v hv) | refine depGo_skip rfl ?_ | refine depGo_none rfl ?_)); apply Pure1.mk; intro K hk; exact W_loadHL (by first | rfl | assumption) (by assumption) (by rfl) (by assumption) hk)); (apply steps_cons; case h1 => (apply A_pure; intro c u H' w' hG; have hS' := hG.sub; have hS2' := hG.subOld; (repeat (first | refine depGo_eq rfl rfl rfl ?_ | (refine depGo_fact rfl rfl rfl ?_; intro v hv) | refine depGo_skip rfl ?_ | refine depGo_none rfl ?_)); apply Pure1.mk; intro K hk; exact W_loadHL (by first | rfl | assumption) (by assumption) (by rfl) (by assumption) hk)); (apply steps_cons; case h1 => (apply A_pure; intro c u H' w' hG; have hS' := hG.sub; have hS2' := hG.subOld; (repeat (first | refine depGo_eq rfl rfl rfl ?_ | (refine depGo_fact rfl rfl rfl ?_; intro v hv) | refine depGo_skip rfl ?_ | refine depGo_none rfl ?_)); apply Pure1.mk; intro K hk; exact W_build (by rfl) hk)); (apply steps_cons; case h1 => (apply A_pure; intro c u H' w' hG; have hS' := hG.sub; have hS2' := hG.subOld; (repeat (first | refine depGo_eq rfl rfl rfl ?_ | (refine depGo_fact rfl rfl rfl ?_; intro v hv) | refine depGo_skip rfl ?_ | refine depGo_none rfl ?_)); apply Pure1.mk; intro K hk; exact W_nilCheck (by first | rfl | assumption) hk)); (apply steps_cons; case h1 => (apply A_pure; intro c u H' w' hG; have hS' := hG.sub; have hS2' := hG.subOld; (repeat (first | refine depGo_eq rfl rfl rfl ?_ | (refine depGo_fact rfl rfl rfl ?_; intro v hv) | refine depGo_skip rfl ?_ | refine depGo_none rfl ?_)); apply Pure1.mk; intro K hk; exact W_field (by first | rfl | assumption) hk)))
    apply steps_cons
    · refine A_eff (φ := fun _ _ => True) ?_
      intro u' H' w' hG'
      have hS' := hG'.sub
      have hq : Mut H' w' b [root, .string k0, .string v0, .bool t0] := hG'.m
      (repeat (first | refine depGo_eq rfl rfl rfl ?_ | (refine depGo_fact rfl rfl rfl ?_; intro v hv) | refine depGo_skip rfl ?_ | refine depGo_none rfl ?_))
      refine depGo_nil ?_
      refine W_storeM (o := 1) (vs := [.string ⟨#[]⟩, .string ⟨#[]⟩]) (by rfl) (by rfl) hq (by rfl) (OneCells.of_all (by rfl)) (by rfl) (Nat.le_of_ble_eq_true (by rfl)) ?_
      intro w3 hgb hm3
      exact ⟨H', HLe.refl _, hG'.next (hG'.grow.grownBy hgb (fun g h => by cases h; exact ⟨hq.out, .inr rfl⟩)) (HLe.refl _) hm3, fun _ _ => trivial⟩
    ((apply steps_cons; case h1 => (apply A_pure; intro c u H' w' hG; have hS' := hG.sub; have hS2' := hG.subOld; (repeat (first | refine depGo_eq rfl rfl rfl ?_ | (refine depGo_fact rfl rfl rfl ?_; intro v hv) | refine depGo_skip rfl ?_ | refine depGo_none rfl ?_)); apply Pure1.mk; intro K hk; exact W_nilCheck (by first | rfl | assumption) hk)); (apply steps_cons; case h1 => (apply A_pure; intro c u H' w' hG; have hS' := hG.sub; have hS2' := hG.subOld; (repeat (first | refine depGo_eq rfl rfl rfl ?_ | (refine depGo_fact rfl rfl rfl ?_; intro v hv) | refine depGo_skip rfl ?_ | refine depGo_none rfl ?_)); apply Pure1.mk; intro K hk; exact W_field (by first | rfl | assumption) hk)))
    apply steps_cons
    · refine A_eff (φ := fun _ _ => True) ?_
      intro u' H' w' hG'
      have hS' := hG'.sub
      have hq : Mut H' w' b [root, .string ⟨#[]⟩, .string ⟨#[]⟩, .bool t0] := hG'.m
      (repeat (first | refine depGo_eq rfl rfl rfl ?_ | (refine depGo_fact rfl rfl rfl ?_; intro v hv) | refine depGo_skip rfl ?_ | refine depGo_none rfl ?_))
      refine depGo_nil ?_
      refine W_storeM (o := 3) (vs := [.bool false]) (by rfl) (by rfl) hq (by rfl) (OneCells.of_all (by rfl)) (by rfl) (Nat.le_of_ble_eq_true (by rfl)) ?_
      intro w3 hgb hm3
      exact ⟨H', HLe.refl _, hG'.next (hG'.grow.grownBy hgb (fun g h => by cases h; exact ⟨hq.out, .inr rfl⟩)) (HLe.refl _) hm3, fun _ _ => trivial⟩
    (exact trivial)
  · intro c H' w' hc hT' hle' hM
    (repeat (first | refine fin_eq rfl rfl ?_ | (refine fin_fact rfl ?_; intro v hv) | refine fin_none rfl ?_)); refine fin_nil ?_
    obtain ⟨c, rfl⟩ : ∃ k, c = k + 2 := ⟨c - 2, by omega⟩
    replace hm : Mut H' w' b (curC root none) := hM
    replace h3 := hle' _ _ h3
    replace h5 := hle' _ _ h5
    have hsz1 := hT'.size
    replace hT := hT'
    replace hle := hle.trans hle'
    clear hM hT' hle' hc hsz
    obtain ⟨H, hHH⟩ : ∃ x, x = H' := ⟨_, rfl⟩
    rw [← hHH] at hm hT h3 h5 hle
    have hS := hT.sub
    (refine CWD_seq ?_; refine CWD_seq ?_; refine CWD_region rfl ?_; refine S_op ?_; refine W_moveFun (by first | rfl | assumption) ?_; refine S_nil ?_; refine CWD_block ?_)
    refine CWD_rangeExit (S := fun _ => False) (HoldT (fun k => k = b) H0 w0 [b] (fun pre H2 w2 => HLe H H2 ∧ Mut H2 w2 b (curC root none) ∧ ∀ e ∈ pre, e.key = but)) (HoldT (fun k => k = b) H0 w0 [b] (fun pre H2 w2 => HLe H H2 ∧ Mut H2 w2 b (curC root (firstNot but pre)) ∧ (firstNot but pre).isSome = true))
      (HoldT.good ?_) (HoldT.good ?_).stable ⟨hT, fun _ h => h.elim, ?_, HLe.refl _, hm, fun _ h => by cases h⟩ rfl hS (fun _ => rfl) (by decide) (fun w1 _ => hit H w1 hle) (fun _ h => h.elim) ?_ ?_
    · exact fun S _ H w H' w' hs hT h => ⟨h.1.trans hT.le, h.2.1.turn hT (hs _ (by simp)), h.2.2⟩
    · exact fun S _ H w H' w' hs hT h => ⟨h.1.trans hT.le, h.2.1.turn hT (hs _ (by simp)), h.2.2⟩
    · intro b' hb'
      simp at hb'; subst hb'
      exact ⟨fun h => h, hm.lt⟩
    · intro l x W
      (refine CW_seq ?_; refine CW_region rfl ?_; refine S_op ?_; refine W_assignStr (by first | rfl | assumption) ?_; refine S_nil ?_; refine CW_region rfl ?_; refine S_op ?_; refine W_assignStr (by first | rfl | assumption) ?_; refine S_nil ?_)
      refine ⟨rfl, ?_⟩
      clear hm hT hS
      rintro l X pre rest H W hx hS ⟨hT, hXs, hbs, hle2, hm, hpre⟩ _
      replace h3 := hle2 _ _ h3
      replace h5 := hle2 _ _ h5
      by_cases hk : x.key = but
      · (refine CW_block ?_; refine CW_seq ?_; refine CW_region rfl ?_; refine S_op ?_; refine W_moveStr (by first | rfl | assumption) ?_; refine S_op ?_; refine W_loadHL (by first | rfl | assumption) (by assumption) (by rfl) (by assumption) ?_; refine S_op ?_; refine W_sneqF (by first | rfl | assumption) (by first | rfl | assumption) (by first | assumption | rfl) ?_; refine S_nil ?_; refine CW_false (by first | rfl | assumption) ?_; refine CW_skip ?_)
        exact ⟨H, Turn.refl hS, hT, hXs, hbs, hle2, hm, fun e he => by
          rcases List.mem_append.1 he with h | h
          · exact hpre e h
          · simp at h; subst h; exact hk⟩
      · (refine CW_block ?_; refine CW_seq ?_; refine CW_region rfl ?_; refine S_op ?_; refine W_moveStr (by first | rfl | assumption) ?_; refine S_op ?_; refine W_loadHL (by first | rfl | assumption) (by assumption) (by rfl) (by assumption) ?_; refine S_op ?_; refine W_sneqT (by first | rfl | assumption) (by first | rfl | assumption) (by assumption) ?_; refine S_nil ?_; refine CW_true (by first | rfl | assumption) ?_; refine CW_seq ?_)
        have hT0 := Turn.refl (S := fun k => k = b) hS
        apply CW_region_gt (H0 := H) (w0 := W) (fun c H w => Mut H w b (match c with | 0 => curC root none | 1 => [root, .string x.key, .string x.val, .bool false] | _ => curC root (some x))) 1 [_, _, _, _, _, _, _, _, _, _, _] [none, none, none, none, none, none, none, some 0, none, none, some 1] [some 22, some 23, some 24, some 25, some 26, some 27, some 28, none, some 29, some 30, none] [22, 23, 24, 25, 26, 27, 28, 29, 30] mixed rfl rfl rfl rfl (by decide) rfl rfl rfl (by assumption)
        · exact hm
        · intro c H w H' w' h hg
          exact h.grow hg
        · ((apply steps_cons; case h1 => (apply A_pure; intro c u H' w' hG; have hS' := hG.sub; have hS2' := hG.subOld; (repeat (first | refine depGo_eq rfl rfl rfl ?_ | (refine depGo_fact rfl rfl rfl ?_; intro v hv) | refine depGo_skip rfl ?_ | refine depGo_none rfl ?_)); apply Pure1.mk; intro K hk; exact W_loadHL (by first | rfl | assumption) (by assumption) (by rfl) (by assumption) hk)); (apply steps_cons; case h1 => (apply A_pure; intro c u H' w' hG; have hS' := hG.sub; have hS2' := hG.subOld; (repeat (first | refine depGo_eq rfl rfl rfl ?_ | (refine depGo_fact rfl rfl rfl ?_; intro v hv) | refine depGo_skip rfl ?_ | refine depGo_none rfl ?_)); apply Pure1.mk; intro K hk; exact W_loadHL (by first | rfl | assumption) (by assumption) (by rfl) (by assumption) hk)); (apply steps_cons; case h1 => (apply A_pure; intro c u H' w' hG; have hS' := hG.sub; have hS2' := hG.subOld; (repeat (first | refine depGo_eq rfl rfl rfl ?_ | (refine depGo_fact rfl rfl rfl ?_; intro v hv) | refine depGo_skip rfl ?_ | refine depGo_none rfl ?_)); apply Pure1.mk; intro K hk; exact W_moveStr (by first | rfl | assumption) hk)); (apply steps_cons; case h1 => (apply A_pure; intro c u H' w' hG; have hS' := hG.sub; have hS2' := hG.subOld; (repeat (first | refine depGo_eq rfl rfl rfl ?_ | (refine depGo_fact rfl rfl rfl ?_; intro v hv) | refine depGo_skip rfl ?_ | refine depGo_none rfl ?_)); apply Pure1.mk; intro K hk; exact W_moveStr (by first | rfl | assumption) hk)))
          (apply steps_cons; case h1 => (apply A_pure; intro c u H' w' hG'; (repeat (first | refine depGo_eq rfl rfl rfl ?_ | (refine depGo_fact rfl rfl rfl ?_; intro v hv) | refine depGo_skip rfl ?_ | refine depGo_none rfl ?_)); refine depGo_nil ?_; apply Pure1.mk; intro K hk; exact W_build (cs := [.string x.key, .string x.val]) (by rfl) hk))
          ((apply steps_cons; case h1 => (apply A_pure; intro c u H' w' hG; have hS' := hG.sub; have hS2' := hG.subOld; (repeat (first | refine depGo_eq rfl rfl rfl ?_ | (refine depGo_fact rfl rfl rfl ?_; intro v hv) | refine depGo_skip rfl ?_ | refine depGo_none rfl ?_)); apply Pure1.mk; intro K hk; exact W_nilCheck (by first | rfl | assumption) hk)); (apply steps_cons; case h1 => (apply A_pure; intro c u H' w' hG; have hS' := hG.sub; have hS2' := hG.subOld; (repeat (first | refine depGo_eq rfl rfl rfl ?_ | (refine depGo_fact rfl rfl rfl ?_; intro v hv) | refine depGo_skip rfl ?_ | refine depGo_none rfl ?_)); apply Pure1.mk; intro K hk; exact W_field (by first | rfl | assumption) hk)))
          apply steps_cons
          · refine A_eff (φ := fun _ _ => True) ?_
            intro u' H' w' hG'
            have hS' := hG'.sub
            have hq : Mut H' w' b [root, .string ⟨#[]⟩, .string ⟨#[]⟩, .bool false] := hG'.m
            (repeat (first | refine depGo_eq rfl rfl rfl ?_ | (refine depGo_fact rfl rfl rfl ?_; intro v hv) | refine depGo_skip rfl ?_ | refine depGo_none rfl ?_))
            refine depGo_nil ?_
            refine W_storeM (o := 1) (vs := [.string x.key, .string x.val]) (by rfl) (by rfl) hq (by rfl) (OneCells.of_all (by rfl)) (by rfl) (Nat.le_of_ble_eq_true (by rfl)) ?_
            intro w3 hgb hm3
            exact ⟨H', HLe.refl _, hG'.next (hG'.grow.grownBy hgb (fun g h => by cases h; exact ⟨hq.out, .inr rfl⟩)) (HLe.refl _) hm3, fun _ _ => trivial⟩
          ((apply steps_cons; case h1 => (apply A_pure; intro c u H' w' hG; have hS' := hG.sub; have hS2' := hG.subOld; (repeat (first | refine depGo_eq rfl rfl rfl ?_ | (refine depGo_fact rfl rfl rfl ?_; intro v hv) | refine depGo_skip rfl ?_ | refine depGo_none rfl ?_)); apply Pure1.mk; intro K hk; exact W_nilCheck (by first | rfl | assumption) hk)); (apply steps_cons; case h1 => (apply A_pure; intro c u H' w' hG; have hS' := hG.sub; have hS2' := hG.subOld; (repeat (first | refine depGo_eq rfl rfl rfl ?_ | (refine depGo_fact rfl rfl rfl ?_; intro v hv) | refine depGo_skip rfl ?_ | refine depGo_none rfl ?_)); apply Pure1.mk; intro K hk; exact W_field (by first | rfl | assumption) hk)))
          apply steps_cons
          · refine A_eff (φ := fun _ _ => True) ?_
            intro u' H' w' hG'
            have hS' := hG'.sub
            have hq : Mut H' w' b [root, .string x.key, .string x.val, .bool false] := hG'.m
            (repeat (first | refine depGo_eq rfl rfl rfl ?_ | (refine depGo_fact rfl rfl rfl ?_; intro v hv) | refine depGo_skip rfl ?_ | refine depGo_none rfl ?_))
            refine depGo_nil ?_
            refine W_storeM (o := 3) (vs := [.bool true]) (by rfl) (by rfl) hq (by rfl) (OneCells.of_all (by rfl)) (by rfl) (Nat.le_of_ble_eq_true (by rfl)) ?_
            intro w3 hgb hm3
            exact ⟨H', HLe.refl _, hG'.next (hG'.grow.grownBy hgb (fun g h => by cases h; exact ⟨hq.out, .inr rfl⟩)) (HLe.refl _) hm3, fun _ _ => trivial⟩
          (exact trivial)
        · intro c H' w' hc hT' hle' hM
          (repeat (first | refine fin_eq rfl rfl ?_ | (refine fin_fact rfl ?_; intro v hv) | refine fin_none rfl ?_)); refine fin_nil ?_
          obtain ⟨c, rfl⟩ : ∃ k, c = k + 2 := ⟨c - 2, by omega⟩
          replace hM : Mut H' w' b (curC root (some x)) := hM
          (refine CW_exit ?_; refine xblk_miss rfl ?_)
          have hfn : firstNot but (pre ++ [x]) = some x := firstNot_some hpre hk
          exact ⟨H', hT'.wider (fun k _ e => by subst e; exact (hbs _ (by simp)).1), rfl, hT.trans hT', fun j hj => ⟨(hXs j hj).1, Nat.lt_of_lt_of_le (hXs j hj).2 hT'.size⟩, fun b hb => ⟨(hbs b hb).1, Nat.lt_of_lt_of_le (hbs b hb).2 hT'.size⟩, hle2.trans hle', by rw [hfn]; exact hM, by rw [hfn]; rfl⟩
    · clear hm hT hS
      rintro D X H w hD hM hS hle' hXD hend
      obtain ⟨hT, hle2, hbX, hm⟩ : Turn (fun k => k = b) H0 w0 H w ∧ HLe _ H ∧ ¬ X b ∧ Mut H w b (curC root (firstNot but xs)) := by
        rcases hend with ⟨hT, hXs, hbs, hle2, hm, hpre⟩ | ⟨pre, rest, hx, hT, hXs, hbs, hle2, hm, hpre⟩
        · exact ⟨hT, hle2, (hbs b (by simp)).1, by rw [firstNot_none hpre]; exact hm⟩
        · refine ⟨hT, hle2, (hbs b (by simp)).1, ?_⟩
          have : firstNot but xs = firstNot but pre := by
            rw [hx]
            unfold firstNot at hpre ⊢
            rw [List.find?_append]
            cases hf : pre.find? (fun e => decide (e.key ≠ but)) with
            | none => rw [hf] at hpre; cases hpre
            | some e => rfl
          rw [this]; exact hm
      replace h3 := hle2 _ _ h3
      clear hend
      obtain ⟨k1, v1, ec⟩ := curC_form root (firstNot but xs)
      rw [ec] at hm ⊢
      (refine CWD_seq ?_; refine CWD_region rfl ?_; refine S_op ?_; refine W_loadHL (by first | rfl | assumption) (by assumption) (by rfl) (by assumption) ?_; refine S_op ?_; refine W_nilCheck (by first | rfl | assumption) ?_; refine S_op ?_; refine W_field (by first | rfl | assumption) ?_; refine S_op ?_; refine W_loadM (by first | rfl | assumption) (by assumption) (by rfl) ?_; refine S_op ?_; refine W_assignBool (by first | rfl | assumption) ?_; refine S_nil ?_; refine CWD_ret ?_)
      refine FinD_one hM hS fun w' hTD => ?_
      refine ⟨_, ResW_one (v := .bool _) rfl, H, hT.after hTD fun k e => .inl (by omega), rfl, hm.turn hTD fun e => hbX (by rw [e]; exact hXD)⟩
end Go.Proofs.Ytgaabmoknpifnaa
/- cursor.Cursor's other methods, walked. Conditions: none but the tree's. -/
namespace Go.Proofs.Ytgaabmoknpifnaa
open Go.Proofs Go.RowKit
set_option linter.unusedVariables false
attribute [local irreducible] CW CWD SeqW OpW CallV
set_option maxHeartbeats 4000000
theorem TreeAt.keys {H : HF} {t : Tr} (h : TreeAt H t) : ∀ e ∈ t.items, e.key ≠ ⟨#[]⟩ := by
  intro e he hk
  have := h.at_.ok.2 e he
  simp [entOk, rKey, hk] at this
/-- A cursor of a tree that stands at such a place. -/
def CurAt (H : HF) (w : World) (b : Nat) (t : Tr) (p : Option Nat) : Prop := Mut H w b (curC t.val (p.map (ent t.items)))
/-- What a call of its methods leaves. -/
def Moved (H0 : HF) (w0 : World) (b : Nat) (t : Tr) (p : Option Nat) (v : Value) (w' : World) : Prop :=
  ∃ H', Turn (fun k => k = b) H0 w0 H' w' ∧ v = .bool p.isSome ∧ CurAt H' w' b t p
theorem moved_of {H0 H : HF} {w0 w : World} {b : Nat} {t : Tr} {p : Option Nat} {o : Option Ent} (hG : Grow H0 w0 H w) (e : o = p.map (ent t.items)) {v : Value} {w' : World}
    (h : ∃ H', Turn (fun k => k = b) H w H' w' ∧ v = .bool o.isSome ∧ Mut H' w' b (curC t.val o)) : Moved H0 w0 b t p v w' := by
  obtain ⟨H', hT, rfl, hm⟩ := h
  subst e
  refine ⟨H', hG.turn.trans hT, by simp, hm⟩
section
variable {H0 : HF} {w0 : World} {b : Nat} {t : Tr} {p : Option Nat}
theorem first_cur (hS : Sub H0 w0) (ht : TreeAt H0 t) (hc : CurAt H0 w0 b t p) : CallW Try.prog 37 [.pointer (some ⟨b, 0, none⟩)].toArray w0 (Moved H0 w0 b t (posL t.items 0)) := by
  unfold CurAt at hc
  obtain ⟨k0, v0, e⟩ := curC_form t.val (p.map (ent t.items))
  rw [e] at hc
  refine CallW_of_CW Try.func37 rfl Try.ntmps37 Try.results37 rfl ?_
  have hG := Grow.refl hS
  (refine CW_seq ?_; refine CW_region rfl ?_; refine S_op ?_; refine W_assignBool (by first | rfl | assumption) ?_; refine S_nil ?_; refine CW_seq ?_; refine CW_region rfl ?_; refine S_op ?_; refine W_movePtr (by first | rfl | assumption) ?_; refine S_op ?_; refine W_pneqnil (by first | rfl | assumption) (by first | rfl | assumption) ?_; refine S_op ?_; refine W_moveBool (by first | rfl | assumption) ?_; refine S_want (by rfl) ?_; refine W_movePtr (by first | rfl | assumption) ?_; refine S_want (by rfl) ?_; refine W_movePtr (by first | rfl | assumption) ?_; refine S_want (by rfl) ?_; refine W_nilCheck (by first | rfl | assumption) ?_; refine S_want (by rfl) ?_; refine W_field (by first | rfl | assumption) ?_; refine S_want (by rfl) ?_; refine W_loadM (by first | rfl | assumption) (by assumption) (by rfl) ?_)
  (refine S_want (by rfl) ?_; refine W_call hS (by rfl) (all_c _ t ht.at_) ?_); rintro v H w hG' hv; replace hG := hG.trans hG'; replace hS := hG'.sub; replace ht := ht.mono hG'.le; replace hc := hc.grow hG'; clear hG'
  refine S_want (by rfl) ?_
  refine W_callW (by rfl) ((to_c hS hc hv).mono ?_)
  intro v w' hv
  replace hv := moved_of hG (pos_first ht.keys) hv
  obtain ⟨H', hT, rfl, hc'⟩ := hv
  (refine S_op ?_; refine W_pickT (by first | rfl | assumption) (by first | rfl | assumption) ?_; refine S_op ?_; refine W_assignBool (by first | rfl | assumption) ?_; refine S_nil ?_; refine CW_ret ?_)
  exact ⟨_, ResW_one (v := .bool _) rfl, H', hT, rfl, hc'⟩
theorem last_cur (hS : Sub H0 w0) (ht : TreeAt H0 t) (hc : CurAt H0 w0 b t p) : CallW Try.prog 39 [.pointer (some ⟨b, 0, none⟩)].toArray w0 (Moved H0 w0 b t (posL t.items ((t.items.length : Int) - 1))) := by
  unfold CurAt at hc
  obtain ⟨k0, v0, e⟩ := curC_form t.val (p.map (ent t.items))
  rw [e] at hc
  refine CallW_of_CW Try.func39 rfl Try.ntmps39 Try.results39 rfl ?_
  have hG := Grow.refl hS
  (refine CW_seq ?_; refine CW_region rfl ?_; refine S_op ?_; refine W_assignBool (by first | rfl | assumption) ?_; refine S_nil ?_; refine CW_seq ?_; refine CW_region rfl ?_; refine S_op ?_; refine W_movePtr (by first | rfl | assumption) ?_; refine S_op ?_; refine W_pneqnil (by first | rfl | assumption) (by first | rfl | assumption) ?_; refine S_op ?_; refine W_moveBool (by first | rfl | assumption) ?_; refine S_want (by rfl) ?_; refine W_movePtr (by first | rfl | assumption) ?_; refine S_want (by rfl) ?_; refine W_movePtr (by first | rfl | assumption) ?_; refine S_want (by rfl) ?_; refine W_nilCheck (by first | rfl | assumption) ?_; refine S_want (by rfl) ?_; refine W_field (by first | rfl | assumption) ?_; refine S_want (by rfl) ?_; refine W_loadM (by first | rfl | assumption) (by assumption) (by rfl) ?_)
  (refine S_want (by rfl) ?_; refine W_call hS (by rfl) (back_c _ t ht.at_) ?_); rintro v H w hG' hv; replace hG := hG.trans hG'; replace hS := hG'.sub; replace ht := ht.mono hG'.le; replace hc := hc.grow hG'; clear hG'
  refine S_want (by rfl) ?_
  refine W_callW (by rfl) ((to_c hS hc hv).mono ?_)
  intro v w' hv
  replace hv := moved_of hG (pos_last ht.keys) hv
  obtain ⟨H', hT, rfl, hc'⟩ := hv
  (refine S_op ?_; refine W_pickT (by first | rfl | assumption) (by first | rfl | assumption) ?_; refine S_op ?_; refine W_assignBool (by first | rfl | assumption) ?_; refine S_nil ?_; refine CW_ret ?_)
  exact ⟨_, ResW_one (v := .bool _) rfl, H', hT, rfl, hc'⟩
theorem seek_cur (k : ByteArray) (hS : Sub H0 w0) (ht : TreeAt H0 t) (hc : CurAt H0 w0 b t p) : CallW Try.prog 32 [.pointer (some ⟨b, 0, none⟩), .string k].toArray w0 (Moved H0 w0 b t (posL t.items (aheadOf k t.items : Nat))) := by
  unfold CurAt at hc
  obtain ⟨k0, v0, e⟩ := curC_form t.val (p.map (ent t.items))
  rw [e] at hc
  refine CallW_of_CW Try.func32 rfl Try.ntmps32 Try.results32 rfl ?_
  have hG := Grow.refl hS
  (refine CW_seq ?_; refine CW_region rfl ?_; refine S_op ?_; refine W_assignBool (by first | rfl | assumption) ?_; refine S_nil ?_; refine CW_seq ?_; refine CW_region rfl ?_; refine S_op ?_; refine W_movePtr (by first | rfl | assumption) ?_; refine S_op ?_; refine W_pneqnil (by first | rfl | assumption) (by first | rfl | assumption) ?_; refine S_op ?_; refine W_moveBool (by first | rfl | assumption) ?_; refine S_want (by rfl) ?_; refine W_movePtr (by first | rfl | assumption) ?_; refine S_want (by rfl) ?_; refine W_movePtr (by first | rfl | assumption) ?_; refine S_want (by rfl) ?_; refine W_nilCheck (by first | rfl | assumption) ?_; refine S_want (by rfl) ?_; refine W_field (by first | rfl | assumption) ?_; refine S_want (by rfl) ?_; refine W_loadM (by first | rfl | assumption) (by assumption) (by rfl) ?_; refine S_want (by rfl) ?_; refine W_moveStr (by first | rfl | assumption) ?_)
  (refine S_want (by rfl) ?_; refine W_call hS (by rfl) (from_c _ t k ht.at_) ?_); rintro v H w hG' hv; replace hG := hG.trans hG'; replace hS := hG'.sub; replace ht := ht.mono hG'.le; replace hc := hc.grow hG'; clear hG'
  refine S_want (by rfl) ?_
  refine W_callW (by rfl) ((to_c hS hc hv).mono ?_)
  intro v w' hv
  replace hv := moved_of hG (pos_seek ht.keys ht.rise k) hv
  obtain ⟨H', hT, rfl, hc'⟩ := hv
  (refine S_op ?_; refine W_pickT (by first | rfl | assumption) (by first | rfl | assumption) ?_; refine S_op ?_; refine W_assignBool (by first | rfl | assumption) ?_; refine S_nil ?_; refine CW_ret ?_)
  exact ⟨_, ResW_one (v := .bool _) rfl, H', hT, rfl, hc'⟩
/-- Next and Prev, from nowhere. -/
theorem next_no (hS : Sub H0 w0) (hc : CurAt H0 w0 b t none) : CallW Try.prog 35 [.pointer (some ⟨b, 0, none⟩)].toArray w0 (Moved H0 w0 b t none) := by
  replace hc : Mut H0 w0 b [t.val, .string ⟨#[]⟩, .string ⟨#[]⟩, .bool false] := hc
  refine CallW_of_CW Try.func35 rfl Try.ntmps35 Try.results35 rfl ?_
  have hG := Grow.refl hS
  (refine CW_seq ?_; refine CW_region rfl ?_; refine S_op ?_; refine W_assignBool (by first | rfl | assumption) ?_; refine S_nil ?_; refine CW_seq ?_)
  apply CW_region_grow [_, _, _, _, _, _, _, _, _, _, _, _, _, _, _, _, _, _, _, _, _, _, _, _, _, _, _, _] [none, none, none, none, none, none, none, none, none, none, none, none, none, none, none, none, none, none, none, none, none, none, none, none, none, none, none, none] [some 3, some 4, some 5, some 6, some 7, some 8, some 9, some 10, some 11, some 12, some 13, some 14, some 15, some 16, some 17, some 18, some 19, some 20, some 21, some 22, some 23, some 24, some 25, some 26, some 27, some 28, some 29, some 2] [3, 4, 5, 6, 7, 8, 9, 10, 11, 12, 13, 14, 15, 16, 17, 18, 19, 20, 21, 22, 23, 24, 25, 26, 27, 28, 29, 2] mixed rfl rfl rfl rfl (by decide) rfl (by assumption)
  · ((apply steps_cons; case h1 => (apply A_pure; intro c u H' w' hG; have hS' := hG.sub; have hS2' := hG.subOld; have hM0 := (hc).grow hG; (repeat (first | refine depGo_eq rfl rfl rfl ?_ | (refine depGo_fact rfl rfl rfl ?_; intro v hv) | refine depGo_skip rfl ?_ | refine depGo_none rfl ?_)); apply Pure1.mk; intro K hk; exact W_movePtr (by first | rfl | assumption) hk)); (apply steps_cons; case h1 => (apply A_pure; intro c u H' w' hG; have hS' := hG.sub; have hS2' := hG.subOld; have hM0 := (hc).grow hG; (repeat (first | refine depGo_eq rfl rfl rfl ?_ | (refine depGo_fact rfl rfl rfl ?_; intro v hv) | refine depGo_skip rfl ?_ | refine depGo_none rfl ?_)); apply Pure1.mk; intro K hk; exact W_pneqnil (by first | rfl | assumption) (by first | rfl | assumption) hk)); (apply steps_cons; case h1 => (apply A_pure; intro c u H' w' hG; have hS' := hG.sub; have hS2' := hG.subOld; have hM0 := (hc).grow hG; (repeat (first | refine depGo_eq rfl rfl rfl ?_ | (refine depGo_fact rfl rfl rfl ?_; intro v hv) | refine depGo_skip rfl ?_ | refine depGo_none rfl ?_)); apply Pure1.mk; intro K hk; exact W_moveBool (by first | rfl | assumption) hk)); (apply steps_cons; case h1 => (apply A_want; intro c u H' w' hG; have hS' := hG.sub; have hS2' := hG.subOld; have hM0 := (hc).grow hG; (repeat (first | refine depGo_eq rfl rfl rfl ?_ | (refine depGo_fact rfl rfl rfl ?_; intro v hv) | refine depGo_skip rfl ?_ | refine depGo_none rfl ?_)); apply Pure2.mk; (case want => rfl); intro K hk; exact W_movePtr (by first | rfl | assumption) hk)); (apply steps_cons; case h1 => (apply A_want; intro c u H' w' hG; have hS' := hG.sub; have hS2' := hG.subOld; have hM0 := (hc).grow hG; (repeat (first | refine depGo_eq rfl rfl rfl ?_ | (refine depGo_fact rfl rfl rfl ?_; intro v hv) | refine depGo_skip rfl ?_ | refine depGo_none rfl ?_)); apply Pure2.mk; (case want => rfl); intro K hk; exact W_nilCheck (by first | rfl | assumption) hk)); (apply steps_cons; case h1 => (apply A_want; intro c u H' w' hG; have hS' := hG.sub; have hS2' := hG.subOld; have hM0 := (hc).grow hG; (repeat (first | refine depGo_eq rfl rfl rfl ?_ | (refine depGo_fact rfl rfl rfl ?_; intro v hv) | refine depGo_skip rfl ?_ | refine depGo_none rfl ?_)); apply Pure2.mk; (case want => rfl); intro K hk; exact W_field (by first | rfl | assumption) hk)); (apply steps_cons; case h1 => (apply A_want; intro c u H' w' hG; have hS' := hG.sub; have hS2' := hG.subOld; have hM0 := (hc).grow hG; (repeat (first | refine depGo_eq rfl rfl rfl ?_ | (refine depGo_fact rfl rfl rfl ?_; intro v hv) | refine depGo_skip rfl ?_ | refine depGo_none rfl ?_)); apply Pure2.mk; (case want => rfl); intro K hk; exact W_loadM (by first | rfl | assumption) (by assumption) (by rfl) hk)); (apply steps_cons; case h1 => (apply A_pure; intro c u H' w' hG; have hS' := hG.sub; have hS2' := hG.subOld; have hM0 := (hc).grow hG; (repeat (first | refine depGo_eq rfl rfl rfl ?_ | (refine depGo_fact rfl rfl rfl ?_; intro v hv) | refine depGo_skip rfl ?_ | refine depGo_none rfl ?_)); apply Pure1.mk; intro K hk; exact W_pickT (by first | rfl | assumption) (by first | rfl | assumption) hk)); (apply steps_cons; case h1 => (apply A_pure; intro c u H' w' hG; have hS' := hG.sub; have hS2' := hG.subOld; have hM0 := (hc).grow hG; (repeat (first | refine depGo_eq rfl rfl rfl ?_ | (refine depGo_fact rfl rfl rfl ?_; intro v hv) | refine depGo_skip rfl ?_ | refine depGo_none rfl ?_)); apply Pure1.mk; intro K hk; exact W_moveBool (by first | rfl | assumption) hk)); (apply steps_cons; case h1 => (apply A_pass; intro c u H' w' hG; (repeat (first | refine depGo_eq rfl rfl rfl ?_ | (refine depGo_fact rfl rfl rfl ?_; intro v hv) | refine depGo_skip rfl ?_ | refine depGo_none rfl ?_)); exact Pass1.mk rfl)); (apply steps_cons; case h1 => (apply A_pass; intro c u H' w' hG; (repeat (first | refine depGo_eq rfl rfl rfl ?_ | (refine depGo_fact rfl rfl rfl ?_; intro v hv) | refine depGo_skip rfl ?_ | refine depGo_none rfl ?_)); exact Pass1.mk rfl)); (apply steps_cons; case h1 => (apply A_pass; intro c u H' w' hG; (repeat (first | refine depGo_eq rfl rfl rfl ?_ | (refine depGo_fact rfl rfl rfl ?_; intro v hv) | refine depGo_skip rfl ?_ | refine depGo_none rfl ?_)); exact Pass1.mk rfl)); (apply steps_cons; case h1 => (apply A_pass; intro c u H' w' hG; (repeat (first | refine depGo_eq rfl rfl rfl ?_ | (refine depGo_fact rfl rfl rfl ?_; intro v hv) | refine depGo_skip rfl ?_ | refine depGo_none rfl ?_)); exact Pass1.mk rfl)); (apply steps_cons; case h1 => (apply A_pass; intro c u H' w' hG; (repeat (first | refine depGo_eq rfl rfl rfl ?_ | (refine depGo_fact rfl rfl rfl ?_; intro v hv) | refine depGo_skip rfl ?_ | refine depGo_none rfl ?_)); exact Pass1.mk rfl)); (apply steps_cons; case h1 => (apply A_pass; intro c u H' w' hG; (repeat (first | refine depGo_eq rfl rfl rfl ?_ | (refine depGo_fact rfl rfl rfl ?_; intro v hv) | refine depGo_skip rfl ?_ | refine depGo_none rfl ?_)); exact Pass1.mk rfl)); (apply steps_cons; case h1 => (apply A_pass; intro c u H' w' hG; (repeat (first | refine depGo_eq rfl rfl rfl ?_ | (refine depGo_fact rfl rfl rfl ?_; intro v hv) | refine depGo_skip rfl ?_ | refine depGo_none rfl ?_)); exact Pass1.mk rfl)); (apply steps_cons; case h1 => (apply A_pass; intro c u H' w' hG; (repeat (first | refine depGo_eq rfl rfl rfl ?_ | (refine depGo_fact rfl rfl rfl ?_; intro v hv) | refine depGo_skip rfl ?_ | refine depGo_none rfl ?_)); exact Pass1.mk rfl)); (apply steps_cons; case h1 => (apply A_pass; intro c u H' w' hG; (repeat (first | refine depGo_eq rfl rfl rfl ?_ | (refine depGo_fact rfl rfl rfl ?_; intro v hv) | refine depGo_skip rfl ?_ | refine depGo_none rfl ?_)); exact Pass1.mk rfl)); (apply steps_cons; case h1 => (apply A_pass; intro c u H' w' hG; (repeat (first | refine depGo_eq rfl rfl rfl ?_ | (refine depGo_fact rfl rfl rfl ?_; intro v hv) | refine depGo_skip rfl ?_ | refine depGo_none rfl ?_)); exact Pass1.mk rfl)); (apply steps_cons; case h1 => (apply A_pass; intro c u H' w' hG; (repeat (first | refine depGo_eq rfl rfl rfl ?_ | (refine depGo_fact rfl rfl rfl ?_; intro v hv) | refine depGo_skip rfl ?_ | refine depGo_none rfl ?_)); exact Pass1.mk rfl)); (apply steps_cons; case h1 => (apply A_pass; intro c u H' w' hG; (repeat (first | refine depGo_eq rfl rfl rfl ?_ | (refine depGo_fact rfl rfl rfl ?_; intro v hv) | refine depGo_skip rfl ?_ | refine depGo_none rfl ?_)); exact Pass1.mk rfl)); (apply steps_cons; case h1 => (apply A_pass; intro c u H' w' hG; (repeat (first | refine depGo_eq rfl rfl rfl ?_ | (refine depGo_fact rfl rfl rfl ?_; intro v hv) | refine depGo_skip rfl ?_ | refine depGo_none rfl ?_)); exact Pass1.mk rfl)); (apply steps_cons; case h1 => (apply A_pass; intro c u H' w' hG; (repeat (first | refine depGo_eq rfl rfl rfl ?_ | (refine depGo_fact rfl rfl rfl ?_; intro v hv) | refine depGo_skip rfl ?_ | refine depGo_none rfl ?_)); exact Pass1.mk rfl)); (apply steps_cons; case h1 => (apply A_pass; intro c u H' w' hG; (repeat (first | refine depGo_eq rfl rfl rfl ?_ | (refine depGo_fact rfl rfl rfl ?_; intro v hv) | refine depGo_skip rfl ?_ | refine depGo_none rfl ?_)); exact Pass1.mk rfl)); (apply steps_cons; case h1 => (apply A_pass; intro c u H' w' hG; (repeat (first | refine depGo_eq rfl rfl rfl ?_ | (refine depGo_fact rfl rfl rfl ?_; intro v hv) | refine depGo_skip rfl ?_ | refine depGo_none rfl ?_)); exact Pass1.mk rfl)); (apply steps_cons; case h1 => (apply A_pass; intro c u H' w' hG; (repeat (first | refine depGo_eq rfl rfl rfl ?_ | (refine depGo_fact rfl rfl rfl ?_; intro v hv) | refine depGo_skip rfl ?_ | refine depGo_none rfl ?_)); exact Pass1.mk rfl)); (apply steps_cons; case h1 => (apply A_pure; intro c u H' w' hG; have hS' := hG.sub; have hS2' := hG.subOld; have hM0 := (hc).grow hG; (repeat (first | refine depGo_eq rfl rfl rfl ?_ | (refine depGo_fact rfl rfl rfl ?_; intro v hv) | refine depGo_skip rfl ?_ | refine depGo_none rfl ?_)); apply Pure1.mk; intro K hk; exact W_pickF (by first | rfl | assumption) (by first | rfl | assumption) hk)); (apply steps_cons; case h1 => (apply A_pure; intro c u H' w' hG; have hS' := hG.sub; have hS2' := hG.subOld; have hM0 := (hc).grow hG; (repeat (first | refine depGo_eq rfl rfl rfl ?_ | (refine depGo_fact rfl rfl rfl ?_; intro v hv) | refine depGo_skip rfl ?_ | refine depGo_none rfl ?_)); apply Pure1.mk; intro K hk; exact W_assignBool (by first | rfl | assumption) hk)); exact trivial)
  · (intro H' w' hG; (repeat (first | refine fin_eq rfl rfl ?_ | (refine fin_fact rfl ?_; intro v hv) | refine fin_none rfl ?_)); refine fin_nil ?_)
    (refine CW_ret ?_)
    exact ⟨_, ResW_one (v := .bool _) rfl, H', hG.turn, rfl, hc.grow hG⟩
theorem prev_no (hS : Sub H0 w0) (hc : CurAt H0 w0 b t none) : CallW Try.prog 34 [.pointer (some ⟨b, 0, none⟩)].toArray w0 (Moved H0 w0 b t none) := by
  replace hc : Mut H0 w0 b [t.val, .string ⟨#[]⟩, .string ⟨#[]⟩, .bool false] := hc
  refine CallW_of_CW Try.func34 rfl Try.ntmps34 Try.results34 rfl ?_
  have hG := Grow.refl hS
  (refine CW_seq ?_; refine CW_region rfl ?_; refine S_op ?_; refine W_assignBool (by first | rfl | assumption) ?_; refine S_nil ?_; refine CW_seq ?_)
  apply CW_region_grow [_, _, _, _, _, _, _, _, _, _, _, _, _, _, _, _, _, _, _, _, _, _, _, _, _, _, _, _] [none, none, none, none, none, none, none, none, none, none, none, none, none, none, none, none, none, none, none, none, none, none, none, none, none, none, none, none] [some 3, some 4, some 5, some 6, some 7, some 8, some 9, some 10, some 11, some 12, some 13, some 14, some 15, some 16, some 17, some 18, some 19, some 20, some 21, some 22, some 23, some 24, some 25, some 26, some 27, some 28, some 29, some 2] [3, 4, 5, 6, 7, 8, 9, 10, 11, 12, 13, 14, 15, 16, 17, 18, 19, 20, 21, 22, 23, 24, 25, 26, 27, 28, 29, 2] mixed rfl rfl rfl rfl (by decide) rfl (by assumption)
  · ((apply steps_cons; case h1 => (apply A_pure; intro c u H' w' hG; have hS' := hG.sub; have hS2' := hG.subOld; have hM0 := (hc).grow hG; (repeat (first | refine depGo_eq rfl rfl rfl ?_ | (refine depGo_fact rfl rfl rfl ?_; intro v hv) | refine depGo_skip rfl ?_ | refine depGo_none rfl ?_)); apply Pure1.mk; intro K hk; exact W_movePtr (by first | rfl | assumption) hk)); (apply steps_cons; case h1 => (apply A_pure; intro c u H' w' hG; have hS' := hG.sub; have hS2' := hG.subOld; have hM0 := (hc).grow hG; (repeat (first | refine depGo_eq rfl rfl rfl ?_ | (refine depGo_fact rfl rfl rfl ?_; intro v hv) | refine depGo_skip rfl ?_ | refine depGo_none rfl ?_)); apply Pure1.mk; intro K hk; exact W_pneqnil (by first | rfl | assumption) (by first | rfl | assumption) hk)); (apply steps_cons; case h1 => (apply A_pure; intro c u H' w' hG; have hS' := hG.sub; have hS2' := hG.subOld; have hM0 := (hc).grow hG; (repeat (first | refine depGo_eq rfl rfl rfl ?_ | (refine depGo_fact rfl rfl rfl ?_; intro v hv) | refine depGo_skip rfl ?_ | refine depGo_none rfl ?_)); apply Pure1.mk; intro K hk; exact W_moveBool (by first | rfl | assumption) hk)); (apply steps_cons; case h1 => (apply A_want; intro c u H' w' hG; have hS' := hG.sub; have hS2' := hG.subOld; have hM0 := (hc).grow hG; (repeat (first | refine depGo_eq rfl rfl rfl ?_ | (refine depGo_fact rfl rfl rfl ?_; intro v hv) | refine depGo_skip rfl ?_ | refine depGo_none rfl ?_)); apply Pure2.mk; (case want => rfl); intro K hk; exact W_movePtr (by first | rfl | assumption) hk)); (apply steps_cons; case h1 => (apply A_want; intro c u H' w' hG; have hS' := hG.sub; have hS2' := hG.subOld; have hM0 := (hc).grow hG; (repeat (first | refine depGo_eq rfl rfl rfl ?_ | (refine depGo_fact rfl rfl rfl ?_; intro v hv) | refine depGo_skip rfl ?_ | refine depGo_none rfl ?_)); apply Pure2.mk; (case want => rfl); intro K hk; exact W_nilCheck (by first | rfl | assumption) hk)); (apply steps_cons; case h1 => (apply A_want; intro c u H' w' hG; have hS' := hG.sub; have hS2' := hG.subOld; have hM0 := (hc).grow hG; (repeat (first | refine depGo_eq rfl rfl rfl ?_ | (refine depGo_fact rfl rfl rfl ?_; intro v hv) | refine depGo_skip rfl ?_ | refine depGo_none rfl ?_)); apply Pure2.mk; (case want => rfl); intro K hk; exact W_field (by first | rfl | assumption) hk)); (apply steps_cons; case h1 => (apply A_want; intro c u H' w' hG; have hS' := hG.sub; have hS2' := hG.subOld; have hM0 := (hc).grow hG; (repeat (first | refine depGo_eq rfl rfl rfl ?_ | (refine depGo_fact rfl rfl rfl ?_; intro v hv) | refine depGo_skip rfl ?_ | refine depGo_none rfl ?_)); apply Pure2.mk; (case want => rfl); intro K hk; exact W_loadM (by first | rfl | assumption) (by assumption) (by rfl) hk)); (apply steps_cons; case h1 => (apply A_pure; intro c u H' w' hG; have hS' := hG.sub; have hS2' := hG.subOld; have hM0 := (hc).grow hG; (repeat (first | refine depGo_eq rfl rfl rfl ?_ | (refine depGo_fact rfl rfl rfl ?_; intro v hv) | refine depGo_skip rfl ?_ | refine depGo_none rfl ?_)); apply Pure1.mk; intro K hk; exact W_pickT (by first | rfl | assumption) (by first | rfl | assumption) hk)); (apply steps_cons; case h1 => (apply A_pure; intro c u H' w' hG; have hS' := hG.sub; have hS2' := hG.subOld; have hM0 := (hc).grow hG; (repeat (first | refine depGo_eq rfl rfl rfl ?_ | (refine depGo_fact rfl rfl rfl ?_; intro v hv) | refine depGo_skip rfl ?_ | refine depGo_none rfl ?_)); apply Pure1.mk; intro K hk; exact W_moveBool (by first | rfl | assumption) hk)); (apply steps_cons; case h1 => (apply A_pass; intro c u H' w' hG; (repeat (first | refine depGo_eq rfl rfl rfl ?_ | (refine depGo_fact rfl rfl rfl ?_; intro v hv) | refine depGo_skip rfl ?_ | refine depGo_none rfl ?_)); exact Pass1.mk rfl)); (apply steps_cons; case h1 => (apply A_pass; intro c u H' w' hG; (repeat (first | refine depGo_eq rfl rfl rfl ?_ | (refine depGo_fact rfl rfl rfl ?_; intro v hv) | refine depGo_skip rfl ?_ | refine depGo_none rfl ?_)); exact Pass1.mk rfl)); (apply steps_cons; case h1 => (apply A_pass; intro c u H' w' hG; (repeat (first | refine depGo_eq rfl rfl rfl ?_ | (refine depGo_fact rfl rfl rfl ?_; intro v hv) | refine depGo_skip rfl ?_ | refine depGo_none rfl ?_)); exact Pass1.mk rfl)); (apply steps_cons; case h1 => (apply A_pass; intro c u H' w' hG; (repeat (first | refine depGo_eq rfl rfl rfl ?_ | (refine depGo_fact rfl rfl rfl ?_; intro v hv) | refine depGo_skip rfl ?_ | refine depGo_none rfl ?_)); exact Pass1.mk rfl)); (apply steps_cons; case h1 => (apply A_pass; intro c u H' w' hG; (repeat (first | refine depGo_eq rfl rfl rfl ?_ | (refine depGo_fact rfl rfl rfl ?_; intro v hv) | refine depGo_skip rfl ?_ | refine depGo_none rfl ?_)); exact Pass1.mk rfl)); (apply steps_cons; case h1 => (apply A_pass; intro c u H' w' hG; (repeat (first | refine depGo_eq rfl rfl rfl ?_ | (refine depGo_fact rfl rfl rfl ?_; intro v hv) | refine depGo_skip rfl ?_ | refine depGo_none rfl ?_)); exact Pass1.mk rfl)); (apply steps_cons; case h1 => (apply A_pass; intro c u H' w' hG; (repeat (first | refine depGo_eq rfl rfl rfl ?_ | (refine depGo_fact rfl rfl rfl ?_; intro v hv) | refine depGo_skip rfl ?_ | refine depGo_none rfl ?_)); exact Pass1.mk rfl)); (apply steps_cons; case h1 => (apply A_pass; intro c u H' w' hG; (repeat (first | refine depGo_eq rfl rfl rfl ?_ | (refine depGo_fact rfl rfl rfl ?_; intro v hv) | refine depGo_skip rfl ?_ | refine depGo_none rfl ?_)); exact Pass1.mk rfl)); (apply steps_cons; case h1 => (apply A_pass; intro c u H' w' hG; (repeat (first | refine depGo_eq rfl rfl rfl ?_ | (refine depGo_fact rfl rfl rfl ?_; intro v hv) | refine depGo_skip rfl ?_ | refine depGo_none rfl ?_)); exact Pass1.mk rfl)); (apply steps_cons; case h1 => (apply A_pass; intro c u H' w' hG; (repeat (first | refine depGo_eq rfl rfl rfl ?_ | (refine depGo_fact rfl rfl rfl ?_; intro v hv) | refine depGo_skip rfl ?_ | refine depGo_none rfl ?_)); exact Pass1.mk rfl)); (apply steps_cons; case h1 => (apply A_pass; intro c u H' w' hG; (repeat (first | refine depGo_eq rfl rfl rfl ?_ | (refine depGo_fact rfl rfl rfl ?_; intro v hv) | refine depGo_skip rfl ?_ | refine depGo_none rfl ?_)); exact Pass1.mk rfl)); (apply steps_cons; case h1 => (apply A_pass; intro c u H' w' hG; (repeat (first | refine depGo_eq rfl rfl rfl ?_ | (refine depGo_fact rfl rfl rfl ?_; intro v hv) | refine depGo_skip rfl ?_ | refine depGo_none rfl ?_)); exact Pass1.mk rfl)); (apply steps_cons; case h1 => (apply A_pass; intro c u H' w' hG; (repeat (first | refine depGo_eq rfl rfl rfl ?_ | (refine depGo_fact rfl rfl rfl ?_; intro v hv) | refine depGo_skip rfl ?_ | refine depGo_none rfl ?_)); exact Pass1.mk rfl)); (apply steps_cons; case h1 => (apply A_pass; intro c u H' w' hG; (repeat (first | refine depGo_eq rfl rfl rfl ?_ | (refine depGo_fact rfl rfl rfl ?_; intro v hv) | refine depGo_skip rfl ?_ | refine depGo_none rfl ?_)); exact Pass1.mk rfl)); (apply steps_cons; case h1 => (apply A_pass; intro c u H' w' hG; (repeat (first | refine depGo_eq rfl rfl rfl ?_ | (refine depGo_fact rfl rfl rfl ?_; intro v hv) | refine depGo_skip rfl ?_ | refine depGo_none rfl ?_)); exact Pass1.mk rfl)); (apply steps_cons; case h1 => (apply A_pass; intro c u H' w' hG; (repeat (first | refine depGo_eq rfl rfl rfl ?_ | (refine depGo_fact rfl rfl rfl ?_; intro v hv) | refine depGo_skip rfl ?_ | refine depGo_none rfl ?_)); exact Pass1.mk rfl)); (apply steps_cons; case h1 => (apply A_pass; intro c u H' w' hG; (repeat (first | refine depGo_eq rfl rfl rfl ?_ | (refine depGo_fact rfl rfl rfl ?_; intro v hv) | refine depGo_skip rfl ?_ | refine depGo_none rfl ?_)); exact Pass1.mk rfl)); (apply steps_cons; case h1 => (apply A_pure; intro c u H' w' hG; have hS' := hG.sub; have hS2' := hG.subOld; have hM0 := (hc).grow hG; (repeat (first | refine depGo_eq rfl rfl rfl ?_ | (refine depGo_fact rfl rfl rfl ?_; intro v hv) | refine depGo_skip rfl ?_ | refine depGo_none rfl ?_)); apply Pure1.mk; intro K hk; exact W_pickF (by first | rfl | assumption) (by first | rfl | assumption) hk)); (apply steps_cons; case h1 => (apply A_pure; intro c u H' w' hG; have hS' := hG.sub; have hS2' := hG.subOld; have hM0 := (hc).grow hG; (repeat (first | refine depGo_eq rfl rfl rfl ?_ | (refine depGo_fact rfl rfl rfl ?_; intro v hv) | refine depGo_skip rfl ?_ | refine depGo_none rfl ?_)); apply Pure1.mk; intro K hk; exact W_assignBool (by first | rfl | assumption) hk)); exact trivial)
  · (intro H' w' hG; (repeat (first | refine fin_eq rfl rfl ?_ | (refine fin_fact rfl ?_; intro v hv) | refine fin_none rfl ?_)); refine fin_nil ?_)
    (refine CW_ret ?_)
    exact ⟨_, ResW_one (v := .bool _) rfl, H', hG.turn, rfl, hc.grow hG⟩
/- go(walk's contract ;; list ;; Go name): from a place -/
theorem next_cur {i : Nat} (hi : i < t.items.length) (hS : Sub H0 w0) (ht : TreeAt H0 t) (hc : CurAt H0 w0 b t (some i)) : CallW Try.prog 35 [.pointer (some ⟨b, 0, none⟩)].toArray w0 (Moved H0 w0 b t (posL t.items ((i : Int) + 1))) := by
  replace hc : Mut H0 w0 b [t.val, .string (ent t.items i).key, .string (ent t.items i).val, .bool true] := hc
  refine CallW_of_CW Try.func35 rfl Try.ntmps35 Try.results35 rfl ?_
  have hT0 := Turn.refl (S := fun k => k = b) hS
  (refine CW_seq ?_; refine CW_region rfl ?_; refine S_op ?_; refine W_assignBool (by first | rfl | assumption) ?_; refine S_nil ?_; refine CW_seq ?_)
  apply CW_region_gv [28] (fun c _ H w => (c ≤ 0 → Mut H w b [t.val, .string (ent t.items i).key, .string (ent t.items i).val, .bool true]) ∧ (1 ≤ c → Mut H w b (curC t.val (firstNot (ent t.items i).key (fromL (ent t.items i).key t.items))))) 0 [_, _, _, _, _, _, _, _, _, _, _, _, _, _, _, _, _, _, _, _, _, _, _, _, _, _, _, _] [none, none, none, none, none, none, none, none, none, none, none, none, none, none, none, none, none, none, none, none, none, none, none, none, none, some 0, none, none] [none, none, none, none, none, none, some 0, none, none, none, none, none, none, some 0, none, none, none, none, some 0, none, none, none, none, none, some 0, none, none, none] [some 3, some 4, some 5, some 6, some 7, some 8, some 9, some 10, some 11, some 12, some 13, some 14, some 15, some 16, some 17, some 18, some 19, some 20, some 21, some 22, some 23, some 24, some 25, some 26, some 27, some 28, some 29, some 2] [3, 4, 5, 6, 7, 8, 9, 10, 11, 12, 13, 14, 15, 16, 17, 18, 19, 20, 21, 22, 23, 24, 25, 26, 27, 28, 29, 2] mixed rfl rfl rfl rfl (by decide) rfl rfl rfl rfl (by assumption)
  · exact ⟨fun _ => hc, fun h => by omega⟩
  · exact fun c u u' H w H' w' _ h hg => ⟨fun hc => (h.1 hc).grow hg, fun hc => (h.2 hc).grow hg⟩
  · ((apply stepsU_cons; case h1 => (apply V_pure; (case hd => rfl); intro c u H' w' hB hG; have hS' := hG.sub; have hS2' := hG.subOld; (try (have hM0 := hG.m.1 hB)); (repeat (first | refine depU_eq rfl rfl rfl ?_ | (refine depU_fact rfl rfl rfl ?_; intro v hu hv) | refine depU_skip rfl ?_ | refine depU_none rfl ?_)); apply Pure1.mk; intro K hk; exact W_movePtr (by first | rfl | assumption) hk)); (apply stepsU_cons; case h1 => (apply V_pure; (case hd => rfl); intro c u H' w' hB hG; have hS' := hG.sub; have hS2' := hG.subOld; (try (have hM0 := hG.m.1 hB)); (repeat (first | refine depU_eq rfl rfl rfl ?_ | (refine depU_fact rfl rfl rfl ?_; intro v hu hv) | refine depU_skip rfl ?_ | refine depU_none rfl ?_)); apply Pure1.mk; intro K hk; exact W_pneqnil (by first | rfl | assumption) (by first | rfl | assumption) hk)); (apply stepsU_cons; case h1 => (apply V_pure; (case hd => rfl); intro c u H' w' hB hG; have hS' := hG.sub; have hS2' := hG.subOld; (try (have hM0 := hG.m.1 hB)); (repeat (first | refine depU_eq rfl rfl rfl ?_ | (refine depU_fact rfl rfl rfl ?_; intro v hu hv) | refine depU_skip rfl ?_ | refine depU_none rfl ?_)); apply Pure1.mk; intro K hk; exact W_moveBool (by first | rfl | assumption) hk)); (apply stepsU_cons; case h1 => (apply V_want; (case hd => rfl); intro c u H' w' hB hG; have hS' := hG.sub; have hS2' := hG.subOld; (try (have hM0 := hG.m.1 hB)); (repeat (first | refine depU_eq rfl rfl rfl ?_ | (refine depU_fact rfl rfl rfl ?_; intro v hu hv) | refine depU_skip rfl ?_ | refine depU_none rfl ?_)); apply Pure2.mk; (case want => rfl); intro K hk; exact W_movePtr (by first | rfl | assumption) hk)); (apply stepsU_cons; case h1 => (apply V_want; (case hd => rfl); intro c u H' w' hB hG; have hS' := hG.sub; have hS2' := hG.subOld; (try (have hM0 := hG.m.1 hB)); (repeat (first | refine depU_eq rfl rfl rfl ?_ | (refine depU_fact rfl rfl rfl ?_; intro v hu hv) | refine depU_skip rfl ?_ | refine depU_none rfl ?_)); apply Pure2.mk; (case want => rfl); intro K hk; exact W_nilCheck (by first | rfl | assumption) hk)); (apply stepsU_cons; case h1 => (apply V_want; (case hd => rfl); intro c u H' w' hB hG; have hS' := hG.sub; have hS2' := hG.subOld; (try (have hM0 := hG.m.1 hB)); (repeat (first | refine depU_eq rfl rfl rfl ?_ | (refine depU_fact rfl rfl rfl ?_; intro v hu hv) | refine depU_skip rfl ?_ | refine depU_none rfl ?_)); apply Pure2.mk; (case want => rfl); intro K hk; exact W_field (by first | rfl | assumption) hk)); (apply stepsU_cons; case h1 => (apply V_want; (case hd => rfl); intro c u H' w' hB hG; have hS' := hG.sub; have hS2' := hG.subOld; (try (have hM0 := hG.m.1 hB)); (repeat (first | refine depU_eq rfl rfl rfl ?_ | (refine depU_fact rfl rfl rfl ?_; intro v hu hv) | refine depU_skip rfl ?_ | refine depU_none rfl ?_)); apply Pure2.mk; (case want => rfl); intro K hk; exact W_loadM (by first | rfl | assumption) (by assumption) (by rfl) hk)); (apply stepsU_cons; case h1 => (apply V_pure; (case hd => rfl); intro c u H' w' hB hG; have hS' := hG.sub; have hS2' := hG.subOld; (try (have hM0 := hG.m.1 hB)); (repeat (first | refine depU_eq rfl rfl rfl ?_ | (refine depU_fact rfl rfl rfl ?_; intro v hu hv) | refine depU_skip rfl ?_ | refine depU_none rfl ?_)); apply Pure1.mk; intro K hk; exact W_pickT (by first | rfl | assumption) (by first | rfl | assumption) hk)); (apply stepsU_cons; case h1 => (apply V_pure; (case hd => rfl); intro c u H' w' hB hG; have hS' := hG.sub; have hS2' := hG.subOld; (try (have hM0 := hG.m.1 hB)); (repeat (first | refine depU_eq rfl rfl rfl ?_ | (refine depU_fact rfl rfl rfl ?_; intro v hu hv) | refine depU_skip rfl ?_ | refine depU_none rfl ?_)); apply Pure1.mk; intro K hk; exact W_moveBool (by first | rfl | assumption) hk)); (apply stepsU_cons; case h1 => (apply V_want; (case hd => rfl); intro c u H' w' hB hG; have hS' := hG.sub; have hS2' := hG.subOld; (try (have hM0 := hG.m.1 hB)); (repeat (first | refine depU_eq rfl rfl rfl ?_ | (refine depU_fact rfl rfl rfl ?_; intro v hu hv) | refine depU_skip rfl ?_ | refine depU_none rfl ?_)); apply Pure2.mk; (case want => rfl); intro K hk; exact W_movePtr (by first | rfl | assumption) hk)); (apply stepsU_cons; case h1 => (apply V_want; (case hd => rfl); intro c u H' w' hB hG; have hS' := hG.sub; have hS2' := hG.subOld; (try (have hM0 := hG.m.1 hB)); (repeat (first | refine depU_eq rfl rfl rfl ?_ | (refine depU_fact rfl rfl rfl ?_; intro v hu hv) | refine depU_skip rfl ?_ | refine depU_none rfl ?_)); apply Pure2.mk; (case want => rfl); intro K hk; exact W_movePtr (by first | rfl | assumption) hk)); (apply stepsU_cons; case h1 => (apply V_want; (case hd => rfl); intro c u H' w' hB hG; have hS' := hG.sub; have hS2' := hG.subOld; (try (have hM0 := hG.m.1 hB)); (repeat (first | refine depU_eq rfl rfl rfl ?_ | (refine depU_fact rfl rfl rfl ?_; intro v hu hv) | refine depU_skip rfl ?_ | refine depU_none rfl ?_)); apply Pure2.mk; (case want => rfl); intro K hk; exact W_nilCheck (by first | rfl | assumption) hk)); (apply stepsU_cons; case h1 => (apply V_want; (case hd => rfl); intro c u H' w' hB hG; have hS' := hG.sub; have hS2' := hG.subOld; (try (have hM0 := hG.m.1 hB)); (repeat (first | refine depU_eq rfl rfl rfl ?_ | (refine depU_fact rfl rfl rfl ?_; intro v hu hv) | refine depU_skip rfl ?_ | refine depU_none rfl ?_)); apply Pure2.mk; (case want => rfl); intro K hk; exact W_field (by first | rfl | assumption) hk)); (apply stepsU_cons; case h1 => (apply V_want; (case hd => rfl); intro c u H' w' hB hG; have hS' := hG.sub; have hS2' := hG.subOld; (try (have hM0 := hG.m.1 hB)); (repeat (first | refine depU_eq rfl rfl rfl ?_ | (refine depU_fact rfl rfl rfl ?_; intro v hu hv) | refine depU_skip rfl ?_ | refine depU_none rfl ?_)); apply Pure2.mk; (case want => rfl); intro K hk; exact W_loadM (by first | rfl | assumption) (by assumption) (by rfl) hk)); (apply stepsU_cons; case h1 => (apply V_want; (case hd => rfl); intro c u H' w' hB hG; have hS' := hG.sub; have hS2' := hG.subOld; (try (have hM0 := hG.m.1 hB)); (repeat (first | refine depU_eq rfl rfl rfl ?_ | (refine depU_fact rfl rfl rfl ?_; intro v hu hv) | refine depU_skip rfl ?_ | refine depU_none rfl ?_)); apply Pure2.mk; (case want => rfl); intro K hk; exact W_movePtr (by first | rfl | assumption) hk)); (apply stepsU_cons; case h1 => (apply V_want; (case hd => rfl); intro c u H' w' hB hG; have hS' := hG.sub; have hS2' := hG.subOld; (try (have hM0 := hG.m.1 hB)); (repeat (first | refine depU_eq rfl rfl rfl ?_ | (refine depU_fact rfl rfl rfl ?_; intro v hu hv) | refine depU_skip rfl ?_ | refine depU_none rfl ?_)); apply Pure2.mk; (case want => rfl); intro K hk; exact W_nilCheck (by first | rfl | assumption) hk)); (apply stepsU_cons; case h1 => (apply V_want; (case hd => rfl); intro c u H' w' hB hG; have hS' := hG.sub; have hS2' := hG.subOld; (try (have hM0 := hG.m.1 hB)); (repeat (first | refine depU_eq rfl rfl rfl ?_ | (refine depU_fact rfl rfl rfl ?_; intro v hu hv) | refine depU_skip rfl ?_ | refine depU_none rfl ?_)); apply Pure2.mk; (case want => rfl); intro K hk; exact W_field (by first | rfl | assumption) hk)); (apply stepsU_cons; case h1 => (apply V_want; (case hd => rfl); intro c u H' w' hB hG; have hS' := hG.sub; have hS2' := hG.subOld; (try (have hM0 := hG.m.1 hB)); (repeat (first | refine depU_eq rfl rfl rfl ?_ | (refine depU_fact rfl rfl rfl ?_; intro v hu hv) | refine depU_skip rfl ?_ | refine depU_none rfl ?_)); apply Pure2.mk; (case want => rfl); intro K hk; exact W_field (by first | rfl | assumption) hk)); (apply stepsU_cons; case h1 => (apply V_want; (case hd => rfl); intro c u H' w' hB hG; have hS' := hG.sub; have hS2' := hG.subOld; (try (have hM0 := hG.m.1 hB)); (repeat (first | refine depU_eq rfl rfl rfl ?_ | (refine depU_fact rfl rfl rfl ?_; intro v hu hv) | refine depU_skip rfl ?_ | refine depU_none rfl ?_)); apply Pure2.mk; (case want => rfl); intro K hk; exact W_loadM (by first | rfl | assumption) (by assumption) (by rfl) hk)))
    (apply stepsU_cons; case h1 => (refine V_factG (by rfl) (φ := (fun v H => IterV Try.prog encP (fromL (ent t.items i).key t.items) v H)) ?_; intro c' u H' w' hB hG; have hS' := hG.sub; (repeat (first | refine depU_eq rfl rfl rfl ?_ | (refine depU_fact rfl rfl rfl ?_; intro v hu hv) | refine depU_skip rfl ?_ | refine depU_none rfl ?_)); refine depU_nil ⟨rfl, ?_⟩; refine W_call hS' (by rfl) (from_c _ t (ent t.items i).key (ht.mono hG.le).at_) ?_; intro v H3 w3 hG3 hr; exact ⟨H3, hG3.le, hG.trans hG3, fun H'' hle => hr.mono hle⟩))
    ((apply stepsU_cons; case h1 => (apply V_want; (case hd => rfl); intro c u H' w' hB hG; have hS' := hG.sub; have hS2' := hG.subOld; (try (have hM0 := hG.m.1 hB)); (repeat (first | refine depU_eq rfl rfl rfl ?_ | (refine depU_fact rfl rfl rfl ?_; intro v hu hv) | refine depU_skip rfl ?_ | refine depU_none rfl ?_)); apply Pure2.mk; (case want => rfl); intro K hk; exact W_movePtr (by first | rfl | assumption) hk)); (apply stepsU_cons; case h1 => (apply V_want; (case hd => rfl); intro c u H' w' hB hG; have hS' := hG.sub; have hS2' := hG.subOld; (try (have hM0 := hG.m.1 hB)); (repeat (first | refine depU_eq rfl rfl rfl ?_ | (refine depU_fact rfl rfl rfl ?_; intro v hu hv) | refine depU_skip rfl ?_ | refine depU_none rfl ?_)); apply Pure2.mk; (case want => rfl); intro K hk; exact W_nilCheck (by first | rfl | assumption) hk)); (apply stepsU_cons; case h1 => (apply V_want; (case hd => rfl); intro c u H' w' hB hG; have hS' := hG.sub; have hS2' := hG.subOld; (try (have hM0 := hG.m.1 hB)); (repeat (first | refine depU_eq rfl rfl rfl ?_ | (refine depU_fact rfl rfl rfl ?_; intro v hu hv) | refine depU_skip rfl ?_ | refine depU_none rfl ?_)); apply Pure2.mk; (case want => rfl); intro K hk; exact W_field (by first | rfl | assumption) hk)); (apply stepsU_cons; case h1 => (apply V_want; (case hd => rfl); intro c u H' w' hB hG; have hS' := hG.sub; have hS2' := hG.subOld; (try (have hM0 := hG.m.1 hB)); (repeat (first | refine depU_eq rfl rfl rfl ?_ | (refine depU_fact rfl rfl rfl ?_; intro v hu hv) | refine depU_skip rfl ?_ | refine depU_none rfl ?_)); apply Pure2.mk; (case want => rfl); intro K hk; exact W_field (by first | rfl | assumption) hk)); (apply stepsU_cons; case h1 => (apply V_want; (case hd => rfl); intro c u H' w' hB hG; have hS' := hG.sub; have hS2' := hG.subOld; (try (have hM0 := hG.m.1 hB)); (repeat (first | refine depU_eq rfl rfl rfl ?_ | (refine depU_fact rfl rfl rfl ?_; intro v hu hv) | refine depU_skip rfl ?_ | refine depU_none rfl ?_)); apply Pure2.mk; (case want => rfl); intro K hk; exact W_loadM (by first | rfl | assumption) (by assumption) (by rfl) hk)))
    apply stepsU_cons
    · refine V_effG (φ := fun v _ => v = .bool (firstNot (ent t.items i).key (fromL (ent t.items i).key t.items)).isSome) ?_
      intro u' H' w' hG'
      have hS' := hG'.sub
      have hq := hG'.m.1 (Nat.le_refl _)
      (repeat (first | refine depU_eq rfl rfl rfl ?_ | (refine depU_fact rfl rfl rfl ?_; intro v hu hv) | refine depU_skip rfl ?_ | refine depU_none rfl ?_))
      refine depU_nil ⟨rfl, ?_⟩
      refine W_callW (by rfl) ((to_c hS' hq hv).mono ?_)
      rintro v w3 ⟨H3, hT3, rfl, hm3⟩
      exact ⟨H3, hT3.le, hG'.next (hG'.grow.trans hT3) hT3.le ⟨fun h => by omega, fun _ => hm3⟩, fun _ _ => rfl⟩
    ((apply stepsU_cons; case h1 => (apply V_pure; (case hd => rfl); intro c u H' w' hB hG; have hS' := hG.sub; have hS2' := hG.subOld; (repeat (first | refine depU_eq rfl rfl rfl ?_ | (refine depU_fact rfl rfl rfl ?_; intro v hu hv) | refine depU_skip rfl ?_ | refine depU_none rfl ?_)); apply Pure1.mk; intro K hk; exact W_pickT (by first | rfl | assumption) (by first | rfl | assumption) hk)); (apply stepsU_cons; case h1 => (apply V_pure; (case hd => rfl); intro c u H' w' hB hG; have hS' := hG.sub; have hS2' := hG.subOld; (repeat (first | refine depU_eq rfl rfl rfl ?_ | (refine depU_fact rfl rfl rfl ?_; intro v hu hv) | refine depU_skip rfl ?_ | refine depU_none rfl ?_)); apply Pure1.mk; intro K hk; exact W_assignBool (by first | rfl | assumption) hk)); exact trivial)
  · intro c u H' w' hc' hT hle hM
    (repeat (first | refine finU_eq rfl rfl ?_ | (refine finU_fact rfl ?_; intro v hu hv) | refine finU_none rfl ?_)); refine finU_nil ?_
    have hm := hM.2 hc'
    (refine CW_ret ?_)
    exact ⟨_, ResW_one (v := .bool _) rfl, moved_of (Grow.refl hS) (pos_next ht.rise hi) ⟨H', hT, rfl, hm⟩⟩
theorem prev_cur {i : Nat} (hi : i < t.items.length) (hS : Sub H0 w0) (ht : TreeAt H0 t) (hc : CurAt H0 w0 b t (some i)) : CallW Try.prog 34 [.pointer (some ⟨b, 0, none⟩)].toArray w0 (Moved H0 w0 b t (posL t.items ((i : Int) - 1))) := by
  replace hc : Mut H0 w0 b [t.val, .string (ent t.items i).key, .string (ent t.items i).val, .bool true] := hc
  refine CallW_of_CW Try.func34 rfl Try.ntmps34 Try.results34 rfl ?_
  have hT0 := Turn.refl (S := fun k => k = b) hS
  (refine CW_seq ?_; refine CW_region rfl ?_; refine S_op ?_; refine W_assignBool (by first | rfl | assumption) ?_; refine S_nil ?_; refine CW_seq ?_)
  apply CW_region_gv [28] (fun c _ H w => (c ≤ 0 → Mut H w b [t.val, .string (ent t.items i).key, .string (ent t.items i).val, .bool true]) ∧ (1 ≤ c → Mut H w b (curC t.val (firstNot (ent t.items i).key (toL (ent t.items i).key t.items))))) 0 [_, _, _, _, _, _, _, _, _, _, _, _, _, _, _, _, _, _, _, _, _, _, _, _, _, _, _, _] [none, none, none, none, none, none, none, none, none, none, none, none, none, none, none, none, none, none, none, none, none, none, none, none, none, some 0, none, none] [none, none, none, none, none, none, some 0, none, none, none, none, none, none, some 0, none, none, none, none, some 0, none, none, none, none, none, some 0, none, none, none] [some 3, some 4, some 5, some 6, some 7, some 8, some 9, some 10, some 11, some 12, some 13, some 14, some 15, some 16, some 17, some 18, some 19, some 20, some 21, some 22, some 23, some 24, some 25, some 26, some 27, some 28, some 29, some 2] [3, 4, 5, 6, 7, 8, 9, 10, 11, 12, 13, 14, 15, 16, 17, 18, 19, 20, 21, 22, 23, 24, 25, 26, 27, 28, 29, 2] mixed rfl rfl rfl rfl (by decide) rfl rfl rfl rfl (by assumption)
  · exact ⟨fun _ => hc, fun h => by omega⟩
  · exact fun c u u' H w H' w' _ h hg => ⟨fun hc => (h.1 hc).grow hg, fun hc => (h.2 hc).grow hg⟩
  · ((apply stepsU_cons; case h1 => (apply V_pure; (case hd => rfl); intro c u H' w' hB hG; have hS' := hG.sub; have hS2' := hG.subOld; (try (have hM0 := hG.m.1 hB)); (repeat (first | refine depU_eq rfl rfl rfl ?_ | (refine depU_fact rfl rfl rfl ?_; intro v hu hv) | refine depU_skip rfl ?_ | refine depU_none rfl ?_)); apply Pure1.mk; intro K hk; exact W_movePtr (by first | rfl | assumption) hk)); (apply stepsU_cons; case h1 => (apply V_pure; (case hd => rfl); intro c u H' w' hB hG; have hS' := hG.sub; have hS2' := hG.subOld; (try (have hM0 := hG.m.1 hB)); (repeat (first | refine depU_eq rfl rfl rfl ?_ | (refine depU_fact rfl rfl rfl ?_; intro v hu hv) | refine depU_skip rfl ?_ | refine depU_none rfl ?_)); apply Pure1.mk; intro K hk; exact W_pneqnil (by first | rfl | assumption) (by first | rfl | assumption) hk)); (apply stepsU_cons; case h1 => (apply V_pure; (case hd => rfl); intro c u H' w' hB hG; have hS' := hG.sub; have hS2' := hG.subOld; (try (have hM0 := hG.m.1 hB)); (repeat (first | refine depU_eq rfl rfl rfl ?_ | (refine depU_fact rfl rfl rfl ?_; intro v hu hv) | refine depU_skip rfl ?_ | refine depU_none rfl ?_)); apply Pure1.mk; intro K hk; exact W_moveBool (by first | rfl | assumption) hk)); (apply stepsU_cons; case h1 => (apply V_want; (case hd => rfl); intro c u H' w' hB hG; have hS' := hG.sub; have hS2' := hG.subOld; (try (have hM0 := hG.m.1 hB)); (repeat (first | refine depU_eq rfl rfl rfl ?_ | (refine depU_fact rfl rfl rfl ?_; intro v hu hv) | refine depU_skip rfl ?_ | refine depU_none rfl ?_)); apply Pure2.mk; (case want => rfl); intro K hk; exact W_movePtr (by first | rfl | assumption) hk)); (apply stepsU_cons; case h1 => (apply V_want; (case hd => rfl); intro c u H' w' hB hG; have hS' := hG.sub; have hS2' := hG.subOld; (try (have hM0 := hG.m.1 hB)); (repeat (first | refine depU_eq rfl rfl rfl ?_ | (refine depU_fact rfl rfl rfl ?_; intro v hu hv) | refine depU_skip rfl ?_ | refine depU_none rfl ?_)); apply Pure2.mk; (case want => rfl); intro K hk; exact W_nilCheck (by first | rfl | assumption) hk)); (apply stepsU_cons; case h1 => (apply V_want; (case hd => rfl); intro c u H' w' hB hG; have hS' := hG.sub; have hS2' := hG.subOld; (try (have hM0 := hG.m.1 hB)); (repeat (first | refine depU_eq rfl rfl rfl ?_ | (refine depU_fact rfl rfl rfl ?_; intro v hu hv) | refine depU_skip rfl ?_ | refine depU_none rfl ?_)); apply Pure2.mk; (case want => rfl); intro K hk; exact W_field (by first | rfl | assumption) hk)); (apply stepsU_cons; case h1 => (apply V_want; (case hd => rfl); intro c u H' w' hB hG; have hS' := hG.sub; have hS2' := hG.subOld; (try (have hM0 := hG.m.1 hB)); (repeat (first | refine depU_eq rfl rfl rfl ?_ | (refine depU_fact rfl rfl rfl ?_; intro v hu hv) | refine depU_skip rfl ?_ | refine depU_none rfl ?_)); apply Pure2.mk; (case want => rfl); intro K hk; exact W_loadM (by first | rfl | assumption) (by assumption) (by rfl) hk)); (apply stepsU_cons; case h1 => (apply V_pure; (case hd => rfl); intro c u H' w' hB hG; have hS' := hG.sub; have hS2' := hG.subOld; (try (have hM0 := hG.m.1 hB)); (repeat (first | refine depU_eq rfl rfl rfl ?_ | (refine depU_fact rfl rfl rfl ?_; intro v hu hv) | refine depU_skip rfl ?_ | refine depU_none rfl ?_)); apply Pure1.mk; intro K hk; exact W_pickT (by first | rfl | assumption) (by first | rfl | assumption) hk)); (apply stepsU_cons; case h1 => (apply V_pure; (case hd => rfl); intro c u H' w' hB hG; have hS' := hG.sub; have hS2' := hG.subOld; (try (have hM0 := hG.m.1 hB)); (repeat (first | refine depU_eq rfl rfl rfl ?_ | (refine depU_fact rfl rfl rfl ?_; intro v hu hv) | refine depU_skip rfl ?_ | refine depU_none rfl ?_)); apply Pure1.mk; intro K hk; exact W_moveBool (by first | rfl | assumption) hk)); (apply stepsU_cons; case h1 => (apply V_want; (case hd => rfl); intro c u H' w' hB hG; have hS' := hG.sub; have hS2' := hG.subOld; (try (have hM0 := hG.m.1 hB)); (repeat (first | refine depU_eq rfl rfl rfl ?_ | (refine depU_fact rfl rfl rfl ?_; intro v hu hv) | refine depU_skip rfl ?_ | refine depU_none rfl ?_)); apply Pure2.mk; (case want => rfl); intro K hk; exact W_movePtr (by first | rfl | assumption) hk)); (apply stepsU_cons; case h1 => (apply V_want; (case hd => rfl); intro c u H' w' hB hG; have hS' := hG.sub; have hS2' := hG.subOld; (try (have hM0 := hG.m.1 hB)); (repeat (first | refine depU_eq rfl rfl rfl ?_ | (refine depU_fact rfl rfl rfl ?_; intro v hu hv) | refine depU_skip rfl ?_ | refine depU_none rfl ?_)); apply Pure2.mk; (case want => rfl); intro K hk; exact W_movePtr (by first | rfl | assumption) hk)); (apply stepsU_cons; case h1 => (apply V_want; (case hd => rfl); intro c u H' w' hB hG; have hS' := hG.sub; have hS2' := hG.subOld; (try (have hM0 := hG.m.1 hB)); (repeat (first | refine depU_eq rfl rfl rfl ?_ | (refine depU_fact rfl rfl rfl ?_; intro v hu hv) | refine depU_skip rfl ?_ | refine depU_none rfl ?_)); apply Pure2.mk; (case want => rfl); intro K hk; exact W_nilCheck (by first | rfl | assumption) hk)); (apply stepsU_cons; case h1 => (apply V_want; (case hd => rfl); intro c u H' w' hB hG; have hS' := hG.sub; have hS2' := hG.subOld; (try (have hM0 := hG.m.1 hB)); (repeat (first | refine depU_eq rfl rfl rfl ?_ | (refine depU_fact rfl rfl rfl ?_; intro v hu hv) | refine depU_skip rfl ?_ | refine depU_none rfl ?_)); apply Pure2.mk; (case want => rfl); intro K hk; exact W_field (by first | rfl | assumption) hk)); (apply stepsU_cons; case h1 => (apply V_want; (case hd => rfl); intro c u H' w' hB hG; have hS' := hG.sub; have hS2' := hG.subOld; (try (have hM0 := hG.m.1 hB)); (repeat (first | refine depU_eq rfl rfl rfl ?_ | (refine depU_fact rfl rfl rfl ?_; intro v hu hv) | refine depU_skip rfl ?_ | refine depU_none rfl ?_)); apply Pure2.mk; (case want => rfl); intro K hk; exact W_loadM (by first | rfl | assumption) (by assumption) (by rfl) hk)); (apply stepsU_cons; case h1 => (apply V_want; (case hd => rfl); intro c u H' w' hB hG; have hS' := hG.sub; have hS2' := hG.subOld; (try (have hM0 := hG.m.1 hB)); (repeat (first | refine depU_eq rfl rfl rfl ?_ | (refine depU_fact rfl rfl rfl ?_; intro v hu hv) | refine depU_skip rfl ?_ | refine depU_none rfl ?_)); apply Pure2.mk; (case want => rfl); intro K hk; exact W_movePtr (by first | rfl | assumption) hk)); (apply stepsU_cons; case h1 => (apply V_want; (case hd => rfl); intro c u H' w' hB hG; have hS' := hG.sub; have hS2' := hG.subOld; (try (have hM0 := hG.m.1 hB)); (repeat (first | refine depU_eq rfl rfl rfl ?_ | (refine depU_fact rfl rfl rfl ?_; intro v hu hv) | refine depU_skip rfl ?_ | refine depU_none rfl ?_)); apply Pure2.mk; (case want => rfl); intro K hk; exact W_nilCheck (by first | rfl | assumption) hk)); (apply stepsU_cons; case h1 => (apply V_want; (case hd => rfl); intro c u H' w' hB hG; have hS' := hG.sub; have hS2' := hG.subOld; (try (have hM0 := hG.m.1 hB)); (repeat (first | refine depU_eq rfl rfl rfl ?_ | (refine depU_fact rfl rfl rfl ?_; intro v hu hv) | refine depU_skip rfl ?_ | refine depU_none rfl ?_)); apply Pure2.mk; (case want => rfl); intro K hk; exact W_field (by first | rfl | assumption) hk)); (apply stepsU_cons; case h1 => (apply V_want; (case hd => rfl); intro c u H' w' hB hG; have hS' := hG.sub; have hS2' := hG.subOld; (try (have hM0 := hG.m.1 hB)); (repeat (first | refine depU_eq rfl rfl rfl ?_ | (refine depU_fact rfl rfl rfl ?_; intro v hu hv) | refine depU_skip rfl ?_ | refine depU_none rfl ?_)); apply Pure2.mk; (case want => rfl); intro K hk; exact W_field (by first | rfl | assumption) hk)); (apply stepsU_cons; case h1 => (apply V_want; (case hd => rfl); intro c u H' w' hB hG; have hS' := hG.sub; have hS2' := hG.subOld; (try (have hM0 := hG.m.1 hB)); (repeat (first | refine depU_eq rfl rfl rfl ?_ | (refine depU_fact rfl rfl rfl ?_; intro v hu hv) | refine depU_skip rfl ?_ | refine depU_none rfl ?_)); apply Pure2.mk; (case want => rfl); intro K hk; exact W_loadM (by first | rfl | assumption) (by assumption) (by rfl) hk)))
    (apply stepsU_cons; case h1 => (refine V_factG (by rfl) (φ := (fun v H => IterV Try.prog encP (toL (ent t.items i).key t.items) v H)) ?_; intro c' u H' w' hB hG; have hS' := hG.sub; (repeat (first | refine depU_eq rfl rfl rfl ?_ | (refine depU_fact rfl rfl rfl ?_; intro v hu hv) | refine depU_skip rfl ?_ | refine depU_none rfl ?_)); refine depU_nil ⟨rfl, ?_⟩; refine W_call hS' (by rfl) (backFrom_c _ t (ent t.items i).key (ht.mono hG.le).at_) ?_; intro v H3 w3 hG3 hr; exact ⟨H3, hG3.le, hG.trans hG3, fun H'' hle => hr.mono hle⟩))
    ((apply stepsU_cons; case h1 => (apply V_want; (case hd => rfl); intro c u H' w' hB hG; have hS' := hG.sub; have hS2' := hG.subOld; (try (have hM0 := hG.m.1 hB)); (repeat (first | refine depU_eq rfl rfl rfl ?_ | (refine depU_fact rfl rfl rfl ?_; intro v hu hv) | refine depU_skip rfl ?_ | refine depU_none rfl ?_)); apply Pure2.mk; (case want => rfl); intro K hk; exact W_movePtr (by first | rfl | assumption) hk)); (apply stepsU_cons; case h1 => (apply V_want; (case hd => rfl); intro c u H' w' hB hG; have hS' := hG.sub; have hS2' := hG.subOld; (try (have hM0 := hG.m.1 hB)); (repeat (first | refine depU_eq rfl rfl rfl ?_ | (refine depU_fact rfl rfl rfl ?_; intro v hu hv) | refine depU_skip rfl ?_ | refine depU_none rfl ?_)); apply Pure2.mk; (case want => rfl); intro K hk; exact W_nilCheck (by first | rfl | assumption) hk)); (apply stepsU_cons; case h1 => (apply V_want; (case hd => rfl); intro c u H' w' hB hG; have hS' := hG.sub; have hS2' := hG.subOld; (try (have hM0 := hG.m.1 hB)); (repeat (first | refine depU_eq rfl rfl rfl ?_ | (refine depU_fact rfl rfl rfl ?_; intro v hu hv) | refine depU_skip rfl ?_ | refine depU_none rfl ?_)); apply Pure2.mk; (case want => rfl); intro K hk; exact W_field (by first | rfl | assumption) hk)); (apply stepsU_cons; case h1 => (apply V_want; (case hd => rfl); intro c u H' w' hB hG; have hS' := hG.sub; have hS2' := hG.subOld; (try (have hM0 := hG.m.1 hB)); (repeat (first | refine depU_eq rfl rfl rfl ?_ | (refine depU_fact rfl rfl rfl ?_; intro v hu hv) | refine depU_skip rfl ?_ | refine depU_none rfl ?_)); apply Pure2.mk; (case want => rfl); intro K hk; exact W_field (by first | rfl | assumption) hk)); (apply stepsU_cons; case h1 => (apply V_want; (case hd => rfl); intro c u H' w' hB hG; have hS' := hG.sub; have hS2' := hG.subOld; (try (have hM0 := hG.m.1 hB)); (repeat (first | refine depU_eq rfl rfl rfl ?_ | (refine depU_fact rfl rfl rfl ?_; intro v hu hv) | refine depU_skip rfl ?_ | refine depU_none rfl ?_)); apply Pure2.mk; (case want => rfl); intro K hk; exact W_loadM (by first | rfl | assumption) (by assumption) (by rfl) hk)))
    apply stepsU_cons
    · refine V_effG (φ := fun v _ => v = .bool (firstNot (ent t.items i).key (toL (ent t.items i).key t.items)).isSome) ?_
      intro u' H' w' hG'
      have hS' := hG'.sub
      have hq := hG'.m.1 (Nat.le_refl _)
      (repeat (first | refine depU_eq rfl rfl rfl ?_ | (refine depU_fact rfl rfl rfl ?_; intro v hu hv) | refine depU_skip rfl ?_ | refine depU_none rfl ?_))
      refine depU_nil ⟨rfl, ?_⟩
      refine W_callW (by rfl) ((to_c hS' hq hv).mono ?_)
      rintro v w3 ⟨H3, hT3, rfl, hm3⟩
      exact ⟨H3, hT3.le, hG'.next (hG'.grow.trans hT3) hT3.le ⟨fun h => by omega, fun _ => hm3⟩, fun _ _ => rfl⟩
    ((apply stepsU_cons; case h1 => (apply V_pure; (case hd => rfl); intro c u H' w' hB hG; have hS' := hG.sub; have hS2' := hG.subOld; (repeat (first | refine depU_eq rfl rfl rfl ?_ | (refine depU_fact rfl rfl rfl ?_; intro v hu hv) | refine depU_skip rfl ?_ | refine depU_none rfl ?_)); apply Pure1.mk; intro K hk; exact W_pickT (by first | rfl | assumption) (by first | rfl | assumption) hk)); (apply stepsU_cons; case h1 => (apply V_pure; (case hd => rfl); intro c u H' w' hB hG; have hS' := hG.sub; have hS2' := hG.subOld; (repeat (first | refine depU_eq rfl rfl rfl ?_ | (refine depU_fact rfl rfl rfl ?_; intro v hu hv) | refine depU_skip rfl ?_ | refine depU_none rfl ?_)); apply Pure1.mk; intro K hk; exact W_assignBool (by first | rfl | assumption) hk)); exact trivial)
  · intro c u H' w' hc' hT hle hM
    (repeat (first | refine finU_eq rfl rfl ?_ | (refine finU_fact rfl ?_; intro v hu hv) | refine finU_none rfl ?_)); refine finU_nil ?_
    have hm := hM.2 hc'
    (refine CW_ret ?_)
    exact ⟨_, ResW_one (v := .bool _) rfl, moved_of (Grow.refl hS) (pos_prev ht.rise hi) ⟨H', hT, rfl, hm⟩⟩
theorem entry_cur {root : Value} {k0 v0 : ByteArray} {t0 : Bool} (hS : Sub H0 w0) (hm : Mut H0 w0 b [root, .string k0, .string v0, .bool t0]) :
    CallW Try.prog 33 [.pointer (some ⟨b, 0, none⟩)].toArray w0 fun v w' => ∃ H', Grow H0 w0 H' w' ∧ v = .tuple #[.agg #[.string k0, .string v0], .bool t0] := by
  refine CallW_of_CW Try.func33 rfl Try.ntmps33 Try.results33 rfl ?_
  have hG := Grow.refl hS
  (refine CW_seq ?_; refine CW_region rfl ?_)
  (refine S_op (W_alloc hS ?_)); intro w c2b hG' c2h c2; replace c2h := Nat.le_trans hG.below.size (Nat.le_of_eq c2h); replace hG := hG.trans hG'; replace hS := hG'.sub; clear hG'
  (refine S_op ?_; refine W_assignBool (by first | rfl | assumption) ?_; refine S_nil ?_; refine CW_seq ?_; refine CW_seq ?_; refine CW_region rfl ?_; refine S_op ?_; refine W_movePtr (by first | rfl | assumption) ?_; refine S_op ?_; refine W_peqnil (by first | rfl | assumption) (by first | rfl | assumption) ?_; refine S_nil ?_; refine CW_false (by first | rfl | assumption) ?_; refine CW_skip ?_; refine CW_seq ?_)
  apply CW_region_gn (fun k H w => Mut H w c2b (match k with | 0 => [.string ⟨#[]⟩, .string ⟨#[]⟩] | _ => [.string k0, .string v0])) 0 [_, _, _, _, _, _, _, _, _, _] [none, none, none, none, none, none, none, none, some 0, none] [some 7, some 8, some 9, some 10, some 11, some 12, some 13, some 14, none, some 3] [7, 8, 9, 10, 11, 12, 13, 14, 3] mixed rfl rfl rfl rfl (by decide) rfl rfl rfl (by assumption)
  · exact c2
  · exact fun c H w H' w' h hg => h.grow hg
  · ((apply steps_cons; case h1 => (apply A_pure; intro c u H' w' hG; have hS' := hG.sub; have hS2' := hG.subOld; (try (have hM0 := hm.grow hG.grow)); (repeat (first | refine depGo_eq rfl rfl rfl ?_ | (refine depGo_fact rfl rfl rfl ?_; intro v hv) | refine depGo_skip rfl ?_ | refine depGo_none rfl ?_)); apply Pure1.mk; intro K hk; exact W_movePtr (by first | rfl | assumption) hk)); (apply steps_cons; case h1 => (apply A_pure; intro c u H' w' hG; have hS' := hG.sub; have hS2' := hG.subOld; (try (have hM0 := hm.grow hG.grow)); (repeat (first | refine depGo_eq rfl rfl rfl ?_ | (refine depGo_fact rfl rfl rfl ?_; intro v hv) | refine depGo_skip rfl ?_ | refine depGo_none rfl ?_)); apply Pure1.mk; intro K hk; exact W_nilCheck (by first | rfl | assumption) hk)); (apply steps_cons; case h1 => (apply A_pure; intro c u H' w' hG; have hS' := hG.sub; have hS2' := hG.subOld; (try (have hM0 := hm.grow hG.grow)); (repeat (first | refine depGo_eq rfl rfl rfl ?_ | (refine depGo_fact rfl rfl rfl ?_; intro v hv) | refine depGo_skip rfl ?_ | refine depGo_none rfl ?_)); apply Pure1.mk; intro K hk; exact W_field (by first | rfl | assumption) hk)); (apply steps_cons; case h1 => (apply A_pure; intro c u H' w' hG; have hS' := hG.sub; have hS2' := hG.subOld; (try (have hM0 := hm.grow hG.grow)); (repeat (first | refine depGo_eq rfl rfl rfl ?_ | (refine depGo_fact rfl rfl rfl ?_; intro v hv) | refine depGo_skip rfl ?_ | refine depGo_none rfl ?_)); apply Pure1.mk; intro K hk; exact W_loadMAggC (by first | rfl | assumption) (by assumption) (by rfl) (by rfl) hk)); (apply steps_cons; case h1 => (apply A_pure; intro c u H' w' hG; have hS' := hG.sub; have hS2' := hG.subOld; (try (have hM0 := hm.grow hG.grow)); (repeat (first | refine depGo_eq rfl rfl rfl ?_ | (refine depGo_fact rfl rfl rfl ?_; intro v hv) | refine depGo_skip rfl ?_ | refine depGo_none rfl ?_)); apply Pure1.mk; intro K hk; exact W_movePtr (by first | rfl | assumption) hk)); (apply steps_cons; case h1 => (apply A_pure; intro c u H' w' hG; have hS' := hG.sub; have hS2' := hG.subOld; (try (have hM0 := hm.grow hG.grow)); (repeat (first | refine depGo_eq rfl rfl rfl ?_ | (refine depGo_fact rfl rfl rfl ?_; intro v hv) | refine depGo_skip rfl ?_ | refine depGo_none rfl ?_)); apply Pure1.mk; intro K hk; exact W_nilCheck (by first | rfl | assumption) hk)); (apply steps_cons; case h1 => (apply A_pure; intro c u H' w' hG; have hS' := hG.sub; have hS2' := hG.subOld; (try (have hM0 := hm.grow hG.grow)); (repeat (first | refine depGo_eq rfl rfl rfl ?_ | (refine depGo_fact rfl rfl rfl ?_; intro v hv) | refine depGo_skip rfl ?_ | refine depGo_none rfl ?_)); apply Pure1.mk; intro K hk; exact W_field (by first | rfl | assumption) hk)); (apply steps_cons; case h1 => (apply A_pure; intro c u H' w' hG; have hS' := hG.sub; have hS2' := hG.subOld; (try (have hM0 := hm.grow hG.grow)); (repeat (first | refine depGo_eq rfl rfl rfl ?_ | (refine depGo_fact rfl rfl rfl ?_; intro v hv) | refine depGo_skip rfl ?_ | refine depGo_none rfl ?_)); apply Pure1.mk; intro K hk; exact W_loadM (by first | rfl | assumption) (by assumption) (by rfl) hk)))
    apply steps_cons
    · refine A_eff (φ := fun _ _ => True) ?_
      intro u' H' w' hG'
      have hS' := hG'.sub
      have hq : Mut H' w' c2b [.string ⟨#[]⟩, .string ⟨#[]⟩] := hG'.m
      (repeat (first | refine depGo_eq rfl rfl rfl ?_ | (refine depGo_fact rfl rfl rfl ?_; intro v hv) | refine depGo_skip rfl ?_ | refine depGo_none rfl ?_))
      refine depGo_nil ?_
      refine W_storeM (o := 0) (vs := [.string k0, .string v0]) (by rfl) (by rfl) hq (by rfl) (OneCells.of_all (by rfl)) (by rfl) (Nat.le_of_ble_eq_true (by rfl)) ?_
      intro w3 hgb hm3
      exact ⟨H', HLe.refl _, hG'.next (hG'.grow.grownBy hgb (fun g h => by cases h; exact ⟨hq.out, c2h⟩)) hm3, fun _ _ => trivial⟩
    ((apply steps_cons; case h1 => (apply A_pure; intro c u H' w' hG; have hS' := hG.sub; have hS2' := hG.subOld; (repeat (first | refine depGo_eq rfl rfl rfl ?_ | (refine depGo_fact rfl rfl rfl ?_; intro v hv) | refine depGo_skip rfl ?_ | refine depGo_none rfl ?_)); apply Pure1.mk; intro K hk; exact W_assignBool (by first | rfl | assumption) hk)); exact trivial)
  · intro k H' w' hk hG hle hM
    (repeat (first | refine fin_eq rfl rfl ?_ | (refine fin_fact rfl ?_; intro v hv) | refine fin_none rfl ?_)); refine fin_nil ?_
    obtain ⟨k, rfl⟩ : ∃ q, k = q + 1 := ⟨k - 1, by omega⟩
    replace hM : Mut H' w' c2b [.string k0, .string v0] := hM
    (refine CW_ret ?_)
    exact ⟨_, ResW_v2 (v2 := .bool _) (RV_cell rfl hM rfl) rfl, H', hG, rfl⟩
theorem new_cur (H : HF) (t : Tr) : ∀ (w : World), Sub H w → CallW Try.prog 31 [t.val].toArray w fun v w' => ∃ b, v = .pointer (some ⟨b, 0, none⟩) ∧ Grow H w H w' ∧ w.heap.size ≤ b ∧ CurAt H w' b t none := by
  intro w hS
  have hc := Tr.val_cells t
  refine CallW_of_CW Try.func31 rfl Try.ntmps31 Try.results31 rfl ?_
  have hG := Grow.refl hS
  (refine CW_seq ?_; refine CW_region rfl ?_; refine S_op ?_; refine W_assignPtr (by first | rfl | assumption) ?_; refine S_nil ?_; refine CW_seq ?_; refine CW_region rfl ?_; refine S_op ?_; refine W_movePtr (by first | rfl | assumption) ?_; refine S_op ?_; refine W_build (by rfl) ?_)
  refine S_op ?_
  refine W_boxM (cs := [t.val, .string ⟨#[]⟩, .string ⟨#[]⟩, .bool false]) hS (by rfl) (by rfl) ?_
  intro w' b hG' hb hm
  (refine S_op ?_; refine W_assignPtr (by first | rfl | assumption) ?_; refine S_nil ?_; refine CW_ret ?_)
  exact ⟨_, ResW_one (v := .pointer _) rfl, b, rfl, hG', by omega, hm⟩
end
/-! ### Of a nil cursor -/
section
variable (H : HF)
theorem first_nil : Fn Try.prog 37 [.pointer none] H fun v _ => v = .bool false := by
  refine Fn_of_CW Try.func37 rfl Try.ntmps37 Try.results37 rfl fun w hS => ?_; have hG := Grow.refl hS; have hS0 := hS
  (refine CW_seq ?_; refine CW_region rfl ?_; refine S_op ?_; refine W_assignBool (by first | rfl | assumption) ?_; refine S_nil ?_; refine CW_seq ?_; refine CW_region rfl ?_; refine S_op ?_; refine W_movePtr (by first | rfl | assumption) ?_; refine S_op ?_; refine W_pneqnil (by first | rfl | assumption) (by first | rfl | assumption) ?_; refine S_op ?_; refine W_moveBool (by first | rfl | assumption) ?_; refine S_pass (by rfl) ?_; refine S_pass (by rfl) ?_; refine S_pass (by rfl) ?_; refine S_pass (by rfl) ?_; refine S_pass (by rfl) ?_; refine S_pass (by rfl) ?_; refine S_pass (by rfl) ?_; refine S_op ?_; refine W_pickF (by first | rfl | assumption) (by first | rfl | assumption) ?_; refine S_op ?_; refine W_assignBool (by first | rfl | assumption) ?_; refine S_nil ?_; refine CW_ret ?_)
  exact ⟨_, ResW_one (v := .bool _) rfl, H, hG, rfl⟩
theorem last_nil : Fn Try.prog 39 [.pointer none] H fun v _ => v = .bool false := by
  refine Fn_of_CW Try.func39 rfl Try.ntmps39 Try.results39 rfl fun w hS => ?_; have hG := Grow.refl hS; have hS0 := hS
  (refine CW_seq ?_; refine CW_region rfl ?_; refine S_op ?_; refine W_assignBool (by first | rfl | assumption) ?_; refine S_nil ?_; refine CW_seq ?_; refine CW_region rfl ?_; refine S_op ?_; refine W_movePtr (by first | rfl | assumption) ?_; refine S_op ?_; refine W_pneqnil (by first | rfl | assumption) (by first | rfl | assumption) ?_; refine S_op ?_; refine W_moveBool (by first | rfl | assumption) ?_; refine S_pass (by rfl) ?_; refine S_pass (by rfl) ?_; refine S_pass (by rfl) ?_; refine S_pass (by rfl) ?_; refine S_pass (by rfl) ?_; refine S_pass (by rfl) ?_; refine S_pass (by rfl) ?_; refine S_op ?_; refine W_pickF (by first | rfl | assumption) (by first | rfl | assumption) ?_; refine S_op ?_; refine W_assignBool (by first | rfl | assumption) ?_; refine S_nil ?_; refine CW_ret ?_)
  exact ⟨_, ResW_one (v := .bool _) rfl, H, hG, rfl⟩
theorem seek_nil (k : ByteArray) : Fn Try.prog 32 [.pointer none, .string k] H fun v _ => v = .bool false := by
  refine Fn_of_CW Try.func32 rfl Try.ntmps32 Try.results32 rfl fun w hS => ?_; have hG := Grow.refl hS; have hS0 := hS
  (refine CW_seq ?_; refine CW_region rfl ?_; refine S_op ?_; refine W_assignBool (by first | rfl | assumption) ?_; refine S_nil ?_; refine CW_seq ?_; refine CW_region rfl ?_; refine S_op ?_; refine W_movePtr (by first | rfl | assumption) ?_; refine S_op ?_; refine W_pneqnil (by first | rfl | assumption) (by first | rfl | assumption) ?_; refine S_op ?_; refine W_moveBool (by first | rfl | assumption) ?_; refine S_pass (by rfl) ?_; refine S_pass (by rfl) ?_; refine S_pass (by rfl) ?_; refine S_pass (by rfl) ?_; refine S_pass (by rfl) ?_; refine S_pass (by rfl) ?_; refine S_pass (by rfl) ?_; refine S_pass (by rfl) ?_; refine S_op ?_; refine W_pickF (by first | rfl | assumption) (by first | rfl | assumption) ?_; refine S_op ?_; refine W_assignBool (by first | rfl | assumption) ?_; refine S_nil ?_; refine CW_ret ?_)
  exact ⟨_, ResW_one (v := .bool _) rfl, H, hG, rfl⟩
theorem next_nil : Fn Try.prog 35 [.pointer none] H fun v _ => v = .bool false := by
  refine Fn_of_CW Try.func35 rfl Try.ntmps35 Try.results35 rfl fun w hS => ?_; have hG := Grow.refl hS; have hS0 := hS
  (refine CW_seq ?_; refine CW_region rfl ?_; refine S_op ?_; refine W_assignBool (by first | rfl | assumption) ?_; refine S_nil ?_; refine CW_seq ?_)
  apply CW_region_grow [_, _, _, _, _, _, _, _, _, _, _, _, _, _, _, _, _, _, _, _, _, _, _, _, _, _, _, _] [none, none, none, none, none, none, none, none, none, none, none, none, none, none, none, none, none, none, none, none, none, none, none, none, none, none, none, none] [some 3, some 4, some 5, some 6, some 7, some 8, some 9, some 10, some 11, some 12, some 13, some 14, some 15, some 16, some 17, some 18, some 19, some 20, some 21, some 22, some 23, some 24, some 25, some 26, some 27, some 28, some 29, some 2] [3, 4, 5, 6, 7, 8, 9, 10, 11, 12, 13, 14, 15, 16, 17, 18, 19, 20, 21, 22, 23, 24, 25, 26, 27, 28, 29, 2] mixed rfl rfl rfl rfl (by decide) rfl (by assumption)
  · ((apply steps_cons; case h1 => (apply A_pure; intro c u H' w' hG; have hS' := hG.sub; have hS2' := hG.subOld; (repeat (first | refine depGo_eq rfl rfl rfl ?_ | (refine depGo_fact rfl rfl rfl ?_; intro v hv) | refine depGo_skip rfl ?_ | refine depGo_none rfl ?_)); apply Pure1.mk; intro K hk; exact W_movePtr (by first | rfl | assumption) hk)); (apply steps_cons; case h1 => (apply A_pure; intro c u H' w' hG; have hS' := hG.sub; have hS2' := hG.subOld; (repeat (first | refine depGo_eq rfl rfl rfl ?_ | (refine depGo_fact rfl rfl rfl ?_; intro v hv) | refine depGo_skip rfl ?_ | refine depGo_none rfl ?_)); apply Pure1.mk; intro K hk; exact W_pneqnil (by first | rfl | assumption) (by first | rfl | assumption) hk)); (apply steps_cons; case h1 => (apply A_pure; intro c u H' w' hG; have hS' := hG.sub; have hS2' := hG.subOld; (repeat (first | refine depGo_eq rfl rfl rfl ?_ | (refine depGo_fact rfl rfl rfl ?_; intro v hv) | refine depGo_skip rfl ?_ | refine depGo_none rfl ?_)); apply Pure1.mk; intro K hk; exact W_moveBool (by first | rfl | assumption) hk)); (apply steps_cons; case h1 => (apply A_pass; intro c u H' w' hG; (repeat (first | refine depGo_eq rfl rfl rfl ?_ | (refine depGo_fact rfl rfl rfl ?_; intro v hv) | refine depGo_skip rfl ?_ | refine depGo_none rfl ?_)); exact Pass1.mk rfl)); (apply steps_cons; case h1 => (apply A_pass; intro c u H' w' hG; (repeat (first | refine depGo_eq rfl rfl rfl ?_ | (refine depGo_fact rfl rfl rfl ?_; intro v hv) | refine depGo_skip rfl ?_ | refine depGo_none rfl ?_)); exact Pass1.mk rfl)); (apply steps_cons; case h1 => (apply A_pass; intro c u H' w' hG; (repeat (first | refine depGo_eq rfl rfl rfl ?_ | (refine depGo_fact rfl rfl rfl ?_; intro v hv) | refine depGo_skip rfl ?_ | refine depGo_none rfl ?_)); exact Pass1.mk rfl)); (apply steps_cons; case h1 => (apply A_pass; intro c u H' w' hG; (repeat (first | refine depGo_eq rfl rfl rfl ?_ | (refine depGo_fact rfl rfl rfl ?_; intro v hv) | refine depGo_skip rfl ?_ | refine depGo_none rfl ?_)); exact Pass1.mk rfl)); (apply steps_cons; case h1 => (apply A_pure; intro c u H' w' hG; have hS' := hG.sub; have hS2' := hG.subOld; (repeat (first | refine depGo_eq rfl rfl rfl ?_ | (refine depGo_fact rfl rfl rfl ?_; intro v hv) | refine depGo_skip rfl ?_ | refine depGo_none rfl ?_)); apply Pure1.mk; intro K hk; exact W_pickF (by first | rfl | assumption) (by first | rfl | assumption) hk)); (apply steps_cons; case h1 => (apply A_pure; intro c u H' w' hG; have hS' := hG.sub; have hS2' := hG.subOld; (repeat (first | refine depGo_eq rfl rfl rfl ?_ | (refine depGo_fact rfl rfl rfl ?_; intro v hv) | refine depGo_skip rfl ?_ | refine depGo_none rfl ?_)); apply Pure1.mk; intro K hk; exact W_moveBool (by first | rfl | assumption) hk)); (apply steps_cons; case h1 => (apply A_pass; intro c u H' w' hG; (repeat (first | refine depGo_eq rfl rfl rfl ?_ | (refine depGo_fact rfl rfl rfl ?_; intro v hv) | refine depGo_skip rfl ?_ | refine depGo_none rfl ?_)); exact Pass1.mk rfl)); (apply steps_cons; case h1 => (apply A_pass; intro c u H' w' hG; (repeat (first | refine depGo_eq rfl rfl rfl ?_ | (refine depGo_fact rfl rfl rfl ?_; intro v hv) | refine depGo_skip rfl ?_ | refine depGo_none rfl ?_)); exact Pass1.mk rfl)); (apply steps_cons; case h1 => (apply A_pass; intro c u H' w' hG; (repeat (first | refine depGo_eq rfl rfl rfl ?_ | (refine depGo_fact rfl rfl rfl ?_; intro v hv) | refine depGo_skip rfl ?_ | refine depGo_none rfl ?_)); exact Pass1.mk rfl)); (apply steps_cons; case h1 => (apply A_pass; intro c u H' w' hG; (repeat (first | refine depGo_eq rfl rfl rfl ?_ | (refine depGo_fact rfl rfl rfl ?_; intro v hv) | refine depGo_skip rfl ?_ | refine depGo_none rfl ?_)); exact Pass1.mk rfl)); (apply steps_cons; case h1 => (apply A_pass; intro c u H' w' hG; (repeat (first | refine depGo_eq rfl rfl rfl ?_ | (refine depGo_fact rfl rfl rfl ?_; intro v hv) | refine depGo_skip rfl ?_ | refine depGo_none rfl ?_)); exact Pass1.mk rfl)); (apply steps_cons; case h1 => (apply A_pass; intro c u H' w' hG; (repeat (first | refine depGo_eq rfl rfl rfl ?_ | (refine depGo_fact rfl rfl rfl ?_; intro v hv) | refine depGo_skip rfl ?_ | refine depGo_none rfl ?_)); exact Pass1.mk rfl)); (apply steps_cons; case h1 => (apply A_pass; intro c u H' w' hG; (repeat (first | refine depGo_eq rfl rfl rfl ?_ | (refine depGo_fact rfl rfl rfl ?_; intro v hv) | refine depGo_skip rfl ?_ | refine depGo_none rfl ?_)); exact Pass1.mk rfl)); (apply steps_cons; case h1 => (apply A_pass; intro c u H' w' hG; (repeat (first | refine depGo_eq rfl rfl rfl ?_ | (refine depGo_fact rfl rfl rfl ?_; intro v hv) | refine depGo_skip rfl ?_ | refine depGo_none rfl ?_)); exact Pass1.mk rfl)); (apply steps_cons; case h1 => (apply A_pass; intro c u H' w' hG; (repeat (first | refine depGo_eq rfl rfl rfl ?_ | (refine depGo_fact rfl rfl rfl ?_; intro v hv) | refine depGo_skip rfl ?_ | refine depGo_none rfl ?_)); exact Pass1.mk rfl)); (apply steps_cons; case h1 => (apply A_pass; intro c u H' w' hG; (repeat (first | refine depGo_eq rfl rfl rfl ?_ | (refine depGo_fact rfl rfl rfl ?_; intro v hv) | refine depGo_skip rfl ?_ | refine depGo_none rfl ?_)); exact Pass1.mk rfl)); (apply steps_cons; case h1 => (apply A_pass; intro c u H' w' hG; (repeat (first | refine depGo_eq rfl rfl rfl ?_ | (refine depGo_fact rfl rfl rfl ?_; intro v hv) | refine depGo_skip rfl ?_ | refine depGo_none rfl ?_)); exact Pass1.mk rfl)); (apply steps_cons; case h1 => (apply A_pass; intro c u H' w' hG; (repeat (first | refine depGo_eq rfl rfl rfl ?_ | (refine depGo_fact rfl rfl rfl ?_; intro v hv) | refine depGo_skip rfl ?_ | refine depGo_none rfl ?_)); exact Pass1.mk rfl)); (apply steps_cons; case h1 => (apply A_pass; intro c u H' w' hG; (repeat (first | refine depGo_eq rfl rfl rfl ?_ | (refine depGo_fact rfl rfl rfl ?_; intro v hv) | refine depGo_skip rfl ?_ | refine depGo_none rfl ?_)); exact Pass1.mk rfl)); (apply steps_cons; case h1 => (apply A_pass; intro c u H' w' hG; (repeat (first | refine depGo_eq rfl rfl rfl ?_ | (refine depGo_fact rfl rfl rfl ?_; intro v hv) | refine depGo_skip rfl ?_ | refine depGo_none rfl ?_)); exact Pass1.mk rfl)); (apply steps_cons; case h1 => (apply A_pass; intro c u H' w' hG; (repeat (first | refine depGo_eq rfl rfl rfl ?_ | (refine depGo_fact rfl rfl rfl ?_; intro v hv) | refine depGo_skip rfl ?_ | refine depGo_none rfl ?_)); exact Pass1.mk rfl)); (apply steps_cons; case h1 => (apply A_pass; intro c u H' w' hG; (repeat (first | refine depGo_eq rfl rfl rfl ?_ | (refine depGo_fact rfl rfl rfl ?_; intro v hv) | refine depGo_skip rfl ?_ | refine depGo_none rfl ?_)); exact Pass1.mk rfl)); (apply steps_cons; case h1 => (apply A_pass; intro c u H' w' hG; (repeat (first | refine depGo_eq rfl rfl rfl ?_ | (refine depGo_fact rfl rfl rfl ?_; intro v hv) | refine depGo_skip rfl ?_ | refine depGo_none rfl ?_)); exact Pass1.mk rfl)); (apply steps_cons; case h1 => (apply A_pure; intro c u H' w' hG; have hS' := hG.sub; have hS2' := hG.subOld; (repeat (first | refine depGo_eq rfl rfl rfl ?_ | (refine depGo_fact rfl rfl rfl ?_; intro v hv) | refine depGo_skip rfl ?_ | refine depGo_none rfl ?_)); apply Pure1.mk; intro K hk; exact W_pickF (by first | rfl | assumption) (by first | rfl | assumption) hk)); (apply steps_cons; case h1 => (apply A_pure; intro c u H' w' hG; have hS' := hG.sub; have hS2' := hG.subOld; (repeat (first | refine depGo_eq rfl rfl rfl ?_ | (refine depGo_fact rfl rfl rfl ?_; intro v hv) | refine depGo_skip rfl ?_ | refine depGo_none rfl ?_)); apply Pure1.mk; intro K hk; exact W_assignBool (by first | rfl | assumption) hk)); exact trivial)
  · (intro H' w' hG; (repeat (first | refine fin_eq rfl rfl ?_ | (refine fin_fact rfl ?_; intro v hv) | refine fin_none rfl ?_)); refine fin_nil ?_)
    (refine CW_ret ?_)
    exact ⟨_, ResW_one (v := .bool _) rfl, H', hG, rfl⟩
theorem prev_nil : Fn Try.prog 34 [.pointer none] H fun v _ => v = .bool false := by
  refine Fn_of_CW Try.func34 rfl Try.ntmps34 Try.results34 rfl fun w hS => ?_; have hG := Grow.refl hS; have hS0 := hS
  (refine CW_seq ?_; refine CW_region rfl ?_; refine S_op ?_; refine W_assignBool (by first | rfl | assumption) ?_; refine S_nil ?_; refine CW_seq ?_)
  apply CW_region_grow [_, _, _, _, _, _, _, _, _, _, _, _, _, _, _, _, _, _, _, _, _, _, _, _, _, _, _, _] [none, none, none, none, none, none, none, none, none, none, none, none, none, none, none, none, none, none, none, none, none, none, none, none, none, none, none, none] [some 3, some 4, some 5, some 6, some 7, some 8, some 9, some 10, some 11, some 12, some 13, some 14, some 15, some 16, some 17, some 18, some 19, some 20, some 21, some 22, some 23, some 24, some 25, some 26, some 27, some 28, some 29, some 2] [3, 4, 5, 6, 7, 8, 9, 10, 11, 12, 13, 14, 15, 16, 17, 18, 19, 20, 21, 22, 23, 24, 25, 26, 27, 28, 29, 2] mixed rfl rfl rfl rfl (by decide) rfl (by assumption)
  · ((apply steps_cons; case h1 => (apply A_pure; intro c u H' w' hG; have hS' := hG.sub; have hS2' := hG.subOld; (repeat (first | refine depGo_eq rfl rfl rfl ?_ | (refine depGo_fact rfl rfl rfl ?_; intro v hv) | refine depGo_skip rfl ?_ | refine depGo_none rfl ?_)); apply Pure1.mk; intro K hk; exact W_movePtr (by first | rfl | assumption) hk)); (apply steps_cons; case h1 => (apply A_pure; intro c u H' w' hG; have hS' := hG.sub; have hS2' := hG.subOld; (repeat (first | refine depGo_eq rfl rfl rfl ?_ | (refine depGo_fact rfl rfl rfl ?_; intro v hv) | refine depGo_skip rfl ?_ | refine depGo_none rfl ?_)); apply Pure1.mk; intro K hk; exact W_pneqnil (by first | rfl | assumption) (by first | rfl | assumption) hk)); (apply steps_cons; case h1 => (apply A_pure; intro c u H' w' hG; have hS' := hG.sub; have hS2' := hG.subOld; (repeat (first | refine depGo_eq rfl rfl rfl ?_ | (refine depGo_fact rfl rfl rfl ?_; intro v hv) | refine depGo_skip rfl ?_ | refine depGo_none rfl ?_)); apply Pure1.mk; intro K hk; exact W_moveBool (by first | rfl | assumption) hk)); (apply steps_cons; case h1 => (apply A_pass; intro c u H' w' hG; (repeat (first | refine depGo_eq rfl rfl rfl ?_ | (refine depGo_fact rfl rfl rfl ?_; intro v hv) | refine depGo_skip rfl ?_ | refine depGo_none rfl ?_)); exact Pass1.mk rfl)); (apply steps_cons; case h1 => (apply A_pass; intro c u H' w' hG; (repeat (first | refine depGo_eq rfl rfl rfl ?_ | (refine depGo_fact rfl rfl rfl ?_; intro v hv) | refine depGo_skip rfl ?_ | refine depGo_none rfl ?_)); exact Pass1.mk rfl)); (apply steps_cons; case h1 => (apply A_pass; intro c u H' w' hG; (repeat (first | refine depGo_eq rfl rfl rfl ?_ | (refine depGo_fact rfl rfl rfl ?_; intro v hv) | refine depGo_skip rfl ?_ | refine depGo_none rfl ?_)); exact Pass1.mk rfl)); (apply steps_cons; case h1 => (apply A_pass; intro c u H' w' hG; (repeat (first | refine depGo_eq rfl rfl rfl ?_ | (refine depGo_fact rfl rfl rfl ?_; intro v hv) | refine depGo_skip rfl ?_ | refine depGo_none rfl ?_)); exact Pass1.mk rfl)); (apply steps_cons; case h1 => (apply A_pure; intro c u H' w' hG; have hS' := hG.sub; have hS2' := hG.subOld; (repeat (first | refine depGo_eq rfl rfl rfl ?_ | (refine depGo_fact rfl rfl rfl ?_; intro v hv) | refine depGo_skip rfl ?_ | refine depGo_none rfl ?_)); apply Pure1.mk; intro K hk; exact W_pickF (by first | rfl | assumption) (by first | rfl | assumption) hk)); (apply steps_cons; case h1 => (apply A_pure; intro c u H' w' hG; have hS' := hG.sub; have hS2' := hG.subOld; (repeat (first | refine depGo_eq rfl rfl rfl ?_ | (refine depGo_fact rfl rfl rfl ?_; intro v hv) | refine depGo_skip rfl ?_ | refine depGo_none rfl ?_)); apply Pure1.mk; intro K hk; exact W_moveBool (by first | rfl | assumption) hk)); (apply steps_cons; case h1 => (apply A_pass; intro c u H' w' hG; (repeat (first | refine depGo_eq rfl rfl rfl ?_ | (refine depGo_fact rfl rfl rfl ?_; intro v hv) | refine depGo_skip rfl ?_ | refine depGo_none rfl ?_)); exact Pass1.mk rfl)); (apply steps_cons; case h1 => (apply A_pass; intro c u H' w' hG; (repeat (first | refine depGo_eq rfl rfl rfl ?_ | (refine depGo_fact rfl rfl rfl ?_; intro v hv) | refine depGo_skip rfl ?_ | refine depGo_none rfl ?_)); exact Pass1.mk rfl)); (apply steps_cons; case h1 => (apply A_pass; intro c u H' w' hG; (repeat (first | refine depGo_eq rfl rfl rfl ?_ | (refine depGo_fact rfl rfl rfl ?_; intro v hv) | refine depGo_skip rfl ?_ | refine depGo_none rfl ?_)); exact Pass1.mk rfl)); (apply steps_cons; case h1 => (apply A_pass; intro c u H' w' hG; (repeat (first | refine depGo_eq rfl rfl rfl ?_ | (refine depGo_fact rfl rfl rfl ?_; intro v hv) | refine depGo_skip rfl ?_ | refine depGo_none rfl ?_)); exact Pass1.mk rfl)); (apply steps_cons; case h1 => (apply A_pass; intro c u H' w' hG; (repeat (first | refine depGo_eq rfl rfl rfl ?_ | (refine depGo_fact rfl rfl rfl ?_; intro v hv) | refine depGo_skip rfl ?_ | refine depGo_none rfl ?_)); exact Pass1.mk rfl)); (apply steps_cons; case h1 => (apply A_pass; intro c u H' w' hG; (repeat (first | refine depGo_eq rfl rfl rfl ?_ | (refine depGo_fact rfl rfl rfl ?_; intro v hv) | refine depGo_skip rfl ?_ | refine depGo_none rfl ?_)); exact Pass1.mk rfl)); (apply steps_cons; case h1 => (apply A_pass; intro c u H' w' hG; (repeat (first | refine depGo_eq rfl rfl rfl ?_ | (refine depGo_fact rfl rfl rfl ?_; intro v hv) | refine depGo_skip rfl ?_ | refine depGo_none rfl ?_)); exact Pass1.mk rfl)); (apply steps_cons; case h1 => (apply A_pass; intro c u H' w' hG; (repeat (first | refine depGo_eq rfl rfl rfl ?_ | (refine depGo_fact rfl rfl rfl ?_; intro v hv) | refine depGo_skip rfl ?_ | refine depGo_none rfl ?_)); exact Pass1.mk rfl)); (apply steps_cons; case h1 => (apply A_pass; intro c u H' w' hG; (repeat (first | refine depGo_eq rfl rfl rfl ?_ | (refine depGo_fact rfl rfl rfl ?_; intro v hv) | refine depGo_skip rfl ?_ | refine depGo_none rfl ?_)); exact Pass1.mk rfl)); (apply steps_cons; case h1 => (apply A_pass; intro c u H' w' hG; (repeat (first | refine depGo_eq rfl rfl rfl ?_ | (refine depGo_fact rfl rfl rfl ?_; intro v hv) | refine depGo_skip rfl ?_ | refine depGo_none rfl ?_)); exact Pass1.mk rfl)); (apply steps_cons; case h1 => (apply A_pass; intro c u H' w' hG; (repeat (first | refine depGo_eq rfl rfl rfl ?_ | (refine depGo_fact rfl rfl rfl ?_; intro v hv) | refine depGo_skip rfl ?_ | refine depGo_none rfl ?_)); exact Pass1.mk rfl)); (apply steps_cons; case h1 => (apply A_pass; intro c u H' w' hG; (repeat (first | refine depGo_eq rfl rfl rfl ?_ | (refine depGo_fact rfl rfl rfl ?_; intro v hv) | refine depGo_skip rfl ?_ | refine depGo_none rfl ?_)); exact Pass1.mk rfl)); (apply steps_cons; case h1 => (apply A_pass; intro c u H' w' hG; (repeat (first | refine depGo_eq rfl rfl rfl ?_ | (refine depGo_fact rfl rfl rfl ?_; intro v hv) | refine depGo_skip rfl ?_ | refine depGo_none rfl ?_)); exact Pass1.mk rfl)); (apply steps_cons; case h1 => (apply A_pass; intro c u H' w' hG; (repeat (first | refine depGo_eq rfl rfl rfl ?_ | (refine depGo_fact rfl rfl rfl ?_; intro v hv) | refine depGo_skip rfl ?_ | refine depGo_none rfl ?_)); exact Pass1.mk rfl)); (apply steps_cons; case h1 => (apply A_pass; intro c u H' w' hG; (repeat (first | refine depGo_eq rfl rfl rfl ?_ | (refine depGo_fact rfl rfl rfl ?_; intro v hv) | refine depGo_skip rfl ?_ | refine depGo_none rfl ?_)); exact Pass1.mk rfl)); (apply steps_cons; case h1 => (apply A_pass; intro c u H' w' hG; (repeat (first | refine depGo_eq rfl rfl rfl ?_ | (refine depGo_fact rfl rfl rfl ?_; intro v hv) | refine depGo_skip rfl ?_ | refine depGo_none rfl ?_)); exact Pass1.mk rfl)); (apply steps_cons; case h1 => (apply A_pass; intro c u H' w' hG; (repeat (first | refine depGo_eq rfl rfl rfl ?_ | (refine depGo_fact rfl rfl rfl ?_; intro v hv) | refine depGo_skip rfl ?_ | refine depGo_none rfl ?_)); exact Pass1.mk rfl)); (apply steps_cons; case h1 => (apply A_pure; intro c u H' w' hG; have hS' := hG.sub; have hS2' := hG.subOld; (repeat (first | refine depGo_eq rfl rfl rfl ?_ | (refine depGo_fact rfl rfl rfl ?_; intro v hv) | refine depGo_skip rfl ?_ | refine depGo_none rfl ?_)); apply Pure1.mk; intro K hk; exact W_pickF (by first | rfl | assumption) (by first | rfl | assumption) hk)); (apply steps_cons; case h1 => (apply A_pure; intro c u H' w' hG; have hS' := hG.sub; have hS2' := hG.subOld; (repeat (first | refine depGo_eq rfl rfl rfl ?_ | (refine depGo_fact rfl rfl rfl ?_; intro v hv) | refine depGo_skip rfl ?_ | refine depGo_none rfl ?_)); apply Pure1.mk; intro K hk; exact W_assignBool (by first | rfl | assumption) hk)); exact trivial)
  · (intro H' w' hG; (repeat (first | refine fin_eq rfl rfl ?_ | (refine fin_fact rfl ?_; intro v hv) | refine fin_none rfl ?_)); refine fin_nil ?_)
    (refine CW_ret ?_)
    exact ⟨_, ResW_one (v := .bool _) rfl, H', hG, rfl⟩
theorem entry_nil : Fn Try.prog 33 [.pointer none] H fun v _ => v = .tuple #[.agg #[.string ⟨#[]⟩, .string ⟨#[]⟩], .bool false] := by
  refine Fn_of_CW Try.func33 rfl Try.ntmps33 Try.results33 rfl fun w hS => ?_; have hG := Grow.refl hS; have hS0 := hS
  (refine CW_seq ?_; refine CW_region rfl ?_)
  (refine S_op (W_alloc hS ?_)); intro w c2b hG' c2h c2; replace c2h := Nat.le_trans hG.below.size (Nat.le_of_eq c2h); replace hG := hG.trans hG'; replace hS := hG'.sub; clear hG'
  (refine S_op ?_; refine W_assignBool (by first | rfl | assumption) ?_; refine S_nil ?_; refine CW_seq ?_; refine CW_seq ?_; refine CW_region rfl ?_; refine S_op ?_; refine W_movePtr (by first | rfl | assumption) ?_; refine S_op ?_; refine W_peqT (by first | rfl | assumption) (by first | rfl | assumption) (by first | rfl | assumption) ?_; refine S_nil ?_; refine CW_true (by first | rfl | assumption) ?_; refine CW_seq ?_; refine CW_region rfl ?_; refine S_op ?_; refine W_build (by rfl) ?_)
  (refine S_op0 (W_storeM (o := 0) (vs := [.string ⟨#[]⟩, .string ⟨#[]⟩]) (by rfl) (by rfl) c2 (by rfl) (OneCells.of_all (by rfl)) (by rfl) (Nat.le_of_ble_eq_true (by rfl)) ?_)); intro w hgb' hm'; replace hG := hG.grownBy hgb' (fun g h => by cases h; exact ⟨c2.out, c2h⟩); replace hS := hG.sub; replace c2 : Mut _ w c2b ([.string ⟨#[]⟩, .string ⟨#[]⟩]) := hm'; clear hm'; clear hgb'
  (refine S_op ?_; refine W_assignBool (by first | rfl | assumption) ?_; refine S_nil ?_; refine CW_ret ?_)
  exact ⟨_, ResW_v2 (v2 := .bool _) (RV_cell rfl c2 rfl) rfl, H, hG, rfl⟩
end
end Go.Proofs.Ytgaabmoknpifnaa
/- Layer 12: awake, built, few; the reference's cursor. Conditions: sizes. -/
namespace Go.Proofs.Ytgaabmoknpifnaa
open Go.Proofs Go.RowKit
set_option linter.unusedVariables false
attribute [local irreducible] CW CWD SeqW OpW CallV
set_option maxHeartbeats 4000000
def keyP (l : List Ent) : Option Nat → ByteArray
  | none => ⟨#[]⟩
  | some i => (ent l i).key
def valP (l : List Ent) : Option Nat → ByteArray
  | none => ⟨#[]⟩
  | some i => (ent l i).val
section
variable {H H' : HF} {w w' : World} {b : Nat} {t : Tr} {p : Option Nat}
theorem CurAt.form (h : CurAt H w b t p) : Mut H w b [t.val, .string (keyP t.items p), .string (valP t.items p), .bool p.isSome] := by
  cases p with
  | none => exact h
  | some i => exact h
theorem CurAt.lt (h : CurAt H w b t p) : b < w.heap.size := Mut.lt h
theorem CurAt.turn {S : Nat → Prop} (h : CurAt H w b t p) (hT : Turn S H w H' w') (hs : ¬ S b) : CurAt H' w' b t p := Mut.turn h hT hs
theorem CurAt.grow (h : CurAt H w b t p) (hG : Grow H w H' w') : CurAt H' w' b t p := Mut.grow h hG
theorem CurAt.other {row : Option Nat} (h : CurAt H w b t p) (hg : w.grownBy w' row) (hr : row ≠ some b) : CurAt H w' b t p := Mut.other h hg hr
end
theorem awake12_c (H0 : HF) : Fn Try.prog 29 [] H0 fun v _ => v = .bool true := by
  refine Fn_of_CW Try.func29 rfl Try.ntmps29 Try.results29 rfl fun w0 hS => ?_; have hG := Grow.refl hS
  (refine CW_seq ?_; refine CW_region rfl ?_; refine S_op ?_; refine W_assignBool (by first | rfl | assumption) ?_; refine S_nil ?_; refine CW_seq ?_; refine CW_region rfl ?_; refine S_op ?_; refine W_build (by rfl) ?_)
  have e0 : putE ⟨⟨#[97]⟩, ⟨#[118]⟩⟩ = 0 := by decide
  (refine S_op ?_; refine W_call hS (by rfl) (tPut_c (t := none) ⟨⟨#[97]⟩, ⟨#[118]⟩⟩ (TreeAt.nil (H := H0)) (by simp [Tr.items])) ?_); rintro v H w hG' ⟨t, rfl, _, ht⟩; replace hG := hG.trans hG'; replace hS := hG'.sub; clear hG'
  obtain ⟨ht, hp⟩ := ht e0
  have hit : t.items = [⟨⟨#[97]⟩, ⟨#[118]⟩⟩] := hp.items
  rw [e0]
  (refine S_op ?_; refine W_moveTup (by first | rfl | assumption) ?_; refine S_op ?_; refine W_extract (by first | rfl | assumption) (by rfl) ?_; refine S_op ?_; refine W_extract (by first | rfl | assumption) (by rfl) ?_; refine S_op ?_; refine W_assignPtr (by first | rfl | assumption) ?_; refine S_op ?_; refine W_assignInt (by first | rfl | assumption) ?_; refine S_nil ?_; refine CW_seq ?_; refine CW_region rfl ?_; refine S_op ?_; refine W_movePtr (by first | rfl | assumption) ?_)
  (refine S_op ?_; refine W_callW (by rfl) ((new_cur H t w hS).mono ?_)); rintro v w ⟨ccb, rfl, hG', cch, cc⟩; replace cch := Nat.le_trans hG.below.size cch; replace hG := hG.trans hG'; replace hS := hG'.sub; clear hG'
  have e1 : posL t.items 0 = some 0 := by rw [hit]; rfl
  (refine S_op ?_; refine W_assignPtr (by first | rfl | assumption) ?_; refine S_nil ?_; refine CW_seq ?_; refine CW_seq ?_; refine CW_region rfl ?_; refine S_op ?_; refine W_moveInt (by first | rfl | assumption) ?_; refine S_op ?_; refine W_neqF (by first | rfl | assumption) (by first | rfl | assumption) (by first | omega | rfl) ?_; refine S_op ?_; refine W_moveBool (by first | rfl | assumption) ?_; refine S_want (by rfl) ?_; refine W_movePtr (by first | rfl | assumption) ?_; refine S_want (by rfl) ?_; refine W_peqnil (by first | rfl | assumption) (by first | rfl | assumption) ?_; refine S_op ?_; refine W_pickF (by first | rfl | assumption) (by first | rfl | assumption) ?_; refine S_op ?_; refine W_moveBool (by first | rfl | assumption) ?_; refine S_want (by rfl) ?_; refine W_movePtr (by first | rfl | assumption) ?_)
  (refine S_want (by rfl) ?_; refine W_callW (by rfl) ((first_cur hS ht cc).mono ?_)); rintro v w ⟨H, hT', rfl, cc⟩; replace hG := Turn.grow hG hT' (fun k e => by rw [e]; exact cch); replace hS := hG.sub; replace ht := ht.mono hT'.le; clear hT'
  rw [e1] at cc ⊢
  (refine S_want (by rfl) ?_; refine W_not (by first | rfl | assumption) ?_; refine S_op ?_; refine W_pickF (by first | rfl | assumption) (by first | rfl | assumption) ?_; refine S_nil ?_; refine CW_false (by first | rfl | assumption) ?_; refine CW_skip ?_; refine CW_seq ?_; refine CW_region rfl ?_; refine S_op ?_; refine W_movePtr (by first | rfl | assumption) ?_)
  have hf := cc.form
  have e2 : keyP t.items (some 0) = ⟨#[97]⟩ ∧ valP t.items (some 0) = ⟨#[118]⟩ := by rw [hit]; exact ⟨rfl, rfl⟩
  rw [e2.1, e2.2] at hf
  (refine S_op ?_; refine W_callW (by rfl) ((entry_cur hS hf).mono ?_)); rintro v w ⟨H, hG', rfl⟩; replace hG := hG.trans hG'; replace hS := hG'.sub; clear hG'
  (refine S_op ?_; refine W_moveTup (by first | rfl | assumption) ?_; refine S_op ?_; refine W_extract (by first | rfl | assumption) (by rfl) ?_; refine S_op ?_; refine W_extract (by first | rfl | assumption) (by rfl) ?_)
  (refine S_op (W_alloc hS ?_)); intro w c4b hG' c4h c4; replace c4h := Nat.le_trans hG.below.size (Nat.le_of_eq c4h); replace hG := hG.trans hG'; replace hS := hG'.sub; clear hG'
  skip
  (refine S_op0 (W_storeM (o := 0) (vs := [.string ⟨#[97]⟩, .string ⟨#[118]⟩]) (by rfl) (by rfl) c4 (by rfl) (OneCells.of_all (by rfl)) (by rfl) (Nat.le_of_ble_eq_true (by rfl)) ?_)); intro w hgb' hm'; replace hG := hG.grownBy hgb' (fun g h => by cases h; exact ⟨c4.out, c4h⟩); replace hS := hG.sub; replace c4 : Mut _ w c4b ([.string ⟨#[97]⟩, .string ⟨#[118]⟩]) := hm'; clear hm'; clear hgb'
  (refine S_op ?_; refine W_assignBool (by first | rfl | assumption) ?_; refine S_nil ?_; refine CW_seq ?_; refine CW_region rfl ?_; refine S_op ?_; refine W_moveBool (by first | rfl | assumption) ?_; refine S_op ?_; refine W_moveBool (by first | rfl | assumption) ?_; refine S_want (by rfl) ?_; refine W_field (by first | rfl | assumption) ?_; refine S_want (by rfl) ?_; refine W_loadM (by first | rfl | assumption) (by assumption) (by rfl) ?_; refine S_want (by rfl) ?_; refine W_seqlT (by first | rfl | assumption) (by first | rfl | assumption) (by first | assumption | rfl) ?_; refine S_op ?_; refine W_pickT (by first | rfl | assumption) (by first | rfl | assumption) ?_; refine S_op ?_; refine W_assignBool (by first | rfl | assumption) ?_; refine S_nil ?_; refine CW_ret ?_)
  exact ⟨_, ResW_one (v := .bool _) rfl, H, hG, rfl⟩
theorem built12_c (H0 : HF) (A : Option Addr) (c : Nat) (l : List Ent) (hl : EntsAt H0 A l) (hb : l.length ≤ 100000000000000) (hs : ∀ e ∈ l, e.key.size ≤ 150000000000000 ∧ e.val.size ≤ 150000000000000) :
    Fn Try.prog 30 [.slice A l.length c] H0 fun v H' => ∃ (t : Tr) (s : Value) (z : Bool), v = .tuple #[t.val, s, .bool z] ∧ (z = true → TreeAt H' t ∧ IsEnts s t.items H' ∧ t.items.length ≤ 150) ∧ (z = false → t = none ∧ s = .slice none 0 0) := by
  refine Fn_of_CW Try.func30 rfl Try.ntmps30 Try.results30 rfl fun w0 hS => ?_; have hG := Grow.refl hS
  by_cases h150 : 150 < l.length
  · (refine CW_seq ?_; refine CW_region rfl ?_; refine S_op ?_; refine W_assignPtr (by first | rfl | assumption) ?_; refine S_op ?_; refine W_assignSl (by first | rfl | assumption) ?_; refine S_op ?_; refine W_assignBool (by first | rfl | assumption) ?_; refine S_nil ?_; refine CW_seq ?_; refine CW_seq ?_; refine CW_region rfl ?_; refine S_op ?_; refine W_moveSl (by first | rfl | assumption) ?_; refine S_op ?_; refine W_len (by first | rfl | assumption) ?_; refine S_op ?_; refine W_gtrT (by first | rfl | assumption) (by first | rfl | assumption) (by first | omega | rfl) ?_; refine S_nil ?_; refine CW_true (by first | rfl | assumption) ?_; refine CW_seq ?_; refine CW_region rfl ?_; refine S_op ?_; refine W_assignPtr (by first | rfl | assumption) ?_; refine S_op ?_; refine W_assignSl (by first | rfl | assumption) ?_; refine S_op ?_; refine W_assignBool (by first | rfl | assumption) ?_; refine S_nil ?_; refine CW_ret ?_)
    exact ⟨_, ResW_three (v1 := .pointer _) (v2 := .slice _ _ _) (v3 := .bool _) rfl rfl rfl, H0, hG, none, _, false, rfl, (fun h => by cases h), fun _ => ⟨rfl, rfl⟩⟩
  · (refine CW_seq ?_; refine CW_region rfl ?_; refine S_op ?_; refine W_assignPtr (by first | rfl | assumption) ?_; refine S_op ?_; refine W_assignSl (by first | rfl | assumption) ?_; refine S_op ?_; refine W_assignBool (by first | rfl | assumption) ?_; refine S_nil ?_; refine CW_seq ?_; refine CW_seq ?_; refine CW_region rfl ?_; refine S_op ?_; refine W_moveSl (by first | rfl | assumption) ?_; refine S_op ?_; refine W_len (by first | rfl | assumption) ?_; refine S_op ?_; refine W_gtrF (by first | rfl | assumption) (by first | rfl | assumption) (by first | omega | rfl) ?_; refine S_nil ?_; refine CW_false (by first | rfl | assumption) ?_; refine CW_skip ?_; refine CW_seq ?_; refine CW_region rfl ?_; refine S_op ?_; refine W_assignPtr (by first | rfl | assumption) ?_; refine S_nil ?_; refine CW_seq ?_; refine CW_region rfl ?_; refine S_op ?_; refine W_assignSl (by first | rfl | assumption) ?_; refine S_nil ?_; refine CW_seq ?_; refine CW_seq ?_; refine CW_region rfl ?_; refine S_op ?_; refine W_moveSl (by first | rfl | assumption) ?_; refine S_op ?_; refine W_len (by first | rfl | assumption) ?_; refine S_op ?_; refine W_moveInt (by first | rfl | assumption) ?_; refine S_nil ?_; refine CW_block ?_)
    refine CW_loopM [2, 3, 4, 5, 6, 7, 8, 9, 15, 16, 17, 18, 19, 20, 21, 22, 23, 24, 25, 26, 27, 28, 29, 30, 31, 32, 33, 34, 35, 36, 37, 38, 39, 40, 41, 42, 43, 44, 45, 46, 47, 48, 49, 50]
      (fun m u w2 => ∃ (i : Nat) (t : Tr) (A2 : Option Addr) (c2 : Nat) (H2 : HF), u 15 = .int .i64 (i : Int) ∧ u 5 = t.val ∧ u 6 = .slice A2 t.items.length c2 ∧ Grow H0 w0 H2 w2 ∧ TreeAt H2 t ∧ EntsAt H2 A2 t.items ∧ t.items.length ≤ c2 ∧ i ≤ l.length ∧ l.length - i ≤ m ∧ t.items.length ≤ i)
      (m := l.length) ⟨0, none, none, 0, H0, rfl, rfl, rfl, hG, TreeAt.nil, .inl rfl, Nat.le_refl _, by omega, by omega, Nat.le_refl _⟩ ?_
    rintro m u w ⟨i, t, A2, c2, H, h15, h5, h6, hG, ht, hl2, hc2, hi, hm, hti⟩
    have hS := hG.sub
    replace hl := hl.mono hG.le
    by_cases hlt : i < l.length
    · obtain ⟨b, off, hA, hrow⟩ := hl.some hlt
      have hsz := hs (ent l i) (ent_mem' hlt)
      have hG9 := hG
      by_cases hbig : 2000 < (ent l i).key.size + (ent l i).val.size
      · (refine CW_seq ?_; refine CW_region rfl ?_; refine S_op ?_; refine W_lssT (by first | rfl | assumption) (by first | rfl | assumption) (by first | omega | rfl) ?_; refine S_nil ?_; refine CW_seq ?_; refine CW_true (by first | rfl | assumption) ?_; refine CW_skip ?_; refine CW_seq ?_; refine CW_block ?_; refine CW_seq ?_; refine CW_region rfl ?_; refine S_op ?_; refine W_moveInt (by first | rfl | assumption) ?_; refine S_op ?_; refine W_assignInt (by first | rfl | assumption) ?_; refine S_nil ?_; refine CW_seq ?_; refine CW_seq ?_)
        apply CW_region_grow [_, _, _, _, _, _, _, _, _, _, _, _, _, _] [none, none, none, none, none, none, none, none, none, none, none, none, none, none] [some 18, some 19, some 20, some 21, some 22, some 23, some 24, some 25, some 26, some 27, some 28, some 29, some 30, some 31] [18, 19, 20, 21, 22, 23, 24, 25, 26, 27, 28, 29, 30, 31] mixed rfl rfl rfl rfl (by decide) rfl (by assumption)
        · ((apply steps_cons; case h1 => (apply A_pure; intro c u H' w' hG; have hS' := hG.sub; have hS2' := hG.subOld; (repeat (first | refine depGo_eq rfl rfl rfl ?_ | (refine depGo_fact rfl rfl rfl ?_; intro v hv) | refine depGo_skip rfl ?_ | refine depGo_none rfl ?_)); apply Pure1.mk; intro K hk; exact W_moveSl (by first | rfl | assumption) hk)); (apply steps_cons; case h1 => (apply A_pure; intro c u H' w' hG; have hS' := hG.sub; have hS2' := hG.subOld; (repeat (first | refine depGo_eq rfl rfl rfl ?_ | (refine depGo_fact rfl rfl rfl ?_; intro v hv) | refine depGo_skip rfl ?_ | refine depGo_none rfl ?_)); apply Pure1.mk; intro K hk; exact W_moveInt (by first | rfl | assumption) hk)); (apply steps_cons; case h1 => (apply A_pure; intro c u H' w' hG; have hS' := hG.sub; have hS2' := hG.subOld; (repeat (first | refine depGo_eq rfl rfl rfl ?_ | (refine depGo_fact rfl rfl rfl ?_; intro v hv) | refine depGo_skip rfl ?_ | refine depGo_none rfl ?_)); apply Pure1.mk; intro K hk; exact W_index (by first | rfl | assumption) (by first | rfl | assumption) (by first | assumption | omega | decide) (by first | rfl | assumption) hk)); (apply steps_cons; case h1 => (apply A_pure; intro c u H' w' hG; have hS' := hG.sub; have hS2' := hG.subOld; (repeat (first | refine depGo_eq rfl rfl rfl ?_ | (refine depGo_fact rfl rfl rfl ?_; intro v hv) | refine depGo_skip rfl ?_ | refine depGo_none rfl ?_)); apply Pure1.mk; intro K hk; exact W_field (by first | rfl | assumption) hk)); (apply steps_cons; case h1 => (apply A_pure; intro c u H' w' hG; have hS' := hG.sub; have hS2' := hG.subOld; (repeat (first | refine depGo_eq rfl rfl rfl ?_ | (refine depGo_fact rfl rfl rfl ?_; intro v hv) | refine depGo_skip rfl ?_ | refine depGo_none rfl ?_)); apply Pure1.mk; intro K hk; exact W_loadKey (by first | rfl | assumption) (by assumption) (by first | assumption | omega) (by assumption) hk)); (apply steps_cons; case h1 => (apply A_pure; intro c u H' w' hG; have hS' := hG.sub; have hS2' := hG.subOld; (repeat (first | refine depGo_eq rfl rfl rfl ?_ | (refine depGo_fact rfl rfl rfl ?_; intro v hv) | refine depGo_skip rfl ?_ | refine depGo_none rfl ?_)); apply Pure1.mk; intro K hk; exact W_lenS (by first | rfl | assumption) hk)); (apply steps_cons; case h1 => (apply A_pure; intro c u H' w' hG; have hS' := hG.sub; have hS2' := hG.subOld; (repeat (first | refine depGo_eq rfl rfl rfl ?_ | (refine depGo_fact rfl rfl rfl ?_; intro v hv) | refine depGo_skip rfl ?_ | refine depGo_none rfl ?_)); apply Pure1.mk; intro K hk; exact W_moveSl (by first | rfl | assumption) hk)); (apply steps_cons; case h1 => (apply A_pure; intro c u H' w' hG; have hS' := hG.sub; have hS2' := hG.subOld; (repeat (first | refine depGo_eq rfl rfl rfl ?_ | (refine depGo_fact rfl rfl rfl ?_; intro v hv) | refine depGo_skip rfl ?_ | refine depGo_none rfl ?_)); apply Pure1.mk; intro K hk; exact W_moveInt (by first | rfl | assumption) hk)); (apply steps_cons; case h1 => (apply A_pure; intro c u H' w' hG; have hS' := hG.sub; have hS2' := hG.subOld; (repeat (first | refine depGo_eq rfl rfl rfl ?_ | (refine depGo_fact rfl rfl rfl ?_; intro v hv) | refine depGo_skip rfl ?_ | refine depGo_none rfl ?_)); apply Pure1.mk; intro K hk; exact W_index (by first | rfl | assumption) (by first | rfl | assumption) (by first | assumption | omega | decide) (by first | rfl | assumption) hk)); (apply steps_cons; case h1 => (apply A_pure; intro c u H' w' hG; have hS' := hG.sub; have hS2' := hG.subOld; (repeat (first | refine depGo_eq rfl rfl rfl ?_ | (refine depGo_fact rfl rfl rfl ?_; intro v hv) | refine depGo_skip rfl ?_ | refine depGo_none rfl ?_)); apply Pure1.mk; intro K hk; exact W_field (by first | rfl | assumption) hk)); (apply steps_cons; case h1 => (apply A_pure; intro c u H' w' hG; have hS' := hG.sub; have hS2' := hG.subOld; (repeat (first | refine depGo_eq rfl rfl rfl ?_ | (refine depGo_fact rfl rfl rfl ?_; intro v hv) | refine depGo_skip rfl ?_ | refine depGo_none rfl ?_)); apply Pure1.mk; intro K hk; exact W_loadVal (by first | rfl | assumption) (by assumption) (by first | assumption | omega) (by assumption) hk)); (apply steps_cons; case h1 => (apply A_pure; intro c u H' w' hG; have hS' := hG.sub; have hS2' := hG.subOld; (repeat (first | refine depGo_eq rfl rfl rfl ?_ | (refine depGo_fact rfl rfl rfl ?_; intro v hv) | refine depGo_skip rfl ?_ | refine depGo_none rfl ?_)); apply Pure1.mk; intro K hk; exact W_lenS (by first | rfl | assumption) hk)); (apply steps_cons; case h1 => (apply A_pure; intro c u H' w' hG; have hS' := hG.sub; have hS2' := hG.subOld; (repeat (first | refine depGo_eq rfl rfl rfl ?_ | (refine depGo_fact rfl rfl rfl ?_; intro v hv) | refine depGo_skip rfl ?_ | refine depGo_none rfl ?_)); apply Pure1.mk; intro K hk; exact W_addN (by first | rfl | assumption) (by first | rfl | assumption) (by omega) hk)); (apply steps_cons; case h1 => (apply A_pure; intro c u H' w' hG; have hS' := hG.sub; have hS2' := hG.subOld; (repeat (first | refine depGo_eq rfl rfl rfl ?_ | (refine depGo_fact rfl rfl rfl ?_; intro v hv) | refine depGo_skip rfl ?_ | refine depGo_none rfl ?_)); apply Pure1.mk; intro K hk; exact W_gtrT (by first | rfl | assumption) (by first | rfl | assumption) (by first | omega | rfl) hk)); exact trivial)
        · (intro H' w' hG; (repeat (first | refine fin_eq rfl rfl ?_ | (refine fin_fact rfl ?_; intro v hv) | refine fin_none rfl ?_)); refine fin_nil ?_)
          (refine CW_true (by first | rfl | assumption) ?_; refine CW_seq ?_; refine CW_region rfl ?_; refine S_op ?_; refine W_assignPtr (by first | rfl | assumption) ?_; refine S_op ?_; refine W_assignSl (by first | rfl | assumption) ?_; refine S_op ?_; refine W_assignBool (by first | rfl | assumption) ?_; refine S_nil ?_; refine CW_ret ?_)
          exact ⟨_, ResW_three (v1 := .pointer _) (v2 := .slice _ _ _) (v3 := .bool _) rfl rfl rfl, _, hG9.trans hG, none, _, false, rfl, (fun h => by cases h), fun _ => ⟨rfl, rfl⟩⟩
      · (refine CW_seq ?_; refine CW_region rfl ?_; refine S_op ?_; refine W_lssT (by first | rfl | assumption) (by first | rfl | assumption) (by first | omega | rfl) ?_; refine S_nil ?_; refine CW_seq ?_; refine CW_true (by first | rfl | assumption) ?_; refine CW_skip ?_; refine CW_seq ?_; refine CW_block ?_; refine CW_seq ?_; refine CW_region rfl ?_; refine S_op ?_; refine W_moveInt (by first | rfl | assumption) ?_; refine S_op ?_; refine W_assignInt (by first | rfl | assumption) ?_; refine S_nil ?_; refine CW_seq ?_; refine CW_seq ?_)
        apply CW_region_grow [_, _, _, _, _, _, _, _, _, _, _, _, _, _] [none, none, none, none, none, none, none, none, none, none, none, none, none, none] [some 18, some 19, some 20, some 21, some 22, some 23, some 24, some 25, some 26, some 27, some 28, some 29, some 30, some 31] [18, 19, 20, 21, 22, 23, 24, 25, 26, 27, 28, 29, 30, 31] mixed rfl rfl rfl rfl (by decide) rfl (by assumption)
        · ((apply steps_cons; case h1 => (apply A_pure; intro c u H' w' hG; have hS' := hG.sub; have hS2' := hG.subOld; (repeat (first | refine depGo_eq rfl rfl rfl ?_ | (refine depGo_fact rfl rfl rfl ?_; intro v hv) | refine depGo_skip rfl ?_ | refine depGo_none rfl ?_)); apply Pure1.mk; intro K hk; exact W_moveSl (by first | rfl | assumption) hk)); (apply steps_cons; case h1 => (apply A_pure; intro c u H' w' hG; have hS' := hG.sub; have hS2' := hG.subOld; (repeat (first | refine depGo_eq rfl rfl rfl ?_ | (refine depGo_fact rfl rfl rfl ?_; intro v hv) | refine depGo_skip rfl ?_ | refine depGo_none rfl ?_)); apply Pure1.mk; intro K hk; exact W_moveInt (by first | rfl | assumption) hk)); (apply steps_cons; case h1 => (apply A_pure; intro c u H' w' hG; have hS' := hG.sub; have hS2' := hG.subOld; (repeat (first | refine depGo_eq rfl rfl rfl ?_ | (refine depGo_fact rfl rfl rfl ?_; intro v hv) | refine depGo_skip rfl ?_ | refine depGo_none rfl ?_)); apply Pure1.mk; intro K hk; exact W_index (by first | rfl | assumption) (by first | rfl | assumption) (by first | assumption | omega | decide) (by first | rfl | assumption) hk)); (apply steps_cons; case h1 => (apply A_pure; intro c u H' w' hG; have hS' := hG.sub; have hS2' := hG.subOld; (repeat (first | refine depGo_eq rfl rfl rfl ?_ | (refine depGo_fact rfl rfl rfl ?_; intro v hv) | refine depGo_skip rfl ?_ | refine depGo_none rfl ?_)); apply Pure1.mk; intro K hk; exact W_field (by first | rfl | assumption) hk)); (apply steps_cons; case h1 => (apply A_pure; intro c u H' w' hG; have hS' := hG.sub; have hS2' := hG.subOld; (repeat (first | refine depGo_eq rfl rfl rfl ?_ | (refine depGo_fact rfl rfl rfl ?_; intro v hv) | refine depGo_skip rfl ?_ | refine depGo_none rfl ?_)); apply Pure1.mk; intro K hk; exact W_loadKey (by first | rfl | assumption) (by assumption) (by first | assumption | omega) (by assumption) hk)); (apply steps_cons; case h1 => (apply A_pure; intro c u H' w' hG; have hS' := hG.sub; have hS2' := hG.subOld; (repeat (first | refine depGo_eq rfl rfl rfl ?_ | (refine depGo_fact rfl rfl rfl ?_; intro v hv) | refine depGo_skip rfl ?_ | refine depGo_none rfl ?_)); apply Pure1.mk; intro K hk; exact W_lenS (by first | rfl | assumption) hk)); (apply steps_cons; case h1 => (apply A_pure; intro c u H' w' hG; have hS' := hG.sub; have hS2' := hG.subOld; (repeat (first | refine depGo_eq rfl rfl rfl ?_ | (refine depGo_fact rfl rfl rfl ?_; intro v hv) | refine depGo_skip rfl ?_ | refine depGo_none rfl ?_)); apply Pure1.mk; intro K hk; exact W_moveSl (by first | rfl | assumption) hk)); (apply steps_cons; case h1 => (apply A_pure; intro c u H' w' hG; have hS' := hG.sub; have hS2' := hG.subOld; (repeat (first | refine depGo_eq rfl rfl rfl ?_ | (refine depGo_fact rfl rfl rfl ?_; intro v hv) | refine depGo_skip rfl ?_ | refine depGo_none rfl ?_)); apply Pure1.mk; intro K hk; exact W_moveInt (by first | rfl | assumption) hk)); (apply steps_cons; case h1 => (apply A_pure; intro c u H' w' hG; have hS' := hG.sub; have hS2' := hG.subOld; (repeat (first | refine depGo_eq rfl rfl rfl ?_ | (refine depGo_fact rfl rfl rfl ?_; intro v hv) | refine depGo_skip rfl ?_ | refine depGo_none rfl ?_)); apply Pure1.mk; intro K hk; exact W_index (by first | rfl | assumption) (by first | rfl | assumption) (by first | assumption | omega | decide) (by first | rfl | assumption) hk)); (apply steps_cons; case h1 => (apply A_pure; intro c u H' w' hG; have hS' := hG.sub; have hS2' := hG.subOld; (repeat (first | refine depGo_eq rfl rfl rfl ?_ | (refine depGo_fact rfl rfl rfl ?_; intro v hv) | refine depGo_skip rfl ?_ | refine depGo_none rfl ?_)); apply Pure1.mk; intro K hk; exact W_field (by first | rfl | assumption) hk)); (apply steps_cons; case h1 => (apply A_pure; intro c u H' w' hG; have hS' := hG.sub; have hS2' := hG.subOld; (repeat (first | refine depGo_eq rfl rfl rfl ?_ | (refine depGo_fact rfl rfl rfl ?_; intro v hv) | refine depGo_skip rfl ?_ | refine depGo_none rfl ?_)); apply Pure1.mk; intro K hk; exact W_loadVal (by first | rfl | assumption) (by assumption) (by first | assumption | omega) (by assumption) hk)); (apply steps_cons; case h1 => (apply A_pure; intro c u H' w' hG; have hS' := hG.sub; have hS2' := hG.subOld; (repeat (first | refine depGo_eq rfl rfl rfl ?_ | (refine depGo_fact rfl rfl rfl ?_; intro v hv) | refine depGo_skip rfl ?_ | refine depGo_none rfl ?_)); apply Pure1.mk; intro K hk; exact W_lenS (by first | rfl | assumption) hk)); (apply steps_cons; case h1 => (apply A_pure; intro c u H' w' hG; have hS' := hG.sub; have hS2' := hG.subOld; (repeat (first | refine depGo_eq rfl rfl rfl ?_ | (refine depGo_fact rfl rfl rfl ?_; intro v hv) | refine depGo_skip rfl ?_ | refine depGo_none rfl ?_)); apply Pure1.mk; intro K hk; exact W_addN (by first | rfl | assumption) (by first | rfl | assumption) (by omega) hk)); (apply steps_cons; case h1 => (apply A_pure; intro c u H' w' hG; have hS' := hG.sub; have hS2' := hG.subOld; (repeat (first | refine depGo_eq rfl rfl rfl ?_ | (refine depGo_fact rfl rfl rfl ?_; intro v hv) | refine depGo_skip rfl ?_ | refine depGo_none rfl ?_)); apply Pure1.mk; intro K hk; exact W_gtrF (by first | rfl | assumption) (by first | rfl | assumption) (by first | omega | rfl) hk)); exact trivial)
        · (intro H' w' hG; (repeat (first | refine fin_eq rfl rfl ?_ | (refine fin_fact rfl ?_; intro v hv) | refine fin_none rfl ?_)); refine fin_nil ?_)
          replace ht := ht.mono hG.le
          replace hl2 := hl2.mono hG.le
          replace hl := hl.mono hG.le
          replace hrow := hrow.mono hG.le
          replace hG := hG9.trans hG
          clear hG9
          replace hS := hG.sub
          rename_i H' w'
          obtain ⟨H, rfl⟩ : ∃ H, H = H' := ⟨_, rfl⟩
          obtain ⟨w, rfl⟩ : ∃ w, w = w' := ⟨_, rfl⟩
          (refine CW_false (by first | rfl | assumption) ?_; refine CW_skip ?_; refine CW_seq ?_; refine CW_region rfl ?_; refine S_op ?_; refine W_movePtr (by first | rfl | assumption) ?_; refine S_op ?_; refine W_moveSl (by first | rfl | assumption) ?_; refine S_op ?_; refine W_moveInt (by first | rfl | assumption) ?_; refine S_op ?_; refine W_index (by first | rfl | assumption) (by first | rfl | assumption) (by first | assumption | omega | decide) (by first | rfl | assumption) ?_; refine S_op ?_; refine W_loadEnt (by first | rfl | assumption) (by assumption) (by first | assumption | omega) (by assumption) ?_)
          (refine S_op ?_; refine W_call hS (by rfl) (tPut_c (ent l i) ht (by omega)) ?_); rintro v H w hG' ⟨t', rfl, hno, hp⟩; replace hG := hG.trans hG'; replace hS := hG'.sub; replace ht := ht.mono hG'.le; replace hl2 := hl2.mono hG'.le; replace hl := hl.mono hG'.le; clear hG'
          by_cases he : putE (ent l i) = 0
          · obtain ⟨ht', hp'⟩ := hp he
            obtain ⟨b, off, hA, hrow⟩ := hl.some hlt
            rw [he]
            (refine S_op ?_; refine W_moveTup (by first | rfl | assumption) ?_; refine S_op ?_; refine W_extract (by first | rfl | assumption) (by rfl) ?_; refine S_op ?_; refine W_extract (by first | rfl | assumption) (by rfl) ?_; refine S_op ?_; refine W_assignPtr (by first | rfl | assumption) ?_; refine S_op ?_; refine W_assignInt (by first | rfl | assumption) ?_; refine S_nil ?_; refine CW_seq ?_; refine CW_region rfl ?_; refine S_op ?_; refine W_moveInt (by first | rfl | assumption) ?_; refine S_op ?_; refine W_eqlT (by first | rfl | assumption) (by first | rfl | assumption) (by first | omega | rfl) ?_; refine S_nil ?_; refine CW_true (by first | rfl | assumption) ?_; refine CW_seq ?_; refine CW_region rfl ?_; refine S_op ?_; refine W_movePtr (by first | rfl | assumption) ?_; refine S_op ?_; refine W_assignPtr (by first | rfl | assumption) ?_; refine S_nil ?_; refine CW_region rfl ?_; refine S_op ?_; refine W_moveSl (by first | rfl | assumption) ?_; refine S_op ?_; refine W_moveSl (by first | rfl | assumption) ?_; refine S_op ?_; refine W_moveInt (by first | rfl | assumption) ?_; refine S_op ?_; refine W_index (by first | rfl | assumption) (by first | rfl | assumption) (by first | assumption | omega | decide) (by first | rfl | assumption) ?_; refine S_op ?_; refine W_loadEnt (by first | rfl | assumption) (by assumption) (by first | assumption | omega) (by assumption) ?_)
            (refine S_op ?_; refine W_call hS (by rfl) (rWith_c H A2 c2 t.items (ent l i) hl2 (by omega)) ?_); rintro v H w hG' hv; replace hG := hG.trans hG'; replace hS := hG'.sub; replace ht' := ht'.mono hG'.le; replace hl := hl.mono hG'.le; clear hG'
            rw [rWith_eq ht.rise, ← hp'.items] at hv
            obtain ⟨A3, c3, rfl, hc3, hl3⟩ := hv
            have hlen := withL_length_le t.items (ent l i)
            rw [← hp'.items] at hlen
            (refine S_op ?_; refine W_assignSl (by first | rfl | assumption) ?_; refine S_nil ?_; refine CW_region rfl ?_; refine S_op ?_; refine W_add1 (by first | rfl | assumption) (by omega) ?_; refine S_op ?_; refine W_moveInt (by first | rfl | assumption) ?_; refine S_nil ?_)
            exact ⟨(by repeat (first | exact AgreeOff.over | refine AgreeOff.upd rfl ?_ | refine AgreeOff.over2 rfl ?_)), m - 1, by omega, i + 1, t', A3, c3, H, rfl, rfl, rfl, hG, ht', hl3, hc3, by omega, by omega, by omega⟩
          · (refine S_op ?_; refine W_moveTup (by first | rfl | assumption) ?_; refine S_op ?_; refine W_extract (by first | rfl | assumption) (by rfl) ?_; refine S_op ?_; refine W_extract (by first | rfl | assumption) (by rfl) ?_; refine S_op ?_; refine W_assignPtr (by first | rfl | assumption) ?_; refine S_op ?_; refine W_assignInt (by first | rfl | assumption) ?_; refine S_nil ?_; refine CW_seq ?_; refine CW_region rfl ?_; refine S_op ?_; refine W_moveInt (by first | rfl | assumption) ?_; refine S_op ?_; refine W_eqlF (by first | rfl | assumption) (by first | rfl | assumption) (by first | omega | rfl) ?_; refine S_nil ?_; refine CW_false (by first | rfl | assumption) ?_; refine CW_skip ?_; refine CW_region rfl ?_; refine S_op ?_; refine W_add1 (by first | rfl | assumption) (by omega) ?_; refine S_op ?_; refine W_moveInt (by first | rfl | assumption) ?_; refine S_nil ?_)
            exact ⟨(by repeat (first | exact AgreeOff.over | refine AgreeOff.upd rfl ?_ | refine AgreeOff.over2 rfl ?_)), m - 1, by omega, i + 1, t, A2, c2, H, rfl, h5, h6, hG, ht, hl2, hc2, by omega, by omega, by omega⟩
    · have hin : i = l.length := by omega
      subst hin
      (refine CW_seq ?_; refine CW_region rfl ?_; refine S_op ?_; refine W_lssF (by first | rfl | assumption) (by first | rfl | assumption) (by first | omega | rfl) ?_; refine S_nil ?_; refine CW_seq ?_; refine CW_false (by first | rfl | assumption) ?_; refine CW_exit ?_; refine CW_seq ?_; refine CW_region rfl ?_; refine S_op ?_; refine W_movePtr (by first | rfl | assumption) ?_; refine S_op ?_; refine W_moveSl (by first | rfl | assumption) ?_; refine S_op ?_; refine W_assignPtr (by first | rfl | assumption) ?_; refine S_op ?_; refine W_assignSl (by first | rfl | assumption) ?_; refine S_op ?_; refine W_assignBool (by first | rfl | assumption) ?_; refine S_nil ?_; refine CW_ret ?_)
      exact ⟨_, ResW_three (v1 := t.val) (v2 := .slice _ _ _) (v3 := .bool _) rfl rfl rfl, H, hG, t, _, true, rfl, fun _ => ⟨ht, ⟨A2, c2, rfl, hc2, hl2⟩, by omega⟩, (fun h => by cases h)⟩

/-- A step of a script: Kind, Key. -/
structure Op12 where
  kind : Int
  key : ByteArray
instance : Inhabited Op12 := ⟨⟨0, ⟨#[]⟩⟩⟩
def op12Cell (o : Op12) : List Value := [.int .i64 o.kind, .string o.key]
def ops12 (l : List Op12) : List Value := (l.map op12Cell).flatten
theorem ops12_get : ∀ {l : List Op12} {q : Nat} (h : q < l.length), (ops12 l)[q * 2]? = some (.int .i64 l[q].kind) ∧ (ops12 l)[q * 2 + 1]? = some (.string l[q].key)
  | [], _, h => absurd h (by simp)
  | a :: l, 0, _ => ⟨rfl, rfl⟩
  | a :: l, q + 1, h => by
    have ih := ops12_get (l := l) (q := q) (by simpa using h)
    have e : ops12 (a :: l) = op12Cell a ++ ops12 l := by simp [ops12]
    rw [e, show (q + 1) * 2 = q * 2 + 2 by omega]
    exact ih
theorem ops12_len (l : List Op12) : (ops12 l).length = l.length * 2 := by
  induction l with
  | nil => rfl
  | cons a l ih =>
    have e : ops12 (a :: l) = op12Cell a ++ ops12 l := by simp [ops12]
    rw [e, List.length_append, ih]; simp [op12Cell]; omega
theorem ops12_some {H : HF} {A : Option Addr} {l : List Op12} (h : SlAt H A (ops12 l)) {q : Nat} (hq : q < l.length) : ∃ b off, A = some ⟨b, off, none⟩ ∧ Row H b off (ops12 l) := by
  rcases h with h | h
  · have := congrArg List.length h; rw [ops12_len] at this; have : l.length * 2 = 0 := this; omega
  · exact h
theorem few12_c (H : HF) (A : Option Addr) (c : Nat) (l : List Op12) (hl : SlAt H A (ops12 l)) (hb : l.length ≤ 100000000000000) (hs : ∀ o ∈ l, o.key.size ≤ 150000000000000) :
    Fn Try.prog 36 [.slice A l.length c] H fun v _ => ∃ z, v = .bool z ∧ (z = true → l.length ≤ 300 ∧ ∀ o ∈ l, o.key.size ≤ 2000) := by
  refine Fn_of_CW Try.func36 rfl Try.ntmps36 Try.results36 rfl fun w hS => ?_; have hG := Grow.refl hS; have hS0 := hS
  by_cases h3 : 300 < l.length
  · (refine CW_seq ?_; refine CW_region rfl ?_; refine S_op ?_; refine W_assignBool (by first | rfl | assumption) ?_; refine S_nil ?_; refine CW_seq ?_; refine CW_seq ?_; refine CW_region rfl ?_; refine S_op ?_; refine W_moveSl (by first | rfl | assumption) ?_; refine S_op ?_; refine W_len (by first | rfl | assumption) ?_; refine S_op ?_; refine W_gtrT (by first | rfl | assumption) (by first | rfl | assumption) (by first | omega | rfl) ?_; refine S_nil ?_; refine CW_true (by first | rfl | assumption) ?_; refine CW_seq ?_; refine CW_region rfl ?_; refine S_op ?_; refine W_assignBool (by first | rfl | assumption) ?_; refine S_nil ?_; refine CW_ret ?_)
    exact ⟨_, ResW_one (v := .bool _) rfl, H, hG, false, rfl, fun h => by cases h⟩
  (refine CW_seq ?_; refine CW_region rfl ?_; refine S_op ?_; refine W_assignBool (by first | rfl | assumption) ?_; refine S_nil ?_; refine CW_seq ?_; refine CW_seq ?_; refine CW_region rfl ?_; refine S_op ?_; refine W_moveSl (by first | rfl | assumption) ?_; refine S_op ?_; refine W_len (by first | rfl | assumption) ?_; refine S_op ?_; refine W_gtrF (by first | rfl | assumption) (by first | rfl | assumption) (by first | omega | rfl) ?_; refine S_nil ?_; refine CW_false (by first | rfl | assumption) ?_; refine CW_skip ?_; refine CW_seq ?_; refine CW_seq ?_; refine CW_region rfl ?_; refine S_op ?_; refine W_moveSl (by first | rfl | assumption) ?_; refine S_op ?_; refine W_len (by first | rfl | assumption) ?_; refine S_op ?_; refine W_moveInt (by first | rfl | assumption) ?_; refine S_nil ?_; refine CW_block ?_)
  refine CW_loopM [2, 3, 9, 10, 11, 12, 13, 14, 15, 16, 17, 18, 19]
    (fun m u w2 => ∃ (i : Nat), u 9 = .int .i64 (i : Int) ∧ w2 = w ∧ (∀ o ∈ l.take i, o.key.size ≤ 2000) ∧ i ≤ l.length ∧ l.length - i ≤ m)
    (m := l.length) ⟨0, rfl, rfl, by simp, by omega, by omega⟩ ?_
  rintro m u w2 ⟨i, h9, rfl, hok, hi, hm⟩
  by_cases hlt : i < l.length
  · obtain ⟨b, off, rfl, hrow⟩ := ops12_some hl hlt
    have hget := (ops12_get hlt).2
    have hsz := hs l[i] (List.getElem_mem hlt)
    by_cases hbig : 2000 < l[i].key.size
    · (refine CW_seq ?_; refine CW_region rfl ?_; refine S_op ?_; refine W_lssT (by first | rfl | assumption) (by first | rfl | assumption) (by first | omega | rfl) ?_; refine S_nil ?_; refine CW_seq ?_; refine CW_true (by first | rfl | assumption) ?_; refine CW_skip ?_; refine CW_seq ?_; refine CW_block ?_; refine CW_seq ?_; refine CW_region rfl ?_; refine S_op ?_; refine W_moveInt (by first | rfl | assumption) ?_; refine S_op ?_; refine W_assignInt (by first | rfl | assumption) ?_; refine S_nil ?_; refine CW_seq ?_; refine CW_region rfl ?_; refine S_op ?_; refine W_moveSl (by first | rfl | assumption) ?_; refine S_op ?_; refine W_moveInt (by first | rfl | assumption) ?_; refine S_op ?_; refine W_index (by first | rfl | assumption) (by first | rfl | assumption) (by first | assumption | omega | decide) (by first | rfl | assumption) ?_; refine S_op ?_; refine W_field (by first | rfl | assumption) ?_)
      refine S_op ?_
      refine W_loadRow (j := i * 2 + 1) (by rfl) hrow hget hS ?_
      (refine S_op ?_; refine W_lenS (by first | rfl | assumption) ?_; refine S_op ?_; refine W_gtrT (by first | rfl | assumption) (by first | rfl | assumption) (by first | omega | rfl) ?_; refine S_nil ?_; refine CW_true (by first | rfl | assumption) ?_; refine CW_seq ?_; refine CW_region rfl ?_; refine S_op ?_; refine W_assignBool (by first | rfl | assumption) ?_; refine S_nil ?_; refine CW_ret ?_)
      exact ⟨_, ResW_one (v := .bool _) rfl, H, hG, false, rfl, fun h => by cases h⟩
    · (refine CW_seq ?_; refine CW_region rfl ?_; refine S_op ?_; refine W_lssT (by first | rfl | assumption) (by first | rfl | assumption) (by first | omega | rfl) ?_; refine S_nil ?_; refine CW_seq ?_; refine CW_true (by first | rfl | assumption) ?_; refine CW_skip ?_; refine CW_seq ?_; refine CW_block ?_; refine CW_seq ?_; refine CW_region rfl ?_; refine S_op ?_; refine W_moveInt (by first | rfl | assumption) ?_; refine S_op ?_; refine W_assignInt (by first | rfl | assumption) ?_; refine S_nil ?_; refine CW_seq ?_; refine CW_region rfl ?_; refine S_op ?_; refine W_moveSl (by first | rfl | assumption) ?_; refine S_op ?_; refine W_moveInt (by first | rfl | assumption) ?_; refine S_op ?_; refine W_index (by first | rfl | assumption) (by first | rfl | assumption) (by first | assumption | omega | decide) (by first | rfl | assumption) ?_; refine S_op ?_; refine W_field (by first | rfl | assumption) ?_)
      refine S_op ?_
      refine W_loadRow (j := i * 2 + 1) (by rfl) hrow hget hS ?_
      (refine S_op ?_; refine W_lenS (by first | rfl | assumption) ?_; refine S_op ?_; refine W_gtrF (by first | rfl | assumption) (by first | rfl | assumption) (by first | omega | rfl) ?_; refine S_nil ?_; refine CW_false (by first | rfl | assumption) ?_; refine CW_skip ?_; refine CW_region rfl ?_; refine S_op ?_; refine W_add1 (by first | rfl | assumption) (by omega) ?_; refine S_op ?_; refine W_moveInt (by first | rfl | assumption) ?_; refine S_nil ?_)
      refine ⟨(by repeat (first | exact AgreeOff.over | refine AgreeOff.upd rfl ?_ | refine AgreeOff.over2 rfl ?_)), m - 1, by omega, i + 1, rfl, rfl, ?_, by omega, by omega⟩
      intro o ho
      rw [List.take_succ_eq_append_getElem hlt] at ho
      rcases List.mem_append.1 ho with h | h
      · exact hok o h
      · simp at h; subst h; omega
  · have hin : i = l.length := by omega
    subst hin
    rw [List.take_length] at hok
    (refine CW_seq ?_; refine CW_region rfl ?_; refine S_op ?_; refine W_lssF (by first | rfl | assumption) (by first | rfl | assumption) (by first | omega | rfl) ?_; refine S_nil ?_; refine CW_seq ?_; refine CW_false (by first | rfl | assumption) ?_; refine CW_exit ?_; refine CW_seq ?_; refine CW_region rfl ?_; refine S_op ?_; refine W_assignBool (by first | rfl | assumption) ?_; refine S_nil ?_; refine CW_ret ?_)
    exact ⟨_, ResW_one (v := .bool _) rfl, H, hG, true, rfl, fun _ => ⟨by omega, hok⟩⟩
/-! ### The reference's cursor -/
def atI : Option Nat → Int
  | none => -1
  | some i => (i : Int)
def RefAt (H : HF) (w : World) (b : Nat) (A : Option Addr) (l : List Ent) (c : Nat) (p : Option Nat) : Prop := Mut H w b [.slice A l.length c, .int .i64 (atI p)]
section
variable {H H' : HF} {w w' : World} {b : Nat} {A : Option Addr} {l : List Ent} {c : Nat} {p : Option Nat}
theorem RefAt.lt (h : RefAt H w b A l c p) : b < w.heap.size := Mut.lt h
theorem RefAt.turn {S : Nat → Prop} (h : RefAt H w b A l c p) (hT : Turn S H w H' w') (hs : ¬ S b) : RefAt H' w' b A l c p := Mut.turn h hT hs
theorem RefAt.grow (h : RefAt H w b A l c p) (hG : Grow H w H' w') : RefAt H' w' b A l c p := Mut.grow h hG
theorem RefAt.other {row : Option Nat} (h : RefAt H w b A l c p) (hg : w.grownBy w' row) (hr : row ≠ some b) : RefAt H w' b A l c p := Mut.other h hg hr
def RMoved (H0 : HF) (w0 : World) (b : Nat) (A : Option Addr) (l : List Ent) (c : Nat) (p : Option Nat) (v : Value) (w' : World) : Prop :=
  ∃ H', Turn (fun k => k = b) H0 w0 H' w' ∧ v = .bool p.isSome ∧ RefAt H' w' b A l c p
theorem rTo_c (i : Int) (hS : Sub H w) (hc : RefAt H w b A l c p) : CallW Try.prog 38 [.pointer (some ⟨b, 0, none⟩), .int .i64 i].toArray w (RMoved H w b A l c (posL l i)) := by
  unfold RefAt at hc
  refine CallW_of_CW Try.func38 rfl Try.ntmps38 Try.results38 rfl ?_
  (refine CW_seq ?_; refine CW_region rfl ?_; refine S_op ?_; refine W_assignBool (by first | rfl | assumption) ?_; refine S_nil ?_; refine CW_seq ?_; refine CW_region rfl ?_; refine S_op ?_; refine W_movePtr (by first | rfl | assumption) ?_; refine S_op ?_; refine W_nilCheck (by first | rfl | assumption) ?_; refine S_op ?_; refine W_field (by first | rfl | assumption) ?_)
  refine S_op0 (W_storeM (o := 1) (vs := [.int .i64 (-1)]) (by rfl) (by rfl) hc (by rfl) (OneCells.of_all (by rfl)) (by rfl) (Nat.le_of_ble_eq_true (by rfl)) ?_)
  intro w1 hg1 hm1
  have hT := (Turn.refl (S := fun k => k = b) hS).grownBy hg1 (fun g h => by cases h; exact ⟨hc.out, .inr rfl⟩)
  replace hm1 : Mut H w1 b [.slice A l.length c, .int .i64 (-1)] := hm1
  have hS1 := hT.sub
  clear hc
  by_cases h0 : i < 0
  · (refine S_nil ?_; refine CW_seq ?_; refine CW_seq ?_; refine CW_region rfl ?_; refine S_op ?_; refine W_moveInt (by first | rfl | assumption) ?_; refine S_op ?_; refine W_lssT (by first | rfl | assumption) (by first | rfl | assumption) (by first | omega | rfl) ?_; refine S_op ?_; refine W_moveBool (by first | rfl | assumption) ?_; refine S_pass (by rfl) ?_; refine S_pass (by rfl) ?_; refine S_pass (by rfl) ?_; refine S_pass (by rfl) ?_; refine S_pass (by rfl) ?_; refine S_pass (by rfl) ?_; refine S_pass (by rfl) ?_; refine S_op ?_; refine W_pickT (by first | rfl | assumption) (by first | rfl | assumption) ?_; refine S_nil ?_; refine CW_true (by first | rfl | assumption) ?_; refine CW_seq ?_; refine CW_region rfl ?_; refine S_op ?_; refine W_assignBool (by first | rfl | assumption) ?_; refine S_nil ?_; refine CW_ret ?_)
    exact ⟨_, ResW_one (v := .bool _) rfl, H, hT, by rw [posL_none (.inl h0)]; rfl, by rw [posL_none (.inl h0)]; exact hm1⟩
  by_cases h1 : (l.length : Int) ≤ i
  · (refine S_nil ?_; refine CW_seq ?_; refine CW_seq ?_; refine CW_region rfl ?_; refine S_op ?_; refine W_moveInt (by first | rfl | assumption) ?_; refine S_op ?_; refine W_lssF (by first | rfl | assumption) (by first | rfl | assumption) (by first | omega | rfl) ?_; refine S_op ?_; refine W_moveBool (by first | rfl | assumption) ?_; refine S_want (by rfl) ?_; refine W_moveInt (by first | rfl | assumption) ?_; refine S_want (by rfl) ?_; refine W_movePtr (by first | rfl | assumption) ?_; refine S_want (by rfl) ?_; refine W_nilCheck (by first | rfl | assumption) ?_; refine S_want (by rfl) ?_; refine W_field (by first | rfl | assumption) ?_; refine S_want (by rfl) ?_; refine W_loadM (by first | rfl | assumption) (by assumption) (by rfl) ?_; refine S_want (by rfl) ?_; refine W_len (by first | rfl | assumption) ?_; refine S_want (by rfl) ?_; refine W_geqT (by first | rfl | assumption) (by first | rfl | assumption) (by first | omega | rfl) ?_; refine S_op ?_; refine W_pickF (by first | rfl | assumption) (by first | rfl | assumption) ?_; refine S_nil ?_; refine CW_true (by first | rfl | assumption) ?_; refine CW_seq ?_; refine CW_region rfl ?_; refine S_op ?_; refine W_assignBool (by first | rfl | assumption) ?_; refine S_nil ?_; refine CW_ret ?_)
    exact ⟨_, ResW_one (v := .bool _) rfl, H, hT, by rw [posL_none (.inr h1)]; rfl, by rw [posL_none (.inr h1)]; exact hm1⟩
  · (refine S_nil ?_; refine CW_seq ?_; refine CW_seq ?_; refine CW_region rfl ?_; refine S_op ?_; refine W_moveInt (by first | rfl | assumption) ?_; refine S_op ?_; refine W_lssF (by first | rfl | assumption) (by first | rfl | assumption) (by first | omega | rfl) ?_; refine S_op ?_; refine W_moveBool (by first | rfl | assumption) ?_; refine S_want (by rfl) ?_; refine W_moveInt (by first | rfl | assumption) ?_; refine S_want (by rfl) ?_; refine W_movePtr (by first | rfl | assumption) ?_; refine S_want (by rfl) ?_; refine W_nilCheck (by first | rfl | assumption) ?_; refine S_want (by rfl) ?_; refine W_field (by first | rfl | assumption) ?_; refine S_want (by rfl) ?_; refine W_loadM (by first | rfl | assumption) (by assumption) (by rfl) ?_; refine S_want (by rfl) ?_; refine W_len (by first | rfl | assumption) ?_; refine S_want (by rfl) ?_; refine W_geqF (by first | rfl | assumption) (by first | rfl | assumption) (by first | omega | rfl) ?_; refine S_op ?_; refine W_pickF (by first | rfl | assumption) (by first | rfl | assumption) ?_; refine S_nil ?_; refine CW_false (by first | rfl | assumption) ?_; refine CW_skip ?_; refine CW_seq ?_; refine CW_region rfl ?_; refine S_op ?_; refine W_movePtr (by first | rfl | assumption) ?_; refine S_op ?_; refine W_moveInt (by first | rfl | assumption) ?_; refine S_op ?_; refine W_nilCheck (by first | rfl | assumption) ?_; refine S_op ?_; refine W_field (by first | rfl | assumption) ?_)
    refine S_op0 (W_storeM (o := 1) (vs := [.int .i64 i]) (by rfl) (by rfl) hm1 (by rfl) (OneCells.of_all (by rfl)) (by rfl) (Nat.le_of_ble_eq_true (by rfl)) ?_)
    intro w2 hg2 hm2
    replace hT := hT.grownBy hg2 (fun g h => by cases h; exact ⟨hm1.out, .inr rfl⟩)
    have e : posL l i = some i.toNat := posL_some (by omega) (by omega)
    have e2 : ((i.toNat : Nat) : Int) = i := by omega
    (refine S_nil ?_; refine CW_seq ?_; refine CW_region rfl ?_; refine S_op ?_; refine W_assignBool (by first | rfl | assumption) ?_; refine S_nil ?_; refine CW_ret ?_)
    refine ⟨_, ResW_one (v := .bool _) rfl, H, hT, by rw [e]; rfl, ?_⟩
    rw [e]
    show Mut H w2 b [.slice A l.length c, .int .i64 ((i.toNat : Nat) : Int)]
    rw [e2]; exact hm2
theorem rSeek_c (k : ByteArray) (hS : Sub H w) (hl : EntsAt H A l) (hb : l.length ≤ 1000000) (hc : RefAt H w b A l c p) : CallW Try.prog 40 [.pointer (some ⟨b, 0, none⟩), .string k].toArray w (RMoved H w b A l c (posL l (aheadOf k l : Nat))) := by
  have hc' := hc
  unfold RefAt at hc
  have hal := ahead_le k l
  refine CallW_of_CW Try.func40 rfl Try.ntmps40 Try.results40 rfl ?_
  (refine CW_seq ?_; refine CW_region rfl ?_; refine S_op ?_; refine W_assignBool (by first | rfl | assumption) ?_; refine S_nil ?_; refine CW_seq ?_; refine CW_region rfl ?_; refine S_op ?_; refine W_assignInt (by first | rfl | assumption) ?_; refine S_nil ?_; refine CW_seq ?_; refine CW_block ?_)
  refine CW_loopM [5, 6, 7, 8, 9, 10, 11, 12, 13, 14, 15, 16, 17, 18, 19, 20, 21, 22, 23, 24, 25, 26]
    (fun m u w2 => ∃ (i : Nat), u 5 = .int .i64 (i : Int) ∧ w2 = w ∧ i ≤ aheadOf k l ∧ aheadOf k l - i ≤ m)
    (m := aheadOf k l) ⟨0, rfl, rfl, by omega, by omega⟩ ?_
  rintro m u w2 ⟨i, h5, rfl, hi, hm⟩
  by_cases hlt : i < aheadOf k l
  · have hil : i < l.length := by omega
    obtain ⟨bb, off, hA, hrow⟩ := hl.some hil
    have hk : slt (ent l i).key k = true := ahead_lt hlt
    (refine CW_seq ?_; refine CW_seq ?_; refine CW_region rfl ?_; refine S_op ?_; refine W_moveInt (by first | rfl | assumption) ?_; refine S_op ?_; refine W_movePtr (by first | rfl | assumption) ?_; refine S_op ?_; refine W_nilCheck (by first | rfl | assumption) ?_; refine S_op ?_; refine W_field (by first | rfl | assumption) ?_; refine S_op ?_; refine W_loadM (by first | rfl | assumption) (by assumption) (by rfl) ?_; refine S_op ?_; refine W_len (by first | rfl | assumption) ?_; refine S_op ?_; refine W_lssT (by first | rfl | assumption) (by first | rfl | assumption) (by first | omega | rfl) ?_; refine S_op ?_; refine W_moveBool (by first | rfl | assumption) ?_; refine S_want (by rfl) ?_; refine W_movePtr (by first | rfl | assumption) ?_; refine S_want (by rfl) ?_; refine W_nilCheck (by first | rfl | assumption) ?_; refine S_want (by rfl) ?_; refine W_field (by first | rfl | assumption) ?_; refine S_want (by rfl) ?_; refine W_loadM (by first | rfl | assumption) (by assumption) (by rfl) ?_; refine S_want (by rfl) ?_; refine W_moveInt (by first | rfl | assumption) ?_; refine S_want (by rfl) ?_; refine W_index (by first | rfl | assumption) (by first | rfl | assumption) (by first | assumption | omega | decide) (by first | rfl | assumption) ?_; refine S_want (by rfl) ?_; refine W_field (by first | rfl | assumption) ?_; refine S_want (by rfl) ?_; refine W_loadKey (by first | rfl | assumption) (by assumption) (by first | assumption | omega) (by assumption) ?_; refine S_want (by rfl) ?_; refine W_moveStr (by first | rfl | assumption) ?_; refine S_want (by rfl) ?_; refine W_slssB (by first | rfl | assumption) (by first | rfl | assumption) (by assumption) ?_; refine S_op ?_; refine W_pickT (by first | rfl | assumption) (by first | rfl | assumption) ?_; refine S_nil ?_; refine CW_true (by first | rfl | assumption) ?_; refine CW_skip ?_; refine CW_block ?_; refine CW_region rfl ?_; refine S_op ?_; refine W_moveInt (by first | rfl | assumption) ?_; refine S_op ?_; refine W_add1 (by first | rfl | assumption) (by omega) ?_; refine S_op ?_; refine W_assignInt (by first | rfl | assumption) ?_; refine S_nil ?_)
    exact ⟨(by repeat (first | exact AgreeOff.over | refine AgreeOff.upd rfl ?_ | refine AgreeOff.over2 rfl ?_)), m - 1, by omega, i + 1, rfl, rfl, by omega, by omega⟩
  · have hia : i = aheadOf k l := by omega
    by_cases hil : i < l.length
    · obtain ⟨bb, off, hA, hrow⟩ := hl.some hil
      have hk : slt (ent l i).key k = false := by rw [hia] at hil ⊢; exact ahead_ge hil
      (refine CW_seq ?_; refine CW_seq ?_; refine CW_region rfl ?_; refine S_op ?_; refine W_moveInt (by first | rfl | assumption) ?_; refine S_op ?_; refine W_movePtr (by first | rfl | assumption) ?_; refine S_op ?_; refine W_nilCheck (by first | rfl | assumption) ?_; refine S_op ?_; refine W_field (by first | rfl | assumption) ?_; refine S_op ?_; refine W_loadM (by first | rfl | assumption) (by assumption) (by rfl) ?_; refine S_op ?_; refine W_len (by first | rfl | assumption) ?_; refine S_op ?_; refine W_lssT (by first | rfl | assumption) (by first | rfl | assumption) (by first | omega | rfl) ?_; refine S_op ?_; refine W_moveBool (by first | rfl | assumption) ?_; refine S_want (by rfl) ?_; refine W_movePtr (by first | rfl | assumption) ?_; refine S_want (by rfl) ?_; refine W_nilCheck (by first | rfl | assumption) ?_; refine S_want (by rfl) ?_; refine W_field (by first | rfl | assumption) ?_; refine S_want (by rfl) ?_; refine W_loadM (by first | rfl | assumption) (by assumption) (by rfl) ?_; refine S_want (by rfl) ?_; refine W_moveInt (by first | rfl | assumption) ?_; refine S_want (by rfl) ?_; refine W_index (by first | rfl | assumption) (by first | rfl | assumption) (by first | assumption | omega | decide) (by first | rfl | assumption) ?_; refine S_want (by rfl) ?_; refine W_field (by first | rfl | assumption) ?_; refine S_want (by rfl) ?_; refine W_loadKey (by first | rfl | assumption) (by assumption) (by first | assumption | omega) (by assumption) ?_; refine S_want (by rfl) ?_; refine W_moveStr (by first | rfl | assumption) ?_; refine S_want (by rfl) ?_; refine W_slssB (by first | rfl | assumption) (by first | rfl | assumption) (by assumption) ?_; refine S_op ?_; refine W_pickT (by first | rfl | assumption) (by first | rfl | assumption) ?_; refine S_nil ?_; refine CW_false (by first | rfl | assumption) ?_; refine CW_exit ?_; refine CW_seq ?_; refine CW_region rfl ?_; refine S_op ?_; refine W_movePtr (by first | rfl | assumption) ?_; refine S_op ?_; refine W_moveInt (by first | rfl | assumption) ?_)
      refine S_op ?_
      refine W_callW (by rfl) ((rTo_c (i : Int) hS hc').mono ?_)
      rintro v w' ⟨H', hT, rfl, hr⟩
      (refine S_op ?_; refine W_assignBool (by first | rfl | assumption) ?_; refine S_nil ?_; refine CW_ret ?_)
      rw [hia] at hr ⊢
      exact ⟨_, ResW_one (v := .bool _) rfl, H', hT, rfl, hr⟩
    · (refine CW_seq ?_; refine CW_seq ?_; refine CW_region rfl ?_; refine S_op ?_; refine W_moveInt (by first | rfl | assumption) ?_; refine S_op ?_; refine W_movePtr (by first | rfl | assumption) ?_; refine S_op ?_; refine W_nilCheck (by first | rfl | assumption) ?_; refine S_op ?_; refine W_field (by first | rfl | assumption) ?_; refine S_op ?_; refine W_loadM (by first | rfl | assumption) (by assumption) (by rfl) ?_; refine S_op ?_; refine W_len (by first | rfl | assumption) ?_; refine S_op ?_; refine W_lssF (by first | rfl | assumption) (by first | rfl | assumption) (by first | omega | rfl) ?_; refine S_op ?_; refine W_moveBool (by first | rfl | assumption) ?_; refine S_pass (by rfl) ?_; refine S_pass (by rfl) ?_; refine S_pass (by rfl) ?_; refine S_pass (by rfl) ?_; refine S_pass (by rfl) ?_; refine S_pass (by rfl) ?_; refine S_pass (by rfl) ?_; refine S_pass (by rfl) ?_; refine S_pass (by rfl) ?_; refine S_pass (by rfl) ?_; refine S_op ?_; refine W_pickF (by first | rfl | assumption) (by first | rfl | assumption) ?_; refine S_nil ?_; refine CW_false (by first | rfl | assumption) ?_; refine CW_exit ?_; refine CW_seq ?_; refine CW_region rfl ?_; refine S_op ?_; refine W_movePtr (by first | rfl | assumption) ?_; refine S_op ?_; refine W_moveInt (by first | rfl | assumption) ?_)
      refine S_op ?_
      refine W_callW (by rfl) ((rTo_c (i : Int) hS hc').mono ?_)
      rintro v w' ⟨H', hT, rfl, hr⟩
      (refine S_op ?_; refine W_assignBool (by first | rfl | assumption) ?_; refine S_nil ?_; refine CW_ret ?_)
      rw [hia] at hr ⊢
      exact ⟨_, ResW_one (v := .bool _) rfl, H', hT, rfl, hr⟩
theorem rGo_no (by_ : Int) (hS : Sub H w) (hc : RefAt H w b A l c none) : CallW Try.prog 41 [.pointer (some ⟨b, 0, none⟩), .int .i64 by_].toArray w (RMoved H w b A l c none) := by
  replace hc : Mut H w b [.slice A l.length c, .int .i64 (-1)] := hc
  refine CallW_of_CW Try.func41 rfl Try.ntmps41 Try.results41 rfl ?_
  (refine CW_seq ?_; refine CW_region rfl ?_; refine S_op ?_; refine W_assignBool (by first | rfl | assumption) ?_; refine S_nil ?_; refine CW_seq ?_; refine CW_region rfl ?_; refine S_op ?_; refine W_movePtr (by first | rfl | assumption) ?_; refine S_op ?_; refine W_nilCheck (by first | rfl | assumption) ?_; refine S_op ?_; refine W_field (by first | rfl | assumption) ?_; refine S_op ?_; refine W_loadM (by first | rfl | assumption) (by assumption) (by rfl) ?_; refine S_op ?_; refine W_geqF (by first | rfl | assumption) (by first | rfl | assumption) (by first | omega | rfl) ?_; refine S_op ?_; refine W_moveBool (by first | rfl | assumption) ?_; refine S_pass (by rfl) ?_; refine S_pass (by rfl) ?_; refine S_pass (by rfl) ?_; refine S_pass (by rfl) ?_; refine S_pass (by rfl) ?_; refine S_pass (by rfl) ?_; refine S_pass (by rfl) ?_; refine S_pass (by rfl) ?_; refine S_op ?_; refine W_pickF (by first | rfl | assumption) (by first | rfl | assumption) ?_; refine S_op ?_; refine W_assignBool (by first | rfl | assumption) ?_; refine S_nil ?_; refine CW_ret ?_)
  exact ⟨_, ResW_one (v := .bool _) rfl, H, Turn.refl hS, rfl, hc⟩
theorem rGo_c {i : Nat} (by_ : Int) (hb : (i : Int) ≤ 1000000) (hby : -10 ≤ by_ ∧ by_ ≤ 10) (hS : Sub H w) (hc : RefAt H w b A l c (some i)) : CallW Try.prog 41 [.pointer (some ⟨b, 0, none⟩), .int .i64 by_].toArray w (RMoved H w b A l c (posL l ((i : Int) + by_))) := by
  have hc' := hc
  replace hc : Mut H w b [.slice A l.length c, .int .i64 (i : Int)] := hc
  refine CallW_of_CW Try.func41 rfl Try.ntmps41 Try.results41 rfl ?_
  (refine CW_seq ?_; refine CW_region rfl ?_; refine S_op ?_; refine W_assignBool (by first | rfl | assumption) ?_; refine S_nil ?_; refine CW_seq ?_; refine CW_region rfl ?_; refine S_op ?_; refine W_movePtr (by first | rfl | assumption) ?_; refine S_op ?_; refine W_nilCheck (by first | rfl | assumption) ?_; refine S_op ?_; refine W_field (by first | rfl | assumption) ?_; refine S_op ?_; refine W_loadM (by first | rfl | assumption) (by assumption) (by rfl) ?_; refine S_op ?_; refine W_geqT (by first | rfl | assumption) (by first | rfl | assumption) (by first | omega | rfl) ?_; refine S_op ?_; refine W_moveBool (by first | rfl | assumption) ?_; refine S_want (by rfl) ?_; refine W_movePtr (by first | rfl | assumption) ?_; refine S_want (by rfl) ?_; refine W_movePtr (by first | rfl | assumption) ?_; refine S_want (by rfl) ?_; refine W_nilCheck (by first | rfl | assumption) ?_; refine S_want (by rfl) ?_; refine W_field (by first | rfl | assumption) ?_; refine S_want (by rfl) ?_; refine W_loadM (by first | rfl | assumption) (by assumption) (by rfl) ?_; refine S_want (by rfl) ?_; refine W_moveInt (by first | rfl | assumption) ?_)
  refine S_want (by rfl) ?_
  refine W_add (q := (i : Int) + by_) (by rfl) (by rfl) (IntWalk.i64_in _ (by omega)) ?_
  refine S_want (by rfl) ?_
  refine W_callW (by rfl) ((rTo_c ((i : Int) + by_) hS hc').mono ?_)
  rintro v w' ⟨H', hT, rfl, hr⟩
  (refine S_op ?_; refine W_pickT (by first | rfl | assumption) (by first | rfl | assumption) ?_; refine S_op ?_; refine W_assignBool (by first | rfl | assumption) ?_; refine S_nil ?_; refine CW_ret ?_)
  exact ⟨_, ResW_one (v := .bool _) rfl, H', hT, rfl, hr⟩
theorem rEntry_c (hS : Sub H w) (hl : EntsAt H A l) (hp : ∀ i, p = some i → i < l.length) (hb : l.length ≤ 1000000) (hc : RefAt H w b A l c p) :
    CallW Try.prog 42 [.pointer (some ⟨b, 0, none⟩)].toArray w fun v w' => ∃ H', Grow H w H' w' ∧ v = .tuple #[.agg #[.string (keyP l p), .string (valP l p)], .bool p.isSome] := by
  obtain ⟨w0, rfl⟩ : ∃ w0, w0 = w := ⟨_, rfl⟩
  refine CallW_of_CW Try.func42 rfl Try.ntmps42 Try.results42 rfl ?_
  have hG := Grow.refl hS
  (refine CW_seq ?_; refine CW_region rfl ?_)
  (refine S_op (W_alloc hS ?_)); intro w c2b hG' c2h c2; replace c2h := Nat.le_trans hG.below.size (Nat.le_of_eq c2h); replace hG := hG.trans hG'; replace hS := hG'.sub; clear hG'
  have hc0 := hc
  replace hc := hc.grow hG
  cases p with
  | none =>
    replace hc : Mut H _ b [.slice A l.length c, .int .i64 (-1)] := hc
    (refine S_op ?_; refine W_assignBool (by first | rfl | assumption) ?_; refine S_nil ?_; refine CW_seq ?_; refine CW_seq ?_; refine CW_region rfl ?_; refine S_op ?_; refine W_movePtr (by first | rfl | assumption) ?_; refine S_op ?_; refine W_nilCheck (by first | rfl | assumption) ?_; refine S_op ?_; refine W_field (by first | rfl | assumption) ?_; refine S_op ?_; refine W_loadM (by first | rfl | assumption) (by assumption) (by rfl) ?_; refine S_op ?_; refine W_lssT (by first | rfl | assumption) (by first | rfl | assumption) (by first | omega | rfl) ?_; refine S_nil ?_; refine CW_true (by first | rfl | assumption) ?_; refine CW_seq ?_; refine CW_region rfl ?_; refine S_op ?_; refine W_build (by rfl) ?_)
    (refine S_op0 (W_storeM (o := 0) (vs := [.string ⟨#[]⟩, .string ⟨#[]⟩]) (by rfl) (by rfl) c2 (by rfl) (OneCells.of_all (by rfl)) (by rfl) (Nat.le_of_ble_eq_true (by rfl)) ?_)); intro w hgb' hm'; replace hG := hG.grownBy hgb' (fun g h => by cases h; exact ⟨c2.out, c2h⟩); replace hS := hG.sub; replace c2 : Mut _ w c2b ([.string ⟨#[]⟩, .string ⟨#[]⟩]) := hm'; clear hm'; clear hgb'
    (refine S_op ?_; refine W_assignBool (by first | rfl | assumption) ?_; refine S_nil ?_; refine CW_ret ?_)
    exact ⟨_, ResW_v2 (v2 := .bool _) (RV_cell rfl c2 rfl) rfl, H, hG, rfl⟩
  | some i =>
    have hi := hp i rfl
    replace hc : Mut H _ b [.slice A l.length c, .int .i64 (i : Int)] := hc
    obtain ⟨bb, off, hA, hrow⟩ := hl.some hi
    (refine S_op ?_; refine W_assignBool (by first | rfl | assumption) ?_; refine S_nil ?_; refine CW_seq ?_; refine CW_seq ?_; refine CW_region rfl ?_; refine S_op ?_; refine W_movePtr (by first | rfl | assumption) ?_; refine S_op ?_; refine W_nilCheck (by first | rfl | assumption) ?_; refine S_op ?_; refine W_field (by first | rfl | assumption) ?_; refine S_op ?_; refine W_loadM (by first | rfl | assumption) (by assumption) (by rfl) ?_; refine S_op ?_; refine W_lssF (by first | rfl | assumption) (by first | rfl | assumption) (by first | omega | rfl) ?_; refine S_nil ?_; refine CW_false (by first | rfl | assumption) ?_; refine CW_skip ?_; refine CW_seq ?_)
    replace hc0 : Mut H w0 b [.slice A l.length c, .int .i64 (i : Int)] := hc0
    apply CW_region_gn (fun k H w => Mut H w c2b (match k with | 0 => [.string ⟨#[]⟩, .string ⟨#[]⟩] | _ => [.string (ent l i).key, .string (ent l i).val])) 0 [_, _, _, _, _, _, _, _, _, _, _, _] [none, none, none, none, none, none, none, none, none, none, some 0, none] [some 10, some 11, some 12, some 13, some 14, some 15, some 16, some 17, some 18, some 19, none, some 3] [10, 11, 12, 13, 14, 15, 16, 17, 18, 19, 3] mixed rfl rfl rfl rfl (by decide) rfl rfl rfl (by assumption)
    · exact c2
    · exact fun c H w H' w' h hg => h.grow hg
    · ((apply steps_cons; case h1 => (apply A_pure; intro c u H' w' hG; have hS' := hG.sub; have hS2' := hG.subOld; (try (have hM0 := hc0.grow hG.grow)); (repeat (first | refine depGo_eq rfl rfl rfl ?_ | (refine depGo_fact rfl rfl rfl ?_; intro v hv) | refine depGo_skip rfl ?_ | refine depGo_none rfl ?_)); apply Pure1.mk; intro K hk; exact W_movePtr (by first | rfl | assumption) hk)); (apply steps_cons; case h1 => (apply A_pure; intro c u H' w' hG; have hS' := hG.sub; have hS2' := hG.subOld; (try (have hM0 := hc0.grow hG.grow)); (repeat (first | refine depGo_eq rfl rfl rfl ?_ | (refine depGo_fact rfl rfl rfl ?_; intro v hv) | refine depGo_skip rfl ?_ | refine depGo_none rfl ?_)); apply Pure1.mk; intro K hk; exact W_nilCheck (by first | rfl | assumption) hk)); (apply steps_cons; case h1 => (apply A_pure; intro c u H' w' hG; have hS' := hG.sub; have hS2' := hG.subOld; (try (have hM0 := hc0.grow hG.grow)); (repeat (first | refine depGo_eq rfl rfl rfl ?_ | (refine depGo_fact rfl rfl rfl ?_; intro v hv) | refine depGo_skip rfl ?_ | refine depGo_none rfl ?_)); apply Pure1.mk; intro K hk; exact W_field (by first | rfl | assumption) hk)); (apply steps_cons; case h1 => (apply A_pure; intro c u H' w' hG; have hS' := hG.sub; have hS2' := hG.subOld; (try (have hM0 := hc0.grow hG.grow)); (repeat (first | refine depGo_eq rfl rfl rfl ?_ | (refine depGo_fact rfl rfl rfl ?_; intro v hv) | refine depGo_skip rfl ?_ | refine depGo_none rfl ?_)); apply Pure1.mk; intro K hk; exact W_loadM (by first | rfl | assumption) (by assumption) (by rfl) hk)); (apply steps_cons; case h1 => (apply A_pure; intro c u H' w' hG; have hS' := hG.sub; have hS2' := hG.subOld; (try (have hM0 := hc0.grow hG.grow)); (repeat (first | refine depGo_eq rfl rfl rfl ?_ | (refine depGo_fact rfl rfl rfl ?_; intro v hv) | refine depGo_skip rfl ?_ | refine depGo_none rfl ?_)); apply Pure1.mk; intro K hk; exact W_movePtr (by first | rfl | assumption) hk)); (apply steps_cons; case h1 => (apply A_pure; intro c u H' w' hG; have hS' := hG.sub; have hS2' := hG.subOld; (try (have hM0 := hc0.grow hG.grow)); (repeat (first | refine depGo_eq rfl rfl rfl ?_ | (refine depGo_fact rfl rfl rfl ?_; intro v hv) | refine depGo_skip rfl ?_ | refine depGo_none rfl ?_)); apply Pure1.mk; intro K hk; exact W_nilCheck (by first | rfl | assumption) hk)); (apply steps_cons; case h1 => (apply A_pure; intro c u H' w' hG; have hS' := hG.sub; have hS2' := hG.subOld; (try (have hM0 := hc0.grow hG.grow)); (repeat (first | refine depGo_eq rfl rfl rfl ?_ | (refine depGo_fact rfl rfl rfl ?_; intro v hv) | refine depGo_skip rfl ?_ | refine depGo_none rfl ?_)); apply Pure1.mk; intro K hk; exact W_field (by first | rfl | assumption) hk)); (apply steps_cons; case h1 => (apply A_pure; intro c u H' w' hG; have hS' := hG.sub; have hS2' := hG.subOld; (try (have hM0 := hc0.grow hG.grow)); (repeat (first | refine depGo_eq rfl rfl rfl ?_ | (refine depGo_fact rfl rfl rfl ?_; intro v hv) | refine depGo_skip rfl ?_ | refine depGo_none rfl ?_)); apply Pure1.mk; intro K hk; exact W_loadM (by first | rfl | assumption) (by assumption) (by rfl) hk)); (apply steps_cons; case h1 => (apply A_pure; intro c u H' w' hG; have hS' := hG.sub; have hS2' := hG.subOld; (try (have hM0 := hc0.grow hG.grow)); (repeat (first | refine depGo_eq rfl rfl rfl ?_ | (refine depGo_fact rfl rfl rfl ?_; intro v hv) | refine depGo_skip rfl ?_ | refine depGo_none rfl ?_)); apply Pure1.mk; intro K hk; exact W_index (by first | rfl | assumption) (by first | rfl | assumption) (by first | assumption | omega | decide) (by first | rfl | assumption) hk)); (apply steps_cons; case h1 => (apply A_pure; intro c u H' w' hG; have hS' := hG.sub; have hS2' := hG.subOld; (try (have hM0 := hc0.grow hG.grow)); (repeat (first | refine depGo_eq rfl rfl rfl ?_ | (refine depGo_fact rfl rfl rfl ?_; intro v hv) | refine depGo_skip rfl ?_ | refine depGo_none rfl ?_)); apply Pure1.mk; intro K hk; exact W_loadEnt (by first | rfl | assumption) (by assumption) (by first | assumption | omega) (by assumption) hk)))
      apply steps_cons
      · refine A_eff (φ := fun _ _ => True) ?_
        intro u' H' w' hG'
        have hS' := hG'.sub
        have hq : Mut H' w' c2b [.string ⟨#[]⟩, .string ⟨#[]⟩] := hG'.m
        (repeat (first | refine depGo_eq rfl rfl rfl ?_ | (refine depGo_fact rfl rfl rfl ?_; intro v hv) | refine depGo_skip rfl ?_ | refine depGo_none rfl ?_))
        refine depGo_nil ?_
        refine W_storeM (o := 0) (vs := [.string (ent l i).key, .string (ent l i).val]) (by rfl) (by rfl) hq (by rfl) (OneCells.of_all (by rfl)) (by rfl) (Nat.le_of_ble_eq_true (by rfl)) ?_
        intro w3 hgb hm3
        exact ⟨H', HLe.refl _, hG'.next (hG'.grow.grownBy hgb (fun g h => by cases h; exact ⟨hq.out, c2h⟩)) hm3, fun _ _ => trivial⟩
      ((apply steps_cons; case h1 => (apply A_pure; intro c u H' w' hG; have hS' := hG.sub; have hS2' := hG.subOld; (repeat (first | refine depGo_eq rfl rfl rfl ?_ | (refine depGo_fact rfl rfl rfl ?_; intro v hv) | refine depGo_skip rfl ?_ | refine depGo_none rfl ?_)); apply Pure1.mk; intro K hk; exact W_assignBool (by first | rfl | assumption) hk)); exact trivial)
    · intro k H' w' hk hG' hle hM
      (repeat (first | refine fin_eq rfl rfl ?_ | (refine fin_fact rfl ?_; intro v hv) | refine fin_none rfl ?_)); refine fin_nil ?_
      obtain ⟨k, rfl⟩ : ∃ q, k = q + 1 := ⟨k - 1, by omega⟩
      replace hM : Mut H' w' c2b [.string (ent l i).key, .string (ent l i).val] := hM
      (refine CW_ret ?_)
      exact ⟨_, ResW_v2 (v2 := .bool _) (RV_cell rfl hM rfl) rfl, H', hG', rfl⟩
end
end Go.Proofs.Ytgaabmoknpifnaa
