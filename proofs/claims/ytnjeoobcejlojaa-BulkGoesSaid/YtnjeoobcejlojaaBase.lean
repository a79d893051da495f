/- The ground of these proofs: frames as functions, weakest preconditions of code over them, a persistent part of the heap. Conditions: none; it speaks of no function of the program. -/
import Derived.OrdersIn
import Derived.Below
import Derived.Laws.AppendOwn
namespace Go.Proofs.Ytnjeoobcejlojaa
open Go.RowKit
set_option linter.unusedVariables false
set_option linter.unusedSimpArgs false

/-! ### Frames -/
abbrev Fr := Nat → Value
def upd (f : Fr) (d : Nat) (v : Value) : Fr := fun t => bif Nat.beq t d then v else f t
def updO (f : Fr) : Option Nat → Value → Fr
  | some d, v => upd f d v
  | none, _ => f
def ev (f : Fr) : Operand → Value
  | .tmp t => f t
  | .const v => v
  | .global g => .pointer (some ⟨g, 0, none⟩)
  | .func k => .func (.func k) #[] #[]
/-- The frame of an act. -/
structure Rep (n : Nat) (a : Act) (f : Fr) : Prop where
  size : a.tmps.size = n
  at_ : ∀ t, a.tmps.getD t undef = f t
theorem Rep.eval {n : Nat} {a : Act} {f : Fr} (h : Rep n a f) : a.eval = ev f := by
  funext x
  cases x <;> simp only [Act.eval, ev]
  exact h.at_ _
theorem Rep.put {n : Nat} {a : Act} {f : Fr} (h : Rep n a f) (o : Option Nat) (ho : ∀ d, o = some d → d < n) (v : Value) : Rep n (a.put o v) (updO f o v) := by
  cases o with
  | none => exact h
  | some d =>
    have hd := ho d rfl
    refine ⟨by simp [Act.put, h.size], fun t => ?_⟩
    simp only [Act.put, updO, upd]
    have hd2 : d < a.tmps.size := by rw [h.size]; exact hd
    by_cases e : t = d
    · subst e
      simp [Array.getD_eq_getD_getElem?, Array.getElem?_setIfInBounds, hd2]
    · have e2 : Nat.beq t d = false := by cases hh : Nat.beq t d; rfl; exact absurd (Nat.eq_of_beq_eq_true hh) e
      rw [e2, ← h.at_ t]
      simp [Array.getD_eq_getD_getElem?, Array.getElem?_setIfInBounds, Ne.symm e]

theorem put_defers (a : Act) (o : Option Nat) (v : Value) : (a.put o v).defers = a.defers := by cases o <;> rfl
/-- The marks of loops over iterators that lie on an activation: blocks for the rounds' deferred calls. -/
def markOf (D : Nat) : Deferred := { target := .collected D, args := #[] }
/-! ### Fences -/
def FW (r : Option Nat) : Fence := { fn := fun _ => True, depth := none, alive := false, round := r }
theorem FW_none : FW none = Fence.wide := rfl

/-! ### One operation -/
section
variable (P : Program) (r : Option Nat)
/-- The operation ends with a value that K takes: no panic. -/
def OpW (o : Oper) (f : Fr) (w : World) (K : Value → World → Prop) : Prop :=
  ∀ (a : Act) (n : Nat), Rep n a f → ∀ Q, o.wpIn (FW r) 0 P a w (fun a' w' => ∃ v, a' = a.put o.dst v ∧ K v w') Q
def yieldF (ops : Array Oper) (f : Fr) (j : Nat) : Option Bool :=
  match ((ops[j]?).bind (·.dst)) with
  | some t => (match f t with | .bool b => some b | _ => none)
  | none => none
def wantF (ops : Array Oper) (o : Oper) (f : Fr) : Bool :=
  match o.guard with
  | none => true
  | some (j, want) => yieldF ops f j == some want
/-- A region's operations, one after the other. -/
def SeqW (ops : Array Oper) (Q : Fr → World → Prop) : List Oper → Fr → World → Prop
  | [], f, w => Q f w
  | o :: rest, f, w => if wantF ops o f then OpW P r o f w (fun v w' => SeqW ops Q rest (updO f o.dst v) w') else SeqW ops Q rest (updO f o.dst undef) w
/-- The weakest precondition of code: normal end, return, exit by a block's number; ds: the marks. -/
def CWD (n : Nat) (c : Code) (Qn Qr : List Nat → Fr → World → Prop) (Qx : Nat → List Nat → Fr → World → Prop) (ds : List Nat) (f : Fr) (w : World) : Prop :=
  ∀ a, Rep n a f → a.defers = ds.map markOf → c.wpIn (FW r) 0 P (fun e a' w' => ∃ f' ds', Rep n a' f' ∧ a'.defers = ds'.map markOf ∧ match e with
    | .normal => Qn ds' f' w' | .ret => Qr ds' f' w' | .exit i => Qx i ds' f' w' | _ => False) a w
/-- Where there are no marks. -/
def CW (n : Nat) (c : Code) (Qn Qr : Fr → World → Prop) (Qx : Nat → Fr → World → Prop) (f : Fr) (w : World) : Prop :=
  CWD P r n c (fun ds f w => ds = [] ∧ Qn f w) (fun ds f w => ds = [] ∧ Qr f w) (fun i ds f w => ds = [] ∧ Qx i f w) [] f w
end

theorem yieldF_eq {n : Nat} {a : Act} {f : Fr} (h : Rep n a f) (ops : Array Oper) (j : Nat) : yielded ops a.tmps j = yieldF ops f j := by
  unfold yielded yieldF
  cases h1 : (ops[j]?).bind (·.dst) with
  | none => simp
  | some t =>
    simp only [Option.bind_some]
    have h2 := h.at_ t
    rw [Array.getD_eq_getD_getElem?] at h2
    cases h3 : a.tmps[t]? with
    | none =>
      rw [h3] at h2
      simp only [Option.getD_none] at h2
      rw [← h2]
      rfl
    | some v =>
      rw [h3] at h2
      simp only [Option.getD_some] at h2
      rw [h2]
      cases f t <;> rfl
theorem wantF_eq {n : Nat} {a : Act} {f : Fr} (h : Rep n a f) (ops : Array Oper) (o : Oper) : Region.wanted o (yielded ops a.tmps) = wantF ops o f := by
  unfold Region.wanted wantF
  split <;> simp_all [yieldF_eq h]

section
variable {P : Program} {r : Option Nat} {n : Nat} {Qn Qr : Fr → World → Prop} {Qx : Nat → Fr → World → Prop} {f : Fr} {w : World}

theorem OpW.mono {o : Oper} {K K' : Value → World → Prop} (h : OpW P r o f w K) (hk : ∀ v w', K v w' → K' v w') : OpW P r o f w K' :=
  fun a n ha Q => Oper.wpIn_mono (fun _ _ ⟨v, h1, h2⟩ => ⟨v, h1, hk _ _ h2⟩) (h a n ha Q)

theorem seq_sound {ops : Array Oper} {Q : Fr → World → Prop} {Q' : Exit → Act → World → Prop} {d0 : List Deferred} (hQ : ∀ a f w, Rep n a f → a.defers = d0 → Q f w → Q' .normal a w) :
    ∀ (l : List Nat) (os : List Oper), (∀ o ∈ os, ∀ d, o.dst = some d → d < n) → l.map (ops[·]?) = os.map some → ∀ (f : Fr) (w : World), SeqW P r ops Q os f w → ∀ a, Rep n a f → a.defers = d0 → wpOpsIn (FW r) 0 P ops Q' l a w := by
  intro l
  induction l with
  | nil =>
    intro os _ hl f w h a ha hd0
    cases os with
    | nil => exact hQ _ _ _ ha hd0 h
    | cons => simp at hl
  | cons i rest ih =>
    intro os hb hl f w h a ha hd0
    cases os with
    | nil => simp at hl
    | cons o os =>
      simp only [List.map_cons, List.cons.injEq] at hl
      obtain ⟨hi, hl⟩ := hl
      simp only [wpOpsIn, hi]
      rw [wantF_eq ha]
      simp only [SeqW] at h
      have hbo := hb o (by simp)
      by_cases hw : wantF ops o f = true
      · simp only [hw, if_true] at h ⊢
        refine Oper.wpIn_mono ?_ (h a n ha _)
        rintro a' w' ⟨v, rfl, h2⟩
        exact ih os (fun o ho => hb o (by simp [ho])) hl _ _ h2 _ (ha.put _ hbo v) ((put_defers _ _ _).trans hd0)
      · simp only [hw] at h ⊢
        exact ⟨fun _ _ => trivial, ih os (fun o ho => hb o (by simp [ho])) hl _ _ h _ (ha.put _ hbo undef) ((put_defers _ _ _).trans hd0)⟩

/-- All destinations lie in the frame. -/
def dstsOk (n : Nat) (ops : Array Oper) : Bool := ops.toList.all fun o => match o.dst with | some d => Nat.blt d n | none => true
theorem dstsOk_spec {ops : Array Oper} (h : dstsOk n ops = true) : ∀ o ∈ ops.toList, ∀ d, o.dst = some d → d < n := by
  intro o ho d hd
  have := List.all_eq_true.1 h o ho
  rw [hd] at this
  exact Nat.le_of_ble_eq_true this
theorem range_map_some (ops : Array Oper) : (List.range ops.size).map (ops[·]?) = ops.toList.map some := by
  apply List.ext_getElem?
  intro i
  by_cases h : i < ops.size
  · simp [h, List.getElem?_range]
  · simp [h]
/-! ### With marks -/
section
variable {Qn Qr Qn' Qr' : List Nat → Fr → World → Prop} {Qx Qx' : Nat → List Nat → Fr → World → Prop} {ds : List Nat}
theorem CWD_region {id : Nat} {ops : Array Oper} (hd : dstsOk n ops = true) (h : SeqW P r ops (fun f w => Qn ds f w) ops.toList f w) : CWD P r n (.region id ops false) Qn Qr Qx ds f w := by
  intro a ha hds
  refine wpIn_region (seq_sound (n := n) (Q := fun f w => Qn ds f w) (d0 := ds.map markOf) ?_ _ ops.toList (dstsOk_spec hd) (range_map_some ops) f w h a ha hds)
  exact fun a f w ha hd hq => ⟨f, ds, ha, hd, hq⟩
theorem CWD_mono {c : Code} (h : CWD P r n c Qn Qr Qx ds f w) (h1 : ∀ ds f w, Qn ds f w → Qn' ds f w) (h2 : ∀ ds f w, Qr ds f w → Qr' ds f w)
    (h3 : ∀ i ds f w, Qx i ds f w → Qx' i ds f w) : CWD P r n c Qn' Qr' Qx' ds f w := by
  intro a ha hd
  refine wpIn_mono (h a ha hd) ?_
  rintro e a' w' ⟨f', ds', hr, hd', hq⟩
  refine ⟨f', ds', hr, hd', ?_⟩
  cases e <;> simp only at hq ⊢
  · exact h1 _ _ _ hq
  · exact h3 _ _ _ _ hq
  · exact h2 _ _ _ hq
theorem CWD_skip (h : Qn ds f w) : CWD P r n .skip Qn Qr Qx ds f w := fun a ha hd => wpIn_skip ⟨f, ds, ha, hd, h⟩
def xblkD (id : Nat) (Qn : List Nat → Fr → World → Prop) (Qx : Nat → List Nat → Fr → World → Prop) (i : Nat) (ds : List Nat) (f : Fr) (w : World) : Prop := bif Nat.beq i id then Qn ds f w else Qx i ds f w
theorem CWD_exit {id : Nat} (h : Qx id ds f w) : CWD P r n (.exit id) Qn Qr Qx ds f w := fun a ha hd => wpIn_exit ⟨f, ds, ha, hd, h⟩
theorem xblkD_hit {id : Nat} (h : Qn ds f w) : xblkD id Qn Qx id ds f w := by
  have : Nat.beq id id = true := by simp
  simp only [xblkD, this, cond_true]; exact h
theorem xblkD_miss {i id : Nat} (hi : Nat.beq i id = false) (h : Qx i ds f w) : xblkD id Qn Qx i ds f w := by
  simp only [xblkD, hi, cond_false]; exact h
theorem CWD_ret (h : Qr ds f w) : CWD P r n .ret Qn Qr Qx ds f w := fun a ha hd => wpIn_ret ⟨f, ds, ha, hd, h⟩
theorem CWD_seq {x y : Code} (h : CWD P r n x (fun ds f w => CWD P r n y Qn Qr Qx ds f w) Qr Qx ds f w) : CWD P r n (.seq x y) Qn Qr Qx ds f w := by
  intro a ha hd
  refine wpIn_seq (wpIn_mono (h a ha hd) ?_)
  rintro e a' w' ⟨f', ds', hr, hd', hq⟩
  cases e <;> simp only [Exit.then] at hq ⊢
  · exact hq a' hr hd'
  all_goals exact ⟨f', ds', hr, hd', hq⟩
theorem CWD_true {c : Operand} {x y : Code} (hc : ev f c = .bool true) (h : CWD P r n x Qn Qr Qx ds f w) : CWD P r n (.cond c x y) Qn Qr Qx ds f w :=
  fun a ha hd => wpIn_cond_true (by rw [ha.eval]; exact hc) (h a ha hd)
theorem CWD_false {c : Operand} {x y : Code} (hc : ev f c = .bool false) (h : CWD P r n y Qn Qr Qx ds f w) : CWD P r n (.cond c x y) Qn Qr Qx ds f w :=
  fun a ha hd => wpIn_cond_false (by rw [ha.eval]; exact hc) (h a ha hd)
theorem CWD_cond {c : Operand} {x y : Code} {t : Bool} (hc : ev f c = .bool t) (ht : t = true → CWD P r n x Qn Qr Qx ds f w) (hf : t = false → CWD P r n y Qn Qr Qx ds f w) :
    CWD P r n (.cond c x y) Qn Qr Qx ds f w :=
  fun a ha hd => wpIn_cond_split (by rw [ha.eval]; exact hc) (fun h => ht h a ha hd) (fun h => hf h a ha hd)
theorem CWD_block {id : Nat} {c : Code} (h : CWD P r n c Qn Qr (xblkD id Qn Qx) ds f w) : CWD P r n (.block id c) Qn Qr Qx ds f w := by
  intro a ha hd
  refine wpIn_block (wpIn_mono (h a ha hd) ?_)
  rintro e a' w' ⟨f', ds', hr, hd', hq⟩
  cases e <;> simp only [Exit.inBlock, xblkD] at hq ⊢
  case exit i =>
    by_cases e : i = id
    · subst e
      have : Nat.beq i i = true := by simp
      rw [this] at hq
      simp only [if_true]
      exact ⟨f', ds', hr, hd', hq⟩
    · have : Nat.beq i id = false := by cases hh : Nat.beq i id; rfl; exact absurd (Nat.eq_of_beq_eq_true hh) e
      rw [this] at hq
      simp only [e, if_false]
      exact ⟨f', ds', hr, hd', hq⟩
  all_goals exact ⟨f', ds', hr, hd', hq⟩
/-- A loop: the invariant bears a number that each round lowers. -/
theorem CWD_loop {c : Code} (I : Nat → List Nat → Fr → World → Prop) {m : Nat} (h0 : I m ds f w) (h : ∀ m ds f w, I m ds f w → CWD P r n c (fun ds f w => ∃ m', m' < m ∧ I m' ds f w) Qr Qx ds f w) :
    CWD P r n (.loop c) Qn Qr Qx ds f w := by
  intro a ha hd
  suffices key : ∀ m ds f w a, I m ds f w → Rep n a f → a.defers = ds.map markOf → (Code.loop c).wpIn (FW r) 0 P (fun e a' w' => ∃ f' ds', Rep n a' f' ∧ a'.defers = ds'.map markOf ∧ match e with
    | .normal => Qn ds' f' w' | .ret => Qr ds' f' w' | .exit i => Qx i ds' f' w' | _ => False) a w from key m ds f w a h0 ha hd
  intro m ds f w a h0 ha hd
  classical
  let J0 : Nat → Act → World → Prop := fun m a w => ∃ ds f, I m ds f w ∧ Rep n a f ∧ a.defers = ds.map markOf
  let J : Act → World → Prop := fun a w => ∃ m, J0 m a w
  have hex : J a w := ⟨m, ds, f, h0, ha, hd⟩
  let μ : Act → World → Nat := fun a w => if h : J a w then Classical.choose (p := fun k => J0 k a w ∧ ∀ j, J0 j a w → k ≤ j) (by
    obtain ⟨m, hm⟩ := h
    induction m using Nat.strongRecOn with
    | _ m ih =>
      by_cases hs : ∃ j, j < m ∧ J0 j a w
      · obtain ⟨j, hj, hf⟩ := hs
        exact ih j hj hf
      · refine ⟨m, hm, fun j hj => ?_⟩
        rcases Nat.lt_or_ge j m with h1 | h1
        · exact absurd ⟨j, h1, hj⟩ hs
        · exact h1) else 0
  refine wpIn_loop J μ hex ?_
  intro a w hJ
  have hμ : J0 (μ a w) a w ∧ ∀ j, J0 j a w → μ a w ≤ j := by
    simp only [μ, hJ, dif_pos]
    exact Classical.choose_spec (p := fun k => J0 k a w ∧ ∀ j, J0 j a w → k ≤ j) _
  obtain ⟨⟨ds, f, hI, hr, hd⟩, hmin⟩ := hμ
  refine wpIn_mono (h _ ds f w hI a hr hd) ?_
  rintro e a' w' ⟨f', ds', hr', hd', hq⟩
  cases e <;> simp only [Exit.then] at hq ⊢
  case normal =>
    obtain ⟨m', hm', hI'⟩ := hq
    have hJ' : J a' w' := ⟨m', ds', f', hI', hr', hd'⟩
    refine ⟨hJ', ?_⟩
    have hμ' : ∀ j, J0 j a' w' → μ a' w' ≤ j := by
      simp only [μ, hJ', dif_pos]
      exact (Classical.choose_spec (p := fun k => J0 k a' w' ∧ ∀ j, J0 j a' w' → k ≤ j) _).2
    exact Nat.lt_of_le_of_lt (hμ' m' ⟨ds', f', hI', hr', hd'⟩) hm'
  all_goals exact ⟨f', ds', hr', hd', hq⟩
end
/-! ### Without marks -/
theorem CW_region {id : Nat} {ops : Array Oper} (hd : dstsOk n ops = true) (h : SeqW P r ops Qn ops.toList f w) : CW P r n (.region id ops false) Qn Qr Qx f w := by
  refine CWD_region hd ?_
  have e : (fun f w => ([] : List Nat) = [] ∧ Qn f w) = Qn := by funext f w; simp
  rw [e]; exact h
theorem CW_mono {c : Code} {Qn' Qr' : Fr → World → Prop} {Qx' : Nat → Fr → World → Prop} (h : CW P r n c Qn Qr Qx f w) (h1 : ∀ f w, Qn f w → Qn' f w) (h2 : ∀ f w, Qr f w → Qr' f w)
    (h3 : ∀ i f w, Qx i f w → Qx' i f w) : CW P r n c Qn' Qr' Qx' f w :=
  CWD_mono h (fun _ f w ⟨e, h⟩ => ⟨e, h1 f w h⟩) (fun _ f w ⟨e, h⟩ => ⟨e, h2 f w h⟩) (fun i _ f w ⟨e, h⟩ => ⟨e, h3 i f w h⟩)
theorem CW_skip (h : Qn f w) : CW P r n .skip Qn Qr Qx f w := CWD_skip ⟨rfl, h⟩
/-- What an exit comes to behind a block of that number. -/
def xblk (id : Nat) (Qn : Fr → World → Prop) (Qx : Nat → Fr → World → Prop) (i : Nat) (f : Fr) (w : World) : Prop := bif Nat.beq i id then Qn f w else Qx i f w
theorem CW_exit {id : Nat} (h : Qx id f w) : CW P r n (.exit id) Qn Qr Qx f w := CWD_exit ⟨rfl, h⟩
theorem xblk_hit {id : Nat} (h : Qn f w) : xblk id Qn Qx id f w := by
  have : Nat.beq id id = true := by simp
  simp only [xblk, this, cond_true]; exact h
theorem xblk_miss {i id : Nat} (hi : Nat.beq i id = false) (h : Qx i f w) : xblk id Qn Qx i f w := by
  simp only [xblk, hi, cond_false]; exact h
theorem CW_ret (h : Qr f w) : CW P r n .ret Qn Qr Qx f w := CWD_ret ⟨rfl, h⟩
theorem CW_seq {x y : Code} (h : CW P r n x (fun f w => CW P r n y Qn Qr Qx f w) Qr Qx f w) : CW P r n (.seq x y) Qn Qr Qx f w :=
  CWD_seq (CWD_mono h (fun ds f w ⟨e, h⟩ => by subst e; exact h) (fun _ _ _ h => h) (fun _ _ _ _ h => h))
/-- A cut: what holds between two pieces. -/
theorem CW_seq_cut {x y : Code} (M : Fr → World → Prop) (h : CW P r n x M Qr Qx f w) (h2 : ∀ f w, M f w → CW P r n y Qn Qr Qx f w) : CW P r n (.seq x y) Qn Qr Qx f w :=
  CW_seq (CW_mono h h2 (fun _ _ h => h) (fun _ _ _ h => h))
theorem CW_true {c : Operand} {x y : Code} (hc : ev f c = .bool true) (h : CW P r n x Qn Qr Qx f w) : CW P r n (.cond c x y) Qn Qr Qx f w := CWD_true hc h
theorem CW_false {c : Operand} {x y : Code} (hc : ev f c = .bool false) (h : CW P r n y Qn Qr Qx f w) : CW P r n (.cond c x y) Qn Qr Qx f w := CWD_false hc h
theorem CW_cond {c : Operand} {x y : Code} {t : Bool} (hc : ev f c = .bool t) (ht : t = true → CW P r n x Qn Qr Qx f w) (hf : t = false → CW P r n y Qn Qr Qx f w) :
    CW P r n (.cond c x y) Qn Qr Qx f w := CWD_cond hc ht hf
/-- A test on a proposition. -/
theorem CW_dec {c : Operand} {x y : Code} {p : Prop} [Decidable p] (hc : ev f c = .bool (decide p)) (ht : p → CW P r n x Qn Qr Qx f w) (hf : ¬ p → CW P r n y Qn Qr Qx f w) :
    CW P r n (.cond c x y) Qn Qr Qx f w :=
  CW_cond hc (fun h => ht (of_decide_eq_true h)) (fun h => hf (of_decide_eq_false h))
theorem CW_block {id : Nat} {c : Code} (h : CW P r n c Qn Qr (xblk id Qn Qx) f w) : CW P r n (.block id c) Qn Qr Qx f w := by
  refine CWD_block (CWD_mono h (fun _ _ _ h => h) (fun _ _ _ h => h) ?_)
  rintro i ds f w ⟨e, h⟩
  unfold xblkD
  unfold xblk at h
  cases hb : Nat.beq i id <;> rw [hb] at h <;> exact ⟨e, h⟩
/-- A loop: the invariant bears a number that each round lowers. -/
theorem CW_loop {c : Code} (I : Nat → Fr → World → Prop) {m : Nat} (h0 : I m f w) (h : ∀ m f w, I m f w → CW P r n c (fun f w => ∃ m', m' < m ∧ I m' f w) Qr Qx f w) :
    CW P r n (.loop c) Qn Qr Qx f w := by
  refine CWD_loop (fun m ds f w => ds = [] ∧ I m f w) (m := m) ⟨rfl, h0⟩ ?_
  rintro m ds f w ⟨rfl, hI⟩
  exact CWD_mono (h m f w hI) (fun ds f w ⟨e, m', h1, h2⟩ => ⟨m', h1, e, h2⟩) (fun _ _ _ h => h) (fun _ _ _ _ h => h)
end
end Go.Proofs.Ytnjeoobcejlojaa
