/- Regions that draw, where rows of the caller's are turned. Conditions: each law's own premises. -/
import Derived.Test.YtglhnfficliaoaaPhase
namespace Go.Proofs.Ytglhnfficliaoaa
open Go.Proofs Go.RowKit
set_option linter.unusedVariables false
theorem Turn.after {S X : Nat → Prop} {H0 H H' : HF} {w0 w w' : World} (h : Turn S H0 w0 H w) (k : Turn X H w H' w') (hX : ∀ b, X b → w0.heap.size ≤ b ∨ S b) : Turn S H0 w0 H' w' :=
  ⟨k.os.trans h.os, k.tape.trans h.tape, k.output.trans h.output, Nat.le_trans h.size k.size, fun j hj hs => (k.block j (Nat.lt_of_lt_of_le hj h.size) (fun h2 => by
    rcases hX j h2 with h3 | h3
    · omega
    · exact hs h3)).trans (h.block j hj hs), k.sub, h.le.trans k.le, fun b hb => (k.old b (Nat.lt_of_lt_of_le hb h.size)).trans (h.old b hb)⟩
/-- Behind c effects M c holds; rows of S are turned since H0, w0; Hr: the region's. -/
structure GT (S : Nat → Prop) (H0 : HF) (w0 : World) (Hr : HF) (M : Nat → HF → World → Prop) (c : Nat) (H : HF) (w : World) : Prop where
  grow : Turn S H0 w0 H w
  le : HLe Hr H
  m : M c H w
  cm : ∀ c, Closed (M c)
section
variable {S : Nat → Prop} {H0 Hr H H' : HF} {w0 w w' : World} {M : Nat → HF → World → Prop} {c : Nat}
theorem GT.sub (h : GT S H0 w0 Hr M c H w) : Sub H w := h.grow.sub
theorem GT.subOld (h : GT S H0 w0 Hr M c H w) : Sub Hr w := ⟨fun b o e => h.grow.sub.out b o (h.le b o e)⟩
theorem GT.trans (h : GT S H0 w0 Hr M c H w) (k : Grow H w H' w') : GT S H0 w0 Hr M c H' w' := ⟨h.grow.trans k.turn, h.le.trans k.le, h.cm _ _ _ _ _ h.m k, h.cm⟩
theorem GT.next (h : GT S H0 w0 Hr M c H w) (hg : Turn S H0 w0 H' w') (hle : HLe H H') (hf : M (c + 1) H' w') : GT S H0 w0 Hr M (c + 1) H' w' := ⟨hg, h.le.trans hle, hf, h.cm⟩
end
section
variable {P : Program} {r : Option Nat} {n : Nat} {f : Fr} {S : Nat → Prop} {H0 H : HF} {w0 w : World}
theorem CWD_region_gt {rid : Nat} {ops : Array Oper} {Qn Qr : List Nat → Fr → World → Prop} {Qx : Nat → List Nat → Fr → World → Prop} {ds : List Nat} (M : Nat → HF → World → Prop) (c0 : Nat) (Φ : List Fact) (es : List (Option Nat)) (Ds : List (Option Nat)) (D : List Nat)
    (hm : P.follows .mixedOrders = true) (hd : dstsOk n ops = true) (he : edgesOk ops = true) (hDs : ops.toList.map (·.dst) = Ds) (hD : dstsOf ops.toList = D) (hu : decide D.Nodup = true) (hef : effOk ops es = true) (heu : effUniq es = true)
    (hl : (es.any fun e => e == some c0) = true) (hG : Turn S H0 w0 H w) (hM : M 0 H w) (cm : ∀ c, Closed (M c)) (hst : StepsAny P r (GT S H0 w0 H M) Φ ops Ds D f ops.toList Φ es)
    (hfin : ∀ c H' w', c0 < c → Turn S H0 w0 H' w' → HLe H H' → M c H' w' → FinAny (Qn ds) H' w' ops.toList Φ f) : CWD P r n (.region rid ops true) Qn Qr Qx ds f w := by
  refine CWD_region_any (H := H) (GT S H0 w0 H M) Φ es Ds D hm hd he hDs hD hu hef heu ⟨hG.trans (Grow.drew hG.sub).turn, HLe.refl _, cm _ _ _ _ _ hM (Grow.drew hG.sub), cm⟩ hst ?_
  intro c H' w' hG hc
  simp only [List.any_eq_true] at hl
  obtain ⟨e, he1, he2⟩ := hl
  obtain ⟨j, hj, hje⟩ := List.mem_iff_getElem.1 he1
  have hes : es[j]? = some (some c0) := by
    rw [List.getElem?_eq_getElem hj, hje]
    simpa using he2
  exact hfin c H' w' (hc j c0 hes) hG.grow hG.le hG.m
theorem CW_region_gt {rid : Nat} {ops : Array Oper} {Qn Qr : Fr → World → Prop} {Qx : Nat → Fr → World → Prop} (M : Nat → HF → World → Prop) (c0 : Nat) (Φ : List Fact) (es : List (Option Nat)) (Ds : List (Option Nat)) (D : List Nat)
    (hm : P.follows .mixedOrders = true) (hd : dstsOk n ops = true) (he : edgesOk ops = true) (hDs : ops.toList.map (·.dst) = Ds) (hD : dstsOf ops.toList = D) (hu : decide D.Nodup = true) (hef : effOk ops es = true) (heu : effUniq es = true)
    (hl : (es.any fun e => e == some c0) = true) (hG : Turn S H0 w0 H w) (hM : M 0 H w) (cm : ∀ c, Closed (M c)) (hst : StepsAny P r (GT S H0 w0 H M) Φ ops Ds D f ops.toList Φ es)
    (hfin : ∀ c H' w', c0 < c → Turn S H0 w0 H' w' → HLe H H' → M c H' w' → FinAny Qn H' w' ops.toList Φ f) : CW P r n (.region rid ops true) Qn Qr Qx f w := by
  refine CW_region_any (H := H) (GT S H0 w0 H M) Φ es Ds D hm hd he hDs hD hu hef heu ⟨hG.trans (Grow.drew hG.sub).turn, HLe.refl _, cm _ _ _ _ _ hM (Grow.drew hG.sub), cm⟩ hst ?_
  intro c H' w' hG hc
  simp only [List.any_eq_true] at hl
  obtain ⟨e, he1, he2⟩ := hl
  obtain ⟨j, hj, hje⟩ := List.mem_iff_getElem.1 he1
  have hes : es[j]? = some (some c0) := by
    rw [List.getElem?_eq_getElem hj, hje]
    simpa using he2
  exact hfin c H' w' (hc j c0 hes) hG.grow hG.le hG.m
end
section
variable {P : Program} {r : Option Nat} {G : Nat → HF → World → Prop} {Φ : List Fact} {ops : Array Oper} {Ds : List (Option Nat)} {D : List Nat} {f0 : Fr} {p : Op} {ty : TypeId} {pos : String} {af : Array Edge}
theorem A_effG {φ : Fact} {k : Nat} {gd : Option Nat} {j : Nat} {b : Bool} (h : ∀ (u : Fr) (H : HF) (w : World), G k H w → DepGo Φ Ds H (fun f => yieldF ops f j = some b ∧ OpW P r ⟨gd, p, ty, pos, af, some (j, b)⟩ f w (fun v w' => ∃ H', HLe H H' ∧ G (k + 1) H' w' ∧ ∀ H'', HLe H' H'' → φ v H'')) af.toList (over D u f0)) :
    StepAny P r G Φ ops Ds D f0 ⟨gd, p, ty, pos, af, some (j, b)⟩ φ (some k) := by
  intro u H w hG
  refine depGo_mono ?_ _ _ (h u H w hG)
  rintro f ⟨hy, hf⟩
  have : wantF ops ⟨gd, p, ty, pos, af, some (j, b)⟩ f = true := by simp [wantF, hy]
  rw [if_pos this]
  exact hf
end
theorem W_loadMAggC {P : Program} {r : Option Nat} {f : Fr} {H : HF} {w : World} {K : Value → World → Prop} {d : Option Nat} {ty : TypeId} {pos : String} {af : Array Edge} {g : Option (Nat × Bool)} {T : TypeId} {x : Operand} {s : Nat} [TyAgg P T] [TySize P T s] {b o : Nat} {cs vs : List Value} (hx : ev f x = .pointer (some ⟨b, o, none⟩)) (hm : Mut H w b cs) (hc : (cs.drop o).take s = vs) (hl : vs.length = s) (hk : K (.agg vs.toArray) w) :
    OpW P r ⟨d, .load T x, ty, pos, af, g⟩ f w K := W_loadMAgg hx hm hl hc hk
end Go.Proofs.Ytglhnfficliaoaa
