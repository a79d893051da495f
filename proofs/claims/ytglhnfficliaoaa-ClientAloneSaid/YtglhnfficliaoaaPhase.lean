/- Regions that draw, with several effects, one behind the other. Conditions: none. -/
import Derived.Test.YtglhnfficliaoaaMut
namespace Go.Proofs.Ytglhnfficliaoaa
open Go.RowKit
set_option linter.unusedVariables false
/-- Behind c effects M c holds. H0, w0: the call's beginning; Hr: the region's. -/
structure GN (H0 : HF) (w0 : World) (Hr : HF) (M : Nat → HF → World → Prop) (c : Nat) (H : HF) (w : World) : Prop where
  grow : Grow H0 w0 H w
  le : HLe Hr H
  m : M c H w
  cm : ∀ c, Closed (M c)
section
variable {H0 Hr H H' : HF} {w0 w w' : World} {M : Nat → HF → World → Prop} {c : Nat}
theorem GN.sub (h : GN H0 w0 Hr M c H w) : Sub H w := h.grow.sub
theorem GN.subOld (h : GN H0 w0 Hr M c H w) : Sub Hr w := ⟨fun b o e => h.grow.sub.out b o (h.le b o e)⟩
theorem GN.trans (h : GN H0 w0 Hr M c H w) (k : Grow H w H' w') : GN H0 w0 Hr M c H' w' := ⟨h.grow.trans k, h.le.trans k.le, h.cm _ _ _ _ _ h.m k, h.cm⟩
theorem GN.next (h : GN H0 w0 Hr M c H w) (hg : Grow H0 w0 H w') (hf : M (c + 1) H w') : GN H0 w0 Hr M (c + 1) H w' := ⟨hg, h.le, hf, h.cm⟩
variable {P : Program} {r : Option Nat} {n : Nat} {f : Fr}
theorem CW_region_gn {rid : Nat} {ops : Array Oper} {Qn Qr : Fr → World → Prop} {Qx : Nat → Fr → World → Prop} (M : Nat → HF → World → Prop) (c0 : Nat) (Φ : List Fact) (es : List (Option Nat)) (Ds : List (Option Nat)) (D : List Nat)
    (hm : P.follows .mixedOrders = true) (hd : dstsOk n ops = true) (he : edgesOk ops = true) (hDs : ops.toList.map (·.dst) = Ds) (hD : dstsOf ops.toList = D) (hu : decide D.Nodup = true) (hef : effOk ops es = true) (heu : effUniq es = true)
    (hl : (es.any fun e => e == some c0) = true) (hG : Grow H0 w0 H w) (hM : M 0 H w) (cm : ∀ c, Closed (M c)) (hst : StepsAny P r (GN H0 w0 H M) Φ ops Ds D f ops.toList Φ es)
    (hfin : ∀ c H' w', c0 < c → Grow H0 w0 H' w' → HLe H H' → M c H' w' → FinAny Qn H' w' ops.toList Φ f) : CW P r n (.region rid ops true) Qn Qr Qx f w := by
  refine CW_region_any (H := H) (GN H0 w0 H M) Φ es Ds D hm hd he hDs hD hu hef heu ⟨hG.trans (Grow.drew hG.sub), HLe.refl _, cm _ _ _ _ _ hM (Grow.drew hG.sub), cm⟩ hst ?_
  intro c H' w' hG hc
  simp only [List.any_eq_true] at hl
  obtain ⟨e, he1, he2⟩ := hl
  obtain ⟨j, hj, hje⟩ := List.mem_iff_getElem.1 he1
  have hes : es[j]? = some (some c0) := by
    rw [List.getElem?_eq_getElem hj, hje]
    simpa using he2
  exact hfin c H' w' (hc j c0 hes) hG.grow hG.le hG.m
end
end Go.Proofs.Ytglhnfficliaoaa
