/- tree: del, Del: walked, with what they make. Conditions: sizes. -/
import Derived.Test.YtnjeoobcejlojaaTree4
namespace Go.Proofs.Ytnjeoobcejlojaa
open Go.Proofs Go.RowKit
set_option linter.unusedVariables false
attribute [local irreducible] CW SeqW OpW
set_option maxHeartbeats 4000000
def lowN (h : Nat) : Nat := if h = 0 then 2 else 3
def highN (h : Nat) : Nat := if h = 0 then 4 else 6
theorem enough_iff {h : Nat} {x : Nd h} : Nd.enough h x = true ↔ lowN h ≤ Nd.size h x := by
  cases h <;> simp [Nd.enough, Nd.size, lowN]
theorem size_le {h : Nat} {x : Nd h} (hx : Nd.Ok h x) : Nd.size h x ≤ highN h := by
  cases h with
  | zero =>
    simp only [Nd.Ok, leafB, Bool.and_eq_true, decide_eq_true_eq] at hx
    simp [Nd.size, highN]; omega
  | succ h => have := hx.2.1; simp [Nd.size, highN]; omega
/-- Parts of a node of that height: what entries they have, how many pieces; of which blocks its nodes are. -/
def IsPart (H : HF) (Q : Nat → Prop) : (h : Nat) → Value → List Ent → Nat → Prop
  | 0, v, its, n => PtAt H 0 v its ([] : List (Nd 0)) ∧ n = its.length
  | h + 1, v, its, n => ∃ ks : List (Nd h), PtAt H h v [] ks ∧ n = ks.length ∧ ks.flatMap (Nd.items h) = its ∧ (∀ k ∈ ks, Nd.enough h k = true ∧ Nd.full h k = true) ∧ ∀ k ∈ ks, ∀ b ∈ Nd.blocks h k, Q b
theorem IsPart.mono {H H' : HF} {Q : Nat → Prop} (hle : HLe H H') : {h : Nat} → {v : Value} → {its : List Ent} → {n : Nat} → IsPart H Q h v its n → IsPart H' Q h v its n
  | 0, _, _, _, ⟨h1, h2⟩ => ⟨h1.mono hle, h2⟩
  | _ + 1, _, _, _, ⟨ks, h1, h2⟩ => ⟨ks, h1.mono hle, h2⟩
theorem IsPart.wider {H : HF} {Q Q' : Nat → Prop} (hq : ∀ b, Q b → Q' b) : {h : Nat} → {v : Value} → {its : List Ent} → {n : Nat} → IsPart H Q h v its n → IsPart H Q' h v its n
  | 0, _, _, _, h => h
  | _ + 1, _, _, _, ⟨ks, h1, h2, h3, h4, h5⟩ => ⟨ks, h1, h2, h3, h4, fun k hk b hb => hq b (h5 k hk b hb)⟩
theorem IsPart.agg {H : HF} {Q : Nat → Prop} : {h : Nat} → {v : Value} → {its : List Ent} → {n : Nat} → IsPart H Q h v its n → ∃ A a c B b d, v = .agg #[.slice A a c, .slice B b d]
  | 0, _, _, _, ⟨⟨A, c, B, d, h, _⟩, _⟩ => ⟨_, _, _, _, _, _, h⟩
  | _ + 1, _, _, _, ⟨ks, ⟨A, c, B, d, h, _⟩, _⟩ => ⟨_, _, _, _, _, _, h⟩
section
variable {H : HF} {Q : Nat → Prop} {h : Nat} {v u : Value} {its its2 : List Ent} {n n2 : Nat}
theorem part_size (hp : IsPart H Q h v its n) (hn : n ≤ 1000) : Fn Try.prog 98 [v] H fun r _ => r = .int .i64 (n : Int) := by
  cases h with
  | zero =>
    obtain ⟨h1, rfl⟩ := hp
    simpa using ptSize_c h1 hn (by simp)
  | succ h =>
    obtain ⟨ks, h1, rfl, _⟩ := hp
    simpa using ptSize_c h1 (by simp) hn
theorem part_of {x : Nd h} (hx : NodeAt H h x) (hf : Nd.full h x = true) (hq : ∀ b ∈ Nd.blocks h x, Q b) : Fn Try.prog 100 [x.ptr] H fun r H' => IsPart H' Q h r (Nd.items h x) (Nd.size h x) := by
  cases h with
  | zero => exact (ofLeaf_c 0 hx).mono fun r H' _ hr => ⟨hr, rfl⟩
  | succ h =>
    refine (ofBranch_c hx).mono fun r H' _ hr => ⟨x.kids, hr, rfl, rfl, Nd.full_kids hf, fun k hk b hb => hq b ?_⟩
    simp only [Nd.blocks, List.mem_cons, List.mem_flatMap]
    exact .inr ⟨k, hk, hb⟩
theorem part_with (hp : IsPart H Q h v its n) (hq : IsPart H Q h u its2 n2) (h1 : n ≤ 100) (h2 : n2 ≤ 100) : Fn Try.prog 101 [v, u] H fun r H' => IsPart H' Q h r (its ++ its2) (n + n2) := by
  cases h with
  | zero =>
    obtain ⟨p1, rfl⟩ := hp
    obtain ⟨q1, rfl⟩ := hq
    exact (ptWith_c p1 q1 (by omega) (by simp) (by omega) (by simp)).mono fun r H' _ hr => ⟨hr, by simp⟩
  | succ h =>
    obtain ⟨ks, p1, rfl, rfl, p3, p4⟩ := hp
    obtain ⟨ks2, q1, rfl, rfl, q3, q4⟩ := hq
    refine (ptWith_c p1 q1 (by simp) (by omega) (by simp) (by omega)).mono fun r H' _ hr => ⟨ks ++ ks2, hr, by simp, by simp, fun k hk => ?_, fun k hk => ?_⟩
    · rcases List.mem_append.1 hk with hk | hk
      · exact p3 k hk
      · exact q3 k hk
    · rcases List.mem_append.1 hk with hk | hk
      · exact p4 k hk
      · exact q4 k hk
/-- Nodes of parts. -/
structure PartNodes (H : HF) (Q : Nat → Prop) (h : Nat) (its : List Ent) (n : Nat) (out : List (Nd h)) : Prop where
  items : out.flatMap (Nd.items h) = its
  len : out.length = 1 ∨ out.length = 2
  one : n ≤ highN h → out.length = 1
  full : ∀ k ∈ out, Nd.full h k = true
  enough : lowN h ≤ n → ∀ k ∈ out, Nd.enough h k = true
  fresh : ∀ k ∈ out, H k.blk = none
  blocks : ∀ k ∈ out, ∀ b ∈ Nd.blocks h k, b ∈ out.map Nd.blk ∨ Q b
theorem PartNodes.old {H0 : HF} {out : List (Nd h)} (hp : PartNodes H Q h its n out) (hle : HLe H0 H) : PartNodes H0 Q h its n out :=
  ⟨hp.items, hp.len, hp.one, hp.full, hp.enough, fun k hk => hle.none (hp.fresh k hk), hp.blocks⟩
theorem part_nodes (hp : IsPart H Q h v its n) (hr : riseB its = true) (ho : ∀ e ∈ its, entOk e = true) (h1 : (if h = 0 then 1 else 2) ≤ n) (h8 : n ≤ 8) (hh : h ≤ 800000) :
    Fn Try.prog 74 [v] H fun r H' => ∃ out, NdsAt H' h r out ∧ PartNodes H Q h its n out := by
  cases h with
  | zero =>
    obtain ⟨p1, rfl⟩ := hp
    refine (nodesLeaf_c p1 hr ho h8).mono fun r H' _ ⟨out, q1, q2, q3⟩ => ⟨out, q1, ?_⟩
    simp at h1
    rcases q2 with ⟨q4, _⟩ | ⟨q4, q5, b, rfl⟩ | ⟨q4, b1, b2, rfl⟩
    · omega
    · refine ⟨by simp [Nd.items, Nd.ents_leaf], .inl rfl, fun _ => rfl, fun k hk => ?_, fun hl k hk => ?_, q3, fun k hk q hq => ?_⟩
      · rw [List.mem_singleton] at hk; subst hk; rfl
      · rw [List.mem_singleton] at hk; subst hk; exact decide_eq_true hl
      · rw [List.mem_singleton] at hk; subst hk; exact .inl hq
    · have hh : 2 ≤ half its.length ∧ half its.length ≤ its.length ∧ 2 ≤ its.length - half its.length := by unfold half; omega
      refine ⟨by simp [Nd.items, Nd.ents_leaf], .inr rfl, fun hl => (by simp [highN] at hl; omega), fun k hk => ?_, fun hl k hk => ?_, q3, fun k hk q hq => ?_⟩
      · simp at hk; rcases hk with rfl | rfl <;> rfl
      · simp at hk; rcases hk with rfl | rfl <;> simp [Nd.enough, Nd.ents_leaf] <;> omega
      · simp at hk; rcases hk with rfl | rfl <;> simp [Nd.blocks, Nd.blk_leaf] at hq <;> simp [hq, Nd.blk_leaf]
  | succ h =>
    obtain ⟨ks, p1, rfl, rfl, p3, p4⟩ := hp
    have h1 : 2 ≤ ks.length := by simpa using h1
    obtain ⟨_, _, _, _, _, _, _, _, _, hat⟩ := id p1
    refine (nodesBranch_c p1 h1 (by omega) ((Nd.chain_iff hat.ok).2 hr) (by omega)).mono fun r H' _ ⟨out, q1, q2, q3⟩ => ⟨out, q1, ?_⟩
    rcases q2 with ⟨q4, q5, b, rfl⟩ | ⟨q4, b1, b2, rfl⟩
    · refine ⟨by simp [Nd.items, Nd.kids_branch], .inl rfl, fun _ => rfl, fun k hk => ?_, fun hl k hk => ?_, q3, fun k hk q hq => ?_⟩
      · rw [List.mem_singleton] at hk; subst hk
        simp only [Nd.full, Nd.kids_branch, List.all_eq_true, Bool.and_eq_true]
        exact p3
      · rw [List.mem_singleton] at hk; subst hk
        simp [lowN] at hl
        exact decide_eq_true hl
      · rw [List.mem_singleton] at hk; subst hk
        simp only [Nd.blocks, Nd.kids_branch, Nd.blk_branch, List.mem_cons, List.mem_flatMap] at hq
        rcases hq with rfl | ⟨y, hy, hq⟩
        · exact .inl (by simp [Nd.blk_branch])
        · exact .inr (p4 y hy q hq)
    · have hhf : 3 ≤ half ks.length ∧ half ks.length ≤ ks.length ∧ 3 ≤ ks.length - half ks.length := by unfold half; omega
      refine ⟨?_, .inr rfl, fun hl => (by simp [highN] at hl; omega), fun k hk => ?_, fun hl k hk => ?_, q3, fun k hk q hq => ?_⟩
      · show ([Nd.branch b1 (ks.take (half ks.length)), Nd.branch b2 (ks.drop (half ks.length))] : List (Nd (h + 1))).flatMap (fun y => y.kids.flatMap (Nd.items h)) = _
        simp only [List.flatMap_cons, List.flatMap_nil, List.append_nil, Nd.kids_branch]
        rw [← List.flatMap_append, List.take_append_drop]
      · simp at hk
        rcases hk with rfl | rfl <;> simp only [Nd.full, Nd.kids_branch, List.all_eq_true, Bool.and_eq_true]
        · exact fun k hk => p3 k (List.mem_of_mem_take hk)
        · exact fun k hk => p3 k (List.mem_of_mem_drop hk)
      · simp at hk
        rcases hk with rfl | rfl <;> simp [Nd.enough, Nd.kids_branch] <;> omega
      · simp at hk
        rcases hk with rfl | rfl <;> simp only [Nd.blocks, Nd.kids_branch, Nd.blk_branch, List.mem_cons, List.mem_flatMap] at hq
        · rcases hq with rfl | ⟨y, hy, hq⟩
          · exact .inl (by simp [Nd.blk_branch])
          · exact .inr (p4 y (List.mem_of_mem_take hy) q hq)
        · rcases hq with rfl | ⟨y, hy, hq⟩
          · exact .inl (by simp [Nd.blk_branch])
          · exact .inr (p4 y (List.mem_of_mem_drop hy) q hq)
end
/-! ### del -/
/-- What the parts of a branch are behind del: those ahead, the new nodes, those behind. -/
theorem del_kids {H Hr : HF} {Q : Nat → Prop} {h : Nat} {x : Nd (h + 1)} {pre post : List (Nd h)} {key : ByteArray} {its : List Ent} {n : Nat} {out : List (Nd h)} {v : Value}
    (hv : PtAt H h v [] (pre ++ out ++ post)) (hf : Nd.full (h + 1) x = true) (hpre : ∀ k ∈ pre, k ∈ x.kids) (hpost : ∀ k ∈ post, k ∈ x.kids) (ho : PartNodes Hr Q h its n out) (hlow : lowN h ≤ n)
    (hits : pre.flatMap (Nd.items h) ++ its ++ post.flatMap (Nd.items h) = withoutL (Nd.items (h + 1) x) key) (hQ : ∀ k ∈ x.kids, ∀ b ∈ Nd.blocks h k, Q b) :
    IsPart H (fun b => b ∈ out.map Nd.blk ∨ Q b) (h + 1) v (withoutL (Nd.items (h + 1) x) key) (pre.length + out.length + post.length) := by
  refine ⟨pre ++ out ++ post, hv, by rw [List.length_append, List.length_append], ?_, fun k hk => ?_, fun k hk b hb => ?_⟩
  · rw [List.flatMap_append, List.flatMap_append, ho.items]; exact hits
  · simp only [List.mem_append] at hk
    rcases hk with (hk | hk) | hk
    · exact Nd.full_kids hf k (hpre k hk)
    · exact ⟨ho.enough hlow k hk, ho.full k hk⟩
    · exact Nd.full_kids hf k (hpost k hk)
  · simp only [List.mem_append] at hk
    rcases hk with (hk | hk) | hk
    · exact .inr (hQ k (hpre k hk) b hb)
    · exact ho.blocks k hk b hb
    · exact .inr (hQ k (hpost k hk) b hb)
theorem look_withoutL_len {l : List Ent} (hr : riseB l = true) {key : ByteArray} (h : lookB l key = true) : (withoutL l key).length + 1 = l.length := by
  have h1 := without_is hr key
  have : findIs l key = true := by rw [look_is]; exact h
  rw [this] at h1
  simpa using h1
theorem entOk_withoutL {l : List Ent} {key : ByteArray} (hl : ∀ x ∈ l, entOk x = true) : ∀ x ∈ withoutL l key, entOk x = true := by
  intro x hx
  refine hl x ?_
  unfold withoutL at hx
  split at hx
  · rcases List.mem_append.1 hx with h | h
    · exact List.mem_of_mem_take h
    · exact List.mem_of_mem_drop h
  · exact hx
end Go.Proofs.Ytnjeoobcejlojaa
