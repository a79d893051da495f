/- CellAny: it answers true. Conditions: sizes. -/
import Derived.Test.YtaimilhkfmpdoaaCellPlays
import Derived.Test.YtaimilhkfmpdoaaMemAnyStr
import Derived.Test.YtaimilhkfmpdoaaConv
namespace Go.Proofs.Ytaimilhkfmpdoaa
open Go.Proofs Go.RowKit
set_option linter.unusedVariables false
attribute [local irreducible] CW SeqW OpW
set_option maxHeartbeats 4000000
/-! ### Numbers below 64, and strings as long -/
def and63 (m : Int) : Nat := (BitVec.ofInt 64 m &&& BitVec.ofInt 64 63).toNat
theorem and63_lt (m : Int) : and63 m < 64 := by
  unfold and63
  rw [BitVec.toNat_and]
  exact Nat.lt_of_le_of_lt Nat.and_le_right (by decide)
theorem storeI_map {α β : Type} {f : α → β} (l : List α) (i : Int) (x : α) : storeI (l.map f) i (f x) = (storeI l i x).map f := by
  unfold storeI
  rw [List.length_map]
  split <;> simp
section
variable {α β : Type} [Inhabited α] [Inhabited β] {f : α → β}
theorem nth_map {l : List α} {q : Nat} (h : q < l.length) : nth (l.map f) q = f (nth l q) := by simp [nth, h]
theorem getI_map (hd : f default = default) (l : List α) (i : Int) : getI (l.map f) i = f (getI l i) := by
  unfold getI
  rw [List.length_map]
  rcases there_cases l.length i with ⟨h, q, rfl, hq⟩ | ⟨h, _⟩
  · rw [h, if_pos rfl, if_pos rfl]
    exact nth_map hq
  · rw [h, if_neg (by simp), if_neg (by simp), hd]
variable [DecidableEq α] [DecidableEq β]
theorem casB_map (hf : ∀ a b, f a = f b → a = b) (l : List α) (i : Int) (x : α) : casB (l.map f) i (f x) = casB l i x := by
  unfold casB
  rw [List.length_map]
  rcases there_cases l.length i with ⟨h, q, rfl, hq⟩ | ⟨h, _⟩
  · rw [h, Bool.true_and, Bool.true_and, decide_eq_decide, show (q : Int).toNat = q from rfl, nth_map hq]
    exact ⟨fun e => hf _ _ e, fun e => by rw [e]⟩
  · rw [h, Bool.false_and, Bool.false_and]
theorem casI_map (hf : ∀ a b, f a = f b → a = b) (l : List α) (i : Int) (x y : α) : casI (l.map f) i (f x) (f y) = (casI l i x y).map f := by
  unfold casI
  rw [casB_map hf]
  split <;> simp
end
def asI (n : Nat) : Int := (n : Int)
theorem asI_inj : ∀ a b, asI a = asI b → a = b := fun a b h => by unfold asI at h; omega
theorem zeros_inj' : ∀ a b, zeros a = zeros b → a = b := fun _ _ h => zeros_inj h
theorem zeros_default : zeros default = default := rfl
section
variable {P : Program} {r : Option Nat} {f : Fr} {H : HF} {w : World} {K : Value → World → Prop} {d : Option Nat} {ty : TypeId} {pos : String} {af : Array Edge} {g : Option (Nat × Bool)} {S T T' E : TypeId} {x y : Operand}
theorem W_and63 {m : Int} (hx : ev f x = .int .i64 m) (hk : K (.int .i64 (and63 m : Nat)) w) : OpW P r ⟨d, .binOp .and T x (.const (.int .i64 63)) T', ty, pos, af, g⟩ f w K :=
  W_and hx rfl (by
    have := and63_lt m
    show Value.int .i64 (IntKind.i64.wrap ((and63 m : Nat) : Int)) = _
    rw [IntWalk.i64_in _ (by omega)]) hk
/-- A new row of zero bytes that is never written. -/
theorem W_makeZeros [TySlice P T E] {bs : Nat} [hi : TyElem P E 1 bs] [he : TyInt P E .u8] [hzr : TyZero P E (.int .u8 0)] {n : Nat} (hS : Sub H w) (hx : ev f x = .int .i64 (n : Int)) (hn : n ≤ 1000) (hbs : bs ≤ 1000)
    (hk : ∀ H' w' b, Grow H w H' w' → SlAt H' (some ⟨b, 0, none⟩) (List.replicate n (.int .u8 0)) → K (.slice (some ⟨b, 0, none⟩) n n) w') : OpW P r ⟨d, .makeSlice T x x, ty, pos, af, g⟩ f w K := by
  refine W_make (l := n) (c := n) (z := .int .u8 0) hS hx hx (Nat.le_refl _) (Nat.le_trans (Nat.mul_le_mul hbs hn) (by omega)) (by omega) (made_one (z := .int .u8 0) n rfl) ?_
  intro w' b hG hb hm
  obtain ⟨H', TT, hle, hG', hH, _⟩ := hm.freeze hG (by omega)
  exact hk H' w' b hG' (SlAt.of_row hH)
theorem W_convZerosH [hs : TySlice P S E] [he : TyInt P E .u8] [ht : TyStr P T] {b n c : Nat} (hx : ev f x = .slice (some ⟨b, 0, none⟩) n c) (hm : SlAt H (some ⟨b, 0, none⟩) (List.replicate n (.int .u8 0))) (hS : Sub H w) (hk : K (.string (zeros n)) w) : OpW P r ⟨d, .convert S T x, ty, pos, af, g⟩ f w K :=
  OpW_val (by simp) (by
    have := run_convert_bytes_arg (P := P) w S E hs.out he.out b 0 n c (List.replicate n 0) (by simp) (fun i hi => by
      rcases hm.cells hS with h | ⟨b', off, h1, h2⟩
      · have := congrArg List.length h; simp at this; omega
      · cases h1
        have := h2 i (.int .u8 0) (by simp [hi])
        simpa [hi] using this) T ht.out
    simp only [execOp, hx, Sem.run_bind, this, Result.andThen_ok]
    rfl) hk
end
/-! ### The methods over numbers below -/
def iCells (ns : List Nat) : List Value := (ns.map asI).map vI
def sCells (ns : List Nat) : List Value := (ns.map zeros).map vS
section
variable {H : HF} {w : World} {b : Nat} {A : Option Addr} {ns : List Nat} {s c : Nat}
theorem loadNI (hS : Sub H w) (hm : IsMem H w b A (iCells ns) s c) (hs : s ≤ 1000000000) (i : Int) :
    CallW Try.prog 17 #[.pointer (some ⟨b, 0, none⟩), .int .i64 i] w fun v w' => v = .tuple #[.int .i64 (getI ns i : Nat), .int .i64 (errI ns.length i : Nat)] ∧ Turn (memS b A) H w H w' ∧ IsMem H w' b A (iCells ns) (s + thereN ns.length i) c := by
  refine (loadA_Int hS hm hs i).mono ?_
  rintro v w' ⟨rfl, h1, h2⟩
  rw [List.length_map] at h2
  exact ⟨by rw [getI_map (f := asI) rfl, List.length_map]; rfl, h1, h2⟩
theorem loadNS (hS : Sub H w) (hm : IsMem H w b A (sCells ns) s c) (hs : s ≤ 1000000000) (i : Int) :
    CallW Try.prog 26 #[.pointer (some ⟨b, 0, none⟩), .int .i64 i] w fun v w' => v = .tuple #[.string (zeros (getI ns i)), .int .i64 (errI ns.length i : Nat)] ∧ Turn (memS b A) H w H w' ∧ IsMem H w' b A (sCells ns) (s + thereN ns.length i) c := by
  refine (loadA_Str hS hm hs i).mono ?_
  rintro v w' ⟨rfl, h1, h2⟩
  rw [List.length_map] at h2
  exact ⟨by rw [getI_map (f := zeros) rfl, List.length_map]; rfl, h1, h2⟩
theorem storeNI (hS : Sub H w) (hm : IsMem H w b A (iCells ns) s c) (hs : s ≤ 1000000000) (i : Int) (x : Nat) :
    CallW Try.prog 19 #[.pointer (some ⟨b, 0, none⟩), .int .i64 i, .int .i64 (x : Int)] w fun v w' => v = .int .i64 (errI ns.length i : Nat) ∧ Turn (memS b A) H w H w' ∧ IsMem H w' b A (iCells (storeI ns i x)) (s + thereN ns.length i) c := by
  refine (storeA_Int hS hm hs i (asI x)).mono ?_
  rintro v w' ⟨rfl, h1, h2⟩
  rw [List.length_map, storeI_map] at h2
  exact ⟨by rw [List.length_map], h1, h2⟩
theorem storeNS (hS : Sub H w) (hm : IsMem H w b A (sCells ns) s c) (hs : s ≤ 1000000000) (i : Int) (x : Nat) :
    CallW Try.prog 27 #[.pointer (some ⟨b, 0, none⟩), .int .i64 i, .string (zeros x)] w fun v w' => v = .int .i64 (errI ns.length i : Nat) ∧ Turn (memS b A) H w H w' ∧ IsMem H w' b A (sCells (storeI ns i x)) (s + thereN ns.length i) c := by
  refine (storeA_Str hS hm hs i (zeros x)).mono ?_
  rintro v w' ⟨rfl, h1, h2⟩
  rw [List.length_map, storeI_map] at h2
  exact ⟨by rw [List.length_map], h1, h2⟩
theorem casNI (hS : Sub H w) (hm : IsMem H w b A (iCells ns) s c) (hs : s ≤ 1000000000) (hc : c ≤ 1000000000) (i : Int) (x y : Nat) :
    CallW Try.prog 21 #[.pointer (some ⟨b, 0, none⟩), .int .i64 i, .int .i64 (x : Int), .int .i64 (y : Int)] w fun v w' => v = .tuple #[.bool (casB ns i x), .int .i64 (errI ns.length i : Nat)] ∧ Turn (memS b A) H w H w' ∧
      IsMem H w' b A (iCells (casI ns i x y)) (s + thereN ns.length i) (if casB ns i x then c + 1 else c) := by
  refine (casA_Int hS hm hs hc i (asI x) (asI y)).mono ?_
  rintro v w' ⟨rfl, h1, h2⟩
  rw [List.length_map, casI_map asI_inj, casB_map asI_inj] at h2
  exact ⟨by rw [casB_map asI_inj, List.length_map], h1, h2⟩
theorem casNS (hS : Sub H w) (hm : IsMem H w b A (sCells ns) s c) (hs : s ≤ 1000000000) (hc : c ≤ 1000000000) (i : Int) (x y : Nat) :
    CallW Try.prog 28 #[.pointer (some ⟨b, 0, none⟩), .int .i64 i, .string (zeros x), .string (zeros y)] w fun v w' => v = .tuple #[.bool (casB ns i x), .int .i64 (errI ns.length i : Nat)] ∧ Turn (memS b A) H w H w' ∧
      IsMem H w' b A (sCells (casI ns i x y)) (s + thereN ns.length i) (if casB ns i x then c + 1 else c) := by
  refine (casA_Str hS hm hs hc i (zeros x) (zeros y)).mono ?_
  rintro v w' ⟨rfl, h1, h2⟩
  rw [List.length_map, casI_map zeros_inj', casB_map zeros_inj'] at h2
  exact ⟨by rw [casB_map zeros_inj', List.length_map], h1, h2⟩
theorem stepsNI (hS : Sub H w) (hm : IsMem H w b A (iCells ns) s c) : CallW Try.prog 23 #[.pointer (some ⟨b, 0, none⟩)] w fun v w' => v = .int .i64 (s : Int) ∧ w' = w := steps_Int hS hm
theorem stepsNS (hS : Sub H w) (hm : IsMem H w b A (sCells ns) s c) : CallW Try.prog 29 #[.pointer (some ⟨b, 0, none⟩)] w fun v w' => v = .int .i64 (s : Int) ∧ w' = w := steps_Str hS hm
theorem changesNI (hS : Sub H w) (hm : IsMem H w b A (iCells ns) s c) : CallW Try.prog 24 #[.pointer (some ⟨b, 0, none⟩)] w fun v w' => v = .int .i64 (c : Int) ∧ w' = w := changes_Int hS hm
theorem changesNS (hS : Sub H w) (hm : IsMem H w b A (sCells ns) s c) : CallW Try.prog 30 #[.pointer (some ⟨b, 0, none⟩)] w fun v w' => v = .int .i64 (c : Int) ∧ w' = w := changes_Str hS hm
end
set_option maxRecDepth 20000 in
theorem cellAny_c (H0 : HF) (A : Option Addr) (cc : Nat) (l : List Op8) (words : Int) (hl : SlAt H0 A (ops8 l)) (hb : l.length ≤ 100000000000000) :
    Fn Try.prog 5 [.int .i64 words, .slice A l.length cc] H0 fun v _ => v = .bool true := by
  refine Fn_of_CW Try.func5 rfl Try.ntmps5 Try.results5 rfl fun w0 hS => ?_; have hG := Grow.refl hS
  (refine CW_seq ?_; refine CW_region rfl ?_; refine S_op ?_; refine W_assignBool (by first | rfl | assumption) ?_; refine S_nil ?_; refine CW_seq ?_; refine CW_seq ?_; refine CW_region rfl ?_)
  (refine S_op ?_; refine W_call hS (by rfl) (awake8_c H0) ?_); rintro v H w hG' rfl; replace hG := hG.trans hG'; replace hS := hG'.sub; replace hl := hl.mono hG'.le; clear hG'
  by_cases h3 : 300 < l.length
  · (refine S_op ?_; refine W_not (by first | rfl | assumption) ?_; refine S_op ?_; refine W_moveBool (by first | rfl | assumption) ?_; refine S_want (by rfl) ?_; refine W_moveSl (by first | rfl | assumption) ?_; refine S_want (by rfl) ?_; refine W_len (by first | rfl | assumption) ?_; refine S_want (by rfl) ?_; refine W_gtrT (by first | rfl | assumption) (by first | rfl | assumption) (by first | omega | rfl) ?_; refine S_op ?_; refine W_pickF (by first | rfl | assumption) (by first | rfl | assumption) ?_; refine S_nil ?_; refine CW_true (by first | rfl | assumption) ?_; refine CW_seq ?_; refine CW_region rfl ?_)
    (refine S_op ?_; refine W_call hS (by rfl) (awake8_c H) ?_); rintro v H w hG' rfl; replace hG := hG.trans hG'; replace hS := hG'.sub; clear hG'
    (refine S_op ?_; refine W_assignBool (by first | rfl | assumption) ?_; refine S_nil ?_; refine CW_ret ?_)
    exact ⟨_, ResW_one (v := .bool _) rfl, H, hG, rfl⟩
  · (refine S_op ?_; refine W_not (by first | rfl | assumption) ?_; refine S_op ?_; refine W_moveBool (by first | rfl | assumption) ?_; refine S_want (by rfl) ?_; refine W_moveSl (by first | rfl | assumption) ?_; refine S_want (by rfl) ?_; refine W_len (by first | rfl | assumption) ?_; refine S_want (by rfl) ?_; refine W_gtrF (by first | rfl | assumption) (by first | rfl | assumption) (by first | omega | rfl) ?_; refine S_op ?_; refine W_pickF (by first | rfl | assumption) (by first | rfl | assumption) ?_; refine S_nil ?_; refine CW_false (by first | rfl | assumption) ?_; refine CW_skip ?_; refine CW_seq ?_; refine CW_region rfl ?_; refine S_op ?_; refine W_moveInt (by first | rfl | assumption) ?_)
    refine S_op ?_
    refine W_callW (by rfl) ((new_Int H w hS words).mono ?_)
    rintro v w ⟨b, g, rfl, hG', hbb, hgg, hm⟩
    have hs0 := hG.below.size
    replace hG := hG.trans hG'
    replace hS := hG'.sub
    replace hl := hl.mono hG'.le
    clear hG'
    (refine S_op ?_; refine W_moveInt (by first | rfl | assumption) ?_)
    refine S_op ?_
    refine W_callW (by rfl) ((new_Str H w hS words).mono ?_)
    rintro v w ⟨b2, g2, rfl, hG', hbb2, hgg2, hr⟩
    obtain ⟨l1, l2⟩ := hm.lt
    have l2 := l2 _ rfl
    simp only at l2
    have hs1 := hG.below.size
    replace hm := hm.grow hG'
    replace hG := hG.trans hG'
    replace hS := hG'.sub
    replace hl := hl.mono hG'.le
    clear hG'
    have hap : Apart w0.heap.size b g b2 g2 := ⟨by omega, by omega, by omega, by omega, by omega, by omega, by omega, by omega⟩
    clear hbb hgg hbb2 hgg2 l1 l2 hs0 hs1
    rw [show (List.replicate (wordsOf words) default : List Int) = (List.replicate (wordsOf words) (default : Nat)).map asI by rw [List.map_replicate]; rfl] at hm
    rw [show (List.replicate (wordsOf words) default : List ByteArray) = (List.replicate (wordsOf words) (default : Nat)).map zeros by rw [List.map_replicate]; rfl] at hr
    (refine S_op ?_; refine W_assignPtr (by first | rfl | assumption) ?_; refine S_op ?_; refine W_assignPtr (by first | rfl | assumption) ?_; refine S_nil ?_; refine CW_seq ?_; refine CW_seq ?_; refine CW_region rfl ?_; refine S_op ?_; refine W_movePtr (by first | rfl | assumption) ?_; refine S_op ?_; refine W_peqnil (by first | rfl | assumption) (by first | rfl | assumption) ?_; refine S_op ?_; refine W_moveBool (by first | rfl | assumption) ?_; refine S_want (by rfl) ?_; refine W_movePtr (by first | rfl | assumption) ?_; refine S_want (by rfl) ?_; refine W_peqnil (by first | rfl | assumption) (by first | rfl | assumption) ?_; refine S_op ?_; refine W_pickF (by first | rfl | assumption) (by first | rfl | assumption) ?_; refine S_nil ?_; refine CW_false (by first | rfl | assumption) ?_; refine CW_skip ?_; refine CW_seq ?_; refine CW_seq ?_; refine CW_region rfl ?_; refine S_op ?_; refine W_moveSl (by first | rfl | assumption) ?_; refine S_op ?_; refine W_len (by first | rfl | assumption) ?_; refine S_op ?_; refine W_moveInt (by first | rfl | assumption) ?_; refine S_nil ?_; refine CW_block ?_)
    refine CW_loopM [4, 7, 8, 9, 10, 11, 12, 13, 14, 15, 16, 17, 18, 19, 20, 21, 42, 43, 44, 45, 46, 47, 48, 49, 50, 51, 52, 53, 54, 55, 56, 57, 58, 59, 60, 61, 62, 63, 64, 65, 66, 67, 68, 69, 70, 71, 72, 73, 74, 75, 76, 77, 78, 79, 80, 81, 82, 83, 84, 85, 86, 87, 88, 89, 90, 91, 92, 93, 94, 95, 96, 97, 98, 99, 100, 101, 102, 103, 104, 105, 106, 107, 108, 109, 110, 111, 112, 113, 114, 115, 116, 117, 118, 119, 120, 121, 122, 123, 124, 125, 126, 127, 128, 129, 130, 131, 132, 133, 134, 135, 136, 137, 138, 139, 140, 141, 142, 143, 144, 145]
      (fun m u w2 => ∃ (i : Nat) (ns : List Nat) (s c : Nat) (H2 : HF), u 42 = .int .i64 (i : Int) ∧ Grow H0 w0 H2 w2 ∧ IsMem H2 w2 b (some ⟨g, 0, none⟩) (iCells ns) s c ∧ IsMem H2 w2 b2 (some ⟨g2, 0, none⟩) (sCells ns) s c ∧ i ≤ l.length ∧ l.length - i ≤ m ∧ s ≤ i ∧ c ≤ i ∧ SlAt H2 A (ops8 l))
      (m := l.length) ⟨0, _, 0, 0, H, rfl, hG, hm, hr, by omega, by omega, Nat.le_refl _, Nat.le_refl _, hl⟩ ?_
    clear hm hr hG hl
    rintro m u w ⟨i, ns, s, c, H, h42, hG, hm, hr, hi, hmm, hsi, hci, hl⟩
    replace hS := hG.sub
    by_cases hlt : i < l.length
    · obtain ⟨bb, off, hA, hrow⟩ := ops8_some hl hlt
      (refine CW_seq ?_; refine CW_region rfl ?_; refine S_op ?_; refine W_lssT (by first | rfl | assumption) (by first | rfl | assumption) (by first | omega | rfl) ?_; refine S_nil ?_; refine CW_seq ?_; refine CW_true (by first | rfl | assumption) ?_; refine CW_skip ?_; refine CW_seq ?_; refine CW_block ?_; refine CW_seq ?_; refine CW_region rfl ?_; refine S_op ?_; refine W_moveInt (by first | rfl | assumption) ?_; refine S_op ?_; refine W_assignInt (by first | rfl | assumption) ?_; refine S_nil ?_; refine CW_seq ?_; refine CW_region rfl ?_; refine S_op ?_; refine W_moveSl (by first | rfl | assumption) ?_; refine S_op ?_; refine W_moveInt (by first | rfl | assumption) ?_; refine S_op ?_; refine W_index (by first | rfl | assumption) (by first | rfl | assumption) (by first | assumption | omega | decide) (by first | rfl | assumption) ?_; refine S_op ?_; refine W_loadOd (by first | rfl | assumption) (by assumption) (by first | assumption | omega) (by assumption) ?_)
      refine S_op ?_
      refine W_alloc hS ?_
      intro w b3 hG' hb3 hm3
      obtain ⟨l1, l2⟩ := hm.lt
      obtain ⟨l3, l4⟩ := hr.lt
      have n1 : b3 ≠ b := by omega
      have n2 : b3 ≠ g := by have := l2 _ rfl; simp only at this; omega
      have n3 : b3 ≠ b2 := by omega
      have n4 : b3 ≠ g2 := by have := l4 _ rfl; simp only at this; omega
      replace hb3 := hG.base hb3
      replace hG := hG.trans hG'
      replace hS := hG'.sub
      replace hm := hm.grow hG'
      replace hr := hr.grow hG'
      replace hm3 : Mut H w b3 [.int .i64 0, .int .i64 0, .int .i64 0, .int .i64 0] := hm3
      clear hG'
      skip
      refine S_op0 ?_
      refine W_storeM (b := b3) (o := 0) (vs := [.int .i64 (nth l i).kind, .int .i64 (nth l i).i, .int .i64 (nth l i).old, .int .i64 (nth l i).x]) (by rfl) (by rfl) hm3 (by rfl) (by intro u hu; simp at hu; rcases hu with rfl | rfl | rfl | rfl <;> rfl) (by rfl) (Nat.le_refl 4) ?_
      intro w hg3 hm4
      replace hG := grown_own hG hg3 hm3 hb3
      replace hS := hG.sub
      replace hm := hm.own hg3 n1.symm (by intro a ha; cases ha; exact n2.symm)
      replace hr := hr.own hg3 n3.symm (by intro a ha; cases ha; exact n4.symm)
      replace hm3 : Mut H w b3 [.int .i64 (nth l i).kind, .int .i64 (nth l i).i, .int .i64 (nth l i).old, .int .i64 (nth l i).x] := hm4
      clear hm4 hg3 l1 l2 l3 l4
      generalize nth l i = o at *
      (refine S_nil ?_; refine CW_seq ?_)
      have hG1 := hG
      apply CW_region_grow [_, _, _, _, _, _, _, _] [none, none, none, none, none, none, none, none] [some 49, some 50, some 51, some 52, some 53, some 54, some 9, some 10] [49, 50, 51, 52, 53, 54, 9, 10] mixed rfl rfl rfl rfl (by decide) rfl (by assumption)
      · ((apply steps_cons; case h1 => (apply A_pure; intro c u H' w' hG; have hS' := hG.sub; have hS2' := hG.subOld; have hM0 := (hm3).grow hG; (repeat (first | refine depGo_eq rfl rfl rfl ?_ | (refine depGo_fact rfl rfl rfl ?_; intro v hv) | refine depGo_skip rfl ?_ | refine depGo_none rfl ?_)); apply Pure1.mk; intro K hk; exact W_field (by first | rfl | assumption) hk)); (apply steps_cons; case h1 => (apply A_pure; intro c u H' w' hG; have hS' := hG.sub; have hS2' := hG.subOld; have hM0 := (hm3).grow hG; (repeat (first | refine depGo_eq rfl rfl rfl ?_ | (refine depGo_fact rfl rfl rfl ?_; intro v hv) | refine depGo_skip rfl ?_ | refine depGo_none rfl ?_)); apply Pure1.mk; intro K hk; exact W_loadM (by first | rfl | assumption) (by assumption) (by rfl) hk)))
        apply steps_cons; case h1 => (apply A_pure; intro c u H' w' hG'; (repeat (first | refine depGo_eq rfl rfl rfl ?_ | (refine depGo_fact rfl rfl rfl ?_; intro v hv) | refine depGo_skip rfl ?_ | refine depGo_none rfl ?_)); apply Pure1.mk; intro K hk; exact W_and63 (by rfl) hk)
        ((apply steps_cons; case h1 => (apply A_pure; intro c u H' w' hG; have hS' := hG.sub; have hS2' := hG.subOld; have hM0 := (hm3).grow hG; (repeat (first | refine depGo_eq rfl rfl rfl ?_ | (refine depGo_fact rfl rfl rfl ?_; intro v hv) | refine depGo_skip rfl ?_ | refine depGo_none rfl ?_)); apply Pure1.mk; intro K hk; exact W_field (by first | rfl | assumption) hk)); (apply steps_cons; case h1 => (apply A_pure; intro c u H' w' hG; have hS' := hG.sub; have hS2' := hG.subOld; have hM0 := (hm3).grow hG; (repeat (first | refine depGo_eq rfl rfl rfl ?_ | (refine depGo_fact rfl rfl rfl ?_; intro v hv) | refine depGo_skip rfl ?_ | refine depGo_none rfl ?_)); apply Pure1.mk; intro K hk; exact W_loadM (by first | rfl | assumption) (by assumption) (by rfl) hk)))
        apply steps_cons; case h1 => (apply A_pure; intro c u H' w' hG'; (repeat (first | refine depGo_eq rfl rfl rfl ?_ | (refine depGo_fact rfl rfl rfl ?_; intro v hv) | refine depGo_skip rfl ?_ | refine depGo_none rfl ?_)); apply Pure1.mk; intro K hk; exact W_and63 (by rfl) hk)
        ((apply steps_cons; case h1 => (apply A_pure; intro c u H' w' hG; have hS' := hG.sub; have hS2' := hG.subOld; have hM0 := (hm3).grow hG; (repeat (first | refine depGo_eq rfl rfl rfl ?_ | (refine depGo_fact rfl rfl rfl ?_; intro v hv) | refine depGo_skip rfl ?_ | refine depGo_none rfl ?_)); apply Pure1.mk; intro K hk; exact W_assignInt (by first | rfl | assumption) hk)); (apply steps_cons; case h1 => (apply A_pure; intro c u H' w' hG; have hS' := hG.sub; have hS2' := hG.subOld; have hM0 := (hm3).grow hG; (repeat (first | refine depGo_eq rfl rfl rfl ?_ | (refine depGo_fact rfl rfl rfl ?_; intro v hv) | refine depGo_skip rfl ?_ | refine depGo_none rfl ?_)); apply Pure1.mk; intro K hk; exact W_assignInt (by first | rfl | assumption) hk)); exact trivial)
      · intro H w hG'
        (repeat (first | refine fin_eq rfl rfl ?_ | (refine fin_fact rfl ?_; intro v hv) | refine fin_none rfl ?_)); refine fin_nil ?_
        replace hG := hG.trans hG'
        replace hS := hG'.sub
        replace hm := hm.grow hG'
        replace hr := hr.grow hG'
        replace hm3 := hm3.grow hG'
        replace hl := hl.mono hG'.le
        clear hG'
        have hlo := and63_lt o.old
        have hlx := and63_lt o.x
        generalize and63 o.old = ov at *
        generalize and63 o.x = xv at *
        (refine CW_seq ?_)
        apply CW_region_grow [_, _, _, _, _, _, _, _] [none, none, none, none, none, none, none, none] [some 55, some 56, some 57, some 58, some 59, some 60, some 11, some 12] [55, 56, 57, 58, 59, 60, 11, 12] mixed rfl rfl rfl rfl (by decide) rfl (by assumption)
        · ((apply steps_cons; case h1 => (apply A_pure; intro c u H' w' hG; have hS' := hG.sub; have hS2' := hG.subOld; (repeat (first | refine depGo_eq rfl rfl rfl ?_ | (refine depGo_fact rfl rfl rfl ?_; intro v hv) | refine depGo_skip rfl ?_ | refine depGo_none rfl ?_)); apply Pure1.mk; intro K hk; exact W_moveInt (by first | rfl | assumption) hk)))
          apply steps_cons
          · refine A_fact (φ := fun v H => ∃ bz, v = .slice (some ⟨bz, 0, none⟩) ov ov ∧ SlAt H (some ⟨bz, 0, none⟩) (List.replicate ov (.int .u8 0))) ?_
            intro c' u H' w' hG'
            (repeat (first | refine depGo_eq rfl rfl rfl ?_ | (refine depGo_fact rfl rfl rfl ?_; intro v hv) | refine depGo_skip rfl ?_ | refine depGo_none rfl ?_))
            refine depGo_nil ?_
            refine W_makeZeros hG'.sub (by rfl) (by omega) (by decide) ?_
            intro H3 w3 bz hG3 hz
            exact ⟨H3, hG3.le, hG'.trans hG3, fun H'' hle => ⟨bz, rfl, hz.mono hle⟩⟩
          apply steps_cons
          · refine A_fact (φ := fun v _ => v = .string (zeros ov)) ?_
            intro c' u H' w' hG'
            (repeat (first | refine depGo_eq rfl rfl rfl ?_ | (refine depGo_fact rfl rfl rfl ?_; intro v hv) | refine depGo_skip rfl ?_ | refine depGo_none rfl ?_))
            obtain ⟨bz, rfl, hz⟩ := hv
            refine depGo_nil ?_
            refine W_convZerosH (by rfl) hz hG'.sub ?_
            exact ⟨H', HLe.refl _, hG', fun _ _ => rfl⟩
          ((apply steps_cons; case h1 => (apply A_pure; intro c u H' w' hG; have hS' := hG.sub; have hS2' := hG.subOld; (repeat (first | refine depGo_eq rfl rfl rfl ?_ | (refine depGo_fact rfl rfl rfl ?_; intro v hv) | refine depGo_skip rfl ?_ | refine depGo_none rfl ?_)); apply Pure1.mk; intro K hk; exact W_moveInt (by first | rfl | assumption) hk)))
          apply steps_cons
          · refine A_fact (φ := fun v H => ∃ bz, v = .slice (some ⟨bz, 0, none⟩) xv xv ∧ SlAt H (some ⟨bz, 0, none⟩) (List.replicate xv (.int .u8 0))) ?_
            intro c' u H' w' hG'
            (repeat (first | refine depGo_eq rfl rfl rfl ?_ | (refine depGo_fact rfl rfl rfl ?_; intro v hv) | refine depGo_skip rfl ?_ | refine depGo_none rfl ?_))
            refine depGo_nil ?_
            refine W_makeZeros hG'.sub (by rfl) (by omega) (by decide) ?_
            intro H3 w3 bz hG3 hz
            exact ⟨H3, hG3.le, hG'.trans hG3, fun H'' hle => ⟨bz, rfl, hz.mono hle⟩⟩
          apply steps_cons
          · refine A_fact (φ := fun v _ => v = .string (zeros xv)) ?_
            intro c' u H' w' hG'
            (repeat (first | refine depGo_eq rfl rfl rfl ?_ | (refine depGo_fact rfl rfl rfl ?_; intro v hv) | refine depGo_skip rfl ?_ | refine depGo_none rfl ?_))
            obtain ⟨bz, rfl, hz⟩ := hv
            refine depGo_nil ?_
            refine W_convZerosH (by rfl) hz hG'.sub ?_
            exact ⟨H', HLe.refl _, hG', fun _ _ => rfl⟩
          ((apply steps_cons; case h1 => (apply A_pure; intro c u H' w' hG; have hS' := hG.sub; have hS2' := hG.subOld; (repeat (first | refine depGo_eq rfl rfl rfl ?_ | (refine depGo_fact rfl rfl rfl ?_; intro v hv) | refine depGo_skip rfl ?_ | refine depGo_none rfl ?_)); apply Pure1.mk; intro K hk; exact W_assignStr (by first | rfl | assumption) hk)); (apply steps_cons; case h1 => (apply A_pure; intro c u H' w' hG; have hS' := hG.sub; have hS2' := hG.subOld; (repeat (first | refine depGo_eq rfl rfl rfl ?_ | (refine depGo_fact rfl rfl rfl ?_; intro v hv) | refine depGo_skip rfl ?_ | refine depGo_none rfl ?_)); apply Pure1.mk; intro K hk; exact W_assignStr (by first | rfl | assumption) hk)); exact trivial)
        · intro H w hG'
          (repeat (first | refine fin_eq rfl rfl ?_ | (refine fin_fact rfl ?_; intro v hv) | refine fin_none rfl ?_)); refine fin_nil ?_
          replace hG := hG.trans hG'
          replace hS := hG'.sub
          replace hm := hm.grow hG'
          replace hr := hr.grow hG'
          replace hm3 := hm3.grow hG'
          replace hl := hl.mono hG'.le
          clear hG'
          have htn := thereN_le ns.length o.i
          by_cases k1 : o.kind = 1
          · (refine CW_seq ?_; refine CW_region rfl ?_; refine S_op ?_; refine W_assignBool (by first | rfl | assumption) ?_; refine S_nil ?_; refine CW_seq ?_; refine CW_seq ?_; refine CW_region rfl ?_; refine S_op ?_; refine W_field (by first | rfl | assumption) ?_; refine S_op ?_; refine W_loadM (by first | rfl | assumption) (by assumption) (by rfl) ?_; refine S_nil ?_; refine CW_block ?_; refine CW_seq ?_; refine CW_region rfl ?_; refine S_op ?_; refine W_eqlT (by first | rfl | assumption) (by first | rfl | assumption) (by first | omega | rfl) ?_; refine S_op ?_; refine W_assignBool (by first | rfl | assumption) ?_; refine S_nil ?_; refine CW_true (by first | rfl | assumption) ?_; refine CW_seq ?_; refine CW_region rfl ?_; refine S_op ?_; refine W_movePtr (by first | rfl | assumption) ?_; refine S_op ?_; refine W_field (by first | rfl | assumption) ?_; refine S_op ?_; refine W_loadM (by first | rfl | assumption) (by assumption) (by rfl) ?_)
            refine S_op ?_
            refine W_callW (by rfl) ((loadNI hS hm (by omega) o.i).mono ?_)
            rintro v w ⟨rfl, hT, hm⟩
            replace hG := hT.growOwn hG hap.hb (own_base hap.hg)
            replace hS := hG.sub
            replace hr := hap.second hr hT
            replace hm3 := hm3.turn hT (memS_not n1 n2)
            clear hT
            (refine S_op ?_; refine W_moveTup (by first | rfl | assumption) ?_; refine S_op ?_; refine W_extract (by first | rfl | assumption) (by rfl) ?_; refine S_op ?_; refine W_extract (by first | rfl | assumption) (by rfl) ?_; refine S_op ?_; refine W_assignInt (by first | rfl | assumption) ?_; refine S_op ?_; refine W_assignInt (by first | rfl | assumption) ?_; refine S_nil ?_; refine CW_seq ?_; refine CW_region rfl ?_; refine S_op ?_; refine W_movePtr (by first | rfl | assumption) ?_; refine S_op ?_; refine W_field (by first | rfl | assumption) ?_; refine S_op ?_; refine W_loadM (by first | rfl | assumption) (by assumption) (by rfl) ?_)
            refine S_op ?_
            refine W_callW (by rfl) ((loadNS hS hr (by omega) o.i).mono ?_)
            rintro v w ⟨rfl, hT, hr⟩
            replace hG := hT.growOwn hG hap.hb2 (own_base hap.hg2)
            replace hS := hG.sub
            replace hm := hap.first hm hT
            replace hm3 := hm3.turn hT (memS_not n3 n4)
            clear hT
            have hzs := zeros_size (getI ns o.i)
            generalize getI ns o.i = k at *
            (refine S_op ?_; refine W_moveTup (by first | rfl | assumption) ?_; refine S_op ?_; refine W_extract (by first | rfl | assumption) (by rfl) ?_; refine S_op ?_; refine W_extract (by first | rfl | assumption) (by rfl) ?_; refine S_op ?_; refine W_assignStr (by first | rfl | assumption) ?_; refine S_op ?_; refine W_assignInt (by first | rfl | assumption) ?_; refine S_nil ?_; refine CW_region rfl ?_; refine S_op ?_; refine W_moveStr (by first | rfl | assumption) ?_; refine S_op ?_; refine W_lenS (by first | rfl | assumption) ?_; refine S_op ?_; refine W_moveInt (by first | rfl | assumption) ?_; refine S_op ?_; refine W_eqlT (by first | rfl | assumption) (by first | rfl | assumption) (by first | omega | rfl) ?_; refine S_op ?_; refine W_moveBool (by first | rfl | assumption) ?_; refine S_want (by rfl) ?_; refine W_moveInt (by first | rfl | assumption) ?_; refine S_want (by rfl) ?_; refine W_moveInt (by first | rfl | assumption) ?_; refine S_want (by rfl) ?_; refine W_eqlT (by first | rfl | assumption) (by first | rfl | assumption) (by first | omega | rfl) ?_; refine S_op ?_; refine W_pickT (by first | rfl | assumption) (by first | rfl | assumption) ?_; refine S_op ?_; refine W_assignBool (by first | rfl | assumption) ?_; refine S_nil ?_; refine CW_seq ?_; refine CW_region rfl ?_; refine S_op ?_; refine W_moveBool (by first | rfl | assumption) ?_; refine S_op ?_; refine W_not (by first | rfl | assumption) ?_; refine S_op ?_; refine W_moveBool (by first | rfl | assumption) ?_; refine S_want (by rfl) ?_; refine W_movePtr (by first | rfl | assumption) ?_)
            refine S_want (by rfl) ?_
            refine W_callW (by rfl) ((stepsNI hS hm).mono ?_)
            rintro v w ⟨rfl, rfl⟩
            (refine S_want (by rfl) ?_; refine W_movePtr (by first | rfl | assumption) ?_)
            refine S_want (by rfl) ?_
            refine W_callW (by rfl) ((stepsNS hS hr).mono ?_)
            rintro v w ⟨rfl, rfl⟩
            (refine S_want (by rfl) ?_; refine W_neqF (by first | rfl | assumption) (by first | rfl | assumption) (by first | omega | rfl) ?_; refine S_op ?_; refine W_pickF (by first | rfl | assumption) (by first | rfl | assumption) ?_; refine S_op ?_; refine W_moveBool (by first | rfl | assumption) ?_; refine S_want (by rfl) ?_; refine W_movePtr (by first | rfl | assumption) ?_)
            refine S_want (by rfl) ?_
            refine W_callW (by rfl) ((changesNI hS hm).mono ?_)
            rintro v w ⟨rfl, rfl⟩
            (refine S_want (by rfl) ?_; refine W_movePtr (by first | rfl | assumption) ?_)
            refine S_want (by rfl) ?_
            refine W_callW (by rfl) ((changesNS hS hr).mono ?_)
            rintro v w ⟨rfl, rfl⟩
            (refine S_want (by rfl) ?_; refine W_neqF (by first | rfl | assumption) (by first | rfl | assumption) (by first | omega | rfl) ?_; refine S_op ?_; refine W_pickF (by first | rfl | assumption) (by first | rfl | assumption) ?_; refine S_nil ?_; refine CW_false (by first | rfl | assumption) ?_; refine CW_skip ?_; refine CW_region rfl ?_; refine S_op ?_; refine W_add1 (by first | rfl | assumption) (by omega) ?_; refine S_op ?_; refine W_moveInt (by first | rfl | assumption) ?_; refine S_nil ?_)
            exact ⟨(by repeat (first | exact AgreeOff.over | refine AgreeOff.upd rfl ?_ | refine AgreeOff.over2 rfl ?_)), m - 1, by omega, i + 1, ns, _, _, H, rfl, hG, hm, hr, by omega, by omega, by omega, by omega, hl⟩
          · by_cases k2 : o.kind = 2
            · (refine CW_seq ?_; refine CW_region rfl ?_; refine S_op ?_; refine W_assignBool (by first | rfl | assumption) ?_; refine S_nil ?_; refine CW_seq ?_; refine CW_seq ?_; refine CW_region rfl ?_; refine S_op ?_; refine W_field (by first | rfl | assumption) ?_; refine S_op ?_; refine W_loadM (by first | rfl | assumption) (by assumption) (by rfl) ?_; refine S_nil ?_; refine CW_block ?_; refine CW_seq ?_; refine CW_region rfl ?_; refine S_op ?_; refine W_eqlF (by first | rfl | assumption) (by first | rfl | assumption) (by first | omega | rfl) ?_; refine S_op ?_; refine W_assignBool (by first | rfl | assumption) ?_; refine S_nil ?_; refine CW_false (by first | rfl | assumption) ?_; refine CW_seq ?_; refine CW_region rfl ?_; refine S_op ?_; refine W_eqlT (by first | rfl | assumption) (by first | rfl | assumption) (by first | omega | rfl) ?_; refine S_op ?_; refine W_assignBool (by first | rfl | assumption) ?_; refine S_nil ?_; refine CW_true (by first | rfl | assumption) ?_)
              apply CW_region_gn (fun k H w => Mut H w b3 [.int .i64 o.kind, .int .i64 o.i, .int .i64 o.old, .int .i64 o.x] ∧ SlAt H A (ops8 l) ∧
                ∃ s1 ns1 s2 ns2, IsMem H w b (some ⟨g, 0, none⟩) (iCells ns1) s1 c ∧ IsMem H w b2 (some ⟨g2, 0, none⟩) (sCells ns2) s2 c ∧ (k = 0 → s1 = s ∧ ns1 = ns) ∧ (k ≤ 1 → s2 = s ∧ ns2 = ns) ∧ (1 ≤ k → s1 = s + thereN ns.length o.i ∧ ns1 = storeI ns o.i xv) ∧ (2 ≤ k → s2 = s + thereN ns.length o.i ∧ ns2 = storeI ns o.i xv))
                1 [_, _, _, _, _, _, _, _, _, _, _, _] [none, none, none, none, some 0, none, none, none, none, some 1, none, none] [some 90, some 91, some 92, some 93, some 94, some 95, some 96, some 97, some 98, some 99, some 100, some 13] [90, 91, 92, 93, 94, 95, 96, 97, 98, 99, 100, 13] mixed rfl rfl rfl rfl (by decide) rfl rfl rfl (by assumption)
              · exact ⟨hm3, hl, s, ns, s, ns, hm, hr, fun _ => ⟨rfl, rfl⟩, fun _ => ⟨rfl, rfl⟩, fun h => absurd h (by omega), fun h => absurd h (by omega)⟩
              · rintro k H w H' w' ⟨q1, q0, s1, ns1, s2, ns2, q2, q3, q4⟩ hg
                exact ⟨q1.grow hg, q0.mono hg.le, s1, ns1, s2, ns2, q2.grow hg, q3.grow hg, q4⟩
              · skip
                apply steps_cons; case h1 => (apply A_pure; intro c u H' w' hG'; have hm' := hG'.m.1; (repeat (first | refine depGo_eq rfl rfl rfl ?_ | (refine depGo_fact rfl rfl rfl ?_; intro v hv) | refine depGo_skip rfl ?_ | refine depGo_none rfl ?_)); apply Pure1.mk; intro K hk; first | exact W_movePtr (by rfl) hk | exact W_moveInt (by rfl) hk | exact W_moveStr (by rfl) hk | exact W_field (by rfl) hk | exact W_loadM (by rfl) hm' (by rfl) hk)
                apply steps_cons; case h1 => (apply A_pure; intro c u H' w' hG'; have hm' := hG'.m.1; (repeat (first | refine depGo_eq rfl rfl rfl ?_ | (refine depGo_fact rfl rfl rfl ?_; intro v hv) | refine depGo_skip rfl ?_ | refine depGo_none rfl ?_)); apply Pure1.mk; intro K hk; first | exact W_movePtr (by rfl) hk | exact W_moveInt (by rfl) hk | exact W_moveStr (by rfl) hk | exact W_field (by rfl) hk | exact W_loadM (by rfl) hm' (by rfl) hk)
                apply steps_cons; case h1 => (apply A_pure; intro c u H' w' hG'; have hm' := hG'.m.1; (repeat (first | refine depGo_eq rfl rfl rfl ?_ | (refine depGo_fact rfl rfl rfl ?_; intro v hv) | refine depGo_skip rfl ?_ | refine depGo_none rfl ?_)); apply Pure1.mk; intro K hk; first | exact W_movePtr (by rfl) hk | exact W_moveInt (by rfl) hk | exact W_moveStr (by rfl) hk | exact W_field (by rfl) hk | exact W_loadM (by rfl) hm' (by rfl) hk)
                apply steps_cons; case h1 => (apply A_pure; intro c u H' w' hG'; have hm' := hG'.m.1; (repeat (first | refine depGo_eq rfl rfl rfl ?_ | (refine depGo_fact rfl rfl rfl ?_; intro v hv) | refine depGo_skip rfl ?_ | refine depGo_none rfl ?_)); apply Pure1.mk; intro K hk; first | exact W_movePtr (by rfl) hk | exact W_moveInt (by rfl) hk | exact W_moveStr (by rfl) hk | exact W_field (by rfl) hk | exact W_loadM (by rfl) hm' (by rfl) hk)
                apply steps_cons
                · refine A_eff (φ := fun v _ => v = .int .i64 (errI ns.length o.i : Nat)) ?_
                  intro u' H' w' hG'
                  have hS' := hG'.sub
                  obtain ⟨q1, q0, s1, ns1, s2, ns2, q2, q3, q4, q5, _, _⟩ := hG'.m
                  obtain ⟨e1, e2⟩ := q4 rfl
                  obtain ⟨e3, e4⟩ := q5 (by omega)
                  rw [e1, e2] at q2
                  rw [e3, e4] at q3
                  (repeat (first | refine depGo_eq rfl rfl rfl ?_ | (refine depGo_fact rfl rfl rfl ?_; intro v hv) | refine depGo_skip rfl ?_ | refine depGo_none rfl ?_))
                  refine depGo_nil ?_
                  refine W_callW (by rfl) ((storeNI hS' q2 (by omega) o.i xv).mono ?_)
                  rintro v w3 ⟨rfl, hT, hm'⟩
                  have hg3 := hT.growOwn hG'.grow hap.hb (own_base hap.hg)
                  exact ⟨H', HLe.refl _, hG'.next hg3 ⟨q1.turn hT (memS_not n1 n2), q0, _, _, s, ns, hm', hap.second q3 hT, (fun h => absurd h (by omega)), fun _ => ⟨rfl, rfl⟩, fun _ => ⟨rfl, rfl⟩, fun h => absurd h (by omega)⟩, fun _ _ => rfl⟩
                apply steps_cons; case h1 => (apply A_pure; intro c u H' w' hG'; have hm' := hG'.m.1; (repeat (first | refine depGo_eq rfl rfl rfl ?_ | (refine depGo_fact rfl rfl rfl ?_; intro v hv) | refine depGo_skip rfl ?_ | refine depGo_none rfl ?_)); apply Pure1.mk; intro K hk; first | exact W_movePtr (by rfl) hk | exact W_moveInt (by rfl) hk | exact W_moveStr (by rfl) hk | exact W_field (by rfl) hk | exact W_loadM (by rfl) hm' (by rfl) hk)
                apply steps_cons; case h1 => (apply A_pure; intro c u H' w' hG'; have hm' := hG'.m.1; (repeat (first | refine depGo_eq rfl rfl rfl ?_ | (refine depGo_fact rfl rfl rfl ?_; intro v hv) | refine depGo_skip rfl ?_ | refine depGo_none rfl ?_)); apply Pure1.mk; intro K hk; first | exact W_movePtr (by rfl) hk | exact W_moveInt (by rfl) hk | exact W_moveStr (by rfl) hk | exact W_field (by rfl) hk | exact W_loadM (by rfl) hm' (by rfl) hk)
                apply steps_cons; case h1 => (apply A_pure; intro c u H' w' hG'; have hm' := hG'.m.1; (repeat (first | refine depGo_eq rfl rfl rfl ?_ | (refine depGo_fact rfl rfl rfl ?_; intro v hv) | refine depGo_skip rfl ?_ | refine depGo_none rfl ?_)); apply Pure1.mk; intro K hk; first | exact W_movePtr (by rfl) hk | exact W_moveInt (by rfl) hk | exact W_moveStr (by rfl) hk | exact W_field (by rfl) hk | exact W_loadM (by rfl) hm' (by rfl) hk)
                apply steps_cons; case h1 => (apply A_pure; intro c u H' w' hG'; have hm' := hG'.m.1; (repeat (first | refine depGo_eq rfl rfl rfl ?_ | (refine depGo_fact rfl rfl rfl ?_; intro v hv) | refine depGo_skip rfl ?_ | refine depGo_none rfl ?_)); apply Pure1.mk; intro K hk; first | exact W_movePtr (by rfl) hk | exact W_moveInt (by rfl) hk | exact W_moveStr (by rfl) hk | exact W_field (by rfl) hk | exact W_loadM (by rfl) hm' (by rfl) hk)
                apply steps_cons
                · refine A_eff (φ := fun v _ => v = .int .i64 (errI ns.length o.i : Nat)) ?_
                  intro u' H' w' hG'
                  have hS' := hG'.sub
                  obtain ⟨q1, q0, s1, ns1, s2, ns2, q2, q3, q4, q5, q6, _⟩ := hG'.m
                  obtain ⟨e1, e2⟩ := q6 (by omega)
                  obtain ⟨e3, e4⟩ := q5 (by omega)
                  rw [e1, e2] at q2
                  rw [e3, e4] at q3
                  (repeat (first | refine depGo_eq rfl rfl rfl ?_ | (refine depGo_fact rfl rfl rfl ?_; intro v hv) | refine depGo_skip rfl ?_ | refine depGo_none rfl ?_))
                  refine depGo_nil ?_
                  refine W_callW (by rfl) ((storeNS hS' q3 (by omega) o.i xv).mono ?_)
                  rintro v w3 ⟨rfl, hT, hr'⟩
                  have hg3 := hT.growOwn hG'.grow hap.hb2 (own_base hap.hg2)
                  exact ⟨H', HLe.refl _, hG'.next hg3 ⟨q1.turn hT (memS_not n3 n4), q0, _, _, _, _, hap.first q2 hT, hr', (fun h => absurd h (by omega)), (fun h => absurd h (by omega)), fun _ => ⟨rfl, rfl⟩, fun _ => ⟨rfl, rfl⟩⟩, fun _ _ => rfl⟩
                ((apply steps_cons; case h1 => (apply A_pure; intro c u H' w' hG; have hS' := hG.sub; have hS2' := hG.subOld; (repeat (first | refine depGo_eq rfl rfl rfl ?_ | (refine depGo_fact rfl rfl rfl ?_; intro v hv) | refine depGo_skip rfl ?_ | refine depGo_none rfl ?_)); apply Pure1.mk; intro K hk; exact W_eqlT (by first | rfl | assumption) (by first | rfl | assumption) (by first | omega | rfl) hk)); (apply steps_cons; case h1 => (apply A_pure; intro c u H' w' hG; have hS' := hG.sub; have hS2' := hG.subOld; (repeat (first | refine depGo_eq rfl rfl rfl ?_ | (refine depGo_fact rfl rfl rfl ?_; intro v hv) | refine depGo_skip rfl ?_ | refine depGo_none rfl ?_)); apply Pure1.mk; intro K hk; exact W_assignBool (by first | rfl | assumption) hk)); exact trivial)
              · intro k H w hk hG hle' hM
                (repeat (first | refine fin_eq rfl rfl ?_ | (refine fin_fact rfl ?_; intro v hv) | refine fin_none rfl ?_)); refine fin_nil ?_
                obtain ⟨hm3, hl, s1, ns1, s2, ns2, hm, hr, _, _, q6, q7⟩ := hM
                obtain ⟨e1, e2⟩ := q6 (by omega)
                obtain ⟨e3, e4⟩ := q7 (by omega)
                rw [e1, e2] at hm
                rw [e3, e4] at hr
                replace hS := hG.sub
                clear q6 q7 e1 e2 e3 e4
                (refine CW_seq ?_; refine CW_region rfl ?_; refine S_op ?_; refine W_moveBool (by first | rfl | assumption) ?_; refine S_op ?_; refine W_not (by first | rfl | assumption) ?_; refine S_op ?_; refine W_moveBool (by first | rfl | assumption) ?_; refine S_want (by rfl) ?_; refine W_movePtr (by first | rfl | assumption) ?_)
                refine S_want (by rfl) ?_
                refine W_callW (by rfl) ((stepsNI hS hm).mono ?_)
                rintro v w ⟨rfl, rfl⟩
                (refine S_want (by rfl) ?_; refine W_movePtr (by first | rfl | assumption) ?_)
                refine S_want (by rfl) ?_
                refine W_callW (by rfl) ((stepsNS hS hr).mono ?_)
                rintro v w ⟨rfl, rfl⟩
                (refine S_want (by rfl) ?_; refine W_neqF (by first | rfl | assumption) (by first | rfl | assumption) (by first | omega | rfl) ?_; refine S_op ?_; refine W_pickF (by first | rfl | assumption) (by first | rfl | assumption) ?_; refine S_op ?_; refine W_moveBool (by first | rfl | assumption) ?_; refine S_want (by rfl) ?_; refine W_movePtr (by first | rfl | assumption) ?_)
                refine S_want (by rfl) ?_
                refine W_callW (by rfl) ((changesNI hS hm).mono ?_)
                rintro v w ⟨rfl, rfl⟩
                (refine S_want (by rfl) ?_; refine W_movePtr (by first | rfl | assumption) ?_)
                refine S_want (by rfl) ?_
                refine W_callW (by rfl) ((changesNS hS hr).mono ?_)
                rintro v w ⟨rfl, rfl⟩
                (refine S_want (by rfl) ?_; refine W_neqF (by first | rfl | assumption) (by first | rfl | assumption) (by first | omega | rfl) ?_; refine S_op ?_; refine W_pickF (by first | rfl | assumption) (by first | rfl | assumption) ?_; refine S_nil ?_; refine CW_false (by first | rfl | assumption) ?_; refine CW_skip ?_; refine CW_region rfl ?_; refine S_op ?_; refine W_add1 (by first | rfl | assumption) (by omega) ?_; refine S_op ?_; refine W_moveInt (by first | rfl | assumption) ?_; refine S_nil ?_)
                exact ⟨(by repeat (first | exact AgreeOff.over | refine AgreeOff.upd rfl ?_ | refine AgreeOff.over2 rfl ?_)), m - 1, by omega, i + 1, _, _, _, H, rfl, hG, hm, hr, by omega, by omega, by omega, by omega, hl⟩
            · by_cases k3 : o.kind = 3
              · (refine CW_seq ?_; refine CW_region rfl ?_; refine S_op ?_; refine W_assignBool (by first | rfl | assumption) ?_; refine S_nil ?_; refine CW_seq ?_; refine CW_seq ?_; refine CW_region rfl ?_; refine S_op ?_; refine W_field (by first | rfl | assumption) ?_; refine S_op ?_; refine W_loadM (by first | rfl | assumption) (by assumption) (by rfl) ?_; refine S_nil ?_; refine CW_block ?_; refine CW_seq ?_; refine CW_region rfl ?_; refine S_op ?_; refine W_eqlF (by first | rfl | assumption) (by first | rfl | assumption) (by first | omega | rfl) ?_; refine S_op ?_; refine W_assignBool (by first | rfl | assumption) ?_; refine S_nil ?_; refine CW_false (by first | rfl | assumption) ?_; refine CW_seq ?_; refine CW_region rfl ?_; refine S_op ?_; refine W_eqlF (by first | rfl | assumption) (by first | rfl | assumption) (by first | omega | rfl) ?_; refine S_op ?_; refine W_assignBool (by first | rfl | assumption) ?_; refine S_nil ?_; refine CW_false (by first | rfl | assumption) ?_; refine CW_seq ?_; refine CW_region rfl ?_; refine S_op ?_; refine W_eqlT (by first | rfl | assumption) (by first | rfl | assumption) (by first | omega | rfl) ?_; refine S_op ?_; refine W_assignBool (by first | rfl | assumption) ?_; refine S_nil ?_; refine CW_true (by first | rfl | assumption) ?_; refine CW_seq ?_; refine CW_region rfl ?_; refine S_op ?_; refine W_movePtr (by first | rfl | assumption) ?_; refine S_op ?_; refine W_field (by first | rfl | assumption) ?_; refine S_op ?_; refine W_loadM (by first | rfl | assumption) (by assumption) (by rfl) ?_; refine S_op ?_; refine W_moveInt (by first | rfl | assumption) ?_; refine S_op ?_; refine W_moveInt (by first | rfl | assumption) ?_)
                refine S_op ?_
                refine W_callW (by rfl) ((casNI hS hm (by omega) (by omega) o.i ov xv).mono ?_)
                rintro v w ⟨rfl, hT, hm⟩
                replace hG := hT.growOwn hG hap.hb (own_base hap.hg)
                replace hS := hG.sub
                replace hr := hap.second hr hT
                replace hm3 := hm3.turn hT (memS_not n1 n2)
                clear hT
                (refine S_op ?_; refine W_moveTup (by first | rfl | assumption) ?_; refine S_op ?_; refine W_extract (by first | rfl | assumption) (by rfl) ?_; refine S_op ?_; refine W_extract (by first | rfl | assumption) (by rfl) ?_; refine S_op ?_; refine W_assignBool (by first | rfl | assumption) ?_; refine S_op ?_; refine W_assignInt (by first | rfl | assumption) ?_; refine S_nil ?_; refine CW_seq ?_; refine CW_region rfl ?_; refine S_op ?_; refine W_movePtr (by first | rfl | assumption) ?_; refine S_op ?_; refine W_field (by first | rfl | assumption) ?_; refine S_op ?_; refine W_loadM (by first | rfl | assumption) (by assumption) (by rfl) ?_; refine S_op ?_; refine W_moveStr (by first | rfl | assumption) ?_; refine S_op ?_; refine W_moveStr (by first | rfl | assumption) ?_)
                refine S_op ?_
                refine W_callW (by rfl) ((casNS hS hr (by omega) (by omega) o.i ov xv).mono ?_)
                rintro v w ⟨rfl, hT, hr⟩
                replace hG := hT.growOwn hG hap.hb2 (own_base hap.hg2)
                replace hS := hG.sub
                replace hm := hap.first hm hT
                replace hm3 := hm3.turn hT (memS_not n3 n4)
                clear hT
                have hcs : (if casB ns o.i ov then c + 1 else c) ≤ c + 1 := by split <;> omega
                generalize (if casB ns o.i ov then c + 1 else c) = c5 at *
                generalize casB ns o.i ov = cb at *
                (refine S_op ?_; refine W_moveTup (by first | rfl | assumption) ?_; refine S_op ?_; refine W_extract (by first | rfl | assumption) (by rfl) ?_; refine S_op ?_; refine W_extract (by first | rfl | assumption) (by rfl) ?_; refine S_op ?_; refine W_assignBool (by first | rfl | assumption) ?_; refine S_op ?_; refine W_assignInt (by first | rfl | assumption) ?_; refine S_nil ?_; refine CW_region rfl ?_; refine S_op ?_; refine W_moveBool (by first | rfl | assumption) ?_; refine S_op ?_; refine W_moveBool (by first | rfl | assumption) ?_; refine S_op ?_; refine W_beqlT (by first | rfl | assumption) (by first | rfl | assumption) (by first | rfl | assumption) ?_; refine S_op ?_; refine W_moveBool (by first | rfl | assumption) ?_; refine S_want (by rfl) ?_; refine W_moveInt (by first | rfl | assumption) ?_; refine S_want (by rfl) ?_; refine W_moveInt (by first | rfl | assumption) ?_; refine S_want (by rfl) ?_; refine W_eqlT (by first | rfl | assumption) (by first | rfl | assumption) (by first | omega | rfl) ?_; refine S_op ?_; refine W_pickT (by first | rfl | assumption) (by first | rfl | assumption) ?_; refine S_op ?_; refine W_assignBool (by first | rfl | assumption) ?_; refine S_nil ?_; refine CW_seq ?_; refine CW_region rfl ?_; refine S_op ?_; refine W_moveBool (by first | rfl | assumption) ?_; refine S_op ?_; refine W_not (by first | rfl | assumption) ?_; refine S_op ?_; refine W_moveBool (by first | rfl | assumption) ?_; refine S_want (by rfl) ?_; refine W_movePtr (by first | rfl | assumption) ?_)
                refine S_want (by rfl) ?_
                refine W_callW (by rfl) ((stepsNI hS hm).mono ?_)
                rintro v w ⟨rfl, rfl⟩
                (refine S_want (by rfl) ?_; refine W_movePtr (by first | rfl | assumption) ?_)
                refine S_want (by rfl) ?_
                refine W_callW (by rfl) ((stepsNS hS hr).mono ?_)
                rintro v w ⟨rfl, rfl⟩
                (refine S_want (by rfl) ?_; refine W_neqF (by first | rfl | assumption) (by first | rfl | assumption) (by first | omega | rfl) ?_; refine S_op ?_; refine W_pickF (by first | rfl | assumption) (by first | rfl | assumption) ?_; refine S_op ?_; refine W_moveBool (by first | rfl | assumption) ?_; refine S_want (by rfl) ?_; refine W_movePtr (by first | rfl | assumption) ?_)
                refine S_want (by rfl) ?_
                refine W_callW (by rfl) ((changesNI hS hm).mono ?_)
                rintro v w ⟨rfl, rfl⟩
                (refine S_want (by rfl) ?_; refine W_movePtr (by first | rfl | assumption) ?_)
                refine S_want (by rfl) ?_
                refine W_callW (by rfl) ((changesNS hS hr).mono ?_)
                rintro v w ⟨rfl, rfl⟩
                (refine S_want (by rfl) ?_; refine W_neqF (by first | rfl | assumption) (by first | rfl | assumption) (by first | omega | rfl) ?_; refine S_op ?_; refine W_pickF (by first | rfl | assumption) (by first | rfl | assumption) ?_; refine S_nil ?_; refine CW_false (by first | rfl | assumption) ?_; refine CW_skip ?_; refine CW_region rfl ?_; refine S_op ?_; refine W_add1 (by first | rfl | assumption) (by omega) ?_; refine S_op ?_; refine W_moveInt (by first | rfl | assumption) ?_; refine S_nil ?_)
                exact ⟨(by repeat (first | exact AgreeOff.over | refine AgreeOff.upd rfl ?_ | refine AgreeOff.over2 rfl ?_)), m - 1, by omega, i + 1, _, _, _, H, rfl, hG, hm, hr, by omega, by omega, by omega, by omega, hl⟩
              · skip
                (refine CW_seq ?_; refine CW_region rfl ?_; refine S_op ?_; refine W_assignBool (by first | rfl | assumption) ?_; refine S_nil ?_; refine CW_seq ?_; refine CW_seq ?_; refine CW_region rfl ?_; refine S_op ?_; refine W_field (by first | rfl | assumption) ?_; refine S_op ?_; refine W_loadM (by first | rfl | assumption) (by assumption) (by rfl) ?_; refine S_nil ?_; refine CW_block ?_; refine CW_seq ?_; refine CW_region rfl ?_; refine S_op ?_; refine W_eqlF (by first | rfl | assumption) (by first | rfl | assumption) (by first | omega | rfl) ?_; refine S_op ?_; refine W_assignBool (by first | rfl | assumption) ?_; refine S_nil ?_; refine CW_false (by first | rfl | assumption) ?_; refine CW_seq ?_; refine CW_region rfl ?_; refine S_op ?_; refine W_eqlF (by first | rfl | assumption) (by first | rfl | assumption) (by first | omega | rfl) ?_; refine S_op ?_; refine W_assignBool (by first | rfl | assumption) ?_; refine S_nil ?_; refine CW_false (by first | rfl | assumption) ?_; refine CW_seq ?_; refine CW_region rfl ?_; refine S_op ?_; refine W_eqlF (by first | rfl | assumption) (by first | rfl | assumption) (by first | omega | rfl) ?_; refine S_op ?_; refine W_assignBool (by first | rfl | assumption) ?_; refine S_nil ?_; refine CW_false (by first | rfl | assumption) ?_; refine CW_skip ?_; refine CW_seq ?_; refine CW_region rfl ?_; refine S_op ?_; refine W_moveBool (by first | rfl | assumption) ?_; refine S_op ?_; refine W_not (by first | rfl | assumption) ?_; refine S_op ?_; refine W_moveBool (by first | rfl | assumption) ?_; refine S_want (by rfl) ?_; refine W_movePtr (by first | rfl | assumption) ?_)
                refine S_want (by rfl) ?_
                refine W_callW (by rfl) ((stepsNI hS hm).mono ?_)
                rintro v w ⟨rfl, rfl⟩
                (refine S_want (by rfl) ?_; refine W_movePtr (by first | rfl | assumption) ?_)
                refine S_want (by rfl) ?_
                refine W_callW (by rfl) ((stepsNS hS hr).mono ?_)
                rintro v w ⟨rfl, rfl⟩
                (refine S_want (by rfl) ?_; refine W_neqF (by first | rfl | assumption) (by first | rfl | assumption) (by first | omega | rfl) ?_; refine S_op ?_; refine W_pickF (by first | rfl | assumption) (by first | rfl | assumption) ?_; refine S_op ?_; refine W_moveBool (by first | rfl | assumption) ?_; refine S_want (by rfl) ?_; refine W_movePtr (by first | rfl | assumption) ?_)
                refine S_want (by rfl) ?_
                refine W_callW (by rfl) ((changesNI hS hm).mono ?_)
                rintro v w ⟨rfl, rfl⟩
                (refine S_want (by rfl) ?_; refine W_movePtr (by first | rfl | assumption) ?_)
                refine S_want (by rfl) ?_
                refine W_callW (by rfl) ((changesNS hS hr).mono ?_)
                rintro v w ⟨rfl, rfl⟩
                (refine S_want (by rfl) ?_; refine W_neqF (by first | rfl | assumption) (by first | rfl | assumption) (by first | omega | rfl) ?_; refine S_op ?_; refine W_pickF (by first | rfl | assumption) (by first | rfl | assumption) ?_; refine S_nil ?_; refine CW_false (by first | rfl | assumption) ?_; refine CW_skip ?_; refine CW_region rfl ?_; refine S_op ?_; refine W_add1 (by first | rfl | assumption) (by omega) ?_; refine S_op ?_; refine W_moveInt (by first | rfl | assumption) ?_; refine S_nil ?_)
                exact ⟨(by repeat (first | exact AgreeOff.over | refine AgreeOff.upd rfl ?_ | refine AgreeOff.over2 rfl ?_)), m - 1, by omega, i + 1, ns, _, _, H, rfl, hG, hm, hr, by omega, by omega, by omega, by omega, hl⟩
    · (refine CW_seq ?_; refine CW_region rfl ?_; refine S_op ?_; refine W_lssF (by first | rfl | assumption) (by first | rfl | assumption) (by first | omega | rfl) ?_; refine S_nil ?_; refine CW_seq ?_; refine CW_false (by first | rfl | assumption) ?_; refine CW_exit ?_; refine CW_seq ?_; refine CW_region rfl ?_; refine S_op ?_; refine W_assignBool (by first | rfl | assumption) ?_; refine S_nil ?_; refine CW_ret ?_)
      exact ⟨_, ResW_one (v := .bool _) rfl, H, hG, rfl⟩
end Go.Proofs.Ytaimilhkfmpdoaa
