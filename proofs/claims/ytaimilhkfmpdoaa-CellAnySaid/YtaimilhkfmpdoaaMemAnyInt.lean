/- The memory's methods, words of type int, whatever the index. Conditions: sizes. -/
import Derived.Test.YtaimilhkfmpdoaaMemInt
import Derived.Test.YtaimilhkfmpdoaaPlaces
namespace Go.Proofs.Ytaimilhkfmpdoaa
open Go.Proofs Go.RowKit
set_option linter.unusedVariables false
section
variable {H : HF} {w : World} {b : Nat} {A : Option Addr} {ws : List Int} {s c : Nat}
theorem loadA_Int (hS : Sub H w) (hm : IsMem H w b A (ws.map vI) s c) (hs : s ≤ 1000000000) (i : Int) :
    CallW Try.prog 17 #[.pointer (some ⟨b, 0, none⟩), .int .i64 i] w fun v w' => v = .tuple #[vI (getI ws i), .int .i64 (errI ws.length i : Nat)] ∧ Turn (memS b A) H w H w' ∧ IsMem H w' b A (ws.map vI) (s + thereN ws.length i) c := by
  rcases there_cases ws.length i with ⟨h, q, rfl, hq⟩ | ⟨h, h2⟩
  · refine (load_yes_Int hS hm q hq hs).mono ?_
    rintro v w' ⟨rfl, h3, h4⟩
    exact ⟨by simp [getI, errI, h], h3, by simpa [thereN, h] using h4⟩
  · refine (load_no_Int hS hm i h2).mono ?_
    rintro v w' ⟨rfl, rfl⟩
    exact ⟨by simp [getI, errI, h]; rfl, Turn.refl hS, by simpa [thereN, h] using hm⟩
theorem storeA_Int (hS : Sub H w) (hm : IsMem H w b A (ws.map vI) s c) (hs : s ≤ 1000000000) (i : Int) (x : Int) :
    CallW Try.prog 19 #[.pointer (some ⟨b, 0, none⟩), .int .i64 i, vI x] w fun v w' => v = .int .i64 (errI ws.length i : Nat) ∧ Turn (memS b A) H w H w' ∧ IsMem H w' b A ((storeI ws i x).map vI) (s + thereN ws.length i) c := by
  rcases there_cases ws.length i with ⟨h, q, rfl, hq⟩ | ⟨h, h2⟩
  · refine (store_yes_Int hS hm q x hq hs).mono ?_
    rintro v w' ⟨rfl, h3, h4⟩
    exact ⟨by simp [errI, h], h3, by simpa [thereN, storeI, h] using h4⟩
  · refine (store_no_Int hS hm i x h2).mono ?_
    rintro v w' ⟨rfl, rfl⟩
    exact ⟨by simp [errI, h], Turn.refl hS, by simpa [thereN, storeI, h] using hm⟩
theorem casA_Int (hS : Sub H w) (hm : IsMem H w b A (ws.map vI) s c) (hs : s ≤ 1000000000) (hc : c ≤ 1000000000) (i : Int) (x y : Int) :
    CallW Try.prog 21 #[.pointer (some ⟨b, 0, none⟩), .int .i64 i, vI x, vI y] w fun v w' => v = .tuple #[.bool (casB ws i x), .int .i64 (errI ws.length i : Nat)] ∧ Turn (memS b A) H w H w' ∧
      IsMem H w' b A ((casI ws i x y).map vI) (s + thereN ws.length i) (if casB ws i x then c + 1 else c) := by
  rcases there_cases ws.length i with ⟨h, q, rfl, hq⟩ | ⟨h, h2⟩
  · refine (cas_yes_Int hS hm q x y hq hs hc).mono ?_
    rintro v w' ⟨rfl, h3, h4⟩
    by_cases he : nth ws q = x
    · exact ⟨by simp [casB, errI, h, he], h3, by simpa [thereN, casI, casB, h, he] using h4⟩
    · exact ⟨by simp [casB, errI, h, he], h3, by simpa [thereN, casI, casB, h, he] using h4⟩
  · refine (cas_no_Int hS hm i x y h2).mono ?_
    rintro v w' ⟨rfl, rfl⟩
    exact ⟨by simp [casB, errI, h], Turn.refl hS, by simpa [thereN, casI, casB, h] using hm⟩
end
end Go.Proofs.Ytaimilhkfmpdoaa
