/- What is known of the types and functions of the seat: facts of its loaded program, as instances. Conditions: none. -/
import Derived.Test.YtcbboghjocoiiaaProg
import Derived.Test.YtcbboghjocoiiaaRep
import Derived.KernelRfl
namespace Go.Proofs.Ytcbboghjocoiiaa
open Go.Proofs
set_option linter.unusedVariables false
theorem info_of {P : Go.Program} {T : Go.TypeId} {i : Go.TypeInfo} (h : P.types[T]? = some i) : P.info? T = some i := by unfold Go.Tables.info?; rw [if_pos (Array.getElem?_eq_some_iff.1 h).1]; exact h
instance tySize1 : TySize Try.prog 1 1 := ⟨Try.sizeOf1⟩
instance tyOne1 : TyOne Try.prog 1 := ⟨Try.isAgg1, Try.sizeOf1⟩
instance tyElem1 : TyElem Try.prog 1 1 8 := ⟨Try.t1, _, info_of Try.type1, rfl, rfl, rfl, rfl⟩
instance tyInfo1 : TyInfo Try.prog 1 Try.t1 := ⟨info_of Try.type1⟩
instance tyZero1 : TyZero Try.prog 1 (Try.t1.zero.getD undef) := ⟨Try.zeroValue1⟩
instance tySize2 : TySize Try.prog 2 1 := ⟨Try.sizeOf2⟩
instance tyOne2 : TyOne Try.prog 2 := ⟨Try.isAgg2, Try.sizeOf2⟩
instance tyElem2 : TyElem Try.prog 2 1 8 := ⟨Try.t2, _, info_of Try.type2, rfl, rfl, rfl, rfl⟩
instance tyInfo2 : TyInfo Try.prog 2 Try.t2 := ⟨info_of Try.type2⟩
instance tyZero2 : TyZero Try.prog 2 (Try.t2.zero.getD undef) := ⟨Try.zeroValue2⟩
instance tyInt2 : TyInt Try.prog 2 .i64 := ⟨Try.underlying2⟩
instance tySize3 : TySize Try.prog 3 1 := ⟨Try.sizeOf3⟩
instance tyOne3 : TyOne Try.prog 3 := ⟨Try.isAgg3, Try.sizeOf3⟩
instance tyElem3 : TyElem Try.prog 3 1 8 := ⟨Try.t3, _, info_of Try.type3, rfl, rfl, rfl, rfl⟩
instance tyInfo3 : TyInfo Try.prog 3 Try.t3 := ⟨info_of Try.type3⟩
instance tyZero3 : TyZero Try.prog 3 (Try.t3.zero.getD undef) := ⟨Try.zeroValue3⟩
instance tyInt3 : TyInt Try.prog 3 .i64 := ⟨Try.underlying3⟩
instance tySize4 : TySize Try.prog 4 1 := ⟨Try.sizeOf4⟩
instance tyOne4 : TyOne Try.prog 4 := ⟨Try.isAgg4, Try.sizeOf4⟩
instance tyElem4 : TyElem Try.prog 4 1 1 := ⟨Try.t4, _, info_of Try.type4, rfl, rfl, rfl, rfl⟩
instance tyInfo4 : TyInfo Try.prog 4 Try.t4 := ⟨info_of Try.type4⟩
instance tyZero4 : TyZero Try.prog 4 (Try.t4.zero.getD undef) := ⟨Try.zeroValue4⟩
instance tyBool4 : TyBool Try.prog 4 := ⟨Try.underlying4⟩
instance tySize5 : TySize Try.prog 5 1 := ⟨Try.sizeOf5⟩
instance tyOne5 : TyOne Try.prog 5 := ⟨Try.isAgg5, Try.sizeOf5⟩
instance tyElem5 : TyElem Try.prog 5 1 1 := ⟨Try.t5, _, info_of Try.type5, rfl, rfl, rfl, rfl⟩
instance tyInfo5 : TyInfo Try.prog 5 Try.t5 := ⟨info_of Try.type5⟩
instance tyZero5 : TyZero Try.prog 5 (Try.t5.zero.getD undef) := ⟨Try.zeroValue5⟩
instance tyInt5 : TyInt Try.prog 5 .u8 := ⟨Try.underlying5⟩
instance tySize6 : TySize Try.prog 6 1 := ⟨Try.sizeOf6⟩
instance tyOne6 : TyOne Try.prog 6 := ⟨Try.isAgg6, Try.sizeOf6⟩
instance tyElem6 : TyElem Try.prog 6 1 1 := ⟨Try.t6, _, info_of Try.type6, rfl, rfl, rfl, rfl⟩
instance tyInfo6 : TyInfo Try.prog 6 Try.t6 := ⟨info_of Try.type6⟩
instance tyZero6 : TyZero Try.prog 6 (Try.t6.zero.getD undef) := ⟨Try.zeroValue6⟩
instance tyInt6 : TyInt Try.prog 6 .u8 := ⟨Try.underlying6⟩
instance tySize7 : TySize Try.prog 7 4 := ⟨Try.sizeOf7⟩
instance tyAgg7 : TyAgg Try.prog 7 := ⟨Try.isAgg7⟩
instance tyElem7 : TyElem Try.prog 7 4 24 := ⟨Try.t7, _, info_of Try.type7, rfl, rfl, rfl, rfl⟩
instance tyInfo7 : TyInfo Try.prog 7 Try.t7 := ⟨info_of Try.type7⟩
instance tyZero7 : TyZero Try.prog 7 (Try.t7.zero.getD undef) := ⟨Try.zeroValue7⟩
instance tyField7_0 : TyField Try.prog 7 0 0 2 := ⟨_, _, Try.underlying7, rfl, rfl, rfl, fun w => ⟨0, Try.sizeOf2 w⟩⟩
instance tyField7_1 : TyField Try.prog 7 1 1 3 := ⟨_, _, Try.underlying7, rfl, rfl, rfl, fun w => ⟨0, Try.sizeOf3 w⟩⟩
instance tyField7_2 : TyField Try.prog 7 2 2 4 := ⟨_, _, Try.underlying7, rfl, rfl, rfl, fun w => ⟨0, Try.sizeOf4 w⟩⟩
instance tyField7_3 : TyField Try.prog 7 3 3 6 := ⟨_, _, Try.underlying7, rfl, rfl, rfl, fun w => ⟨0, Try.sizeOf6 w⟩⟩
instance tyStruct7 : TyStruct Try.prog 7 (fieldsOf Try.t7.desc) := ⟨Try.underlying7⟩
instance tySize8 : TySize Try.prog 8 4 := ⟨Try.sizeOf8⟩
instance tyAgg8 : TyAgg Try.prog 8 := ⟨Try.isAgg8⟩
instance tyElem8 : TyElem Try.prog 8 4 24 := ⟨Try.t8, _, info_of Try.type8, rfl, rfl, rfl, rfl⟩
instance tyInfo8 : TyInfo Try.prog 8 Try.t8 := ⟨info_of Try.type8⟩
instance tyZero8 : TyZero Try.prog 8 (Try.t8.zero.getD undef) := ⟨Try.zeroValue8⟩
instance tyField8_0 : TyField Try.prog 8 0 0 2 := ⟨_, _, Try.underlying8, rfl, rfl, rfl, fun w => ⟨0, Try.sizeOf2 w⟩⟩
instance tyField8_1 : TyField Try.prog 8 1 1 3 := ⟨_, _, Try.underlying8, rfl, rfl, rfl, fun w => ⟨0, Try.sizeOf3 w⟩⟩
instance tyField8_2 : TyField Try.prog 8 2 2 4 := ⟨_, _, Try.underlying8, rfl, rfl, rfl, fun w => ⟨0, Try.sizeOf4 w⟩⟩
instance tyField8_3 : TyField Try.prog 8 3 3 6 := ⟨_, _, Try.underlying8, rfl, rfl, rfl, fun w => ⟨0, Try.sizeOf6 w⟩⟩
instance tyStruct8 : TyStruct Try.prog 8 (fieldsOf Try.t7.desc) := ⟨Try.underlying8⟩
instance tySize9 : TySize Try.prog 9 1 := ⟨Try.sizeOf9⟩
instance tyOne9 : TyOne Try.prog 9 := ⟨Try.isAgg9, Try.sizeOf9⟩
instance tyElem9 : TyElem Try.prog 9 1 16 := ⟨Try.t9, _, info_of Try.type9, rfl, rfl, rfl, rfl⟩
instance tyInfo9 : TyInfo Try.prog 9 Try.t9 := ⟨info_of Try.type9⟩
instance tyZero9 : TyZero Try.prog 9 (Try.t9.zero.getD undef) := ⟨Try.zeroValue9⟩
instance tyStr9 : TyStr Try.prog 9 := ⟨Try.underlying9⟩
instance tySize10 : TySize Try.prog 10 1 := ⟨Try.sizeOf10⟩
instance tyOne10 : TyOne Try.prog 10 := ⟨Try.isAgg10, Try.sizeOf10⟩
instance tyElem10 : TyElem Try.prog 10 1 16 := ⟨Try.t10, _, info_of Try.type10, rfl, rfl, rfl, rfl⟩
instance tyInfo10 : TyInfo Try.prog 10 Try.t10 := ⟨info_of Try.type10⟩
instance tyZero10 : TyZero Try.prog 10 (Try.t10.zero.getD undef) := ⟨Try.zeroValue10⟩
instance tyStr10 : TyStr Try.prog 10 := ⟨Try.underlying10⟩
instance tySize11 : TySize Try.prog 11 1 := ⟨Try.sizeOf11⟩
instance tyOne11 : TyOne Try.prog 11 := ⟨Try.isAgg11, Try.sizeOf11⟩
instance tyElem11 : TyElem Try.prog 11 1 16 := ⟨Try.t11, _, info_of Try.type11, rfl, rfl, rfl, rfl⟩
instance tyInfo11 : TyInfo Try.prog 11 Try.t11 := ⟨info_of Try.type11⟩
instance tyZero11 : TyZero Try.prog 11 (Try.t11.zero.getD undef) := ⟨Try.zeroValue11⟩
instance tyStr11 : TyStr Try.prog 11 := ⟨Try.underlying11⟩
instance tySize12 : TySize Try.prog 12 1 := ⟨Try.sizeOf12⟩
instance tyOne12 : TyOne Try.prog 12 := ⟨Try.isAgg12, Try.sizeOf12⟩
instance tyElem12 : TyElem Try.prog 12 1 8 := ⟨Try.t12, _, info_of Try.type12, rfl, rfl, rfl, rfl⟩
instance tyInfo12 : TyInfo Try.prog 12 Try.t12 := ⟨info_of Try.type12⟩
instance tyZero12 : TyZero Try.prog 12 (Try.t12.zero.getD undef) := ⟨Try.zeroValue12⟩
instance tyInt12 : TyInt Try.prog 12 .u64 := ⟨Try.underlying12⟩
instance tySize13 : TySize Try.prog 13 2 := ⟨Try.sizeOf13⟩
instance tyAgg13 : TyAgg Try.prog 13 := ⟨Try.isAgg13⟩
instance tyElem13 : TyElem Try.prog 13 2 24 := ⟨Try.t13, _, info_of Try.type13, rfl, rfl, rfl, rfl⟩
instance tyInfo13 : TyInfo Try.prog 13 Try.t13 := ⟨info_of Try.type13⟩
instance tyZero13 : TyZero Try.prog 13 (Try.t13.zero.getD undef) := ⟨Try.zeroValue13⟩
instance tyField13_0 : TyField Try.prog 13 0 0 9 := ⟨_, _, Try.underlying13, rfl, rfl, rfl, fun w => ⟨0, Try.sizeOf9 w⟩⟩
instance tyField13_1 : TyField Try.prog 13 1 1 12 := ⟨_, _, Try.underlying13, rfl, rfl, rfl, fun w => ⟨0, Try.sizeOf12 w⟩⟩
instance tyStruct13 : TyStruct Try.prog 13 (fieldsOf Try.t13.desc) := ⟨Try.underlying13⟩
instance tySize14 : TySize Try.prog 14 2 := ⟨Try.sizeOf14⟩
instance tyAgg14 : TyAgg Try.prog 14 := ⟨Try.isAgg14⟩
instance tyElem14 : TyElem Try.prog 14 2 24 := ⟨Try.t14, _, info_of Try.type14, rfl, rfl, rfl, rfl⟩
instance tyInfo14 : TyInfo Try.prog 14 Try.t14 := ⟨info_of Try.type14⟩
instance tyZero14 : TyZero Try.prog 14 (Try.t14.zero.getD undef) := ⟨Try.zeroValue14⟩
instance tyField14_0 : TyField Try.prog 14 0 0 9 := ⟨_, _, Try.underlying14, rfl, rfl, rfl, fun w => ⟨0, Try.sizeOf9 w⟩⟩
instance tyField14_1 : TyField Try.prog 14 1 1 12 := ⟨_, _, Try.underlying14, rfl, rfl, rfl, fun w => ⟨0, Try.sizeOf12 w⟩⟩
instance tyStruct14 : TyStruct Try.prog 14 (fieldsOf Try.t13.desc) := ⟨Try.underlying14⟩
instance tySize15 : TySize Try.prog 15 1 := ⟨Try.sizeOf15⟩
instance tyOne15 : TyOne Try.prog 15 := ⟨Try.isAgg15, Try.sizeOf15⟩
instance tyElem15 : TyElem Try.prog 15 1 8 := ⟨Try.t15, _, info_of Try.type15, rfl, rfl, rfl, rfl⟩
instance tyInfo15 : TyInfo Try.prog 15 Try.t15 := ⟨info_of Try.type15⟩
instance tyZero15 : TyZero Try.prog 15 (Try.t15.zero.getD undef) := ⟨Try.zeroValue15⟩
instance tyPtr15 : TyPtr Try.prog 15 72 := ⟨Try.underlying15⟩
instance tySize16 : TySize Try.prog 16 1 := ⟨Try.sizeOf16⟩
instance tyOne16 : TyOne Try.prog 16 := ⟨Try.isAgg16, Try.sizeOf16⟩
instance tyElem16 : TyElem Try.prog 16 1 8 := ⟨Try.t16, _, info_of Try.type16, rfl, rfl, rfl, rfl⟩
instance tyInfo16 : TyInfo Try.prog 16 Try.t16 := ⟨info_of Try.type16⟩
instance tyZero16 : TyZero Try.prog 16 (Try.t16.zero.getD undef) := ⟨Try.zeroValue16⟩
instance tyPtr16 : TyPtr Try.prog 16 75 := ⟨Try.underlying16⟩
instance tySize17 : TySize Try.prog 17 1 := ⟨Try.sizeOf17⟩
instance tyOne17 : TyOne Try.prog 17 := ⟨Try.isAgg17, Try.sizeOf17⟩
instance tyElem17 : TyElem Try.prog 17 1 8 := ⟨Try.t17, _, info_of Try.type17, rfl, rfl, rfl, rfl⟩
instance tyInfo17 : TyInfo Try.prog 17 Try.t17 := ⟨info_of Try.type17⟩
instance tyZero17 : TyZero Try.prog 17 (Try.t17.zero.getD undef) := ⟨Try.zeroValue17⟩
instance tyPtr17 : TyPtr Try.prog 17 85 := ⟨Try.underlying17⟩
instance tySize18 : TySize Try.prog 18 1 := ⟨Try.sizeOf18⟩
instance tyAgg18 : TyAgg Try.prog 18 := ⟨Try.isAgg18⟩
instance tyElem18 : TyElem Try.prog 18 1 8 := ⟨Try.t18, _, info_of Try.type18, rfl, rfl, rfl, rfl⟩
instance tyInfo18 : TyInfo Try.prog 18 Try.t18 := ⟨info_of Try.type18⟩
instance tyZero18 : TyZero Try.prog 18 (Try.t18.zero.getD undef) := ⟨Try.zeroValue18⟩
instance tyField18_0 : TyField Try.prog 18 0 0 17 := ⟨_, _, Try.underlying18, rfl, rfl, rfl, fun w => ⟨0, Try.sizeOf17 w⟩⟩
instance tyStruct18 : TyStruct Try.prog 18 (fieldsOf Try.t18.desc) := ⟨Try.underlying18⟩
instance tySize19 : TySize Try.prog 19 1 := ⟨Try.sizeOf19⟩
instance tyAgg19 : TyAgg Try.prog 19 := ⟨Try.isAgg19⟩
instance tyElem19 : TyElem Try.prog 19 1 8 := ⟨Try.t19, _, info_of Try.type19, rfl, rfl, rfl, rfl⟩
instance tyInfo19 : TyInfo Try.prog 19 Try.t19 := ⟨info_of Try.type19⟩
instance tyZero19 : TyZero Try.prog 19 (Try.t19.zero.getD undef) := ⟨Try.zeroValue19⟩
instance tyField19_0 : TyField Try.prog 19 0 0 17 := ⟨_, _, Try.underlying19, rfl, rfl, rfl, fun w => ⟨0, Try.sizeOf17 w⟩⟩
instance tyStruct19 : TyStruct Try.prog 19 (fieldsOf Try.t18.desc) := ⟨Try.underlying19⟩
instance tySize20 : TySize Try.prog 20 1 := ⟨Try.sizeOf20⟩
instance tyOne20 : TyOne Try.prog 20 := ⟨Try.isAgg20, Try.sizeOf20⟩
instance tyElem20 : TyElem Try.prog 20 1 16 := ⟨Try.t20, _, info_of Try.type20, rfl, rfl, rfl, rfl⟩
instance tyInfo20 : TyInfo Try.prog 20 Try.t20 := ⟨info_of Try.type20⟩
instance tyZero20 : TyZero Try.prog 20 (Try.t20.zero.getD undef) := ⟨Try.zeroValue20⟩
instance tySize21 : TySize Try.prog 21 1 := ⟨Try.sizeOf21⟩
instance tyOne21 : TyOne Try.prog 21 := ⟨Try.isAgg21, Try.sizeOf21⟩
instance tyElem21 : TyElem Try.prog 21 1 4 := ⟨Try.t21, _, info_of Try.type21, rfl, rfl, rfl, rfl⟩
instance tyInfo21 : TyInfo Try.prog 21 Try.t21 := ⟨info_of Try.type21⟩
instance tyZero21 : TyZero Try.prog 21 (Try.t21.zero.getD undef) := ⟨Try.zeroValue21⟩
instance tyInt21 : TyInt Try.prog 21 .i32 := ⟨Try.underlying21⟩
instance tySize22 : TySize Try.prog 22 1 := ⟨Try.sizeOf22⟩
instance tyOne22 : TyOne Try.prog 22 := ⟨Try.isAgg22, Try.sizeOf22⟩
instance tyElem22 : TyElem Try.prog 22 1 24 := ⟨Try.t22, _, info_of Try.type22, rfl, rfl, rfl, rfl⟩
instance tyInfo22 : TyInfo Try.prog 22 Try.t22 := ⟨info_of Try.type22⟩
instance tyZero22 : TyZero Try.prog 22 (Try.t22.zero.getD undef) := ⟨Try.zeroValue22⟩
instance tySlice22 : TySlice Try.prog 22 53 := ⟨Try.underlying22⟩
instance tySize23 : TySize Try.prog 23 1 := ⟨Try.sizeOf23⟩
instance tyOne23 : TyOne Try.prog 23 := ⟨Try.isAgg23, Try.sizeOf23⟩
instance tyElem23 : TyElem Try.prog 23 1 24 := ⟨Try.t23, _, info_of Try.type23, rfl, rfl, rfl, rfl⟩
instance tyInfo23 : TyInfo Try.prog 23 Try.t23 := ⟨info_of Try.type23⟩
instance tyZero23 : TyZero Try.prog 23 (Try.t23.zero.getD undef) := ⟨Try.zeroValue23⟩
instance tySlice23 : TySlice Try.prog 23 43 := ⟨Try.underlying23⟩
instance tySize24 : TySize Try.prog 24 3 := ⟨Try.sizeOf24⟩
instance tyAgg24 : TyAgg Try.prog 24 := ⟨Try.isAgg24⟩
instance tyElem24 : TyElem Try.prog 24 3 40 := ⟨Try.t24, _, info_of Try.type24, rfl, rfl, rfl, rfl⟩
instance tyInfo24 : TyInfo Try.prog 24 Try.t24 := ⟨info_of Try.type24⟩
instance tyZero24 : TyZero Try.prog 24 (Try.t24.zero.getD undef) := ⟨Try.zeroValue24⟩
instance tyField24_0 : TyField Try.prog 24 0 0 3 := ⟨_, _, Try.underlying24, rfl, rfl, rfl, fun w => ⟨0, Try.sizeOf3 w⟩⟩
instance tyField24_1 : TyField Try.prog 24 1 1 9 := ⟨_, _, Try.underlying24, rfl, rfl, rfl, fun w => ⟨0, Try.sizeOf9 w⟩⟩
instance tyField24_2 : TyField Try.prog 24 2 2 9 := ⟨_, _, Try.underlying24, rfl, rfl, rfl, fun w => ⟨0, Try.sizeOf9 w⟩⟩
instance tyStruct24 : TyStruct Try.prog 24 (fieldsOf Try.t24.desc) := ⟨Try.underlying24⟩
instance tySize25 : TySize Try.prog 25 3 := ⟨Try.sizeOf25⟩
instance tyAgg25 : TyAgg Try.prog 25 := ⟨Try.isAgg25⟩
instance tyElem25 : TyElem Try.prog 25 3 40 := ⟨Try.t25, _, info_of Try.type25, rfl, rfl, rfl, rfl⟩
instance tyInfo25 : TyInfo Try.prog 25 Try.t25 := ⟨info_of Try.type25⟩
instance tyZero25 : TyZero Try.prog 25 (Try.t25.zero.getD undef) := ⟨Try.zeroValue25⟩
instance tyFlat25 : TyFlat Try.prog 25 [3, 9, 9] := ⟨_, Try.underlying25, Try.stoodInHeld25, Try.eqGuardType25, ⟨⟨by decide, rfl, Try.isAgg3, .inl ⟨_, Try.underlying3⟩⟩, ⟨⟨by decide, rfl, Try.isAgg9, .inr (.inr Try.underlying9)⟩, ⟨⟨by decide, rfl, Try.isAgg9, .inr (.inr Try.underlying9)⟩, trivial⟩⟩⟩, rfl⟩
instance tyField25_0 : TyField Try.prog 25 0 0 3 := ⟨_, _, Try.underlying25, rfl, rfl, rfl, fun w => ⟨0, Try.sizeOf3 w⟩⟩
instance tyField25_1 : TyField Try.prog 25 1 1 9 := ⟨_, _, Try.underlying25, rfl, rfl, rfl, fun w => ⟨0, Try.sizeOf9 w⟩⟩
instance tyField25_2 : TyField Try.prog 25 2 2 9 := ⟨_, _, Try.underlying25, rfl, rfl, rfl, fun w => ⟨0, Try.sizeOf9 w⟩⟩
instance tyStruct25 : TyStruct Try.prog 25 (fieldsOf Try.t24.desc) := ⟨Try.underlying25⟩
instance tySize26 : TySize Try.prog 26 1 := ⟨Try.sizeOf26⟩
instance tyOne26 : TyOne Try.prog 26 := ⟨Try.isAgg26, Try.sizeOf26⟩
instance tyElem26 : TyElem Try.prog 26 1 8 := ⟨Try.t26, _, info_of Try.type26, rfl, rfl, rfl, rfl⟩
instance tyInfo26 : TyInfo Try.prog 26 Try.t26 := ⟨info_of Try.type26⟩
instance tyZero26 : TyZero Try.prog 26 (Try.t26.zero.getD undef) := ⟨Try.zeroValue26⟩
instance tySize27 : TySize Try.prog 27 1 := ⟨Try.sizeOf27⟩
instance tyOne27 : TyOne Try.prog 27 := ⟨Try.isAgg27, Try.sizeOf27⟩
instance tyElem27 : TyElem Try.prog 27 1 8 := ⟨Try.t27, _, info_of Try.type27, rfl, rfl, rfl, rfl⟩
instance tyInfo27 : TyInfo Try.prog 27 Try.t27 := ⟨info_of Try.type27⟩
instance tyZero27 : TyZero Try.prog 27 (Try.t27.zero.getD undef) := ⟨Try.zeroValue27⟩
instance tySize28 : TySize Try.prog 28 1 := ⟨Try.sizeOf28⟩
instance tyOne28 : TyOne Try.prog 28 := ⟨Try.isAgg28, Try.sizeOf28⟩
instance tyElem28 : TyElem Try.prog 28 1 8 := ⟨Try.t28, _, info_of Try.type28, rfl, rfl, rfl, rfl⟩
instance tyInfo28 : TyInfo Try.prog 28 Try.t28 := ⟨info_of Try.type28⟩
instance tyZero28 : TyZero Try.prog 28 (Try.t28.zero.getD undef) := ⟨Try.zeroValue28⟩
instance tyInt28 : TyInt Try.prog 28 .i64 := ⟨Try.underlying28⟩
instance tySize29 : TySize Try.prog 29 4 := ⟨Try.sizeOf29⟩
instance tyAgg29 : TyAgg Try.prog 29 := ⟨Try.isAgg29⟩
instance tyElem29 : TyElem Try.prog 29 4 40 := ⟨Try.t29, _, info_of Try.type29, rfl, rfl, rfl, rfl⟩
instance tyInfo29 : TyInfo Try.prog 29 Try.t29 := ⟨info_of Try.type29⟩
instance tyZero29 : TyZero Try.prog 29 (Try.t29.zero.getD undef) := ⟨Try.zeroValue29⟩
instance tyField29_0 : TyField Try.prog 29 0 0 28 := ⟨_, _, Try.underlying29, rfl, rfl, rfl, fun w => ⟨0, Try.sizeOf28 w⟩⟩
instance tyField29_1 : TyField Try.prog 29 1 1 9 := ⟨_, _, Try.underlying29, rfl, rfl, rfl, fun w => ⟨0, Try.sizeOf9 w⟩⟩
instance tyField29_2 : TyField Try.prog 29 2 2 4 := ⟨_, _, Try.underlying29, rfl, rfl, rfl, fun w => ⟨0, Try.sizeOf4 w⟩⟩
instance tyField29_3 : TyField Try.prog 29 3 3 3 := ⟨_, _, Try.underlying29, rfl, rfl, rfl, fun w => ⟨0, Try.sizeOf3 w⟩⟩
instance tyStruct29 : TyStruct Try.prog 29 (fieldsOf Try.t29.desc) := ⟨Try.underlying29⟩
instance tySize30 : TySize Try.prog 30 4 := ⟨Try.sizeOf30⟩
instance tyAgg30 : TyAgg Try.prog 30 := ⟨Try.isAgg30⟩
instance tyElem30 : TyElem Try.prog 30 4 40 := ⟨Try.t30, _, info_of Try.type30, rfl, rfl, rfl, rfl⟩
instance tyInfo30 : TyInfo Try.prog 30 Try.t30 := ⟨info_of Try.type30⟩
instance tyZero30 : TyZero Try.prog 30 (Try.t30.zero.getD undef) := ⟨Try.zeroValue30⟩
instance tyFlat30 : TyFlat Try.prog 30 [28, 9, 4, 3] := ⟨_, Try.underlying30, Try.stoodInHeld30, Try.eqGuardType30, ⟨⟨by decide, rfl, Try.isAgg28, .inl ⟨_, Try.underlying28⟩⟩, ⟨⟨by decide, rfl, Try.isAgg9, .inr (.inr Try.underlying9)⟩, ⟨⟨by decide, rfl, Try.isAgg4, .inr (.inl Try.underlying4)⟩, ⟨⟨by decide, rfl, Try.isAgg3, .inl ⟨_, Try.underlying3⟩⟩, trivial⟩⟩⟩⟩, rfl⟩
instance tyField30_0 : TyField Try.prog 30 0 0 28 := ⟨_, _, Try.underlying30, rfl, rfl, rfl, fun w => ⟨0, Try.sizeOf28 w⟩⟩
instance tyField30_1 : TyField Try.prog 30 1 1 9 := ⟨_, _, Try.underlying30, rfl, rfl, rfl, fun w => ⟨0, Try.sizeOf9 w⟩⟩
instance tyField30_2 : TyField Try.prog 30 2 2 4 := ⟨_, _, Try.underlying30, rfl, rfl, rfl, fun w => ⟨0, Try.sizeOf4 w⟩⟩
instance tyField30_3 : TyField Try.prog 30 3 3 3 := ⟨_, _, Try.underlying30, rfl, rfl, rfl, fun w => ⟨0, Try.sizeOf3 w⟩⟩
instance tyStruct30 : TyStruct Try.prog 30 (fieldsOf Try.t29.desc) := ⟨Try.underlying30⟩
instance tySize32 : TySize Try.prog 32 1 := ⟨Try.sizeOf32⟩
instance tyOne32 : TyOne Try.prog 32 := ⟨Try.isAgg32, Try.sizeOf32⟩
instance tyElem32 : TyElem Try.prog 32 1 8 := ⟨Try.t32, _, info_of Try.type32, rfl, rfl, rfl, rfl⟩
instance tyInfo32 : TyInfo Try.prog 32 Try.t32 := ⟨info_of Try.type32⟩
instance tyZero32 : TyZero Try.prog 32 (Try.t32.zero.getD undef) := ⟨Try.zeroValue32⟩
instance tySize34 : TySize Try.prog 34 1 := ⟨Try.sizeOf34⟩
instance tyOne34 : TyOne Try.prog 34 := ⟨Try.isAgg34, Try.sizeOf34⟩
instance tyElem34 : TyElem Try.prog 34 1 8 := ⟨Try.t34, _, info_of Try.type34, rfl, rfl, rfl, rfl⟩
instance tyInfo34 : TyInfo Try.prog 34 Try.t34 := ⟨info_of Try.type34⟩
instance tyZero34 : TyZero Try.prog 34 (Try.t34.zero.getD undef) := ⟨Try.zeroValue34⟩
instance tySize35 : TySize Try.prog 35 1 := ⟨Try.sizeOf35⟩
instance tyOne35 : TyOne Try.prog 35 := ⟨Try.isAgg35, Try.sizeOf35⟩
instance tyElem35 : TyElem Try.prog 35 1 24 := ⟨Try.t35, _, info_of Try.type35, rfl, rfl, rfl, rfl⟩
instance tyInfo35 : TyInfo Try.prog 35 Try.t35 := ⟨info_of Try.type35⟩
instance tyZero35 : TyZero Try.prog 35 (Try.t35.zero.getD undef) := ⟨Try.zeroValue35⟩
instance tySlice35 : TySlice Try.prog 35 47 := ⟨Try.underlying35⟩
instance tySize36 : TySize Try.prog 36 1 := ⟨Try.sizeOf36⟩
instance tyOne36 : TyOne Try.prog 36 := ⟨Try.isAgg36, Try.sizeOf36⟩
instance tyElem36 : TyElem Try.prog 36 1 8 := ⟨Try.t36, _, info_of Try.type36, rfl, rfl, rfl, rfl⟩
instance tyInfo36 : TyInfo Try.prog 36 Try.t36 := ⟨info_of Try.type36⟩
instance tyZero36 : TyZero Try.prog 36 (Try.t36.zero.getD undef) := ⟨Try.zeroValue36⟩
instance tySize38 : TySize Try.prog 38 1 := ⟨Try.sizeOf38⟩
instance tyOne38 : TyOne Try.prog 38 := ⟨Try.isAgg38, Try.sizeOf38⟩
instance tyElem38 : TyElem Try.prog 38 1 8 := ⟨Try.t38, _, info_of Try.type38, rfl, rfl, rfl, rfl⟩
instance tyInfo38 : TyInfo Try.prog 38 Try.t38 := ⟨info_of Try.type38⟩
instance tyZero38 : TyZero Try.prog 38 (Try.t38.zero.getD undef) := ⟨Try.zeroValue38⟩
instance tySize39 : TySize Try.prog 39 1 := ⟨Try.sizeOf39⟩
instance tyOne39 : TyOne Try.prog 39 := ⟨Try.isAgg39, Try.sizeOf39⟩
instance tyElem39 : TyElem Try.prog 39 1 8 := ⟨Try.t39, _, info_of Try.type39, rfl, rfl, rfl, rfl⟩
instance tyInfo39 : TyInfo Try.prog 39 Try.t39 := ⟨info_of Try.type39⟩
instance tyZero39 : TyZero Try.prog 39 (Try.t39.zero.getD undef) := ⟨Try.zeroValue39⟩
instance tySize40 : TySize Try.prog 40 1 := ⟨Try.sizeOf40⟩
instance tyOne40 : TyOne Try.prog 40 := ⟨Try.isAgg40, Try.sizeOf40⟩
instance tyElem40 : TyElem Try.prog 40 1 8 := ⟨Try.t40, _, info_of Try.type40, rfl, rfl, rfl, rfl⟩
instance tyInfo40 : TyInfo Try.prog 40 Try.t40 := ⟨info_of Try.type40⟩
instance tyZero40 : TyZero Try.prog 40 (Try.t40.zero.getD undef) := ⟨Try.zeroValue40⟩
instance tySize41 : TySize Try.prog 41 1 := ⟨Try.sizeOf41⟩
instance tyOne41 : TyOne Try.prog 41 := ⟨Try.isAgg41, Try.sizeOf41⟩
instance tyElem41 : TyElem Try.prog 41 1 8 := ⟨Try.t41, _, info_of Try.type41, rfl, rfl, rfl, rfl⟩
instance tyInfo41 : TyInfo Try.prog 41 Try.t41 := ⟨info_of Try.type41⟩
instance tyZero41 : TyZero Try.prog 41 (Try.t41.zero.getD undef) := ⟨Try.zeroValue41⟩
instance tyInt41 : TyInt Try.prog 41 .u64 := ⟨Try.underlying41⟩
instance tySize42 : TySize Try.prog 42 9 := ⟨Try.sizeOf42⟩
instance tyAgg42 : TyAgg Try.prog 42 := ⟨Try.isAgg42⟩
instance tyElem42 : TyElem Try.prog 42 9 96 := ⟨Try.t42, _, info_of Try.type42, rfl, rfl, rfl, rfl⟩
instance tyInfo42 : TyInfo Try.prog 42 Try.t42 := ⟨info_of Try.type42⟩
instance tyZero42 : TyZero Try.prog 42 (Try.t42.zero.getD undef) := ⟨Try.zeroValue42⟩
instance tyField42_0 : TyField Try.prog 42 0 0 25 := ⟨_, _, Try.underlying42, rfl, rfl, rfl, fun w => ⟨2, Try.sizeOf25 w⟩⟩
instance tyField42_1 : TyField Try.prog 42 1 3 30 := ⟨_, _, Try.underlying42, rfl, rfl, rfl, fun w => ⟨3, Try.sizeOf30 w⟩⟩
instance tyField42_2 : TyField Try.prog 42 2 7 3 := ⟨_, _, Try.underlying42, rfl, rfl, rfl, fun w => ⟨0, Try.sizeOf3 w⟩⟩
instance tyField42_3 : TyField Try.prog 42 3 8 3 := ⟨_, _, Try.underlying42, rfl, rfl, rfl, fun w => ⟨0, Try.sizeOf3 w⟩⟩
instance tyStruct42 : TyStruct Try.prog 42 (fieldsOf Try.t42.desc) := ⟨Try.underlying42⟩
instance tySize43 : TySize Try.prog 43 9 := ⟨Try.sizeOf43⟩
instance tyAgg43 : TyAgg Try.prog 43 := ⟨Try.isAgg43⟩
instance tyElem43 : TyElem Try.prog 43 9 96 := ⟨Try.t43, _, info_of Try.type43, rfl, rfl, rfl, rfl⟩
instance tyInfo43 : TyInfo Try.prog 43 Try.t43 := ⟨info_of Try.type43⟩
instance tyZero43 : TyZero Try.prog 43 (Try.t43.zero.getD undef) := ⟨Try.zeroValue43⟩
instance tyField43_0 : TyField Try.prog 43 0 0 25 := ⟨_, _, Try.underlying43, rfl, rfl, rfl, fun w => ⟨2, Try.sizeOf25 w⟩⟩
instance tyField43_1 : TyField Try.prog 43 1 3 30 := ⟨_, _, Try.underlying43, rfl, rfl, rfl, fun w => ⟨3, Try.sizeOf30 w⟩⟩
instance tyField43_2 : TyField Try.prog 43 2 7 3 := ⟨_, _, Try.underlying43, rfl, rfl, rfl, fun w => ⟨0, Try.sizeOf3 w⟩⟩
instance tyField43_3 : TyField Try.prog 43 3 8 3 := ⟨_, _, Try.underlying43, rfl, rfl, rfl, fun w => ⟨0, Try.sizeOf3 w⟩⟩
instance tyStruct43 : TyStruct Try.prog 43 (fieldsOf Try.t42.desc) := ⟨Try.underlying43⟩
instance tySize44 : TySize Try.prog 44 1 := ⟨Try.sizeOf44⟩
instance tyOne44 : TyOne Try.prog 44 := ⟨Try.isAgg44, Try.sizeOf44⟩
instance tyElem44 : TyElem Try.prog 44 1 8 := ⟨Try.t44, _, info_of Try.type44, rfl, rfl, rfl, rfl⟩
instance tyInfo44 : TyInfo Try.prog 44 Try.t44 := ⟨info_of Try.type44⟩
instance tyZero44 : TyZero Try.prog 44 (Try.t44.zero.getD undef) := ⟨Try.zeroValue44⟩
instance tySize45 : TySize Try.prog 45 1 := ⟨Try.sizeOf45⟩
instance tyOne45 : TyOne Try.prog 45 := ⟨Try.isAgg45, Try.sizeOf45⟩
instance tyElem45 : TyElem Try.prog 45 1 24 := ⟨Try.t45, _, info_of Try.type45, rfl, rfl, rfl, rfl⟩
instance tyInfo45 : TyInfo Try.prog 45 Try.t45 := ⟨info_of Try.type45⟩
instance tyZero45 : TyZero Try.prog 45 (Try.t45.zero.getD undef) := ⟨Try.zeroValue45⟩
instance tySlice45 : TySlice Try.prog 45 25 := ⟨Try.underlying45⟩
instance tySize46 : TySize Try.prog 46 1 := ⟨Try.sizeOf46⟩
instance tyOne46 : TyOne Try.prog 46 := ⟨Try.isAgg46, Try.sizeOf46⟩
instance tyElem46 : TyElem Try.prog 46 1 8 := ⟨Try.t46, _, info_of Try.type46, rfl, rfl, rfl, rfl⟩
instance tyInfo46 : TyInfo Try.prog 46 Try.t46 := ⟨info_of Try.type46⟩
instance tyZero46 : TyZero Try.prog 46 (Try.t46.zero.getD undef) := ⟨Try.zeroValue46⟩
instance tySize47 : TySize Try.prog 47 9 := ⟨Try.sizeOf47⟩
instance tyAgg47 : TyAgg Try.prog 47 := ⟨Try.isAgg47⟩
instance tyElem47 : TyElem Try.prog 47 9 96 := ⟨Try.t47, _, info_of Try.type47, rfl, rfl, rfl, rfl⟩
instance tyInfo47 : TyInfo Try.prog 47 Try.t47 := ⟨info_of Try.type47⟩
instance tyZero47 : TyZero Try.prog 47 (Try.t47.zero.getD undef) := ⟨Try.zeroValue47⟩
instance tyField47_0 : TyField Try.prog 47 0 0 25 := ⟨_, _, Try.underlying47, rfl, rfl, rfl, fun w => ⟨2, Try.sizeOf25 w⟩⟩
instance tyField47_1 : TyField Try.prog 47 1 3 30 := ⟨_, _, Try.underlying47, rfl, rfl, rfl, fun w => ⟨3, Try.sizeOf30 w⟩⟩
instance tyField47_2 : TyField Try.prog 47 2 7 3 := ⟨_, _, Try.underlying47, rfl, rfl, rfl, fun w => ⟨0, Try.sizeOf3 w⟩⟩
instance tyField47_3 : TyField Try.prog 47 3 8 3 := ⟨_, _, Try.underlying47, rfl, rfl, rfl, fun w => ⟨0, Try.sizeOf3 w⟩⟩
instance tyStruct47 : TyStruct Try.prog 47 (fieldsOf Try.t42.desc) := ⟨Try.underlying47⟩
instance tySize48 : TySize Try.prog 48 1 := ⟨Try.sizeOf48⟩
instance tyOne48 : TyOne Try.prog 48 := ⟨Try.isAgg48, Try.sizeOf48⟩
instance tyElem48 : TyElem Try.prog 48 1 24 := ⟨Try.t48, _, info_of Try.type48, rfl, rfl, rfl, rfl⟩
instance tyInfo48 : TyInfo Try.prog 48 Try.t48 := ⟨info_of Try.type48⟩
instance tyZero48 : TyZero Try.prog 48 (Try.t48.zero.getD undef) := ⟨Try.zeroValue48⟩
instance tySlice48 : TySlice Try.prog 48 30 := ⟨Try.underlying48⟩
instance tySize49 : TySize Try.prog 49 1 := ⟨Try.sizeOf49⟩
instance tyOne49 : TyOne Try.prog 49 := ⟨Try.isAgg49, Try.sizeOf49⟩
instance tyElem49 : TyElem Try.prog 49 1 8 := ⟨Try.t49, _, info_of Try.type49, rfl, rfl, rfl, rfl⟩
instance tyInfo49 : TyInfo Try.prog 49 Try.t49 := ⟨info_of Try.type49⟩
instance tyZero49 : TyZero Try.prog 49 (Try.t49.zero.getD undef) := ⟨Try.zeroValue49⟩
instance tySize50 : TySize Try.prog 50 1 := ⟨Try.sizeOf50⟩
instance tyOne50 : TyOne Try.prog 50 := ⟨Try.isAgg50, Try.sizeOf50⟩
instance tyElem50 : TyElem Try.prog 50 1 8 := ⟨Try.t50, _, info_of Try.type50, rfl, rfl, rfl, rfl⟩
instance tyInfo50 : TyInfo Try.prog 50 Try.t50 := ⟨info_of Try.type50⟩
instance tyZero50 : TyZero Try.prog 50 (Try.t50.zero.getD undef) := ⟨Try.zeroValue50⟩
instance tySize51 : TySize Try.prog 51 1 := ⟨Try.sizeOf51⟩
instance tyOne51 : TyOne Try.prog 51 := ⟨Try.isAgg51, Try.sizeOf51⟩
instance tyElem51 : TyElem Try.prog 51 1 8 := ⟨Try.t51, _, info_of Try.type51, rfl, rfl, rfl, rfl⟩
instance tyInfo51 : TyInfo Try.prog 51 Try.t51 := ⟨info_of Try.type51⟩
instance tyZero51 : TyZero Try.prog 51 (Try.t51.zero.getD undef) := ⟨Try.zeroValue51⟩
instance tySize52 : TySize Try.prog 52 2 := ⟨Try.sizeOf52⟩
instance tyAgg52 : TyAgg Try.prog 52 := ⟨Try.isAgg52⟩
instance tyElem52 : TyElem Try.prog 52 2 32 := ⟨Try.t52, _, info_of Try.type52, rfl, rfl, rfl, rfl⟩
instance tyInfo52 : TyInfo Try.prog 52 Try.t52 := ⟨info_of Try.type52⟩
instance tyZero52 : TyZero Try.prog 52 (Try.t52.zero.getD undef) := ⟨Try.zeroValue52⟩
instance tyField52_0 : TyField Try.prog 52 0 0 9 := ⟨_, _, Try.underlying52, rfl, rfl, rfl, fun w => ⟨0, Try.sizeOf9 w⟩⟩
instance tyField52_1 : TyField Try.prog 52 1 1 9 := ⟨_, _, Try.underlying52, rfl, rfl, rfl, fun w => ⟨0, Try.sizeOf9 w⟩⟩
instance tyStruct52 : TyStruct Try.prog 52 (fieldsOf Try.t52.desc) := ⟨Try.underlying52⟩
instance tySize53 : TySize Try.prog 53 2 := ⟨Try.sizeOf53⟩
instance tyAgg53 : TyAgg Try.prog 53 := ⟨Try.isAgg53⟩
instance tyElem53 : TyElem Try.prog 53 2 32 := ⟨Try.t53, _, info_of Try.type53, rfl, rfl, rfl, rfl⟩
instance tyInfo53 : TyInfo Try.prog 53 Try.t53 := ⟨info_of Try.type53⟩
instance tyZero53 : TyZero Try.prog 53 (Try.t53.zero.getD undef) := ⟨Try.zeroValue53⟩
instance tyFlat53 : TyFlat Try.prog 53 [9, 9] := ⟨_, Try.underlying53, Try.stoodInHeld53, Try.eqGuardType53, ⟨⟨by decide, rfl, Try.isAgg9, .inr (.inr Try.underlying9)⟩, ⟨⟨by decide, rfl, Try.isAgg9, .inr (.inr Try.underlying9)⟩, trivial⟩⟩, rfl⟩
instance tyField53_0 : TyField Try.prog 53 0 0 9 := ⟨_, _, Try.underlying53, rfl, rfl, rfl, fun w => ⟨0, Try.sizeOf9 w⟩⟩
instance tyField53_1 : TyField Try.prog 53 1 1 9 := ⟨_, _, Try.underlying53, rfl, rfl, rfl, fun w => ⟨0, Try.sizeOf9 w⟩⟩
instance tyStruct53 : TyStruct Try.prog 53 (fieldsOf Try.t52.desc) := ⟨Try.underlying53⟩
instance tySize55 : TySize Try.prog 55 1 := ⟨Try.sizeOf55⟩
instance tyOne55 : TyOne Try.prog 55 := ⟨Try.isAgg55, Try.sizeOf55⟩
instance tyElem55 : TyElem Try.prog 55 1 8 := ⟨Try.t55, _, info_of Try.type55, rfl, rfl, rfl, rfl⟩
instance tyInfo55 : TyInfo Try.prog 55 Try.t55 := ⟨info_of Try.type55⟩
instance tyZero55 : TyZero Try.prog 55 (Try.t55.zero.getD undef) := ⟨Try.zeroValue55⟩
instance tySize56 : TySize Try.prog 56 1 := ⟨Try.sizeOf56⟩
instance tyOne56 : TyOne Try.prog 56 := ⟨Try.isAgg56, Try.sizeOf56⟩
instance tyElem56 : TyElem Try.prog 56 1 8 := ⟨Try.t56, _, info_of Try.type56, rfl, rfl, rfl, rfl⟩
instance tyInfo56 : TyInfo Try.prog 56 Try.t56 := ⟨info_of Try.type56⟩
instance tyZero56 : TyZero Try.prog 56 (Try.t56.zero.getD undef) := ⟨Try.zeroValue56⟩
instance tySize58 : TySize Try.prog 58 1 := ⟨Try.sizeOf58⟩
instance tyOne58 : TyOne Try.prog 58 := ⟨Try.isAgg58, Try.sizeOf58⟩
instance tyElem58 : TyElem Try.prog 58 1 8 := ⟨Try.t58, _, info_of Try.type58, rfl, rfl, rfl, rfl⟩
instance tyInfo58 : TyInfo Try.prog 58 Try.t58 := ⟨info_of Try.type58⟩
instance tyZero58 : TyZero Try.prog 58 (Try.t58.zero.getD undef) := ⟨Try.zeroValue58⟩
instance tySize59 : TySize Try.prog 59 1 := ⟨Try.sizeOf59⟩
instance tyOne59 : TyOne Try.prog 59 := ⟨Try.isAgg59, Try.sizeOf59⟩
instance tyElem59 : TyElem Try.prog 59 1 8 := ⟨Try.t59, _, info_of Try.type59, rfl, rfl, rfl, rfl⟩
instance tyInfo59 : TyInfo Try.prog 59 Try.t59 := ⟨info_of Try.type59⟩
instance tyZero59 : TyZero Try.prog 59 (Try.t59.zero.getD undef) := ⟨Try.zeroValue59⟩
instance tySize60 : TySize Try.prog 60 1 := ⟨Try.sizeOf60⟩
instance tyOne60 : TyOne Try.prog 60 := ⟨Try.isAgg60, Try.sizeOf60⟩
instance tyElem60 : TyElem Try.prog 60 1 8 := ⟨Try.t60, _, info_of Try.type60, rfl, rfl, rfl, rfl⟩
instance tyInfo60 : TyInfo Try.prog 60 Try.t60 := ⟨info_of Try.type60⟩
instance tyZero60 : TyZero Try.prog 60 (Try.t60.zero.getD undef) := ⟨Try.zeroValue60⟩
instance tySize61 : TySize Try.prog 61 1 := ⟨Try.sizeOf61⟩
instance tyOne61 : TyOne Try.prog 61 := ⟨Try.isAgg61, Try.sizeOf61⟩
instance tyElem61 : TyElem Try.prog 61 1 8 := ⟨Try.t61, _, info_of Try.type61, rfl, rfl, rfl, rfl⟩
instance tyInfo61 : TyInfo Try.prog 61 Try.t61 := ⟨info_of Try.type61⟩
instance tyZero61 : TyZero Try.prog 61 (Try.t61.zero.getD undef) := ⟨Try.zeroValue61⟩
instance tySize63 : TySize Try.prog 63 1 := ⟨Try.sizeOf63⟩
instance tyOne63 : TyOne Try.prog 63 := ⟨Try.isAgg63, Try.sizeOf63⟩
instance tyElem63 : TyElem Try.prog 63 1 8 := ⟨Try.t63, _, info_of Try.type63, rfl, rfl, rfl, rfl⟩
instance tyInfo63 : TyInfo Try.prog 63 Try.t63 := ⟨info_of Try.type63⟩
instance tyZero63 : TyZero Try.prog 63 (Try.t63.zero.getD undef) := ⟨Try.zeroValue63⟩
instance tySize64 : TySize Try.prog 64 1 := ⟨Try.sizeOf64⟩
instance tyOne64 : TyOne Try.prog 64 := ⟨Try.isAgg64, Try.sizeOf64⟩
instance tyElem64 : TyElem Try.prog 64 1 8 := ⟨Try.t64, _, info_of Try.type64, rfl, rfl, rfl, rfl⟩
instance tyInfo64 : TyInfo Try.prog 64 Try.t64 := ⟨info_of Try.type64⟩
instance tyZero64 : TyZero Try.prog 64 (Try.t64.zero.getD undef) := ⟨Try.zeroValue64⟩
instance tySize65 : TySize Try.prog 65 1 := ⟨Try.sizeOf65⟩
instance tyOne65 : TyOne Try.prog 65 := ⟨Try.isAgg65, Try.sizeOf65⟩
instance tyElem65 : TyElem Try.prog 65 1 8 := ⟨Try.t65, _, info_of Try.type65, rfl, rfl, rfl, rfl⟩
instance tyInfo65 : TyInfo Try.prog 65 Try.t65 := ⟨info_of Try.type65⟩
instance tyZero65 : TyZero Try.prog 65 (Try.t65.zero.getD undef) := ⟨Try.zeroValue65⟩
instance tySize66 : TySize Try.prog 66 1 := ⟨Try.sizeOf66⟩
instance tyOne66 : TyOne Try.prog 66 := ⟨Try.isAgg66, Try.sizeOf66⟩
instance tyElem66 : TyElem Try.prog 66 1 24 := ⟨Try.t66, _, info_of Try.type66, rfl, rfl, rfl, rfl⟩
instance tyInfo66 : TyInfo Try.prog 66 Try.t66 := ⟨info_of Try.type66⟩
instance tyZero66 : TyZero Try.prog 66 (Try.t66.zero.getD undef) := ⟨Try.zeroValue66⟩
instance tySlice66 : TySlice Try.prog 66 22 := ⟨Try.underlying66⟩
instance tySize67 : TySize Try.prog 67 1 := ⟨Try.sizeOf67⟩
instance tyOne67 : TyOne Try.prog 67 := ⟨Try.isAgg67, Try.sizeOf67⟩
instance tyElem67 : TyElem Try.prog 67 1 8 := ⟨Try.t67, _, info_of Try.type67, rfl, rfl, rfl, rfl⟩
instance tyInfo67 : TyInfo Try.prog 67 Try.t67 := ⟨info_of Try.type67⟩
instance tyZero67 : TyZero Try.prog 67 (Try.t67.zero.getD undef) := ⟨Try.zeroValue67⟩
instance tySize68 : TySize Try.prog 68 1 := ⟨Try.sizeOf68⟩
instance tyOne68 : TyOne Try.prog 68 := ⟨Try.isAgg68, Try.sizeOf68⟩
instance tyElem68 : TyElem Try.prog 68 1 24 := ⟨Try.t68, _, info_of Try.type68, rfl, rfl, rfl, rfl⟩
instance tyInfo68 : TyInfo Try.prog 68 Try.t68 := ⟨info_of Try.type68⟩
instance tyZero68 : TyZero Try.prog 68 (Try.t68.zero.getD undef) := ⟨Try.zeroValue68⟩
instance tySlice68 : TySlice Try.prog 68 35 := ⟨Try.underlying68⟩
instance tySize69 : TySize Try.prog 69 1 := ⟨Try.sizeOf69⟩
instance tyOne69 : TyOne Try.prog 69 := ⟨Try.isAgg69, Try.sizeOf69⟩
instance tyElem69 : TyElem Try.prog 69 1 8 := ⟨Try.t69, _, info_of Try.type69, rfl, rfl, rfl, rfl⟩
instance tyInfo69 : TyInfo Try.prog 69 Try.t69 := ⟨info_of Try.type69⟩
instance tyZero69 : TyZero Try.prog 69 (Try.t69.zero.getD undef) := ⟨Try.zeroValue69⟩
instance tySize70 : TySize Try.prog 70 1 := ⟨Try.sizeOf70⟩
instance tyOne70 : TyOne Try.prog 70 := ⟨Try.isAgg70, Try.sizeOf70⟩
instance tyElem70 : TyElem Try.prog 70 1 8 := ⟨Try.t70, _, info_of Try.type70, rfl, rfl, rfl, rfl⟩
instance tyInfo70 : TyInfo Try.prog 70 Try.t70 := ⟨info_of Try.type70⟩
instance tyZero70 : TyZero Try.prog 70 (Try.t70.zero.getD undef) := ⟨Try.zeroValue70⟩
instance tySize71 : TySize Try.prog 71 4 := ⟨Try.sizeOf71⟩
instance tyAgg71 : TyAgg Try.prog 71 := ⟨Try.isAgg71⟩
instance tyElem71 : TyElem Try.prog 71 4 40 := ⟨Try.t71, _, info_of Try.type71, rfl, rfl, rfl, rfl⟩
instance tyInfo71 : TyInfo Try.prog 71 Try.t71 := ⟨info_of Try.type71⟩
instance tyZero71 : TyZero Try.prog 71 (Try.t71.zero.getD undef) := ⟨Try.zeroValue71⟩
instance tyField71_0 : TyField Try.prog 71 0 0 17 := ⟨_, _, Try.underlying71, rfl, rfl, rfl, fun w => ⟨0, Try.sizeOf17 w⟩⟩
instance tyField71_1 : TyField Try.prog 71 1 1 17 := ⟨_, _, Try.underlying71, rfl, rfl, rfl, fun w => ⟨0, Try.sizeOf17 w⟩⟩
instance tyField71_2 : TyField Try.prog 71 2 2 17 := ⟨_, _, Try.underlying71, rfl, rfl, rfl, fun w => ⟨0, Try.sizeOf17 w⟩⟩
instance tyField71_3 : TyField Try.prog 71 3 3 9 := ⟨_, _, Try.underlying71, rfl, rfl, rfl, fun w => ⟨0, Try.sizeOf9 w⟩⟩
instance tyStruct71 : TyStruct Try.prog 71 (fieldsOf Try.t71.desc) := ⟨Try.underlying71⟩
instance tySize72 : TySize Try.prog 72 4 := ⟨Try.sizeOf72⟩
instance tyAgg72 : TyAgg Try.prog 72 := ⟨Try.isAgg72⟩
instance tyElem72 : TyElem Try.prog 72 4 40 := ⟨Try.t72, _, info_of Try.type72, rfl, rfl, rfl, rfl⟩
instance tyInfo72 : TyInfo Try.prog 72 Try.t72 := ⟨info_of Try.type72⟩
instance tyZero72 : TyZero Try.prog 72 (Try.t72.zero.getD undef) := ⟨Try.zeroValue72⟩
instance tyField72_0 : TyField Try.prog 72 0 0 17 := ⟨_, _, Try.underlying72, rfl, rfl, rfl, fun w => ⟨0, Try.sizeOf17 w⟩⟩
instance tyField72_1 : TyField Try.prog 72 1 1 17 := ⟨_, _, Try.underlying72, rfl, rfl, rfl, fun w => ⟨0, Try.sizeOf17 w⟩⟩
instance tyField72_2 : TyField Try.prog 72 2 2 17 := ⟨_, _, Try.underlying72, rfl, rfl, rfl, fun w => ⟨0, Try.sizeOf17 w⟩⟩
instance tyField72_3 : TyField Try.prog 72 3 3 9 := ⟨_, _, Try.underlying72, rfl, rfl, rfl, fun w => ⟨0, Try.sizeOf9 w⟩⟩
instance tyStruct72 : TyStruct Try.prog 72 (fieldsOf Try.t71.desc) := ⟨Try.underlying72⟩
instance tySize73 : TySize Try.prog 73 0 := ⟨Try.sizeOf73⟩
instance tyAgg73 : TyAgg Try.prog 73 := ⟨Try.isAgg73⟩
instance tyElem73 : TyElem Try.prog 73 0 0 := ⟨Try.t73, _, info_of Try.type73, rfl, rfl, rfl, rfl⟩
instance tyInfo73 : TyInfo Try.prog 73 Try.t73 := ⟨info_of Try.type73⟩
instance tyZero73 : TyZero Try.prog 73 (Try.t73.zero.getD undef) := ⟨Try.zeroValue73⟩
instance tySize74 : TySize Try.prog 74 0 := ⟨Try.sizeOf74⟩
instance tyAgg74 : TyAgg Try.prog 74 := ⟨Try.isAgg74⟩
instance tyElem74 : TyElem Try.prog 74 0 0 := ⟨Try.t74, _, info_of Try.type74, rfl, rfl, rfl, rfl⟩
instance tyInfo74 : TyInfo Try.prog 74 Try.t74 := ⟨info_of Try.type74⟩
instance tyZero74 : TyZero Try.prog 74 (Try.t74.zero.getD undef) := ⟨Try.zeroValue74⟩
instance tyStruct74 : TyStruct Try.prog 74 (fieldsOf Try.t74.desc) := ⟨Try.underlying74⟩
instance tySize75 : TySize Try.prog 75 0 := ⟨Try.sizeOf75⟩
instance tyAgg75 : TyAgg Try.prog 75 := ⟨Try.isAgg75⟩
instance tyElem75 : TyElem Try.prog 75 0 0 := ⟨Try.t75, _, info_of Try.type75, rfl, rfl, rfl, rfl⟩
instance tyInfo75 : TyInfo Try.prog 75 Try.t75 := ⟨info_of Try.type75⟩
instance tyZero75 : TyZero Try.prog 75 (Try.t75.zero.getD undef) := ⟨Try.zeroValue75⟩
instance tyStruct75 : TyStruct Try.prog 75 (fieldsOf Try.t74.desc) := ⟨Try.underlying75⟩
instance tySize76 : TySize Try.prog 76 1 := ⟨Try.sizeOf76⟩
instance tyOne76 : TyOne Try.prog 76 := ⟨Try.isAgg76, Try.sizeOf76⟩
instance tyElem76 : TyElem Try.prog 76 1 8 := ⟨Try.t76, _, info_of Try.type76, rfl, rfl, rfl, rfl⟩
instance tyInfo76 : TyInfo Try.prog 76 Try.t76 := ⟨info_of Try.type76⟩
instance tyZero76 : TyZero Try.prog 76 (Try.t76.zero.getD undef) := ⟨Try.zeroValue76⟩
instance tySize77 : TySize Try.prog 77 1 := ⟨Try.sizeOf77⟩
instance tyOne77 : TyOne Try.prog 77 := ⟨Try.isAgg77, Try.sizeOf77⟩
instance tyElem77 : TyElem Try.prog 77 1 4 := ⟨Try.t77, _, info_of Try.type77, rfl, rfl, rfl, rfl⟩
instance tyInfo77 : TyInfo Try.prog 77 Try.t77 := ⟨info_of Try.type77⟩
instance tyZero77 : TyZero Try.prog 77 (Try.t77.zero.getD undef) := ⟨Try.zeroValue77⟩
instance tyInt77 : TyInt Try.prog 77 .u32 := ⟨Try.underlying77⟩
instance tySize78 : TySize Try.prog 78 1 := ⟨Try.sizeOf78⟩
instance tyOne78 : TyOne Try.prog 78 := ⟨Try.isAgg78, Try.sizeOf78⟩
instance tyElem78 : TyElem Try.prog 78 1 1 := ⟨Try.t78, _, info_of Try.type78, rfl, rfl, rfl, rfl⟩
instance tyInfo78 : TyInfo Try.prog 78 Try.t78 := ⟨info_of Try.type78⟩
instance tyZero78 : TyZero Try.prog 78 (Try.t78.zero.getD undef) := ⟨Try.zeroValue78⟩
instance tyInt78 : TyInt Try.prog 78 .u8 := ⟨Try.underlying78⟩
instance tySize79 : TySize Try.prog 79 1 := ⟨Try.sizeOf79⟩
instance tyOne79 : TyOne Try.prog 79 := ⟨Try.isAgg79, Try.sizeOf79⟩
instance tyElem79 : TyElem Try.prog 79 1 1 := ⟨Try.t79, _, info_of Try.type79, rfl, rfl, rfl, rfl⟩
instance tyInfo79 : TyInfo Try.prog 79 Try.t79 := ⟨info_of Try.type79⟩
instance tyZero79 : TyZero Try.prog 79 (Try.t79.zero.getD undef) := ⟨Try.zeroValue79⟩
instance tyInt79 : TyInt Try.prog 79 .u8 := ⟨Try.underlying79⟩
instance tySize80 : TySize Try.prog 80 1 := ⟨Try.sizeOf80⟩
instance tyOne80 : TyOne Try.prog 80 := ⟨Try.isAgg80, Try.sizeOf80⟩
instance tyElem80 : TyElem Try.prog 80 1 8 := ⟨Try.t80, _, info_of Try.type80, rfl, rfl, rfl, rfl⟩
instance tyInfo80 : TyInfo Try.prog 80 Try.t80 := ⟨info_of Try.type80⟩
instance tyZero80 : TyZero Try.prog 80 (Try.t80.zero.getD undef) := ⟨Try.zeroValue80⟩
instance tySize81 : TySize Try.prog 81 1 := ⟨Try.sizeOf81⟩
instance tyOne81 : TyOne Try.prog 81 := ⟨Try.isAgg81, Try.sizeOf81⟩
instance tyElem81 : TyElem Try.prog 81 1 8 := ⟨Try.t81, _, info_of Try.type81, rfl, rfl, rfl, rfl⟩
instance tyInfo81 : TyInfo Try.prog 81 Try.t81 := ⟨info_of Try.type81⟩
instance tyZero81 : TyZero Try.prog 81 (Try.t81.zero.getD undef) := ⟨Try.zeroValue81⟩
instance tyPtr81 : TyPtr Try.prog 81 5 := ⟨Try.underlying81⟩
instance tySize82 : TySize Try.prog 82 1 := ⟨Try.sizeOf82⟩
instance tyOne82 : TyOne Try.prog 82 := ⟨Try.isAgg82, Try.sizeOf82⟩
instance tyElem82 : TyElem Try.prog 82 1 4 := ⟨Try.t82, _, info_of Try.type82, rfl, rfl, rfl, rfl⟩
instance tyInfo82 : TyInfo Try.prog 82 Try.t82 := ⟨info_of Try.type82⟩
instance tyZero82 : TyZero Try.prog 82 (Try.t82.zero.getD undef) := ⟨Try.zeroValue82⟩
instance tyInt82 : TyInt Try.prog 82 .i32 := ⟨Try.underlying82⟩
instance tySize83 : TySize Try.prog 83 1 := ⟨Try.sizeOf83⟩
instance tyOne83 : TyOne Try.prog 83 := ⟨Try.isAgg83, Try.sizeOf83⟩
instance tyElem83 : TyElem Try.prog 83 1 4 := ⟨Try.t83, _, info_of Try.type83, rfl, rfl, rfl, rfl⟩
instance tyInfo83 : TyInfo Try.prog 83 Try.t83 := ⟨info_of Try.type83⟩
instance tyZero83 : TyZero Try.prog 83 (Try.t83.zero.getD undef) := ⟨Try.zeroValue83⟩
instance tyInt83 : TyInt Try.prog 83 .i32 := ⟨Try.underlying83⟩
instance tySize84 : TySize Try.prog 84 11 := ⟨Try.sizeOf84⟩
instance tyAgg84 : TyAgg Try.prog 84 := ⟨Try.isAgg84⟩
instance tyElem84 : TyElem Try.prog 84 11 48 := ⟨Try.t84, _, info_of Try.type84, rfl, rfl, rfl, rfl⟩
instance tyInfo84 : TyInfo Try.prog 84 Try.t84 := ⟨info_of Try.type84⟩
instance tyZero84 : TyZero Try.prog 84 (Try.t84.zero.getD undef) := ⟨Try.zeroValue84⟩
instance tyField84_0 : TyField Try.prog 84 0 0 12 := ⟨_, _, Try.underlying84, rfl, rfl, rfl, fun w => ⟨0, Try.sizeOf12 w⟩⟩
instance tyField84_1 : TyField Try.prog 84 1 1 12 := ⟨_, _, Try.underlying84, rfl, rfl, rfl, fun w => ⟨0, Try.sizeOf12 w⟩⟩
instance tyField84_2 : TyField Try.prog 84 2 2 77 := ⟨_, _, Try.underlying84, rfl, rfl, rfl, fun w => ⟨0, Try.sizeOf77 w⟩⟩
instance tyField84_3 : TyField Try.prog 84 3 3 78 := ⟨_, _, Try.underlying84, rfl, rfl, rfl, fun w => ⟨0, Try.sizeOf78 w⟩⟩
instance tyField84_4 : TyField Try.prog 84 4 4 5 := ⟨_, _, Try.underlying84, rfl, rfl, rfl, fun w => ⟨0, Try.sizeOf5 w⟩⟩
instance tyField84_5 : TyField Try.prog 84 5 5 5 := ⟨_, _, Try.underlying84, rfl, rfl, rfl, fun w => ⟨0, Try.sizeOf5 w⟩⟩
instance tyField84_6 : TyField Try.prog 84 6 6 79 := ⟨_, _, Try.underlying84, rfl, rfl, rfl, fun w => ⟨0, Try.sizeOf79 w⟩⟩
instance tyField84_7 : TyField Try.prog 84 7 7 80 := ⟨_, _, Try.underlying84, rfl, rfl, rfl, fun w => ⟨0, Try.sizeOf80 w⟩⟩
instance tyField84_8 : TyField Try.prog 84 8 8 81 := ⟨_, _, Try.underlying84, rfl, rfl, rfl, fun w => ⟨0, Try.sizeOf81 w⟩⟩
instance tyField84_9 : TyField Try.prog 84 9 9 82 := ⟨_, _, Try.underlying84, rfl, rfl, rfl, fun w => ⟨0, Try.sizeOf82 w⟩⟩
instance tyField84_10 : TyField Try.prog 84 10 10 83 := ⟨_, _, Try.underlying84, rfl, rfl, rfl, fun w => ⟨0, Try.sizeOf83 w⟩⟩
instance tyStruct84 : TyStruct Try.prog 84 (fieldsOf Try.t84.desc) := ⟨Try.underlying84⟩
instance tySize85 : TySize Try.prog 85 11 := ⟨Try.sizeOf85⟩
instance tyAgg85 : TyAgg Try.prog 85 := ⟨Try.isAgg85⟩
instance tyElem85 : TyElem Try.prog 85 11 48 := ⟨Try.t85, _, info_of Try.type85, rfl, rfl, rfl, rfl⟩
instance tyInfo85 : TyInfo Try.prog 85 Try.t85 := ⟨info_of Try.type85⟩
instance tyZero85 : TyZero Try.prog 85 (Try.t85.zero.getD undef) := ⟨Try.zeroValue85⟩
instance tyField85_0 : TyField Try.prog 85 0 0 12 := ⟨_, _, Try.underlying85, rfl, rfl, rfl, fun w => ⟨0, Try.sizeOf12 w⟩⟩
instance tyField85_1 : TyField Try.prog 85 1 1 12 := ⟨_, _, Try.underlying85, rfl, rfl, rfl, fun w => ⟨0, Try.sizeOf12 w⟩⟩
instance tyField85_2 : TyField Try.prog 85 2 2 77 := ⟨_, _, Try.underlying85, rfl, rfl, rfl, fun w => ⟨0, Try.sizeOf77 w⟩⟩
instance tyField85_3 : TyField Try.prog 85 3 3 78 := ⟨_, _, Try.underlying85, rfl, rfl, rfl, fun w => ⟨0, Try.sizeOf78 w⟩⟩
instance tyField85_4 : TyField Try.prog 85 4 4 5 := ⟨_, _, Try.underlying85, rfl, rfl, rfl, fun w => ⟨0, Try.sizeOf5 w⟩⟩
instance tyField85_5 : TyField Try.prog 85 5 5 5 := ⟨_, _, Try.underlying85, rfl, rfl, rfl, fun w => ⟨0, Try.sizeOf5 w⟩⟩
instance tyField85_6 : TyField Try.prog 85 6 6 79 := ⟨_, _, Try.underlying85, rfl, rfl, rfl, fun w => ⟨0, Try.sizeOf79 w⟩⟩
instance tyField85_7 : TyField Try.prog 85 7 7 80 := ⟨_, _, Try.underlying85, rfl, rfl, rfl, fun w => ⟨0, Try.sizeOf80 w⟩⟩
instance tyField85_8 : TyField Try.prog 85 8 8 81 := ⟨_, _, Try.underlying85, rfl, rfl, rfl, fun w => ⟨0, Try.sizeOf81 w⟩⟩
instance tyField85_9 : TyField Try.prog 85 9 9 82 := ⟨_, _, Try.underlying85, rfl, rfl, rfl, fun w => ⟨0, Try.sizeOf82 w⟩⟩
instance tyField85_10 : TyField Try.prog 85 10 10 83 := ⟨_, _, Try.underlying85, rfl, rfl, rfl, fun w => ⟨0, Try.sizeOf83 w⟩⟩
instance tyStruct85 : TyStruct Try.prog 85 (fieldsOf Try.t84.desc) := ⟨Try.underlying85⟩
instance tySize86 : TySize Try.prog 86 1 := ⟨Try.sizeOf86⟩
instance tyOne86 : TyOne Try.prog 86 := ⟨Try.isAgg86, Try.sizeOf86⟩
instance tyElem86 : TyElem Try.prog 86 1 8 := ⟨Try.t86, _, info_of Try.type86, rfl, rfl, rfl, rfl⟩
instance tyInfo86 : TyInfo Try.prog 86 Try.t86 := ⟨info_of Try.type86⟩
instance tyZero86 : TyZero Try.prog 86 (Try.t86.zero.getD undef) := ⟨Try.zeroValue86⟩
instance fnCall3 : FnCall Try.prog 3 := ⟨Try.call3⟩
instance fnCall4 : FnCall Try.prog 4 := ⟨Try.call4⟩
instance fnCall5 : FnCall Try.prog 5 := ⟨Try.call5⟩
instance fnCall6 : FnCall Try.prog 6 := ⟨Try.call6⟩
instance fnCall7 : FnCall Try.prog 7 := ⟨Try.call7⟩
instance fnCall8 : FnCall Try.prog 8 := ⟨Try.call8⟩
instance fnCall9 : FnCall Try.prog 9 := ⟨Try.call9⟩
instance fnCall10 : FnCall Try.prog 10 := ⟨Try.call10⟩
instance fnCall11 : FnCall Try.prog 11 := ⟨Try.call11⟩
instance fnCall12 : FnCall Try.prog 12 := ⟨Try.call12⟩
instance fnCall13 : FnCall Try.prog 13 := ⟨Try.call13⟩
instance fnCall14 : FnCall Try.prog 14 := ⟨Try.call14⟩
instance fnCall15 : FnCall Try.prog 15 := ⟨Try.call15⟩
instance fnCall16 : FnCall Try.prog 16 := ⟨Try.call16⟩
instance fnCall17 : FnCall Try.prog 17 := ⟨Try.call17⟩
instance fnCall18 : FnCall Try.prog 18 := ⟨Try.call18⟩
instance fnCall19 : FnCall Try.prog 19 := ⟨Try.call19⟩
instance fnCall20 : FnCall Try.prog 20 := ⟨Try.call20⟩
instance fnCall21 : FnCall Try.prog 21 := ⟨Try.call21⟩
instance fnCall22 : FnCall Try.prog 22 := ⟨Try.call22⟩
instance fnCall23 : FnCall Try.prog 23 := ⟨Try.call23⟩
instance fnCall24 : FnCall Try.prog 24 := ⟨Try.call24⟩
instance fnCall25 : FnCall Try.prog 25 := ⟨Try.call25⟩
instance fnCall26 : FnCall Try.prog 26 := ⟨Try.call26⟩
instance fnCall27 : FnCall Try.prog 27 := ⟨Try.call27⟩
instance fnCall28 : FnCall Try.prog 28 := ⟨Try.call28⟩
instance fnCall29 : FnCall Try.prog 29 := ⟨Try.call29⟩
instance fnCall30 : FnCall Try.prog 30 := ⟨Try.call30⟩
instance fnCall31 : FnCall Try.prog 31 := ⟨Try.call31⟩
instance fnCall32 : FnCall Try.prog 32 := ⟨Try.call32⟩
instance fnCall33 : FnCall Try.prog 33 := ⟨Try.call33⟩
instance fnCall34 : FnCall Try.prog 34 := ⟨Try.call34⟩
theorem mixed : Try.prog.follows .mixedOrders = true := by kernel_rfl
end Go.Proofs.Ytcbboghjocoiiaa
