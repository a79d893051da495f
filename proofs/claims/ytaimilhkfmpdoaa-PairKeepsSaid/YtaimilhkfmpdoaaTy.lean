/- What is known of the types and functions of the seat: facts of its loaded program, as instances. Conditions: none. -/
import Derived.Test.YtaimilhkfmpdoaaProg
import Derived.Test.YtaimilhkfmpdoaaRep
import Derived.KernelRfl
namespace Go.Proofs.Ytaimilhkfmpdoaa
open Go.Proofs
set_option linter.unusedVariables false
theorem info_of {P : Go.Program} {T : Go.TypeId} {i : Go.TypeInfo} (h : P.types[T]? = some i) : P.info? T = some i := by unfold Go.Tables.info?; rw [if_pos (Array.getElem?_eq_some_iff.1 h).1]; exact h
instance tySize1 : TySize Try.prog 1 1 := ⟨Try.sizeOf1⟩
instance tyOne1 : TyOne Try.prog 1 := ⟨Try.isAgg1, Try.sizeOf1⟩
instance tyElem1 : TyElem Try.prog 1 1 8 := ⟨Try.t1, _, info_of Try.type1, rfl, rfl, rfl, rfl⟩
instance tyInfo1 : TyInfo Try.prog 1 Try.t1 := ⟨info_of Try.type1⟩
instance tyZero1 : TyZero Try.prog 1 (Try.t1.zero.getD undef) := ⟨Try.zeroValue1⟩
instance tySize2 : TySize Try.prog 2 1 := ⟨Try.sizeOf2⟩
instance tyOne2 : TyOne Try.prog 2 := ⟨Try.isAgg2, Try.sizeOf2⟩
instance tyElem2 : TyElem Try.prog 2 1 8 := ⟨Try.t2, _, info_of Try.type2, rfl, rfl, rfl, rfl⟩
instance tyInfo2 : TyInfo Try.prog 2 Try.t2 := ⟨info_of Try.type2⟩
instance tyZero2 : TyZero Try.prog 2 (Try.t2.zero.getD undef) := ⟨Try.zeroValue2⟩
instance tyInt2 : TyInt Try.prog 2 .i64 := ⟨Try.underlying2⟩
instance tySize3 : TySize Try.prog 3 1 := ⟨Try.sizeOf3⟩
instance tyOne3 : TyOne Try.prog 3 := ⟨Try.isAgg3, Try.sizeOf3⟩
instance tyElem3 : TyElem Try.prog 3 1 8 := ⟨Try.t3, _, info_of Try.type3, rfl, rfl, rfl, rfl⟩
instance tyInfo3 : TyInfo Try.prog 3 Try.t3 := ⟨info_of Try.type3⟩
instance tyZero3 : TyZero Try.prog 3 (Try.t3.zero.getD undef) := ⟨Try.zeroValue3⟩
instance tyInt3 : TyInt Try.prog 3 .i64 := ⟨Try.underlying3⟩
instance tySize4 : TySize Try.prog 4 1 := ⟨Try.sizeOf4⟩
instance tyOne4 : TyOne Try.prog 4 := ⟨Try.isAgg4, Try.sizeOf4⟩
instance tyElem4 : TyElem Try.prog 4 1 1 := ⟨Try.t4, _, info_of Try.type4, rfl, rfl, rfl, rfl⟩
instance tyInfo4 : TyInfo Try.prog 4 Try.t4 := ⟨info_of Try.type4⟩
instance tyZero4 : TyZero Try.prog 4 (Try.t4.zero.getD undef) := ⟨Try.zeroValue4⟩
instance tyBool4 : TyBool Try.prog 4 := ⟨Try.underlying4⟩
instance tySize5 : TySize Try.prog 5 1 := ⟨Try.sizeOf5⟩
instance tyOne5 : TyOne Try.prog 5 := ⟨Try.isAgg5, Try.sizeOf5⟩
instance tyElem5 : TyElem Try.prog 5 1 1 := ⟨Try.t5, _, info_of Try.type5, rfl, rfl, rfl, rfl⟩
instance tyInfo5 : TyInfo Try.prog 5 Try.t5 := ⟨info_of Try.type5⟩
instance tyZero5 : TyZero Try.prog 5 (Try.t5.zero.getD undef) := ⟨Try.zeroValue5⟩
instance tyInt5 : TyInt Try.prog 5 .u8 := ⟨Try.underlying5⟩
instance tySize6 : TySize Try.prog 6 1 := ⟨Try.sizeOf6⟩
instance tyOne6 : TyOne Try.prog 6 := ⟨Try.isAgg6, Try.sizeOf6⟩
instance tyElem6 : TyElem Try.prog 6 1 1 := ⟨Try.t6, _, info_of Try.type6, rfl, rfl, rfl, rfl⟩
instance tyInfo6 : TyInfo Try.prog 6 Try.t6 := ⟨info_of Try.type6⟩
instance tyZero6 : TyZero Try.prog 6 (Try.t6.zero.getD undef) := ⟨Try.zeroValue6⟩
instance tyInt6 : TyInt Try.prog 6 .u8 := ⟨Try.underlying6⟩
instance tySize7 : TySize Try.prog 7 4 := ⟨Try.sizeOf7⟩
instance tyAgg7 : TyAgg Try.prog 7 := ⟨Try.isAgg7⟩
instance tyElem7 : TyElem Try.prog 7 4 24 := ⟨Try.t7, _, info_of Try.type7, rfl, rfl, rfl, rfl⟩
instance tyInfo7 : TyInfo Try.prog 7 Try.t7 := ⟨info_of Try.type7⟩
instance tyZero7 : TyZero Try.prog 7 (Try.t7.zero.getD undef) := ⟨Try.zeroValue7⟩
instance tyField7_0 : TyField Try.prog 7 0 0 2 := ⟨_, _, Try.underlying7, rfl, rfl, rfl, fun w => ⟨0, Try.sizeOf2 w⟩⟩
instance tyField7_1 : TyField Try.prog 7 1 1 3 := ⟨_, _, Try.underlying7, rfl, rfl, rfl, fun w => ⟨0, Try.sizeOf3 w⟩⟩
instance tyField7_2 : TyField Try.prog 7 2 2 4 := ⟨_, _, Try.underlying7, rfl, rfl, rfl, fun w => ⟨0, Try.sizeOf4 w⟩⟩
instance tyField7_3 : TyField Try.prog 7 3 3 6 := ⟨_, _, Try.underlying7, rfl, rfl, rfl, fun w => ⟨0, Try.sizeOf6 w⟩⟩
instance tyStruct7 : TyStruct Try.prog 7 (fieldsOf Try.t7.desc) := ⟨Try.underlying7⟩
instance tySize8 : TySize Try.prog 8 4 := ⟨Try.sizeOf8⟩
instance tyAgg8 : TyAgg Try.prog 8 := ⟨Try.isAgg8⟩
instance tyElem8 : TyElem Try.prog 8 4 24 := ⟨Try.t8, _, info_of Try.type8, rfl, rfl, rfl, rfl⟩
instance tyInfo8 : TyInfo Try.prog 8 Try.t8 := ⟨info_of Try.type8⟩
instance tyZero8 : TyZero Try.prog 8 (Try.t8.zero.getD undef) := ⟨Try.zeroValue8⟩
instance tyField8_0 : TyField Try.prog 8 0 0 2 := ⟨_, _, Try.underlying8, rfl, rfl, rfl, fun w => ⟨0, Try.sizeOf2 w⟩⟩
instance tyField8_1 : TyField Try.prog 8 1 1 3 := ⟨_, _, Try.underlying8, rfl, rfl, rfl, fun w => ⟨0, Try.sizeOf3 w⟩⟩
instance tyField8_2 : TyField Try.prog 8 2 2 4 := ⟨_, _, Try.underlying8, rfl, rfl, rfl, fun w => ⟨0, Try.sizeOf4 w⟩⟩
instance tyField8_3 : TyField Try.prog 8 3 3 6 := ⟨_, _, Try.underlying8, rfl, rfl, rfl, fun w => ⟨0, Try.sizeOf6 w⟩⟩
instance tyStruct8 : TyStruct Try.prog 8 (fieldsOf Try.t7.desc) := ⟨Try.underlying8⟩
instance tySize9 : TySize Try.prog 9 1 := ⟨Try.sizeOf9⟩
instance tyOne9 : TyOne Try.prog 9 := ⟨Try.isAgg9, Try.sizeOf9⟩
instance tyElem9 : TyElem Try.prog 9 1 16 := ⟨Try.t9, _, info_of Try.type9, rfl, rfl, rfl, rfl⟩
instance tyInfo9 : TyInfo Try.prog 9 Try.t9 := ⟨info_of Try.type9⟩
instance tyZero9 : TyZero Try.prog 9 (Try.t9.zero.getD undef) := ⟨Try.zeroValue9⟩
instance tyStr9 : TyStr Try.prog 9 := ⟨Try.underlying9⟩
instance tySize10 : TySize Try.prog 10 1 := ⟨Try.sizeOf10⟩
instance tyOne10 : TyOne Try.prog 10 := ⟨Try.isAgg10, Try.sizeOf10⟩
instance tyElem10 : TyElem Try.prog 10 1 16 := ⟨Try.t10, _, info_of Try.type10, rfl, rfl, rfl, rfl⟩
instance tyInfo10 : TyInfo Try.prog 10 Try.t10 := ⟨info_of Try.type10⟩
instance tyZero10 : TyZero Try.prog 10 (Try.t10.zero.getD undef) := ⟨Try.zeroValue10⟩
instance tyStr10 : TyStr Try.prog 10 := ⟨Try.underlying10⟩
instance tySize11 : TySize Try.prog 11 1 := ⟨Try.sizeOf11⟩
instance tyOne11 : TyOne Try.prog 11 := ⟨Try.isAgg11, Try.sizeOf11⟩
instance tyElem11 : TyElem Try.prog 11 1 16 := ⟨Try.t11, _, info_of Try.type11, rfl, rfl, rfl, rfl⟩
instance tyInfo11 : TyInfo Try.prog 11 Try.t11 := ⟨info_of Try.type11⟩
instance tyZero11 : TyZero Try.prog 11 (Try.t11.zero.getD undef) := ⟨Try.zeroValue11⟩
instance tyStr11 : TyStr Try.prog 11 := ⟨Try.underlying11⟩
instance tySize12 : TySize Try.prog 12 1 := ⟨Try.sizeOf12⟩
instance tyOne12 : TyOne Try.prog 12 := ⟨Try.isAgg12, Try.sizeOf12⟩
instance tyElem12 : TyElem Try.prog 12 1 8 := ⟨Try.t12, _, info_of Try.type12, rfl, rfl, rfl, rfl⟩
instance tyInfo12 : TyInfo Try.prog 12 Try.t12 := ⟨info_of Try.type12⟩
instance tyZero12 : TyZero Try.prog 12 (Try.t12.zero.getD undef) := ⟨Try.zeroValue12⟩
instance tyInt12 : TyInt Try.prog 12 .u64 := ⟨Try.underlying12⟩
instance tySize13 : TySize Try.prog 13 2 := ⟨Try.sizeOf13⟩
instance tyAgg13 : TyAgg Try.prog 13 := ⟨Try.isAgg13⟩
instance tyElem13 : TyElem Try.prog 13 2 24 := ⟨Try.t13, _, info_of Try.type13, rfl, rfl, rfl, rfl⟩
instance tyInfo13 : TyInfo Try.prog 13 Try.t13 := ⟨info_of Try.type13⟩
instance tyZero13 : TyZero Try.prog 13 (Try.t13.zero.getD undef) := ⟨Try.zeroValue13⟩
instance tyField13_0 : TyField Try.prog 13 0 0 9 := ⟨_, _, Try.underlying13, rfl, rfl, rfl, fun w => ⟨0, Try.sizeOf9 w⟩⟩
instance tyField13_1 : TyField Try.prog 13 1 1 12 := ⟨_, _, Try.underlying13, rfl, rfl, rfl, fun w => ⟨0, Try.sizeOf12 w⟩⟩
instance tyStruct13 : TyStruct Try.prog 13 (fieldsOf Try.t13.desc) := ⟨Try.underlying13⟩
instance tySize14 : TySize Try.prog 14 2 := ⟨Try.sizeOf14⟩
instance tyAgg14 : TyAgg Try.prog 14 := ⟨Try.isAgg14⟩
instance tyElem14 : TyElem Try.prog 14 2 24 := ⟨Try.t14, _, info_of Try.type14, rfl, rfl, rfl, rfl⟩
instance tyInfo14 : TyInfo Try.prog 14 Try.t14 := ⟨info_of Try.type14⟩
instance tyZero14 : TyZero Try.prog 14 (Try.t14.zero.getD undef) := ⟨Try.zeroValue14⟩
instance tyField14_0 : TyField Try.prog 14 0 0 9 := ⟨_, _, Try.underlying14, rfl, rfl, rfl, fun w => ⟨0, Try.sizeOf9 w⟩⟩
instance tyField14_1 : TyField Try.prog 14 1 1 12 := ⟨_, _, Try.underlying14, rfl, rfl, rfl, fun w => ⟨0, Try.sizeOf12 w⟩⟩
instance tyStruct14 : TyStruct Try.prog 14 (fieldsOf Try.t13.desc) := ⟨Try.underlying14⟩
instance tySize15 : TySize Try.prog 15 1 := ⟨Try.sizeOf15⟩
instance tyOne15 : TyOne Try.prog 15 := ⟨Try.isAgg15, Try.sizeOf15⟩
instance tyElem15 : TyElem Try.prog 15 1 8 := ⟨Try.t15, _, info_of Try.type15, rfl, rfl, rfl, rfl⟩
instance tyInfo15 : TyInfo Try.prog 15 Try.t15 := ⟨info_of Try.type15⟩
instance tyZero15 : TyZero Try.prog 15 (Try.t15.zero.getD undef) := ⟨Try.zeroValue15⟩
instance tyPtr15 : TyPtr Try.prog 15 84 := ⟨Try.underlying15⟩
instance tySize16 : TySize Try.prog 16 1 := ⟨Try.sizeOf16⟩
instance tyOne16 : TyOne Try.prog 16 := ⟨Try.isAgg16, Try.sizeOf16⟩
instance tyElem16 : TyElem Try.prog 16 1 8 := ⟨Try.t16, _, info_of Try.type16, rfl, rfl, rfl, rfl⟩
instance tyInfo16 : TyInfo Try.prog 16 Try.t16 := ⟨info_of Try.type16⟩
instance tyZero16 : TyZero Try.prog 16 (Try.t16.zero.getD undef) := ⟨Try.zeroValue16⟩
instance tyPtr16 : TyPtr Try.prog 16 87 := ⟨Try.underlying16⟩
instance tySize17 : TySize Try.prog 17 1 := ⟨Try.sizeOf17⟩
instance tyOne17 : TyOne Try.prog 17 := ⟨Try.isAgg17, Try.sizeOf17⟩
instance tyElem17 : TyElem Try.prog 17 1 8 := ⟨Try.t17, _, info_of Try.type17, rfl, rfl, rfl, rfl⟩
instance tyInfo17 : TyInfo Try.prog 17 Try.t17 := ⟨info_of Try.type17⟩
instance tyZero17 : TyZero Try.prog 17 (Try.t17.zero.getD undef) := ⟨Try.zeroValue17⟩
instance tyPtr17 : TyPtr Try.prog 17 96 := ⟨Try.underlying17⟩
instance tySize18 : TySize Try.prog 18 1 := ⟨Try.sizeOf18⟩
instance tyAgg18 : TyAgg Try.prog 18 := ⟨Try.isAgg18⟩
instance tyElem18 : TyElem Try.prog 18 1 8 := ⟨Try.t18, _, info_of Try.type18, rfl, rfl, rfl, rfl⟩
instance tyInfo18 : TyInfo Try.prog 18 Try.t18 := ⟨info_of Try.type18⟩
instance tyZero18 : TyZero Try.prog 18 (Try.t18.zero.getD undef) := ⟨Try.zeroValue18⟩
instance tyField18_0 : TyField Try.prog 18 0 0 17 := ⟨_, _, Try.underlying18, rfl, rfl, rfl, fun w => ⟨0, Try.sizeOf17 w⟩⟩
instance tyStruct18 : TyStruct Try.prog 18 (fieldsOf Try.t18.desc) := ⟨Try.underlying18⟩
instance tySize19 : TySize Try.prog 19 1 := ⟨Try.sizeOf19⟩
instance tyAgg19 : TyAgg Try.prog 19 := ⟨Try.isAgg19⟩
instance tyElem19 : TyElem Try.prog 19 1 8 := ⟨Try.t19, _, info_of Try.type19, rfl, rfl, rfl, rfl⟩
instance tyInfo19 : TyInfo Try.prog 19 Try.t19 := ⟨info_of Try.type19⟩
instance tyZero19 : TyZero Try.prog 19 (Try.t19.zero.getD undef) := ⟨Try.zeroValue19⟩
instance tyField19_0 : TyField Try.prog 19 0 0 17 := ⟨_, _, Try.underlying19, rfl, rfl, rfl, fun w => ⟨0, Try.sizeOf17 w⟩⟩
instance tyStruct19 : TyStruct Try.prog 19 (fieldsOf Try.t18.desc) := ⟨Try.underlying19⟩
instance tySize20 : TySize Try.prog 20 1 := ⟨Try.sizeOf20⟩
instance tyOne20 : TyOne Try.prog 20 := ⟨Try.isAgg20, Try.sizeOf20⟩
instance tyElem20 : TyElem Try.prog 20 1 16 := ⟨Try.t20, _, info_of Try.type20, rfl, rfl, rfl, rfl⟩
instance tyInfo20 : TyInfo Try.prog 20 Try.t20 := ⟨info_of Try.type20⟩
instance tyZero20 : TyZero Try.prog 20 (Try.t20.zero.getD undef) := ⟨Try.zeroValue20⟩
instance tySize21 : TySize Try.prog 21 1 := ⟨Try.sizeOf21⟩
instance tyOne21 : TyOne Try.prog 21 := ⟨Try.isAgg21, Try.sizeOf21⟩
instance tyElem21 : TyElem Try.prog 21 1 4 := ⟨Try.t21, _, info_of Try.type21, rfl, rfl, rfl, rfl⟩
instance tyInfo21 : TyInfo Try.prog 21 Try.t21 := ⟨info_of Try.type21⟩
instance tyZero21 : TyZero Try.prog 21 (Try.t21.zero.getD undef) := ⟨Try.zeroValue21⟩
instance tyInt21 : TyInt Try.prog 21 .i32 := ⟨Try.underlying21⟩
instance tySize22 : TySize Try.prog 22 1 := ⟨Try.sizeOf22⟩
instance tyOne22 : TyOne Try.prog 22 := ⟨Try.isAgg22, Try.sizeOf22⟩
instance tyElem22 : TyElem Try.prog 22 1 24 := ⟨Try.t22, _, info_of Try.type22, rfl, rfl, rfl, rfl⟩
instance tyInfo22 : TyInfo Try.prog 22 Try.t22 := ⟨info_of Try.type22⟩
instance tyZero22 : TyZero Try.prog 22 (Try.t22.zero.getD undef) := ⟨Try.zeroValue22⟩
instance tySlice22 : TySlice Try.prog 22 29 := ⟨Try.underlying22⟩
instance tySize23 : TySize Try.prog 23 1 := ⟨Try.sizeOf23⟩
instance tyOne23 : TyOne Try.prog 23 := ⟨Try.isAgg23, Try.sizeOf23⟩
instance tyElem23 : TyElem Try.prog 23 1 8 := ⟨Try.t23, _, info_of Try.type23, rfl, rfl, rfl, rfl⟩
instance tyInfo23 : TyInfo Try.prog 23 Try.t23 := ⟨info_of Try.type23⟩
instance tyZero23 : TyZero Try.prog 23 (Try.t23.zero.getD undef) := ⟨Try.zeroValue23⟩
instance tySize24 : TySize Try.prog 24 1 := ⟨Try.sizeOf24⟩
instance tyOne24 : TyOne Try.prog 24 := ⟨Try.isAgg24, Try.sizeOf24⟩
instance tyElem24 : TyElem Try.prog 24 1 8 := ⟨Try.t24, _, info_of Try.type24, rfl, rfl, rfl, rfl⟩
instance tyInfo24 : TyInfo Try.prog 24 Try.t24 := ⟨info_of Try.type24⟩
instance tyZero24 : TyZero Try.prog 24 (Try.t24.zero.getD undef) := ⟨Try.zeroValue24⟩
instance tyPtr24 : TyPtr Try.prog 24 55 := ⟨Try.underlying24⟩
instance tySize25 : TySize Try.prog 25 1 := ⟨Try.sizeOf25⟩
instance tyOne25 : TyOne Try.prog 25 := ⟨Try.isAgg25, Try.sizeOf25⟩
instance tyElem25 : TyElem Try.prog 25 1 8 := ⟨Try.t25, _, info_of Try.type25, rfl, rfl, rfl, rfl⟩
instance tyInfo25 : TyInfo Try.prog 25 Try.t25 := ⟨info_of Try.type25⟩
instance tyZero25 : TyZero Try.prog 25 (Try.t25.zero.getD undef) := ⟨Try.zeroValue25⟩
instance tySize26 : TySize Try.prog 26 1 := ⟨Try.sizeOf26⟩
instance tyOne26 : TyOne Try.prog 26 := ⟨Try.isAgg26, Try.sizeOf26⟩
instance tyElem26 : TyElem Try.prog 26 1 8 := ⟨Try.t26, _, info_of Try.type26, rfl, rfl, rfl, rfl⟩
instance tyInfo26 : TyInfo Try.prog 26 Try.t26 := ⟨info_of Try.type26⟩
instance tyZero26 : TyZero Try.prog 26 (Try.t26.zero.getD undef) := ⟨Try.zeroValue26⟩
instance tyPtr26 : TyPtr Try.prog 26 44 := ⟨Try.underlying26⟩
instance tySize27 : TySize Try.prog 27 1 := ⟨Try.sizeOf27⟩
instance tyOne27 : TyOne Try.prog 27 := ⟨Try.isAgg27, Try.sizeOf27⟩
instance tyElem27 : TyElem Try.prog 27 1 8 := ⟨Try.t27, _, info_of Try.type27, rfl, rfl, rfl, rfl⟩
instance tyInfo27 : TyInfo Try.prog 27 Try.t27 := ⟨info_of Try.type27⟩
instance tyZero27 : TyZero Try.prog 27 (Try.t27.zero.getD undef) := ⟨Try.zeroValue27⟩
instance tySize28 : TySize Try.prog 28 4 := ⟨Try.sizeOf28⟩
instance tyAgg28 : TyAgg Try.prog 28 := ⟨Try.isAgg28⟩
instance tyElem28 : TyElem Try.prog 28 4 32 := ⟨Try.t28, _, info_of Try.type28, rfl, rfl, rfl, rfl⟩
instance tyInfo28 : TyInfo Try.prog 28 Try.t28 := ⟨info_of Try.type28⟩
instance tyZero28 : TyZero Try.prog 28 (Try.t28.zero.getD undef) := ⟨Try.zeroValue28⟩
instance tyField28_0 : TyField Try.prog 28 0 0 3 := ⟨_, _, Try.underlying28, rfl, rfl, rfl, fun w => ⟨0, Try.sizeOf3 w⟩⟩
instance tyField28_1 : TyField Try.prog 28 1 1 3 := ⟨_, _, Try.underlying28, rfl, rfl, rfl, fun w => ⟨0, Try.sizeOf3 w⟩⟩
instance tyField28_2 : TyField Try.prog 28 2 2 3 := ⟨_, _, Try.underlying28, rfl, rfl, rfl, fun w => ⟨0, Try.sizeOf3 w⟩⟩
instance tyField28_3 : TyField Try.prog 28 3 3 3 := ⟨_, _, Try.underlying28, rfl, rfl, rfl, fun w => ⟨0, Try.sizeOf3 w⟩⟩
instance tyStruct28 : TyStruct Try.prog 28 (fieldsOf Try.t28.desc) := ⟨Try.underlying28⟩
instance tySize29 : TySize Try.prog 29 4 := ⟨Try.sizeOf29⟩
instance tyAgg29 : TyAgg Try.prog 29 := ⟨Try.isAgg29⟩
instance tyElem29 : TyElem Try.prog 29 4 32 := ⟨Try.t29, _, info_of Try.type29, rfl, rfl, rfl, rfl⟩
instance tyInfo29 : TyInfo Try.prog 29 Try.t29 := ⟨info_of Try.type29⟩
instance tyZero29 : TyZero Try.prog 29 (Try.t29.zero.getD undef) := ⟨Try.zeroValue29⟩
instance tyFlat29 : TyFlat Try.prog 29 [3, 3, 3, 3] := ⟨_, Try.underlying29, Try.stoodInHeld29, Try.eqGuardType29, ⟨⟨by decide, rfl, Try.isAgg3, .inl ⟨_, Try.underlying3⟩⟩, ⟨⟨by decide, rfl, Try.isAgg3, .inl ⟨_, Try.underlying3⟩⟩, ⟨⟨by decide, rfl, Try.isAgg3, .inl ⟨_, Try.underlying3⟩⟩, ⟨⟨by decide, rfl, Try.isAgg3, .inl ⟨_, Try.underlying3⟩⟩, trivial⟩⟩⟩⟩, rfl⟩
instance tyField29_0 : TyField Try.prog 29 0 0 3 := ⟨_, _, Try.underlying29, rfl, rfl, rfl, fun w => ⟨0, Try.sizeOf3 w⟩⟩
instance tyField29_1 : TyField Try.prog 29 1 1 3 := ⟨_, _, Try.underlying29, rfl, rfl, rfl, fun w => ⟨0, Try.sizeOf3 w⟩⟩
instance tyField29_2 : TyField Try.prog 29 2 2 3 := ⟨_, _, Try.underlying29, rfl, rfl, rfl, fun w => ⟨0, Try.sizeOf3 w⟩⟩
instance tyField29_3 : TyField Try.prog 29 3 3 3 := ⟨_, _, Try.underlying29, rfl, rfl, rfl, fun w => ⟨0, Try.sizeOf3 w⟩⟩
instance tyStruct29 : TyStruct Try.prog 29 (fieldsOf Try.t28.desc) := ⟨Try.underlying29⟩
instance tySize30 : TySize Try.prog 30 1 := ⟨Try.sizeOf30⟩
instance tyOne30 : TyOne Try.prog 30 := ⟨Try.isAgg30, Try.sizeOf30⟩
instance tyElem30 : TyElem Try.prog 30 1 8 := ⟨Try.t30, _, info_of Try.type30, rfl, rfl, rfl, rfl⟩
instance tyInfo30 : TyInfo Try.prog 30 Try.t30 := ⟨info_of Try.type30⟩
instance tyZero30 : TyZero Try.prog 30 (Try.t30.zero.getD undef) := ⟨Try.zeroValue30⟩
instance tyInt30 : TyInt Try.prog 30 .i64 := ⟨Try.underlying30⟩
instance tySize32 : TySize Try.prog 32 1 := ⟨Try.sizeOf32⟩
instance tyOne32 : TyOne Try.prog 32 := ⟨Try.isAgg32, Try.sizeOf32⟩
instance tyElem32 : TyElem Try.prog 32 1 8 := ⟨Try.t32, _, info_of Try.type32, rfl, rfl, rfl, rfl⟩
instance tyInfo32 : TyInfo Try.prog 32 Try.t32 := ⟨info_of Try.type32⟩
instance tyZero32 : TyZero Try.prog 32 (Try.t32.zero.getD undef) := ⟨Try.zeroValue32⟩
instance tySize34 : TySize Try.prog 34 1 := ⟨Try.sizeOf34⟩
instance tyOne34 : TyOne Try.prog 34 := ⟨Try.isAgg34, Try.sizeOf34⟩
instance tyElem34 : TyElem Try.prog 34 1 8 := ⟨Try.t34, _, info_of Try.type34, rfl, rfl, rfl, rfl⟩
instance tyInfo34 : TyInfo Try.prog 34 Try.t34 := ⟨info_of Try.type34⟩
instance tyZero34 : TyZero Try.prog 34 (Try.t34.zero.getD undef) := ⟨Try.zeroValue34⟩
instance tySize35 : TySize Try.prog 35 1 := ⟨Try.sizeOf35⟩
instance tyOne35 : TyOne Try.prog 35 := ⟨Try.isAgg35, Try.sizeOf35⟩
instance tyElem35 : TyElem Try.prog 35 1 8 := ⟨Try.t35, _, info_of Try.type35, rfl, rfl, rfl, rfl⟩
instance tyInfo35 : TyInfo Try.prog 35 Try.t35 := ⟨info_of Try.type35⟩
instance tyZero35 : TyZero Try.prog 35 (Try.t35.zero.getD undef) := ⟨Try.zeroValue35⟩
instance tySize36 : TySize Try.prog 36 1 := ⟨Try.sizeOf36⟩
instance tyOne36 : TyOne Try.prog 36 := ⟨Try.isAgg36, Try.sizeOf36⟩
instance tyElem36 : TyElem Try.prog 36 1 8 := ⟨Try.t36, _, info_of Try.type36, rfl, rfl, rfl, rfl⟩
instance tyInfo36 : TyInfo Try.prog 36 Try.t36 := ⟨info_of Try.type36⟩
instance tyZero36 : TyZero Try.prog 36 (Try.t36.zero.getD undef) := ⟨Try.zeroValue36⟩
instance tySize38 : TySize Try.prog 38 1 := ⟨Try.sizeOf38⟩
instance tyOne38 : TyOne Try.prog 38 := ⟨Try.isAgg38, Try.sizeOf38⟩
instance tyElem38 : TyElem Try.prog 38 1 8 := ⟨Try.t38, _, info_of Try.type38, rfl, rfl, rfl, rfl⟩
instance tyInfo38 : TyInfo Try.prog 38 Try.t38 := ⟨info_of Try.type38⟩
instance tyZero38 : TyZero Try.prog 38 (Try.t38.zero.getD undef) := ⟨Try.zeroValue38⟩
instance tySize40 : TySize Try.prog 40 1 := ⟨Try.sizeOf40⟩
instance tyOne40 : TyOne Try.prog 40 := ⟨Try.isAgg40, Try.sizeOf40⟩
instance tyElem40 : TyElem Try.prog 40 1 8 := ⟨Try.t40, _, info_of Try.type40, rfl, rfl, rfl, rfl⟩
instance tyInfo40 : TyInfo Try.prog 40 Try.t40 := ⟨info_of Try.type40⟩
instance tyZero40 : TyZero Try.prog 40 (Try.t40.zero.getD undef) := ⟨Try.zeroValue40⟩
instance tySize41 : TySize Try.prog 41 1 := ⟨Try.sizeOf41⟩
instance tyOne41 : TyOne Try.prog 41 := ⟨Try.isAgg41, Try.sizeOf41⟩
instance tyElem41 : TyElem Try.prog 41 1 8 := ⟨Try.t41, _, info_of Try.type41, rfl, rfl, rfl, rfl⟩
instance tyInfo41 : TyInfo Try.prog 41 Try.t41 := ⟨info_of Try.type41⟩
instance tyZero41 : TyZero Try.prog 41 (Try.t41.zero.getD undef) := ⟨Try.zeroValue41⟩
instance tySize42 : TySize Try.prog 42 1 := ⟨Try.sizeOf42⟩
instance tyOne42 : TyOne Try.prog 42 := ⟨Try.isAgg42, Try.sizeOf42⟩
instance tyElem42 : TyElem Try.prog 42 1 24 := ⟨Try.t42, _, info_of Try.type42, rfl, rfl, rfl, rfl⟩
instance tyInfo42 : TyInfo Try.prog 42 Try.t42 := ⟨info_of Try.type42⟩
instance tyZero42 : TyZero Try.prog 42 (Try.t42.zero.getD undef) := ⟨Try.zeroValue42⟩
instance tySlice42 : TySlice Try.prog 42 3 := ⟨Try.underlying42⟩
instance tySize43 : TySize Try.prog 43 3 := ⟨Try.sizeOf43⟩
instance tyAgg43 : TyAgg Try.prog 43 := ⟨Try.isAgg43⟩
instance tyElem43 : TyElem Try.prog 43 3 40 := ⟨Try.t43, _, info_of Try.type43, rfl, rfl, rfl, rfl⟩
instance tyInfo43 : TyInfo Try.prog 43 Try.t43 := ⟨info_of Try.type43⟩
instance tyZero43 : TyZero Try.prog 43 (Try.t43.zero.getD undef) := ⟨Try.zeroValue43⟩
instance tyField43_0 : TyField Try.prog 43 0 0 42 := ⟨_, _, Try.underlying43, rfl, rfl, rfl, fun w => ⟨0, Try.sizeOf42 w⟩⟩
instance tyField43_1 : TyField Try.prog 43 1 1 3 := ⟨_, _, Try.underlying43, rfl, rfl, rfl, fun w => ⟨0, Try.sizeOf3 w⟩⟩
instance tyField43_2 : TyField Try.prog 43 2 2 3 := ⟨_, _, Try.underlying43, rfl, rfl, rfl, fun w => ⟨0, Try.sizeOf3 w⟩⟩
instance tyStruct43 : TyStruct Try.prog 43 (fieldsOf Try.t43.desc) := ⟨Try.underlying43⟩
instance tySize44 : TySize Try.prog 44 3 := ⟨Try.sizeOf44⟩
instance tyAgg44 : TyAgg Try.prog 44 := ⟨Try.isAgg44⟩
instance tyElem44 : TyElem Try.prog 44 3 40 := ⟨Try.t44, _, info_of Try.type44, rfl, rfl, rfl, rfl⟩
instance tyInfo44 : TyInfo Try.prog 44 Try.t44 := ⟨info_of Try.type44⟩
instance tyZero44 : TyZero Try.prog 44 (Try.t44.zero.getD undef) := ⟨Try.zeroValue44⟩
instance tyField44_0 : TyField Try.prog 44 0 0 42 := ⟨_, _, Try.underlying44, rfl, rfl, rfl, fun w => ⟨0, Try.sizeOf42 w⟩⟩
instance tyField44_1 : TyField Try.prog 44 1 1 3 := ⟨_, _, Try.underlying44, rfl, rfl, rfl, fun w => ⟨0, Try.sizeOf3 w⟩⟩
instance tyField44_2 : TyField Try.prog 44 2 2 3 := ⟨_, _, Try.underlying44, rfl, rfl, rfl, fun w => ⟨0, Try.sizeOf3 w⟩⟩
instance tyStruct44 : TyStruct Try.prog 44 (fieldsOf Try.t43.desc) := ⟨Try.underlying44⟩
instance tySize45 : TySize Try.prog 45 1 := ⟨Try.sizeOf45⟩
instance tyOne45 : TyOne Try.prog 45 := ⟨Try.isAgg45, Try.sizeOf45⟩
instance tyElem45 : TyElem Try.prog 45 1 8 := ⟨Try.t45, _, info_of Try.type45, rfl, rfl, rfl, rfl⟩
instance tyInfo45 : TyInfo Try.prog 45 Try.t45 := ⟨info_of Try.type45⟩
instance tyZero45 : TyZero Try.prog 45 (Try.t45.zero.getD undef) := ⟨Try.zeroValue45⟩
instance tySize46 : TySize Try.prog 46 1 := ⟨Try.sizeOf46⟩
instance tyOne46 : TyOne Try.prog 46 := ⟨Try.isAgg46, Try.sizeOf46⟩
instance tyElem46 : TyElem Try.prog 46 1 8 := ⟨Try.t46, _, info_of Try.type46, rfl, rfl, rfl, rfl⟩
instance tyInfo46 : TyInfo Try.prog 46 Try.t46 := ⟨info_of Try.type46⟩
instance tyZero46 : TyZero Try.prog 46 (Try.t46.zero.getD undef) := ⟨Try.zeroValue46⟩
instance tySize47 : TySize Try.prog 47 1 := ⟨Try.sizeOf47⟩
instance tyOne47 : TyOne Try.prog 47 := ⟨Try.isAgg47, Try.sizeOf47⟩
instance tyElem47 : TyElem Try.prog 47 1 8 := ⟨Try.t47, _, info_of Try.type47, rfl, rfl, rfl, rfl⟩
instance tyInfo47 : TyInfo Try.prog 47 Try.t47 := ⟨info_of Try.type47⟩
instance tyZero47 : TyZero Try.prog 47 (Try.t47.zero.getD undef) := ⟨Try.zeroValue47⟩
instance tyPtr47 : TyPtr Try.prog 47 78 := ⟨Try.underlying47⟩
instance tySize48 : TySize Try.prog 48 1 := ⟨Try.sizeOf48⟩
instance tyOne48 : TyOne Try.prog 48 := ⟨Try.isAgg48, Try.sizeOf48⟩
instance tyElem48 : TyElem Try.prog 48 1 8 := ⟨Try.t48, _, info_of Try.type48, rfl, rfl, rfl, rfl⟩
instance tyInfo48 : TyInfo Try.prog 48 Try.t48 := ⟨info_of Try.type48⟩
instance tyZero48 : TyZero Try.prog 48 (Try.t48.zero.getD undef) := ⟨Try.zeroValue48⟩
instance tySize49 : TySize Try.prog 49 1 := ⟨Try.sizeOf49⟩
instance tyOne49 : TyOne Try.prog 49 := ⟨Try.isAgg49, Try.sizeOf49⟩
instance tyElem49 : TyElem Try.prog 49 1 24 := ⟨Try.t49, _, info_of Try.type49, rfl, rfl, rfl, rfl⟩
instance tyInfo49 : TyInfo Try.prog 49 Try.t49 := ⟨info_of Try.type49⟩
instance tyZero49 : TyZero Try.prog 49 (Try.t49.zero.getD undef) := ⟨Try.zeroValue49⟩
instance tySlice49 : TySlice Try.prog 49 5 := ⟨Try.underlying49⟩
instance tySize51 : TySize Try.prog 51 1 := ⟨Try.sizeOf51⟩
instance tyOne51 : TyOne Try.prog 51 := ⟨Try.isAgg51, Try.sizeOf51⟩
instance tyElem51 : TyElem Try.prog 51 1 8 := ⟨Try.t51, _, info_of Try.type51, rfl, rfl, rfl, rfl⟩
instance tyInfo51 : TyInfo Try.prog 51 Try.t51 := ⟨info_of Try.type51⟩
instance tyZero51 : TyZero Try.prog 51 (Try.t51.zero.getD undef) := ⟨Try.zeroValue51⟩
instance tySize52 : TySize Try.prog 52 1 := ⟨Try.sizeOf52⟩
instance tyOne52 : TyOne Try.prog 52 := ⟨Try.isAgg52, Try.sizeOf52⟩
instance tyElem52 : TyElem Try.prog 52 1 8 := ⟨Try.t52, _, info_of Try.type52, rfl, rfl, rfl, rfl⟩
instance tyInfo52 : TyInfo Try.prog 52 Try.t52 := ⟨info_of Try.type52⟩
instance tyZero52 : TyZero Try.prog 52 (Try.t52.zero.getD undef) := ⟨Try.zeroValue52⟩
instance tySize53 : TySize Try.prog 53 1 := ⟨Try.sizeOf53⟩
instance tyOne53 : TyOne Try.prog 53 := ⟨Try.isAgg53, Try.sizeOf53⟩
instance tyElem53 : TyElem Try.prog 53 1 8 := ⟨Try.t53, _, info_of Try.type53, rfl, rfl, rfl, rfl⟩
instance tyInfo53 : TyInfo Try.prog 53 Try.t53 := ⟨info_of Try.type53⟩
instance tyZero53 : TyZero Try.prog 53 (Try.t53.zero.getD undef) := ⟨Try.zeroValue53⟩
instance tySize54 : TySize Try.prog 54 3 := ⟨Try.sizeOf54⟩
instance tyAgg54 : TyAgg Try.prog 54 := ⟨Try.isAgg54⟩
instance tyElem54 : TyElem Try.prog 54 3 40 := ⟨Try.t54, _, info_of Try.type54, rfl, rfl, rfl, rfl⟩
instance tyInfo54 : TyInfo Try.prog 54 Try.t54 := ⟨info_of Try.type54⟩
instance tyZero54 : TyZero Try.prog 54 (Try.t54.zero.getD undef) := ⟨Try.zeroValue54⟩
instance tyField54_0 : TyField Try.prog 54 0 0 42 := ⟨_, _, Try.underlying54, rfl, rfl, rfl, fun w => ⟨0, Try.sizeOf42 w⟩⟩
instance tyField54_1 : TyField Try.prog 54 1 1 3 := ⟨_, _, Try.underlying54, rfl, rfl, rfl, fun w => ⟨0, Try.sizeOf3 w⟩⟩
instance tyField54_2 : TyField Try.prog 54 2 2 3 := ⟨_, _, Try.underlying54, rfl, rfl, rfl, fun w => ⟨0, Try.sizeOf3 w⟩⟩
instance tyStruct54 : TyStruct Try.prog 54 (fieldsOf Try.t54.desc) := ⟨Try.underlying54⟩
instance tySize55 : TySize Try.prog 55 3 := ⟨Try.sizeOf55⟩
instance tyAgg55 : TyAgg Try.prog 55 := ⟨Try.isAgg55⟩
instance tyElem55 : TyElem Try.prog 55 3 40 := ⟨Try.t55, _, info_of Try.type55, rfl, rfl, rfl, rfl⟩
instance tyInfo55 : TyInfo Try.prog 55 Try.t55 := ⟨info_of Try.type55⟩
instance tyZero55 : TyZero Try.prog 55 (Try.t55.zero.getD undef) := ⟨Try.zeroValue55⟩
instance tyField55_0 : TyField Try.prog 55 0 0 42 := ⟨_, _, Try.underlying55, rfl, rfl, rfl, fun w => ⟨0, Try.sizeOf42 w⟩⟩
instance tyField55_1 : TyField Try.prog 55 1 1 3 := ⟨_, _, Try.underlying55, rfl, rfl, rfl, fun w => ⟨0, Try.sizeOf3 w⟩⟩
instance tyField55_2 : TyField Try.prog 55 2 2 3 := ⟨_, _, Try.underlying55, rfl, rfl, rfl, fun w => ⟨0, Try.sizeOf3 w⟩⟩
instance tyStruct55 : TyStruct Try.prog 55 (fieldsOf Try.t54.desc) := ⟨Try.underlying55⟩
instance tySize56 : TySize Try.prog 56 1 := ⟨Try.sizeOf56⟩
instance tyOne56 : TyOne Try.prog 56 := ⟨Try.isAgg56, Try.sizeOf56⟩
instance tyElem56 : TyElem Try.prog 56 1 8 := ⟨Try.t56, _, info_of Try.type56, rfl, rfl, rfl, rfl⟩
instance tyInfo56 : TyInfo Try.prog 56 Try.t56 := ⟨info_of Try.type56⟩
instance tyZero56 : TyZero Try.prog 56 (Try.t56.zero.getD undef) := ⟨Try.zeroValue56⟩
instance tySize57 : TySize Try.prog 57 1 := ⟨Try.sizeOf57⟩
instance tyOne57 : TyOne Try.prog 57 := ⟨Try.isAgg57, Try.sizeOf57⟩
instance tyElem57 : TyElem Try.prog 57 1 8 := ⟨Try.t57, _, info_of Try.type57, rfl, rfl, rfl, rfl⟩
instance tyInfo57 : TyInfo Try.prog 57 Try.t57 := ⟨info_of Try.type57⟩
instance tyZero57 : TyZero Try.prog 57 (Try.t57.zero.getD undef) := ⟨Try.zeroValue57⟩
instance tySize58 : TySize Try.prog 58 1 := ⟨Try.sizeOf58⟩
instance tyOne58 : TyOne Try.prog 58 := ⟨Try.isAgg58, Try.sizeOf58⟩
instance tyElem58 : TyElem Try.prog 58 1 24 := ⟨Try.t58, _, info_of Try.type58, rfl, rfl, rfl, rfl⟩
instance tyInfo58 : TyInfo Try.prog 58 Try.t58 := ⟨info_of Try.type58⟩
instance tyZero58 : TyZero Try.prog 58 (Try.t58.zero.getD undef) := ⟨Try.zeroValue58⟩
instance tySlice58 : TySlice Try.prog 58 62 := ⟨Try.underlying58⟩
instance tySize59 : TySize Try.prog 59 1 := ⟨Try.sizeOf59⟩
instance tyOne59 : TyOne Try.prog 59 := ⟨Try.isAgg59, Try.sizeOf59⟩
instance tyElem59 : TyElem Try.prog 59 1 8 := ⟨Try.t59, _, info_of Try.type59, rfl, rfl, rfl, rfl⟩
instance tyInfo59 : TyInfo Try.prog 59 Try.t59 := ⟨info_of Try.type59⟩
instance tyZero59 : TyZero Try.prog 59 (Try.t59.zero.getD undef) := ⟨Try.zeroValue59⟩
instance tySize60 : TySize Try.prog 60 1 := ⟨Try.sizeOf60⟩
instance tyOne60 : TyOne Try.prog 60 := ⟨Try.isAgg60, Try.sizeOf60⟩
instance tyElem60 : TyElem Try.prog 60 1 8 := ⟨Try.t60, _, info_of Try.type60, rfl, rfl, rfl, rfl⟩
instance tyInfo60 : TyInfo Try.prog 60 Try.t60 := ⟨info_of Try.type60⟩
instance tyZero60 : TyZero Try.prog 60 (Try.t60.zero.getD undef) := ⟨Try.zeroValue60⟩
instance tySize61 : TySize Try.prog 61 2 := ⟨Try.sizeOf61⟩
instance tyAgg61 : TyAgg Try.prog 61 := ⟨Try.isAgg61⟩
instance tyElem61 : TyElem Try.prog 61 2 32 := ⟨Try.t61, _, info_of Try.type61, rfl, rfl, rfl, rfl⟩
instance tyInfo61 : TyInfo Try.prog 61 Try.t61 := ⟨info_of Try.type61⟩
instance tyZero61 : TyZero Try.prog 61 (Try.t61.zero.getD undef) := ⟨Try.zeroValue61⟩
instance tyField61_0 : TyField Try.prog 61 0 0 9 := ⟨_, _, Try.underlying61, rfl, rfl, rfl, fun w => ⟨0, Try.sizeOf9 w⟩⟩
instance tyField61_1 : TyField Try.prog 61 1 1 9 := ⟨_, _, Try.underlying61, rfl, rfl, rfl, fun w => ⟨0, Try.sizeOf9 w⟩⟩
instance tyStruct61 : TyStruct Try.prog 61 (fieldsOf Try.t61.desc) := ⟨Try.underlying61⟩
instance tySize62 : TySize Try.prog 62 2 := ⟨Try.sizeOf62⟩
instance tyAgg62 : TyAgg Try.prog 62 := ⟨Try.isAgg62⟩
instance tyElem62 : TyElem Try.prog 62 2 32 := ⟨Try.t62, _, info_of Try.type62, rfl, rfl, rfl, rfl⟩
instance tyInfo62 : TyInfo Try.prog 62 Try.t62 := ⟨info_of Try.type62⟩
instance tyZero62 : TyZero Try.prog 62 (Try.t62.zero.getD undef) := ⟨Try.zeroValue62⟩
instance tyFlat62 : TyFlat Try.prog 62 [9, 9] := ⟨_, Try.underlying62, Try.stoodInHeld62, Try.eqGuardType62, ⟨⟨by decide, rfl, Try.isAgg9, .inr (.inr Try.underlying9)⟩, ⟨⟨by decide, rfl, Try.isAgg9, .inr (.inr Try.underlying9)⟩, trivial⟩⟩, rfl⟩
instance tyField62_0 : TyField Try.prog 62 0 0 9 := ⟨_, _, Try.underlying62, rfl, rfl, rfl, fun w => ⟨0, Try.sizeOf9 w⟩⟩
instance tyField62_1 : TyField Try.prog 62 1 1 9 := ⟨_, _, Try.underlying62, rfl, rfl, rfl, fun w => ⟨0, Try.sizeOf9 w⟩⟩
instance tyStruct62 : TyStruct Try.prog 62 (fieldsOf Try.t61.desc) := ⟨Try.underlying62⟩
instance tySize64 : TySize Try.prog 64 1 := ⟨Try.sizeOf64⟩
instance tyOne64 : TyOne Try.prog 64 := ⟨Try.isAgg64, Try.sizeOf64⟩
instance tyElem64 : TyElem Try.prog 64 1 8 := ⟨Try.t64, _, info_of Try.type64, rfl, rfl, rfl, rfl⟩
instance tyInfo64 : TyInfo Try.prog 64 Try.t64 := ⟨info_of Try.type64⟩
instance tyZero64 : TyZero Try.prog 64 (Try.t64.zero.getD undef) := ⟨Try.zeroValue64⟩
instance tySize65 : TySize Try.prog 65 1 := ⟨Try.sizeOf65⟩
instance tyOne65 : TyOne Try.prog 65 := ⟨Try.isAgg65, Try.sizeOf65⟩
instance tyElem65 : TyElem Try.prog 65 1 8 := ⟨Try.t65, _, info_of Try.type65, rfl, rfl, rfl, rfl⟩
instance tyInfo65 : TyInfo Try.prog 65 Try.t65 := ⟨info_of Try.type65⟩
instance tyZero65 : TyZero Try.prog 65 (Try.t65.zero.getD undef) := ⟨Try.zeroValue65⟩
instance tySize66 : TySize Try.prog 66 1 := ⟨Try.sizeOf66⟩
instance tyOne66 : TyOne Try.prog 66 := ⟨Try.isAgg66, Try.sizeOf66⟩
instance tyElem66 : TyElem Try.prog 66 1 8 := ⟨Try.t66, _, info_of Try.type66, rfl, rfl, rfl, rfl⟩
instance tyInfo66 : TyInfo Try.prog 66 Try.t66 := ⟨info_of Try.type66⟩
instance tyZero66 : TyZero Try.prog 66 (Try.t66.zero.getD undef) := ⟨Try.zeroValue66⟩
instance tySize67 : TySize Try.prog 67 1 := ⟨Try.sizeOf67⟩
instance tyOne67 : TyOne Try.prog 67 := ⟨Try.isAgg67, Try.sizeOf67⟩
instance tyElem67 : TyElem Try.prog 67 1 8 := ⟨Try.t67, _, info_of Try.type67, rfl, rfl, rfl, rfl⟩
instance tyInfo67 : TyInfo Try.prog 67 Try.t67 := ⟨info_of Try.type67⟩
instance tyZero67 : TyZero Try.prog 67 (Try.t67.zero.getD undef) := ⟨Try.zeroValue67⟩
instance tySize68 : TySize Try.prog 68 1 := ⟨Try.sizeOf68⟩
instance tyOne68 : TyOne Try.prog 68 := ⟨Try.isAgg68, Try.sizeOf68⟩
instance tyElem68 : TyElem Try.prog 68 1 8 := ⟨Try.t68, _, info_of Try.type68, rfl, rfl, rfl, rfl⟩
instance tyInfo68 : TyInfo Try.prog 68 Try.t68 := ⟨info_of Try.type68⟩
instance tyZero68 : TyZero Try.prog 68 (Try.t68.zero.getD undef) := ⟨Try.zeroValue68⟩
instance tySize70 : TySize Try.prog 70 1 := ⟨Try.sizeOf70⟩
instance tyOne70 : TyOne Try.prog 70 := ⟨Try.isAgg70, Try.sizeOf70⟩
instance tyElem70 : TyElem Try.prog 70 1 8 := ⟨Try.t70, _, info_of Try.type70, rfl, rfl, rfl, rfl⟩
instance tyInfo70 : TyInfo Try.prog 70 Try.t70 := ⟨info_of Try.type70⟩
instance tyZero70 : TyZero Try.prog 70 (Try.t70.zero.getD undef) := ⟨Try.zeroValue70⟩
instance tySize71 : TySize Try.prog 71 1 := ⟨Try.sizeOf71⟩
instance tyOne71 : TyOne Try.prog 71 := ⟨Try.isAgg71, Try.sizeOf71⟩
instance tyElem71 : TyElem Try.prog 71 1 8 := ⟨Try.t71, _, info_of Try.type71, rfl, rfl, rfl, rfl⟩
instance tyInfo71 : TyInfo Try.prog 71 Try.t71 := ⟨info_of Try.type71⟩
instance tyZero71 : TyZero Try.prog 71 (Try.t71.zero.getD undef) := ⟨Try.zeroValue71⟩
instance tySize72 : TySize Try.prog 72 1 := ⟨Try.sizeOf72⟩
instance tyOne72 : TyOne Try.prog 72 := ⟨Try.isAgg72, Try.sizeOf72⟩
instance tyElem72 : TyElem Try.prog 72 1 8 := ⟨Try.t72, _, info_of Try.type72, rfl, rfl, rfl, rfl⟩
instance tyInfo72 : TyInfo Try.prog 72 Try.t72 := ⟨info_of Try.type72⟩
instance tyZero72 : TyZero Try.prog 72 (Try.t72.zero.getD undef) := ⟨Try.zeroValue72⟩
instance tySize73 : TySize Try.prog 73 1 := ⟨Try.sizeOf73⟩
instance tyOne73 : TyOne Try.prog 73 := ⟨Try.isAgg73, Try.sizeOf73⟩
instance tyElem73 : TyElem Try.prog 73 1 8 := ⟨Try.t73, _, info_of Try.type73, rfl, rfl, rfl, rfl⟩
instance tyInfo73 : TyInfo Try.prog 73 Try.t73 := ⟨info_of Try.type73⟩
instance tyZero73 : TyZero Try.prog 73 (Try.t73.zero.getD undef) := ⟨Try.zeroValue73⟩
instance tySize74 : TySize Try.prog 74 1 := ⟨Try.sizeOf74⟩
instance tyOne74 : TyOne Try.prog 74 := ⟨Try.isAgg74, Try.sizeOf74⟩
instance tyElem74 : TyElem Try.prog 74 1 8 := ⟨Try.t74, _, info_of Try.type74, rfl, rfl, rfl, rfl⟩
instance tyInfo74 : TyInfo Try.prog 74 Try.t74 := ⟨info_of Try.type74⟩
instance tyZero74 : TyZero Try.prog 74 (Try.t74.zero.getD undef) := ⟨Try.zeroValue74⟩
instance tySize75 : TySize Try.prog 75 1 := ⟨Try.sizeOf75⟩
instance tyOne75 : TyOne Try.prog 75 := ⟨Try.isAgg75, Try.sizeOf75⟩
instance tyElem75 : TyElem Try.prog 75 1 8 := ⟨Try.t75, _, info_of Try.type75, rfl, rfl, rfl, rfl⟩
instance tyInfo75 : TyInfo Try.prog 75 Try.t75 := ⟨info_of Try.type75⟩
instance tyZero75 : TyZero Try.prog 75 (Try.t75.zero.getD undef) := ⟨Try.zeroValue75⟩
instance tySize76 : TySize Try.prog 76 1 := ⟨Try.sizeOf76⟩
instance tyOne76 : TyOne Try.prog 76 := ⟨Try.isAgg76, Try.sizeOf76⟩
instance tyElem76 : TyElem Try.prog 76 1 24 := ⟨Try.t76, _, info_of Try.type76, rfl, rfl, rfl, rfl⟩
instance tyInfo76 : TyInfo Try.prog 76 Try.t76 := ⟨info_of Try.type76⟩
instance tyZero76 : TyZero Try.prog 76 (Try.t76.zero.getD undef) := ⟨Try.zeroValue76⟩
instance tySlice76 : TySlice Try.prog 76 9 := ⟨Try.underlying76⟩
instance tySize77 : TySize Try.prog 77 3 := ⟨Try.sizeOf77⟩
instance tyAgg77 : TyAgg Try.prog 77 := ⟨Try.isAgg77⟩
instance tyElem77 : TyElem Try.prog 77 3 40 := ⟨Try.t77, _, info_of Try.type77, rfl, rfl, rfl, rfl⟩
instance tyInfo77 : TyInfo Try.prog 77 Try.t77 := ⟨info_of Try.type77⟩
instance tyZero77 : TyZero Try.prog 77 (Try.t77.zero.getD undef) := ⟨Try.zeroValue77⟩
instance tyField77_0 : TyField Try.prog 77 0 0 76 := ⟨_, _, Try.underlying77, rfl, rfl, rfl, fun w => ⟨0, Try.sizeOf76 w⟩⟩
instance tyField77_1 : TyField Try.prog 77 1 1 3 := ⟨_, _, Try.underlying77, rfl, rfl, rfl, fun w => ⟨0, Try.sizeOf3 w⟩⟩
instance tyField77_2 : TyField Try.prog 77 2 2 3 := ⟨_, _, Try.underlying77, rfl, rfl, rfl, fun w => ⟨0, Try.sizeOf3 w⟩⟩
instance tyStruct77 : TyStruct Try.prog 77 (fieldsOf Try.t77.desc) := ⟨Try.underlying77⟩
instance tySize78 : TySize Try.prog 78 3 := ⟨Try.sizeOf78⟩
instance tyAgg78 : TyAgg Try.prog 78 := ⟨Try.isAgg78⟩
instance tyElem78 : TyElem Try.prog 78 3 40 := ⟨Try.t78, _, info_of Try.type78, rfl, rfl, rfl, rfl⟩
instance tyInfo78 : TyInfo Try.prog 78 Try.t78 := ⟨info_of Try.type78⟩
instance tyZero78 : TyZero Try.prog 78 (Try.t78.zero.getD undef) := ⟨Try.zeroValue78⟩
instance tyField78_0 : TyField Try.prog 78 0 0 76 := ⟨_, _, Try.underlying78, rfl, rfl, rfl, fun w => ⟨0, Try.sizeOf76 w⟩⟩
instance tyField78_1 : TyField Try.prog 78 1 1 3 := ⟨_, _, Try.underlying78, rfl, rfl, rfl, fun w => ⟨0, Try.sizeOf3 w⟩⟩
instance tyField78_2 : TyField Try.prog 78 2 2 3 := ⟨_, _, Try.underlying78, rfl, rfl, rfl, fun w => ⟨0, Try.sizeOf3 w⟩⟩
instance tyStruct78 : TyStruct Try.prog 78 (fieldsOf Try.t77.desc) := ⟨Try.underlying78⟩
instance tySize79 : TySize Try.prog 79 1 := ⟨Try.sizeOf79⟩
instance tyOne79 : TyOne Try.prog 79 := ⟨Try.isAgg79, Try.sizeOf79⟩
instance tyElem79 : TyElem Try.prog 79 1 8 := ⟨Try.t79, _, info_of Try.type79, rfl, rfl, rfl, rfl⟩
instance tyInfo79 : TyInfo Try.prog 79 Try.t79 := ⟨info_of Try.type79⟩
instance tyZero79 : TyZero Try.prog 79 (Try.t79.zero.getD undef) := ⟨Try.zeroValue79⟩
instance tySize80 : TySize Try.prog 80 1 := ⟨Try.sizeOf80⟩
instance tyOne80 : TyOne Try.prog 80 := ⟨Try.isAgg80, Try.sizeOf80⟩
instance tyElem80 : TyElem Try.prog 80 1 24 := ⟨Try.t80, _, info_of Try.type80, rfl, rfl, rfl, rfl⟩
instance tyInfo80 : TyInfo Try.prog 80 Try.t80 := ⟨info_of Try.type80⟩
instance tyZero80 : TyZero Try.prog 80 (Try.t80.zero.getD undef) := ⟨Try.zeroValue80⟩
instance tySlice80 : TySlice Try.prog 80 58 := ⟨Try.underlying80⟩
instance tySize81 : TySize Try.prog 81 1 := ⟨Try.sizeOf81⟩
instance tyOne81 : TyOne Try.prog 81 := ⟨Try.isAgg81, Try.sizeOf81⟩
instance tyElem81 : TyElem Try.prog 81 1 8 := ⟨Try.t81, _, info_of Try.type81, rfl, rfl, rfl, rfl⟩
instance tyInfo81 : TyInfo Try.prog 81 Try.t81 := ⟨info_of Try.type81⟩
instance tyZero81 : TyZero Try.prog 81 (Try.t81.zero.getD undef) := ⟨Try.zeroValue81⟩
instance tySize82 : TySize Try.prog 82 1 := ⟨Try.sizeOf82⟩
instance tyOne82 : TyOne Try.prog 82 := ⟨Try.isAgg82, Try.sizeOf82⟩
instance tyElem82 : TyElem Try.prog 82 1 8 := ⟨Try.t82, _, info_of Try.type82, rfl, rfl, rfl, rfl⟩
instance tyInfo82 : TyInfo Try.prog 82 Try.t82 := ⟨info_of Try.type82⟩
instance tyZero82 : TyZero Try.prog 82 (Try.t82.zero.getD undef) := ⟨Try.zeroValue82⟩
instance tySize83 : TySize Try.prog 83 4 := ⟨Try.sizeOf83⟩
instance tyAgg83 : TyAgg Try.prog 83 := ⟨Try.isAgg83⟩
instance tyElem83 : TyElem Try.prog 83 4 40 := ⟨Try.t83, _, info_of Try.type83, rfl, rfl, rfl, rfl⟩
instance tyInfo83 : TyInfo Try.prog 83 Try.t83 := ⟨info_of Try.type83⟩
instance tyZero83 : TyZero Try.prog 83 (Try.t83.zero.getD undef) := ⟨Try.zeroValue83⟩
instance tyField83_0 : TyField Try.prog 83 0 0 17 := ⟨_, _, Try.underlying83, rfl, rfl, rfl, fun w => ⟨0, Try.sizeOf17 w⟩⟩
instance tyField83_1 : TyField Try.prog 83 1 1 17 := ⟨_, _, Try.underlying83, rfl, rfl, rfl, fun w => ⟨0, Try.sizeOf17 w⟩⟩
instance tyField83_2 : TyField Try.prog 83 2 2 17 := ⟨_, _, Try.underlying83, rfl, rfl, rfl, fun w => ⟨0, Try.sizeOf17 w⟩⟩
instance tyField83_3 : TyField Try.prog 83 3 3 9 := ⟨_, _, Try.underlying83, rfl, rfl, rfl, fun w => ⟨0, Try.sizeOf9 w⟩⟩
instance tyStruct83 : TyStruct Try.prog 83 (fieldsOf Try.t83.desc) := ⟨Try.underlying83⟩
instance tySize84 : TySize Try.prog 84 4 := ⟨Try.sizeOf84⟩
instance tyAgg84 : TyAgg Try.prog 84 := ⟨Try.isAgg84⟩
instance tyElem84 : TyElem Try.prog 84 4 40 := ⟨Try.t84, _, info_of Try.type84, rfl, rfl, rfl, rfl⟩
instance tyInfo84 : TyInfo Try.prog 84 Try.t84 := ⟨info_of Try.type84⟩
instance tyZero84 : TyZero Try.prog 84 (Try.t84.zero.getD undef) := ⟨Try.zeroValue84⟩
instance tyField84_0 : TyField Try.prog 84 0 0 17 := ⟨_, _, Try.underlying84, rfl, rfl, rfl, fun w => ⟨0, Try.sizeOf17 w⟩⟩
instance tyField84_1 : TyField Try.prog 84 1 1 17 := ⟨_, _, Try.underlying84, rfl, rfl, rfl, fun w => ⟨0, Try.sizeOf17 w⟩⟩
instance tyField84_2 : TyField Try.prog 84 2 2 17 := ⟨_, _, Try.underlying84, rfl, rfl, rfl, fun w => ⟨0, Try.sizeOf17 w⟩⟩
instance tyField84_3 : TyField Try.prog 84 3 3 9 := ⟨_, _, Try.underlying84, rfl, rfl, rfl, fun w => ⟨0, Try.sizeOf9 w⟩⟩
instance tyStruct84 : TyStruct Try.prog 84 (fieldsOf Try.t83.desc) := ⟨Try.underlying84⟩
instance tySize85 : TySize Try.prog 85 0 := ⟨Try.sizeOf85⟩
instance tyAgg85 : TyAgg Try.prog 85 := ⟨Try.isAgg85⟩
instance tyElem85 : TyElem Try.prog 85 0 0 := ⟨Try.t85, _, info_of Try.type85, rfl, rfl, rfl, rfl⟩
instance tyInfo85 : TyInfo Try.prog 85 Try.t85 := ⟨info_of Try.type85⟩
instance tyZero85 : TyZero Try.prog 85 (Try.t85.zero.getD undef) := ⟨Try.zeroValue85⟩
instance tySize86 : TySize Try.prog 86 0 := ⟨Try.sizeOf86⟩
instance tyAgg86 : TyAgg Try.prog 86 := ⟨Try.isAgg86⟩
instance tyElem86 : TyElem Try.prog 86 0 0 := ⟨Try.t86, _, info_of Try.type86, rfl, rfl, rfl, rfl⟩
instance tyInfo86 : TyInfo Try.prog 86 Try.t86 := ⟨info_of Try.type86⟩
instance tyZero86 : TyZero Try.prog 86 (Try.t86.zero.getD undef) := ⟨Try.zeroValue86⟩
instance tyStruct86 : TyStruct Try.prog 86 (fieldsOf Try.t86.desc) := ⟨Try.underlying86⟩
instance tySize87 : TySize Try.prog 87 0 := ⟨Try.sizeOf87⟩
instance tyAgg87 : TyAgg Try.prog 87 := ⟨Try.isAgg87⟩
instance tyElem87 : TyElem Try.prog 87 0 0 := ⟨Try.t87, _, info_of Try.type87, rfl, rfl, rfl, rfl⟩
instance tyInfo87 : TyInfo Try.prog 87 Try.t87 := ⟨info_of Try.type87⟩
instance tyZero87 : TyZero Try.prog 87 (Try.t87.zero.getD undef) := ⟨Try.zeroValue87⟩
instance tyStruct87 : TyStruct Try.prog 87 (fieldsOf Try.t86.desc) := ⟨Try.underlying87⟩
instance tySize88 : TySize Try.prog 88 1 := ⟨Try.sizeOf88⟩
instance tyOne88 : TyOne Try.prog 88 := ⟨Try.isAgg88, Try.sizeOf88⟩
instance tyElem88 : TyElem Try.prog 88 1 4 := ⟨Try.t88, _, info_of Try.type88, rfl, rfl, rfl, rfl⟩
instance tyInfo88 : TyInfo Try.prog 88 Try.t88 := ⟨info_of Try.type88⟩
instance tyZero88 : TyZero Try.prog 88 (Try.t88.zero.getD undef) := ⟨Try.zeroValue88⟩
instance tyInt88 : TyInt Try.prog 88 .u32 := ⟨Try.underlying88⟩
instance tySize89 : TySize Try.prog 89 1 := ⟨Try.sizeOf89⟩
instance tyOne89 : TyOne Try.prog 89 := ⟨Try.isAgg89, Try.sizeOf89⟩
instance tyElem89 : TyElem Try.prog 89 1 1 := ⟨Try.t89, _, info_of Try.type89, rfl, rfl, rfl, rfl⟩
instance tyInfo89 : TyInfo Try.prog 89 Try.t89 := ⟨info_of Try.type89⟩
instance tyZero89 : TyZero Try.prog 89 (Try.t89.zero.getD undef) := ⟨Try.zeroValue89⟩
instance tyInt89 : TyInt Try.prog 89 .u8 := ⟨Try.underlying89⟩
instance tySize90 : TySize Try.prog 90 1 := ⟨Try.sizeOf90⟩
instance tyOne90 : TyOne Try.prog 90 := ⟨Try.isAgg90, Try.sizeOf90⟩
instance tyElem90 : TyElem Try.prog 90 1 1 := ⟨Try.t90, _, info_of Try.type90, rfl, rfl, rfl, rfl⟩
instance tyInfo90 : TyInfo Try.prog 90 Try.t90 := ⟨info_of Try.type90⟩
instance tyZero90 : TyZero Try.prog 90 (Try.t90.zero.getD undef) := ⟨Try.zeroValue90⟩
instance tyInt90 : TyInt Try.prog 90 .u8 := ⟨Try.underlying90⟩
instance tySize91 : TySize Try.prog 91 1 := ⟨Try.sizeOf91⟩
instance tyOne91 : TyOne Try.prog 91 := ⟨Try.isAgg91, Try.sizeOf91⟩
instance tyElem91 : TyElem Try.prog 91 1 8 := ⟨Try.t91, _, info_of Try.type91, rfl, rfl, rfl, rfl⟩
instance tyInfo91 : TyInfo Try.prog 91 Try.t91 := ⟨info_of Try.type91⟩
instance tyZero91 : TyZero Try.prog 91 (Try.t91.zero.getD undef) := ⟨Try.zeroValue91⟩
instance tySize92 : TySize Try.prog 92 1 := ⟨Try.sizeOf92⟩
instance tyOne92 : TyOne Try.prog 92 := ⟨Try.isAgg92, Try.sizeOf92⟩
instance tyElem92 : TyElem Try.prog 92 1 8 := ⟨Try.t92, _, info_of Try.type92, rfl, rfl, rfl, rfl⟩
instance tyInfo92 : TyInfo Try.prog 92 Try.t92 := ⟨info_of Try.type92⟩
instance tyZero92 : TyZero Try.prog 92 (Try.t92.zero.getD undef) := ⟨Try.zeroValue92⟩
instance tyPtr92 : TyPtr Try.prog 92 5 := ⟨Try.underlying92⟩
instance tySize93 : TySize Try.prog 93 1 := ⟨Try.sizeOf93⟩
instance tyOne93 : TyOne Try.prog 93 := ⟨Try.isAgg93, Try.sizeOf93⟩
instance tyElem93 : TyElem Try.prog 93 1 4 := ⟨Try.t93, _, info_of Try.type93, rfl, rfl, rfl, rfl⟩
instance tyInfo93 : TyInfo Try.prog 93 Try.t93 := ⟨info_of Try.type93⟩
instance tyZero93 : TyZero Try.prog 93 (Try.t93.zero.getD undef) := ⟨Try.zeroValue93⟩
instance tyInt93 : TyInt Try.prog 93 .i32 := ⟨Try.underlying93⟩
instance tySize94 : TySize Try.prog 94 1 := ⟨Try.sizeOf94⟩
instance tyOne94 : TyOne Try.prog 94 := ⟨Try.isAgg94, Try.sizeOf94⟩
instance tyElem94 : TyElem Try.prog 94 1 4 := ⟨Try.t94, _, info_of Try.type94, rfl, rfl, rfl, rfl⟩
instance tyInfo94 : TyInfo Try.prog 94 Try.t94 := ⟨info_of Try.type94⟩
instance tyZero94 : TyZero Try.prog 94 (Try.t94.zero.getD undef) := ⟨Try.zeroValue94⟩
instance tyInt94 : TyInt Try.prog 94 .i32 := ⟨Try.underlying94⟩
instance tySize95 : TySize Try.prog 95 11 := ⟨Try.sizeOf95⟩
instance tyAgg95 : TyAgg Try.prog 95 := ⟨Try.isAgg95⟩
instance tyElem95 : TyElem Try.prog 95 11 48 := ⟨Try.t95, _, info_of Try.type95, rfl, rfl, rfl, rfl⟩
instance tyInfo95 : TyInfo Try.prog 95 Try.t95 := ⟨info_of Try.type95⟩
instance tyZero95 : TyZero Try.prog 95 (Try.t95.zero.getD undef) := ⟨Try.zeroValue95⟩
instance tyField95_0 : TyField Try.prog 95 0 0 12 := ⟨_, _, Try.underlying95, rfl, rfl, rfl, fun w => ⟨0, Try.sizeOf12 w⟩⟩
instance tyField95_1 : TyField Try.prog 95 1 1 12 := ⟨_, _, Try.underlying95, rfl, rfl, rfl, fun w => ⟨0, Try.sizeOf12 w⟩⟩
instance tyField95_2 : TyField Try.prog 95 2 2 88 := ⟨_, _, Try.underlying95, rfl, rfl, rfl, fun w => ⟨0, Try.sizeOf88 w⟩⟩
instance tyField95_3 : TyField Try.prog 95 3 3 89 := ⟨_, _, Try.underlying95, rfl, rfl, rfl, fun w => ⟨0, Try.sizeOf89 w⟩⟩
instance tyField95_4 : TyField Try.prog 95 4 4 5 := ⟨_, _, Try.underlying95, rfl, rfl, rfl, fun w => ⟨0, Try.sizeOf5 w⟩⟩
instance tyField95_5 : TyField Try.prog 95 5 5 5 := ⟨_, _, Try.underlying95, rfl, rfl, rfl, fun w => ⟨0, Try.sizeOf5 w⟩⟩
instance tyField95_6 : TyField Try.prog 95 6 6 90 := ⟨_, _, Try.underlying95, rfl, rfl, rfl, fun w => ⟨0, Try.sizeOf90 w⟩⟩
instance tyField95_7 : TyField Try.prog 95 7 7 91 := ⟨_, _, Try.underlying95, rfl, rfl, rfl, fun w => ⟨0, Try.sizeOf91 w⟩⟩
instance tyField95_8 : TyField Try.prog 95 8 8 92 := ⟨_, _, Try.underlying95, rfl, rfl, rfl, fun w => ⟨0, Try.sizeOf92 w⟩⟩
instance tyField95_9 : TyField Try.prog 95 9 9 93 := ⟨_, _, Try.underlying95, rfl, rfl, rfl, fun w => ⟨0, Try.sizeOf93 w⟩⟩
instance tyField95_10 : TyField Try.prog 95 10 10 94 := ⟨_, _, Try.underlying95, rfl, rfl, rfl, fun w => ⟨0, Try.sizeOf94 w⟩⟩
instance tyStruct95 : TyStruct Try.prog 95 (fieldsOf Try.t95.desc) := ⟨Try.underlying95⟩
instance tySize96 : TySize Try.prog 96 11 := ⟨Try.sizeOf96⟩
instance tyAgg96 : TyAgg Try.prog 96 := ⟨Try.isAgg96⟩
instance tyElem96 : TyElem Try.prog 96 11 48 := ⟨Try.t96, _, info_of Try.type96, rfl, rfl, rfl, rfl⟩
instance tyInfo96 : TyInfo Try.prog 96 Try.t96 := ⟨info_of Try.type96⟩
instance tyZero96 : TyZero Try.prog 96 (Try.t96.zero.getD undef) := ⟨Try.zeroValue96⟩
instance tyField96_0 : TyField Try.prog 96 0 0 12 := ⟨_, _, Try.underlying96, rfl, rfl, rfl, fun w => ⟨0, Try.sizeOf12 w⟩⟩
instance tyField96_1 : TyField Try.prog 96 1 1 12 := ⟨_, _, Try.underlying96, rfl, rfl, rfl, fun w => ⟨0, Try.sizeOf12 w⟩⟩
instance tyField96_2 : TyField Try.prog 96 2 2 88 := ⟨_, _, Try.underlying96, rfl, rfl, rfl, fun w => ⟨0, Try.sizeOf88 w⟩⟩
instance tyField96_3 : TyField Try.prog 96 3 3 89 := ⟨_, _, Try.underlying96, rfl, rfl, rfl, fun w => ⟨0, Try.sizeOf89 w⟩⟩
instance tyField96_4 : TyField Try.prog 96 4 4 5 := ⟨_, _, Try.underlying96, rfl, rfl, rfl, fun w => ⟨0, Try.sizeOf5 w⟩⟩
instance tyField96_5 : TyField Try.prog 96 5 5 5 := ⟨_, _, Try.underlying96, rfl, rfl, rfl, fun w => ⟨0, Try.sizeOf5 w⟩⟩
instance tyField96_6 : TyField Try.prog 96 6 6 90 := ⟨_, _, Try.underlying96, rfl, rfl, rfl, fun w => ⟨0, Try.sizeOf90 w⟩⟩
instance tyField96_7 : TyField Try.prog 96 7 7 91 := ⟨_, _, Try.underlying96, rfl, rfl, rfl, fun w => ⟨0, Try.sizeOf91 w⟩⟩
instance tyField96_8 : TyField Try.prog 96 8 8 92 := ⟨_, _, Try.underlying96, rfl, rfl, rfl, fun w => ⟨0, Try.sizeOf92 w⟩⟩
instance tyField96_9 : TyField Try.prog 96 9 9 93 := ⟨_, _, Try.underlying96, rfl, rfl, rfl, fun w => ⟨0, Try.sizeOf93 w⟩⟩
instance tyField96_10 : TyField Try.prog 96 10 10 94 := ⟨_, _, Try.underlying96, rfl, rfl, rfl, fun w => ⟨0, Try.sizeOf94 w⟩⟩
instance tyStruct96 : TyStruct Try.prog 96 (fieldsOf Try.t95.desc) := ⟨Try.underlying96⟩
instance tySize97 : TySize Try.prog 97 1 := ⟨Try.sizeOf97⟩
instance tyOne97 : TyOne Try.prog 97 := ⟨Try.isAgg97, Try.sizeOf97⟩
instance tyElem97 : TyElem Try.prog 97 1 8 := ⟨Try.t97, _, info_of Try.type97, rfl, rfl, rfl, rfl⟩
instance tyInfo97 : TyInfo Try.prog 97 Try.t97 := ⟨info_of Try.type97⟩
instance tyZero97 : TyZero Try.prog 97 (Try.t97.zero.getD undef) := ⟨Try.zeroValue97⟩
instance fnCall3 : FnCall Try.prog 3 := ⟨Try.call3⟩
instance fnCall4 : FnCall Try.prog 4 := ⟨Try.call4⟩
instance fnCall5 : FnCall Try.prog 5 := ⟨Try.call5⟩
instance fnCall6 : FnCall Try.prog 6 := ⟨Try.call6⟩
instance fnCall7 : FnCall Try.prog 7 := ⟨Try.call7⟩
instance fnCall8 : FnCall Try.prog 8 := ⟨Try.call8⟩
instance fnCall9 : FnCall Try.prog 9 := ⟨Try.call9⟩
instance fnCall10 : FnCall Try.prog 10 := ⟨Try.call10⟩
instance fnCall11 : FnCall Try.prog 11 := ⟨Try.call11⟩
instance fnCall12 : FnCall Try.prog 12 := ⟨Try.call12⟩
instance fnCall13 : FnCall Try.prog 13 := ⟨Try.call13⟩
instance fnCall14 : FnCall Try.prog 14 := ⟨Try.call14⟩
instance fnCall15 : FnCall Try.prog 15 := ⟨Try.call15⟩
instance fnCall16 : FnCall Try.prog 16 := ⟨Try.call16⟩
instance fnCall17 : FnCall Try.prog 17 := ⟨Try.call17⟩
instance fnCall18 : FnCall Try.prog 18 := ⟨Try.call18⟩
instance fnCall19 : FnCall Try.prog 19 := ⟨Try.call19⟩
instance fnCall20 : FnCall Try.prog 20 := ⟨Try.call20⟩
instance fnCall21 : FnCall Try.prog 21 := ⟨Try.call21⟩
instance fnCall22 : FnCall Try.prog 22 := ⟨Try.call22⟩
instance fnCall23 : FnCall Try.prog 23 := ⟨Try.call23⟩
instance fnCall24 : FnCall Try.prog 24 := ⟨Try.call24⟩
instance fnCall25 : FnCall Try.prog 25 := ⟨Try.call25⟩
instance fnCall26 : FnCall Try.prog 26 := ⟨Try.call26⟩
instance fnCall27 : FnCall Try.prog 27 := ⟨Try.call27⟩
instance fnCall28 : FnCall Try.prog 28 := ⟨Try.call28⟩
instance fnCall29 : FnCall Try.prog 29 := ⟨Try.call29⟩
instance fnCall30 : FnCall Try.prog 30 := ⟨Try.call30⟩
instance fnCall31 : FnCall Try.prog 31 := ⟨Try.call31⟩
instance fnCall32 : FnCall Try.prog 32 := ⟨Try.call32⟩
instance fnCall33 : FnCall Try.prog 33 := ⟨Try.call33⟩
instance fnCall34 : FnCall Try.prog 34 := ⟨Try.call34⟩
instance fnCall35 : FnCall Try.prog 35 := ⟨Try.call35⟩
instance fnCall36 : FnCall Try.prog 36 := ⟨Try.call36⟩
instance fnCall37 : FnCall Try.prog 37 := ⟨Try.call37⟩
instance fnCall38 : FnCall Try.prog 38 := ⟨Try.call38⟩
instance fnCall39 : FnCall Try.prog 39 := ⟨Try.call39⟩
instance fnCall40 : FnCall Try.prog 40 := ⟨Try.call40⟩
instance fnCall41 : FnCall Try.prog 41 := ⟨Try.call41⟩
instance fnCall42 : FnCall Try.prog 42 := ⟨Try.call42⟩
instance fnCall43 : FnCall Try.prog 43 := ⟨Try.call43⟩
instance fnCall44 : FnCall Try.prog 44 := ⟨Try.call44⟩
instance fnCall45 : FnCall Try.prog 45 := ⟨Try.call45⟩
instance fnCall46 : FnCall Try.prog 46 := ⟨Try.call46⟩
instance fnCall47 : FnCall Try.prog 47 := ⟨Try.call47⟩
instance fnCall48 : FnCall Try.prog 48 := ⟨Try.call48⟩
instance fnCall49 : FnCall Try.prog 49 := ⟨Try.call49⟩
instance fnCall50 : FnCall Try.prog 50 := ⟨Try.call50⟩
instance fnCall51 : FnCall Try.prog 51 := ⟨Try.call51⟩
instance fnCall52 : FnCall Try.prog 52 := ⟨Try.call52⟩
theorem mixed : Try.prog.follows .mixedOrders = true := by kernel_rfl
end Go.Proofs.Ytaimilhkfmpdoaa
