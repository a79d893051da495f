/- What is known of the types and functions of the seat: facts of its loaded program, as instances. Conditions: none. -/
import Derived.Test.YtglhnfficliaoaaProg
import Derived.Test.YtglhnfficliaoaaRep
import Derived.KernelRfl
namespace Go.Proofs.Ytglhnfficliaoaa
open Go.Proofs
set_option linter.unusedVariables false
theorem info_of {P : Go.Program} {T : Go.TypeId} {i : Go.TypeInfo} (h : P.types[T]? = some i) : P.info? T = some i := by unfold Go.Tables.info?; rw [if_pos (Array.getElem?_eq_some_iff.1 h).1]; exact h
instance tySize1 : TySize Try.prog 1 1 := ⟨Try.sizeOf1⟩
instance tyOne1 : TyOne Try.prog 1 := ⟨Try.isAgg1, Try.sizeOf1⟩
instance tyElem1 : TyElem Try.prog 1 1 8 := ⟨Try.t1, _, info_of Try.type1, rfl, rfl, rfl, rfl⟩
instance tyInfo1 : TyInfo Try.prog 1 Try.t1 := ⟨info_of Try.type1⟩
instance tyZero1 : TyZero Try.prog 1 (Try.t1.zero.getD undef) := ⟨Try.zeroValue1⟩
instance tySize2 : TySize Try.prog 2 1 := ⟨Try.sizeOf2⟩
instance tyOne2 : TyOne Try.prog 2 := ⟨Try.isAgg2, Try.sizeOf2⟩
instance tyElem2 : TyElem Try.prog 2 1 8 := ⟨Try.t2, _, info_of Try.type2, rfl, rfl, rfl, rfl⟩
instance tyInfo2 : TyInfo Try.prog 2 Try.t2 := ⟨info_of Try.type2⟩
instance tyZero2 : TyZero Try.prog 2 (Try.t2.zero.getD undef) := ⟨Try.zeroValue2⟩
instance tyInt2 : TyInt Try.prog 2 .i64 := ⟨Try.underlying2⟩
instance tySize3 : TySize Try.prog 3 1 := ⟨Try.sizeOf3⟩
instance tyOne3 : TyOne Try.prog 3 := ⟨Try.isAgg3, Try.sizeOf3⟩
instance tyElem3 : TyElem Try.prog 3 1 8 := ⟨Try.t3, _, info_of Try.type3, rfl, rfl, rfl, rfl⟩
instance tyInfo3 : TyInfo Try.prog 3 Try.t3 := ⟨info_of Try.type3⟩
instance tyZero3 : TyZero Try.prog 3 (Try.t3.zero.getD undef) := ⟨Try.zeroValue3⟩
instance tyInt3 : TyInt Try.prog 3 .i64 := ⟨Try.underlying3⟩
instance tySize4 : TySize Try.prog 4 1 := ⟨Try.sizeOf4⟩
instance tyOne4 : TyOne Try.prog 4 := ⟨Try.isAgg4, Try.sizeOf4⟩
instance tyElem4 : TyElem Try.prog 4 1 1 := ⟨Try.t4, _, info_of Try.type4, rfl, rfl, rfl, rfl⟩
instance tyInfo4 : TyInfo Try.prog 4 Try.t4 := ⟨info_of Try.type4⟩
instance tyZero4 : TyZero Try.prog 4 (Try.t4.zero.getD undef) := ⟨Try.zeroValue4⟩
instance tyBool4 : TyBool Try.prog 4 := ⟨Try.underlying4⟩
instance tySize5 : TySize Try.prog 5 1 := ⟨Try.sizeOf5⟩
instance tyOne5 : TyOne Try.prog 5 := ⟨Try.isAgg5, Try.sizeOf5⟩
instance tyElem5 : TyElem Try.prog 5 1 1 := ⟨Try.t5, _, info_of Try.type5, rfl, rfl, rfl, rfl⟩
instance tyInfo5 : TyInfo Try.prog 5 Try.t5 := ⟨info_of Try.type5⟩
instance tyZero5 : TyZero Try.prog 5 (Try.t5.zero.getD undef) := ⟨Try.zeroValue5⟩
instance tyInt5 : TyInt Try.prog 5 .u8 := ⟨Try.underlying5⟩
instance tySize6 : TySize Try.prog 6 1 := ⟨Try.sizeOf6⟩
instance tyOne6 : TyOne Try.prog 6 := ⟨Try.isAgg6, Try.sizeOf6⟩
instance tyElem6 : TyElem Try.prog 6 1 1 := ⟨Try.t6, _, info_of Try.type6, rfl, rfl, rfl, rfl⟩
instance tyInfo6 : TyInfo Try.prog 6 Try.t6 := ⟨info_of Try.type6⟩
instance tyZero6 : TyZero Try.prog 6 (Try.t6.zero.getD undef) := ⟨Try.zeroValue6⟩
instance tyInt6 : TyInt Try.prog 6 .u8 := ⟨Try.underlying6⟩
instance tySize7 : TySize Try.prog 7 4 := ⟨Try.sizeOf7⟩
instance tyAgg7 : TyAgg Try.prog 7 := ⟨Try.isAgg7⟩
instance tyElem7 : TyElem Try.prog 7 4 24 := ⟨Try.t7, _, info_of Try.type7, rfl, rfl, rfl, rfl⟩
instance tyInfo7 : TyInfo Try.prog 7 Try.t7 := ⟨info_of Try.type7⟩
instance tyZero7 : TyZero Try.prog 7 (Try.t7.zero.getD undef) := ⟨Try.zeroValue7⟩
instance tyField7_0 : TyField Try.prog 7 0 0 2 := ⟨_, _, Try.underlying7, rfl, rfl, rfl, fun w => ⟨0, Try.sizeOf2 w⟩⟩
instance tyField7_1 : TyField Try.prog 7 1 1 3 := ⟨_, _, Try.underlying7, rfl, rfl, rfl, fun w => ⟨0, Try.sizeOf3 w⟩⟩
instance tyField7_2 : TyField Try.prog 7 2 2 4 := ⟨_, _, Try.underlying7, rfl, rfl, rfl, fun w => ⟨0, Try.sizeOf4 w⟩⟩
instance tyField7_3 : TyField Try.prog 7 3 3 6 := ⟨_, _, Try.underlying7, rfl, rfl, rfl, fun w => ⟨0, Try.sizeOf6 w⟩⟩
instance tyStruct7 : TyStruct Try.prog 7 (fieldsOf Try.t7.desc) := ⟨Try.underlying7⟩
instance tySize8 : TySize Try.prog 8 4 := ⟨Try.sizeOf8⟩
instance tyAgg8 : TyAgg Try.prog 8 := ⟨Try.isAgg8⟩
instance tyElem8 : TyElem Try.prog 8 4 24 := ⟨Try.t8, _, info_of Try.type8, rfl, rfl, rfl, rfl⟩
instance tyInfo8 : TyInfo Try.prog 8 Try.t8 := ⟨info_of Try.type8⟩
instance tyZero8 : TyZero Try.prog 8 (Try.t8.zero.getD undef) := ⟨Try.zeroValue8⟩
instance tyField8_0 : TyField Try.prog 8 0 0 2 := ⟨_, _, Try.underlying8, rfl, rfl, rfl, fun w => ⟨0, Try.sizeOf2 w⟩⟩
instance tyField8_1 : TyField Try.prog 8 1 1 3 := ⟨_, _, Try.underlying8, rfl, rfl, rfl, fun w => ⟨0, Try.sizeOf3 w⟩⟩
instance tyField8_2 : TyField Try.prog 8 2 2 4 := ⟨_, _, Try.underlying8, rfl, rfl, rfl, fun w => ⟨0, Try.sizeOf4 w⟩⟩
instance tyField8_3 : TyField Try.prog 8 3 3 6 := ⟨_, _, Try.underlying8, rfl, rfl, rfl, fun w => ⟨0, Try.sizeOf6 w⟩⟩
instance tyStruct8 : TyStruct Try.prog 8 (fieldsOf Try.t7.desc) := ⟨Try.underlying8⟩
instance tySize9 : TySize Try.prog 9 1 := ⟨Try.sizeOf9⟩
instance tyOne9 : TyOne Try.prog 9 := ⟨Try.isAgg9, Try.sizeOf9⟩
instance tyElem9 : TyElem Try.prog 9 1 16 := ⟨Try.t9, _, info_of Try.type9, rfl, rfl, rfl, rfl⟩
instance tyInfo9 : TyInfo Try.prog 9 Try.t9 := ⟨info_of Try.type9⟩
instance tyZero9 : TyZero Try.prog 9 (Try.t9.zero.getD undef) := ⟨Try.zeroValue9⟩
instance tyStr9 : TyStr Try.prog 9 := ⟨Try.underlying9⟩
instance tySize10 : TySize Try.prog 10 1 := ⟨Try.sizeOf10⟩
instance tyOne10 : TyOne Try.prog 10 := ⟨Try.isAgg10, Try.sizeOf10⟩
instance tyElem10 : TyElem Try.prog 10 1 16 := ⟨Try.t10, _, info_of Try.type10, rfl, rfl, rfl, rfl⟩
instance tyInfo10 : TyInfo Try.prog 10 Try.t10 := ⟨info_of Try.type10⟩
instance tyZero10 : TyZero Try.prog 10 (Try.t10.zero.getD undef) := ⟨Try.zeroValue10⟩
instance tyStr10 : TyStr Try.prog 10 := ⟨Try.underlying10⟩
instance tySize11 : TySize Try.prog 11 1 := ⟨Try.sizeOf11⟩
instance tyOne11 : TyOne Try.prog 11 := ⟨Try.isAgg11, Try.sizeOf11⟩
instance tyElem11 : TyElem Try.prog 11 1 16 := ⟨Try.t11, _, info_of Try.type11, rfl, rfl, rfl, rfl⟩
instance tyInfo11 : TyInfo Try.prog 11 Try.t11 := ⟨info_of Try.type11⟩
instance tyZero11 : TyZero Try.prog 11 (Try.t11.zero.getD undef) := ⟨Try.zeroValue11⟩
instance tyStr11 : TyStr Try.prog 11 := ⟨Try.underlying11⟩
instance tySize12 : TySize Try.prog 12 1 := ⟨Try.sizeOf12⟩
instance tyOne12 : TyOne Try.prog 12 := ⟨Try.isAgg12, Try.sizeOf12⟩
instance tyElem12 : TyElem Try.prog 12 1 8 := ⟨Try.t12, _, info_of Try.type12, rfl, rfl, rfl, rfl⟩
instance tyInfo12 : TyInfo Try.prog 12 Try.t12 := ⟨info_of Try.type12⟩
instance tyZero12 : TyZero Try.prog 12 (Try.t12.zero.getD undef) := ⟨Try.zeroValue12⟩
instance tyInt12 : TyInt Try.prog 12 .u64 := ⟨Try.underlying12⟩
instance tySize13 : TySize Try.prog 13 2 := ⟨Try.sizeOf13⟩
instance tyAgg13 : TyAgg Try.prog 13 := ⟨Try.isAgg13⟩
instance tyElem13 : TyElem Try.prog 13 2 24 := ⟨Try.t13, _, info_of Try.type13, rfl, rfl, rfl, rfl⟩
instance tyInfo13 : TyInfo Try.prog 13 Try.t13 := ⟨info_of Try.type13⟩
instance tyZero13 : TyZero Try.prog 13 (Try.t13.zero.getD undef) := ⟨Try.zeroValue13⟩
instance tyField13_0 : TyField Try.prog 13 0 0 9 := ⟨_, _, Try.underlying13, rfl, rfl, rfl, fun w => ⟨0, Try.sizeOf9 w⟩⟩
instance tyField13_1 : TyField Try.prog 13 1 1 12 := ⟨_, _, Try.underlying13, rfl, rfl, rfl, fun w => ⟨0, Try.sizeOf12 w⟩⟩
instance tyStruct13 : TyStruct Try.prog 13 (fieldsOf Try.t13.desc) := ⟨Try.underlying13⟩
instance tySize14 : TySize Try.prog 14 2 := ⟨Try.sizeOf14⟩
instance tyAgg14 : TyAgg Try.prog 14 := ⟨Try.isAgg14⟩
instance tyElem14 : TyElem Try.prog 14 2 24 := ⟨Try.t14, _, info_of Try.type14, rfl, rfl, rfl, rfl⟩
instance tyInfo14 : TyInfo Try.prog 14 Try.t14 := ⟨info_of Try.type14⟩
instance tyZero14 : TyZero Try.prog 14 (Try.t14.zero.getD undef) := ⟨Try.zeroValue14⟩
instance tyField14_0 : TyField Try.prog 14 0 0 9 := ⟨_, _, Try.underlying14, rfl, rfl, rfl, fun w => ⟨0, Try.sizeOf9 w⟩⟩
instance tyField14_1 : TyField Try.prog 14 1 1 12 := ⟨_, _, Try.underlying14, rfl, rfl, rfl, fun w => ⟨0, Try.sizeOf12 w⟩⟩
instance tyStruct14 : TyStruct Try.prog 14 (fieldsOf Try.t13.desc) := ⟨Try.underlying14⟩
instance tySize15 : TySize Try.prog 15 1 := ⟨Try.sizeOf15⟩
instance tyOne15 : TyOne Try.prog 15 := ⟨Try.isAgg15, Try.sizeOf15⟩
instance tyElem15 : TyElem Try.prog 15 1 8 := ⟨Try.t15, _, info_of Try.type15, rfl, rfl, rfl, rfl⟩
instance tyInfo15 : TyInfo Try.prog 15 Try.t15 := ⟨info_of Try.type15⟩
instance tyZero15 : TyZero Try.prog 15 (Try.t15.zero.getD undef) := ⟨Try.zeroValue15⟩
instance tyPtr15 : TyPtr Try.prog 15 133 := ⟨Try.underlying15⟩
instance tySize16 : TySize Try.prog 16 1 := ⟨Try.sizeOf16⟩
instance tyOne16 : TyOne Try.prog 16 := ⟨Try.isAgg16, Try.sizeOf16⟩
instance tyElem16 : TyElem Try.prog 16 1 8 := ⟨Try.t16, _, info_of Try.type16, rfl, rfl, rfl, rfl⟩
instance tyInfo16 : TyInfo Try.prog 16 Try.t16 := ⟨info_of Try.type16⟩
instance tyZero16 : TyZero Try.prog 16 (Try.t16.zero.getD undef) := ⟨Try.zeroValue16⟩
instance tyPtr16 : TyPtr Try.prog 16 136 := ⟨Try.underlying16⟩
instance tySize17 : TySize Try.prog 17 1 := ⟨Try.sizeOf17⟩
instance tyOne17 : TyOne Try.prog 17 := ⟨Try.isAgg17, Try.sizeOf17⟩
instance tyElem17 : TyElem Try.prog 17 1 8 := ⟨Try.t17, _, info_of Try.type17, rfl, rfl, rfl, rfl⟩
instance tyInfo17 : TyInfo Try.prog 17 Try.t17 := ⟨info_of Try.type17⟩
instance tyZero17 : TyZero Try.prog 17 (Try.t17.zero.getD undef) := ⟨Try.zeroValue17⟩
instance tyPtr17 : TyPtr Try.prog 17 145 := ⟨Try.underlying17⟩
instance tySize18 : TySize Try.prog 18 1 := ⟨Try.sizeOf18⟩
instance tyAgg18 : TyAgg Try.prog 18 := ⟨Try.isAgg18⟩
instance tyElem18 : TyElem Try.prog 18 1 8 := ⟨Try.t18, _, info_of Try.type18, rfl, rfl, rfl, rfl⟩
instance tyInfo18 : TyInfo Try.prog 18 Try.t18 := ⟨info_of Try.type18⟩
instance tyZero18 : TyZero Try.prog 18 (Try.t18.zero.getD undef) := ⟨Try.zeroValue18⟩
instance tyField18_0 : TyField Try.prog 18 0 0 17 := ⟨_, _, Try.underlying18, rfl, rfl, rfl, fun w => ⟨0, Try.sizeOf17 w⟩⟩
instance tyStruct18 : TyStruct Try.prog 18 (fieldsOf Try.t18.desc) := ⟨Try.underlying18⟩
instance tySize19 : TySize Try.prog 19 1 := ⟨Try.sizeOf19⟩
instance tyAgg19 : TyAgg Try.prog 19 := ⟨Try.isAgg19⟩
instance tyElem19 : TyElem Try.prog 19 1 8 := ⟨Try.t19, _, info_of Try.type19, rfl, rfl, rfl, rfl⟩
instance tyInfo19 : TyInfo Try.prog 19 Try.t19 := ⟨info_of Try.type19⟩
instance tyZero19 : TyZero Try.prog 19 (Try.t19.zero.getD undef) := ⟨Try.zeroValue19⟩
instance tyField19_0 : TyField Try.prog 19 0 0 17 := ⟨_, _, Try.underlying19, rfl, rfl, rfl, fun w => ⟨0, Try.sizeOf17 w⟩⟩
instance tyStruct19 : TyStruct Try.prog 19 (fieldsOf Try.t18.desc) := ⟨Try.underlying19⟩
instance tySize20 : TySize Try.prog 20 1 := ⟨Try.sizeOf20⟩
instance tyOne20 : TyOne Try.prog 20 := ⟨Try.isAgg20, Try.sizeOf20⟩
instance tyElem20 : TyElem Try.prog 20 1 16 := ⟨Try.t20, _, info_of Try.type20, rfl, rfl, rfl, rfl⟩
instance tyInfo20 : TyInfo Try.prog 20 Try.t20 := ⟨info_of Try.type20⟩
instance tyZero20 : TyZero Try.prog 20 (Try.t20.zero.getD undef) := ⟨Try.zeroValue20⟩
instance tySize21 : TySize Try.prog 21 1 := ⟨Try.sizeOf21⟩
instance tyOne21 : TyOne Try.prog 21 := ⟨Try.isAgg21, Try.sizeOf21⟩
instance tyElem21 : TyElem Try.prog 21 1 4 := ⟨Try.t21, _, info_of Try.type21, rfl, rfl, rfl, rfl⟩
instance tyInfo21 : TyInfo Try.prog 21 Try.t21 := ⟨info_of Try.type21⟩
instance tyZero21 : TyZero Try.prog 21 (Try.t21.zero.getD undef) := ⟨Try.zeroValue21⟩
instance tyInt21 : TyInt Try.prog 21 .i32 := ⟨Try.underlying21⟩
instance tySize22 : TySize Try.prog 22 1 := ⟨Try.sizeOf22⟩
instance tyOne22 : TyOne Try.prog 22 := ⟨Try.isAgg22, Try.sizeOf22⟩
instance tyElem22 : TyElem Try.prog 22 1 24 := ⟨Try.t22, _, info_of Try.type22, rfl, rfl, rfl, rfl⟩
instance tyInfo22 : TyInfo Try.prog 22 Try.t22 := ⟨info_of Try.type22⟩
instance tyZero22 : TyZero Try.prog 22 (Try.t22.zero.getD undef) := ⟨Try.zeroValue22⟩
instance tySlice22 : TySlice Try.prog 22 33 := ⟨Try.underlying22⟩
instance tySize23 : TySize Try.prog 23 1 := ⟨Try.sizeOf23⟩
instance tyOne23 : TyOne Try.prog 23 := ⟨Try.isAgg23, Try.sizeOf23⟩
instance tyElem23 : TyElem Try.prog 23 1 24 := ⟨Try.t23, _, info_of Try.type23, rfl, rfl, rfl, rfl⟩
instance tyInfo23 : TyInfo Try.prog 23 Try.t23 := ⟨info_of Try.type23⟩
instance tyZero23 : TyZero Try.prog 23 (Try.t23.zero.getD undef) := ⟨Try.zeroValue23⟩
instance tySlice23 : TySlice Try.prog 23 45 := ⟨Try.underlying23⟩
instance tySize24 : TySize Try.prog 24 1 := ⟨Try.sizeOf24⟩
instance tyOne24 : TyOne Try.prog 24 := ⟨Try.isAgg24, Try.sizeOf24⟩
instance tyElem24 : TyElem Try.prog 24 1 8 := ⟨Try.t24, _, info_of Try.type24, rfl, rfl, rfl, rfl⟩
instance tyInfo24 : TyInfo Try.prog 24 Try.t24 := ⟨info_of Try.type24⟩
instance tyZero24 : TyZero Try.prog 24 (Try.t24.zero.getD undef) := ⟨Try.zeroValue24⟩
instance tyInt24 : TyInt Try.prog 24 .i64 := ⟨Try.underlying24⟩
instance tySize26 : TySize Try.prog 26 1 := ⟨Try.sizeOf26⟩
instance tyOne26 : TyOne Try.prog 26 := ⟨Try.isAgg26, Try.sizeOf26⟩
instance tyElem26 : TyElem Try.prog 26 1 8 := ⟨Try.t26, _, info_of Try.type26, rfl, rfl, rfl, rfl⟩
instance tyInfo26 : TyInfo Try.prog 26 Try.t26 := ⟨info_of Try.type26⟩
instance tyZero26 : TyZero Try.prog 26 (Try.t26.zero.getD undef) := ⟨Try.zeroValue26⟩
instance tySize27 : TySize Try.prog 27 1 := ⟨Try.sizeOf27⟩
instance tyOne27 : TyOne Try.prog 27 := ⟨Try.isAgg27, Try.sizeOf27⟩
instance tyElem27 : TyElem Try.prog 27 1 8 := ⟨Try.t27, _, info_of Try.type27, rfl, rfl, rfl, rfl⟩
instance tyInfo27 : TyInfo Try.prog 27 Try.t27 := ⟨info_of Try.type27⟩
instance tyZero27 : TyZero Try.prog 27 (Try.t27.zero.getD undef) := ⟨Try.zeroValue27⟩
instance tyPtr27 : TyPtr Try.prog 27 77 := ⟨Try.underlying27⟩
instance tySize28 : TySize Try.prog 28 1 := ⟨Try.sizeOf28⟩
instance tyOne28 : TyOne Try.prog 28 := ⟨Try.isAgg28, Try.sizeOf28⟩
instance tyElem28 : TyElem Try.prog 28 1 8 := ⟨Try.t28, _, info_of Try.type28, rfl, rfl, rfl, rfl⟩
instance tyInfo28 : TyInfo Try.prog 28 Try.t28 := ⟨info_of Try.type28⟩
instance tyZero28 : TyZero Try.prog 28 (Try.t28.zero.getD undef) := ⟨Try.zeroValue28⟩
instance tySize29 : TySize Try.prog 29 1 := ⟨Try.sizeOf29⟩
instance tyOne29 : TyOne Try.prog 29 := ⟨Try.isAgg29, Try.sizeOf29⟩
instance tyElem29 : TyElem Try.prog 29 1 8 := ⟨Try.t29, _, info_of Try.type29, rfl, rfl, rfl, rfl⟩
instance tyInfo29 : TyInfo Try.prog 29 Try.t29 := ⟨info_of Try.type29⟩
instance tyZero29 : TyZero Try.prog 29 (Try.t29.zero.getD undef) := ⟨Try.zeroValue29⟩
instance tyPtr29 : TyPtr Try.prog 29 98 := ⟨Try.underlying29⟩
instance tySize31 : TySize Try.prog 31 1 := ⟨Try.sizeOf31⟩
instance tyOne31 : TyOne Try.prog 31 := ⟨Try.isAgg31, Try.sizeOf31⟩
instance tyElem31 : TyElem Try.prog 31 1 8 := ⟨Try.t31, _, info_of Try.type31, rfl, rfl, rfl, rfl⟩
instance tyInfo31 : TyInfo Try.prog 31 Try.t31 := ⟨info_of Try.type31⟩
instance tyZero31 : TyZero Try.prog 31 (Try.t31.zero.getD undef) := ⟨Try.zeroValue31⟩
instance tySize32 : TySize Try.prog 32 2 := ⟨Try.sizeOf32⟩
instance tyAgg32 : TyAgg Try.prog 32 := ⟨Try.isAgg32⟩
instance tyElem32 : TyElem Try.prog 32 2 32 := ⟨Try.t32, _, info_of Try.type32, rfl, rfl, rfl, rfl⟩
instance tyInfo32 : TyInfo Try.prog 32 Try.t32 := ⟨info_of Try.type32⟩
instance tyZero32 : TyZero Try.prog 32 (Try.t32.zero.getD undef) := ⟨Try.zeroValue32⟩
instance tyField32_0 : TyField Try.prog 32 0 0 9 := ⟨_, _, Try.underlying32, rfl, rfl, rfl, fun w => ⟨0, Try.sizeOf9 w⟩⟩
instance tyField32_1 : TyField Try.prog 32 1 1 9 := ⟨_, _, Try.underlying32, rfl, rfl, rfl, fun w => ⟨0, Try.sizeOf9 w⟩⟩
instance tyStruct32 : TyStruct Try.prog 32 (fieldsOf Try.t32.desc) := ⟨Try.underlying32⟩
instance tySize33 : TySize Try.prog 33 2 := ⟨Try.sizeOf33⟩
instance tyAgg33 : TyAgg Try.prog 33 := ⟨Try.isAgg33⟩
instance tyElem33 : TyElem Try.prog 33 2 32 := ⟨Try.t33, _, info_of Try.type33, rfl, rfl, rfl, rfl⟩
instance tyInfo33 : TyInfo Try.prog 33 Try.t33 := ⟨info_of Try.type33⟩
instance tyZero33 : TyZero Try.prog 33 (Try.t33.zero.getD undef) := ⟨Try.zeroValue33⟩
instance tyFlat33 : TyFlat Try.prog 33 [9, 9] := ⟨_, Try.underlying33, Try.stoodInHeld33, Try.eqGuardType33, ⟨⟨by decide, rfl, Try.isAgg9, .inr (.inr Try.underlying9)⟩, ⟨⟨by decide, rfl, Try.isAgg9, .inr (.inr Try.underlying9)⟩, trivial⟩⟩, rfl⟩
instance tyField33_0 : TyField Try.prog 33 0 0 9 := ⟨_, _, Try.underlying33, rfl, rfl, rfl, fun w => ⟨0, Try.sizeOf9 w⟩⟩
instance tyField33_1 : TyField Try.prog 33 1 1 9 := ⟨_, _, Try.underlying33, rfl, rfl, rfl, fun w => ⟨0, Try.sizeOf9 w⟩⟩
instance tyStruct33 : TyStruct Try.prog 33 (fieldsOf Try.t32.desc) := ⟨Try.underlying33⟩
instance tySize34 : TySize Try.prog 34 1 := ⟨Try.sizeOf34⟩
instance tyOne34 : TyOne Try.prog 34 := ⟨Try.isAgg34, Try.sizeOf34⟩
instance tyElem34 : TyElem Try.prog 34 1 8 := ⟨Try.t34, _, info_of Try.type34, rfl, rfl, rfl, rfl⟩
instance tyInfo34 : TyInfo Try.prog 34 Try.t34 := ⟨info_of Try.type34⟩
instance tyZero34 : TyZero Try.prog 34 (Try.t34.zero.getD undef) := ⟨Try.zeroValue34⟩
instance tySize35 : TySize Try.prog 35 1 := ⟨Try.sizeOf35⟩
instance tyOne35 : TyOne Try.prog 35 := ⟨Try.isAgg35, Try.sizeOf35⟩
instance tyElem35 : TyElem Try.prog 35 1 8 := ⟨Try.t35, _, info_of Try.type35, rfl, rfl, rfl, rfl⟩
instance tyInfo35 : TyInfo Try.prog 35 Try.t35 := ⟨info_of Try.type35⟩
instance tyZero35 : TyZero Try.prog 35 (Try.t35.zero.getD undef) := ⟨Try.zeroValue35⟩
instance tySize36 : TySize Try.prog 36 1 := ⟨Try.sizeOf36⟩
instance tyOne36 : TyOne Try.prog 36 := ⟨Try.isAgg36, Try.sizeOf36⟩
instance tyElem36 : TyElem Try.prog 36 1 24 := ⟨Try.t36, _, info_of Try.type36, rfl, rfl, rfl, rfl⟩
instance tyInfo36 : TyInfo Try.prog 36 Try.t36 := ⟨info_of Try.type36⟩
instance tyZero36 : TyZero Try.prog 36 (Try.t36.zero.getD undef) := ⟨Try.zeroValue36⟩
instance tySlice36 : TySlice Try.prog 36 37 := ⟨Try.underlying36⟩
instance tySize37 : TySize Try.prog 37 1 := ⟨Try.sizeOf37⟩
instance tyOne37 : TyOne Try.prog 37 := ⟨Try.isAgg37, Try.sizeOf37⟩
instance tyElem37 : TyElem Try.prog 37 1 8 := ⟨Try.t37, _, info_of Try.type37, rfl, rfl, rfl, rfl⟩
instance tyInfo37 : TyInfo Try.prog 37 Try.t37 := ⟨info_of Try.type37⟩
instance tyZero37 : TyZero Try.prog 37 (Try.t37.zero.getD undef) := ⟨Try.zeroValue37⟩
instance tyPtr37 : TyPtr Try.prog 37 57 := ⟨Try.underlying37⟩
instance tySize38 : TySize Try.prog 38 1 := ⟨Try.sizeOf38⟩
instance tyOne38 : TyOne Try.prog 38 := ⟨Try.isAgg38, Try.sizeOf38⟩
instance tyElem38 : TyElem Try.prog 38 1 8 := ⟨Try.t38, _, info_of Try.type38, rfl, rfl, rfl, rfl⟩
instance tyInfo38 : TyInfo Try.prog 38 Try.t38 := ⟨info_of Try.type38⟩
instance tyZero38 : TyZero Try.prog 38 (Try.t38.zero.getD undef) := ⟨Try.zeroValue38⟩
instance tySize39 : TySize Try.prog 39 1 := ⟨Try.sizeOf39⟩
instance tyOne39 : TyOne Try.prog 39 := ⟨Try.isAgg39, Try.sizeOf39⟩
instance tyElem39 : TyElem Try.prog 39 1 24 := ⟨Try.t39, _, info_of Try.type39, rfl, rfl, rfl, rfl⟩
instance tyInfo39 : TyInfo Try.prog 39 Try.t39 := ⟨info_of Try.type39⟩
instance tyZero39 : TyZero Try.prog 39 (Try.t39.zero.getD undef) := ⟨Try.zeroValue39⟩
instance tySlice39 : TySlice Try.prog 39 3 := ⟨Try.underlying39⟩
instance tySize40 : TySize Try.prog 40 1 := ⟨Try.sizeOf40⟩
instance tyOne40 : TyOne Try.prog 40 := ⟨Try.isAgg40, Try.sizeOf40⟩
instance tyElem40 : TyElem Try.prog 40 1 24 := ⟨Try.t40, _, info_of Try.type40, rfl, rfl, rfl, rfl⟩
instance tyInfo40 : TyInfo Try.prog 40 Try.t40 := ⟨info_of Try.type40⟩
instance tyZero40 : TyZero Try.prog 40 (Try.t40.zero.getD undef) := ⟨Try.zeroValue40⟩
instance tySlice40 : TySlice Try.prog 40 43 := ⟨Try.underlying40⟩
instance tySize41 : TySize Try.prog 41 1 := ⟨Try.sizeOf41⟩
instance tyOne41 : TyOne Try.prog 41 := ⟨Try.isAgg41, Try.sizeOf41⟩
instance tyElem41 : TyElem Try.prog 41 1 24 := ⟨Try.t41, _, info_of Try.type41, rfl, rfl, rfl, rfl⟩
instance tyInfo41 : TyInfo Try.prog 41 Try.t41 := ⟨info_of Try.type41⟩
instance tyZero41 : TyZero Try.prog 41 (Try.t41.zero.getD undef) := ⟨Try.zeroValue41⟩
instance tySlice41 : TySlice Try.prog 41 53 := ⟨Try.underlying41⟩
instance tySize42 : TySize Try.prog 42 3 := ⟨Try.sizeOf42⟩
instance tyAgg42 : TyAgg Try.prog 42 := ⟨Try.isAgg42⟩
instance tyElem42 : TyElem Try.prog 42 3 40 := ⟨Try.t42, _, info_of Try.type42, rfl, rfl, rfl, rfl⟩
instance tyInfo42 : TyInfo Try.prog 42 Try.t42 := ⟨info_of Try.type42⟩
instance tyZero42 : TyZero Try.prog 42 (Try.t42.zero.getD undef) := ⟨Try.zeroValue42⟩
instance tyField42_0 : TyField Try.prog 42 0 0 3 := ⟨_, _, Try.underlying42, rfl, rfl, rfl, fun w => ⟨0, Try.sizeOf3 w⟩⟩
instance tyField42_1 : TyField Try.prog 42 1 1 9 := ⟨_, _, Try.underlying42, rfl, rfl, rfl, fun w => ⟨0, Try.sizeOf9 w⟩⟩
instance tyField42_2 : TyField Try.prog 42 2 2 9 := ⟨_, _, Try.underlying42, rfl, rfl, rfl, fun w => ⟨0, Try.sizeOf9 w⟩⟩
instance tyStruct42 : TyStruct Try.prog 42 (fieldsOf Try.t42.desc) := ⟨Try.underlying42⟩
instance tySize43 : TySize Try.prog 43 3 := ⟨Try.sizeOf43⟩
instance tyAgg43 : TyAgg Try.prog 43 := ⟨Try.isAgg43⟩
instance tyElem43 : TyElem Try.prog 43 3 40 := ⟨Try.t43, _, info_of Try.type43, rfl, rfl, rfl, rfl⟩
instance tyInfo43 : TyInfo Try.prog 43 Try.t43 := ⟨info_of Try.type43⟩
instance tyZero43 : TyZero Try.prog 43 (Try.t43.zero.getD undef) := ⟨Try.zeroValue43⟩
instance tyFlat43 : TyFlat Try.prog 43 [3, 9, 9] := ⟨_, Try.underlying43, Try.stoodInHeld43, Try.eqGuardType43, ⟨⟨by decide, rfl, Try.isAgg3, .inl ⟨_, Try.underlying3⟩⟩, ⟨⟨by decide, rfl, Try.isAgg9, .inr (.inr Try.underlying9)⟩, ⟨⟨by decide, rfl, Try.isAgg9, .inr (.inr Try.underlying9)⟩, trivial⟩⟩⟩, rfl⟩
instance tyField43_0 : TyField Try.prog 43 0 0 3 := ⟨_, _, Try.underlying43, rfl, rfl, rfl, fun w => ⟨0, Try.sizeOf3 w⟩⟩
instance tyField43_1 : TyField Try.prog 43 1 1 9 := ⟨_, _, Try.underlying43, rfl, rfl, rfl, fun w => ⟨0, Try.sizeOf9 w⟩⟩
instance tyField43_2 : TyField Try.prog 43 2 2 9 := ⟨_, _, Try.underlying43, rfl, rfl, rfl, fun w => ⟨0, Try.sizeOf9 w⟩⟩
instance tyStruct43 : TyStruct Try.prog 43 (fieldsOf Try.t42.desc) := ⟨Try.underlying43⟩
instance tySize44 : TySize Try.prog 44 4 := ⟨Try.sizeOf44⟩
instance tyAgg44 : TyAgg Try.prog 44 := ⟨Try.isAgg44⟩
instance tyElem44 : TyElem Try.prog 44 4 48 := ⟨Try.t44, _, info_of Try.type44, rfl, rfl, rfl, rfl⟩
instance tyInfo44 : TyInfo Try.prog 44 Try.t44 := ⟨info_of Try.type44⟩
instance tyZero44 : TyZero Try.prog 44 (Try.t44.zero.getD undef) := ⟨Try.zeroValue44⟩
instance tyField44_0 : TyField Try.prog 44 0 0 5 := ⟨_, _, Try.underlying44, rfl, rfl, rfl, fun w => ⟨0, Try.sizeOf5 w⟩⟩
instance tyField44_1 : TyField Try.prog 44 1 1 43 := ⟨_, _, Try.underlying44, rfl, rfl, rfl, fun w => ⟨2, Try.sizeOf43 w⟩⟩
instance tyStruct44 : TyStruct Try.prog 44 (fieldsOf Try.t44.desc) := ⟨Try.underlying44⟩
instance tySize45 : TySize Try.prog 45 4 := ⟨Try.sizeOf45⟩
instance tyAgg45 : TyAgg Try.prog 45 := ⟨Try.isAgg45⟩
instance tyElem45 : TyElem Try.prog 45 4 48 := ⟨Try.t45, _, info_of Try.type45, rfl, rfl, rfl, rfl⟩
instance tyInfo45 : TyInfo Try.prog 45 Try.t45 := ⟨info_of Try.type45⟩
instance tyZero45 : TyZero Try.prog 45 (Try.t45.zero.getD undef) := ⟨Try.zeroValue45⟩
instance tyField45_0 : TyField Try.prog 45 0 0 5 := ⟨_, _, Try.underlying45, rfl, rfl, rfl, fun w => ⟨0, Try.sizeOf5 w⟩⟩
instance tyField45_1 : TyField Try.prog 45 1 1 43 := ⟨_, _, Try.underlying45, rfl, rfl, rfl, fun w => ⟨2, Try.sizeOf43 w⟩⟩
instance tyStruct45 : TyStruct Try.prog 45 (fieldsOf Try.t44.desc) := ⟨Try.underlying45⟩
instance tySize46 : TySize Try.prog 46 1 := ⟨Try.sizeOf46⟩
instance tyOne46 : TyOne Try.prog 46 := ⟨Try.isAgg46, Try.sizeOf46⟩
instance tyElem46 : TyElem Try.prog 46 1 8 := ⟨Try.t46, _, info_of Try.type46, rfl, rfl, rfl, rfl⟩
instance tyInfo46 : TyInfo Try.prog 46 Try.t46 := ⟨info_of Try.type46⟩
instance tyZero46 : TyZero Try.prog 46 (Try.t46.zero.getD undef) := ⟨Try.zeroValue46⟩
instance tySize47 : TySize Try.prog 47 1 := ⟨Try.sizeOf47⟩
instance tyOne47 : TyOne Try.prog 47 := ⟨Try.isAgg47, Try.sizeOf47⟩
instance tyElem47 : TyElem Try.prog 47 1 8 := ⟨Try.t47, _, info_of Try.type47, rfl, rfl, rfl, rfl⟩
instance tyInfo47 : TyInfo Try.prog 47 Try.t47 := ⟨info_of Try.type47⟩
instance tyZero47 : TyZero Try.prog 47 (Try.t47.zero.getD undef) := ⟨Try.zeroValue47⟩
instance tySize48 : TySize Try.prog 48 4 := ⟨Try.sizeOf48⟩
instance tyAgg48 : TyAgg Try.prog 48 := ⟨Try.isAgg48⟩
instance tyElem48 : TyElem Try.prog 48 4 40 := ⟨Try.t48, _, info_of Try.type48, rfl, rfl, rfl, rfl⟩
instance tyInfo48 : TyInfo Try.prog 48 Try.t48 := ⟨info_of Try.type48⟩
instance tyZero48 : TyZero Try.prog 48 (Try.t48.zero.getD undef) := ⟨Try.zeroValue48⟩
instance tyField48_0 : TyField Try.prog 48 0 0 24 := ⟨_, _, Try.underlying48, rfl, rfl, rfl, fun w => ⟨0, Try.sizeOf24 w⟩⟩
instance tyField48_1 : TyField Try.prog 48 1 1 9 := ⟨_, _, Try.underlying48, rfl, rfl, rfl, fun w => ⟨0, Try.sizeOf9 w⟩⟩
instance tyField48_2 : TyField Try.prog 48 2 2 4 := ⟨_, _, Try.underlying48, rfl, rfl, rfl, fun w => ⟨0, Try.sizeOf4 w⟩⟩
instance tyField48_3 : TyField Try.prog 48 3 3 3 := ⟨_, _, Try.underlying48, rfl, rfl, rfl, fun w => ⟨0, Try.sizeOf3 w⟩⟩
instance tyStruct48 : TyStruct Try.prog 48 (fieldsOf Try.t48.desc) := ⟨Try.underlying48⟩
instance tySize49 : TySize Try.prog 49 4 := ⟨Try.sizeOf49⟩
instance tyAgg49 : TyAgg Try.prog 49 := ⟨Try.isAgg49⟩
instance tyElem49 : TyElem Try.prog 49 4 40 := ⟨Try.t49, _, info_of Try.type49, rfl, rfl, rfl, rfl⟩
instance tyInfo49 : TyInfo Try.prog 49 Try.t49 := ⟨info_of Try.type49⟩
instance tyZero49 : TyZero Try.prog 49 (Try.t49.zero.getD undef) := ⟨Try.zeroValue49⟩
instance tyFlat49 : TyFlat Try.prog 49 [24, 9, 4, 3] := ⟨_, Try.underlying49, Try.stoodInHeld49, Try.eqGuardType49, ⟨⟨by decide, rfl, Try.isAgg24, .inl ⟨_, Try.underlying24⟩⟩, ⟨⟨by decide, rfl, Try.isAgg9, .inr (.inr Try.underlying9)⟩, ⟨⟨by decide, rfl, Try.isAgg4, .inr (.inl Try.underlying4)⟩, ⟨⟨by decide, rfl, Try.isAgg3, .inl ⟨_, Try.underlying3⟩⟩, trivial⟩⟩⟩⟩, rfl⟩
instance tyField49_0 : TyField Try.prog 49 0 0 24 := ⟨_, _, Try.underlying49, rfl, rfl, rfl, fun w => ⟨0, Try.sizeOf24 w⟩⟩
instance tyField49_1 : TyField Try.prog 49 1 1 9 := ⟨_, _, Try.underlying49, rfl, rfl, rfl, fun w => ⟨0, Try.sizeOf9 w⟩⟩
instance tyField49_2 : TyField Try.prog 49 2 2 4 := ⟨_, _, Try.underlying49, rfl, rfl, rfl, fun w => ⟨0, Try.sizeOf4 w⟩⟩
instance tyField49_3 : TyField Try.prog 49 3 3 3 := ⟨_, _, Try.underlying49, rfl, rfl, rfl, fun w => ⟨0, Try.sizeOf3 w⟩⟩
instance tyStruct49 : TyStruct Try.prog 49 (fieldsOf Try.t48.desc) := ⟨Try.underlying49⟩
instance tySize51 : TySize Try.prog 51 1 := ⟨Try.sizeOf51⟩
instance tyOne51 : TyOne Try.prog 51 := ⟨Try.isAgg51, Try.sizeOf51⟩
instance tyElem51 : TyElem Try.prog 51 1 8 := ⟨Try.t51, _, info_of Try.type51, rfl, rfl, rfl, rfl⟩
instance tyInfo51 : TyInfo Try.prog 51 Try.t51 := ⟨info_of Try.type51⟩
instance tyZero51 : TyZero Try.prog 51 (Try.t51.zero.getD undef) := ⟨Try.zeroValue51⟩
instance tySize52 : TySize Try.prog 52 9 := ⟨Try.sizeOf52⟩
instance tyAgg52 : TyAgg Try.prog 52 := ⟨Try.isAgg52⟩
instance tyElem52 : TyElem Try.prog 52 9 96 := ⟨Try.t52, _, info_of Try.type52, rfl, rfl, rfl, rfl⟩
instance tyInfo52 : TyInfo Try.prog 52 Try.t52 := ⟨info_of Try.type52⟩
instance tyZero52 : TyZero Try.prog 52 (Try.t52.zero.getD undef) := ⟨Try.zeroValue52⟩
instance tyField52_0 : TyField Try.prog 52 0 0 43 := ⟨_, _, Try.underlying52, rfl, rfl, rfl, fun w => ⟨2, Try.sizeOf43 w⟩⟩
instance tyField52_1 : TyField Try.prog 52 1 3 49 := ⟨_, _, Try.underlying52, rfl, rfl, rfl, fun w => ⟨3, Try.sizeOf49 w⟩⟩
instance tyField52_2 : TyField Try.prog 52 2 7 3 := ⟨_, _, Try.underlying52, rfl, rfl, rfl, fun w => ⟨0, Try.sizeOf3 w⟩⟩
instance tyField52_3 : TyField Try.prog 52 3 8 3 := ⟨_, _, Try.underlying52, rfl, rfl, rfl, fun w => ⟨0, Try.sizeOf3 w⟩⟩
instance tyStruct52 : TyStruct Try.prog 52 (fieldsOf Try.t52.desc) := ⟨Try.underlying52⟩
instance tySize53 : TySize Try.prog 53 9 := ⟨Try.sizeOf53⟩
instance tyAgg53 : TyAgg Try.prog 53 := ⟨Try.isAgg53⟩
instance tyElem53 : TyElem Try.prog 53 9 96 := ⟨Try.t53, _, info_of Try.type53, rfl, rfl, rfl, rfl⟩
instance tyInfo53 : TyInfo Try.prog 53 Try.t53 := ⟨info_of Try.type53⟩
instance tyZero53 : TyZero Try.prog 53 (Try.t53.zero.getD undef) := ⟨Try.zeroValue53⟩
instance tyField53_0 : TyField Try.prog 53 0 0 43 := ⟨_, _, Try.underlying53, rfl, rfl, rfl, fun w => ⟨2, Try.sizeOf43 w⟩⟩
instance tyField53_1 : TyField Try.prog 53 1 3 49 := ⟨_, _, Try.underlying53, rfl, rfl, rfl, fun w => ⟨3, Try.sizeOf49 w⟩⟩
instance tyField53_2 : TyField Try.prog 53 2 7 3 := ⟨_, _, Try.underlying53, rfl, rfl, rfl, fun w => ⟨0, Try.sizeOf3 w⟩⟩
instance tyField53_3 : TyField Try.prog 53 3 8 3 := ⟨_, _, Try.underlying53, rfl, rfl, rfl, fun w => ⟨0, Try.sizeOf3 w⟩⟩
instance tyStruct53 : TyStruct Try.prog 53 (fieldsOf Try.t52.desc) := ⟨Try.underlying53⟩
instance tySize54 : TySize Try.prog 54 1 := ⟨Try.sizeOf54⟩
instance tyOne54 : TyOne Try.prog 54 := ⟨Try.isAgg54, Try.sizeOf54⟩
instance tyElem54 : TyElem Try.prog 54 1 8 := ⟨Try.t54, _, info_of Try.type54, rfl, rfl, rfl, rfl⟩
instance tyInfo54 : TyInfo Try.prog 54 Try.t54 := ⟨info_of Try.type54⟩
instance tyZero54 : TyZero Try.prog 54 (Try.t54.zero.getD undef) := ⟨Try.zeroValue54⟩
instance tySize55 : TySize Try.prog 55 1 := ⟨Try.sizeOf55⟩
instance tyOne55 : TyOne Try.prog 55 := ⟨Try.isAgg55, Try.sizeOf55⟩
instance tyElem55 : TyElem Try.prog 55 1 8 := ⟨Try.t55, _, info_of Try.type55, rfl, rfl, rfl, rfl⟩
instance tyInfo55 : TyInfo Try.prog 55 Try.t55 := ⟨info_of Try.type55⟩
instance tyZero55 : TyZero Try.prog 55 (Try.t55.zero.getD undef) := ⟨Try.zeroValue55⟩
instance tySize56 : TySize Try.prog 56 13 := ⟨Try.sizeOf56⟩
instance tyAgg56 : TyAgg Try.prog 56 := ⟨Try.isAgg56⟩
instance tyElem56 : TyElem Try.prog 56 13 128 := ⟨Try.t56, _, info_of Try.type56, rfl, rfl, rfl, rfl⟩
instance tyInfo56 : TyInfo Try.prog 56 Try.t56 := ⟨info_of Try.type56⟩
instance tyZero56 : TyZero Try.prog 56 (Try.t56.zero.getD undef) := ⟨Try.zeroValue56⟩
instance tyField56_0 : TyField Try.prog 56 0 0 27 := ⟨_, _, Try.underlying56, rfl, rfl, rfl, fun w => ⟨0, Try.sizeOf27 w⟩⟩
instance tyField56_1 : TyField Try.prog 56 1 1 43 := ⟨_, _, Try.underlying56, rfl, rfl, rfl, fun w => ⟨2, Try.sizeOf43 w⟩⟩
instance tyField56_2 : TyField Try.prog 56 2 4 3 := ⟨_, _, Try.underlying56, rfl, rfl, rfl, fun w => ⟨0, Try.sizeOf3 w⟩⟩
instance tyField56_3 : TyField Try.prog 56 3 5 3 := ⟨_, _, Try.underlying56, rfl, rfl, rfl, fun w => ⟨0, Try.sizeOf3 w⟩⟩
instance tyField56_4 : TyField Try.prog 56 4 6 29 := ⟨_, _, Try.underlying56, rfl, rfl, rfl, fun w => ⟨0, Try.sizeOf29 w⟩⟩
instance tyField56_5 : TyField Try.prog 56 5 7 29 := ⟨_, _, Try.underlying56, rfl, rfl, rfl, fun w => ⟨0, Try.sizeOf29 w⟩⟩
instance tyField56_6 : TyField Try.prog 56 6 8 3 := ⟨_, _, Try.underlying56, rfl, rfl, rfl, fun w => ⟨0, Try.sizeOf3 w⟩⟩
instance tyField56_7 : TyField Try.prog 56 7 9 49 := ⟨_, _, Try.underlying56, rfl, rfl, rfl, fun w => ⟨3, Try.sizeOf49 w⟩⟩
instance tyStruct56 : TyStruct Try.prog 56 (fieldsOf Try.t56.desc) := ⟨Try.underlying56⟩
instance tySize57 : TySize Try.prog 57 13 := ⟨Try.sizeOf57⟩
instance tyAgg57 : TyAgg Try.prog 57 := ⟨Try.isAgg57⟩
instance tyElem57 : TyElem Try.prog 57 13 128 := ⟨Try.t57, _, info_of Try.type57, rfl, rfl, rfl, rfl⟩
instance tyInfo57 : TyInfo Try.prog 57 Try.t57 := ⟨info_of Try.type57⟩
instance tyZero57 : TyZero Try.prog 57 (Try.t57.zero.getD undef) := ⟨Try.zeroValue57⟩
instance tyField57_0 : TyField Try.prog 57 0 0 27 := ⟨_, _, Try.underlying57, rfl, rfl, rfl, fun w => ⟨0, Try.sizeOf27 w⟩⟩
instance tyField57_1 : TyField Try.prog 57 1 1 43 := ⟨_, _, Try.underlying57, rfl, rfl, rfl, fun w => ⟨2, Try.sizeOf43 w⟩⟩
instance tyField57_2 : TyField Try.prog 57 2 4 3 := ⟨_, _, Try.underlying57, rfl, rfl, rfl, fun w => ⟨0, Try.sizeOf3 w⟩⟩
instance tyField57_3 : TyField Try.prog 57 3 5 3 := ⟨_, _, Try.underlying57, rfl, rfl, rfl, fun w => ⟨0, Try.sizeOf3 w⟩⟩
instance tyField57_4 : TyField Try.prog 57 4 6 29 := ⟨_, _, Try.underlying57, rfl, rfl, rfl, fun w => ⟨0, Try.sizeOf29 w⟩⟩
instance tyField57_5 : TyField Try.prog 57 5 7 29 := ⟨_, _, Try.underlying57, rfl, rfl, rfl, fun w => ⟨0, Try.sizeOf29 w⟩⟩
instance tyField57_6 : TyField Try.prog 57 6 8 3 := ⟨_, _, Try.underlying57, rfl, rfl, rfl, fun w => ⟨0, Try.sizeOf3 w⟩⟩
instance tyField57_7 : TyField Try.prog 57 7 9 49 := ⟨_, _, Try.underlying57, rfl, rfl, rfl, fun w => ⟨3, Try.sizeOf49 w⟩⟩
instance tyStruct57 : TyStruct Try.prog 57 (fieldsOf Try.t56.desc) := ⟨Try.underlying57⟩
instance tySize58 : TySize Try.prog 58 1 := ⟨Try.sizeOf58⟩
instance tyOne58 : TyOne Try.prog 58 := ⟨Try.isAgg58, Try.sizeOf58⟩
instance tyElem58 : TyElem Try.prog 58 1 8 := ⟨Try.t58, _, info_of Try.type58, rfl, rfl, rfl, rfl⟩
instance tyInfo58 : TyInfo Try.prog 58 Try.t58 := ⟨info_of Try.type58⟩
instance tyZero58 : TyZero Try.prog 58 (Try.t58.zero.getD undef) := ⟨Try.zeroValue58⟩
instance tySize59 : TySize Try.prog 59 1 := ⟨Try.sizeOf59⟩
instance tyOne59 : TyOne Try.prog 59 := ⟨Try.isAgg59, Try.sizeOf59⟩
instance tyElem59 : TyElem Try.prog 59 1 8 := ⟨Try.t59, _, info_of Try.type59, rfl, rfl, rfl, rfl⟩
instance tyInfo59 : TyInfo Try.prog 59 Try.t59 := ⟨info_of Try.type59⟩
instance tyZero59 : TyZero Try.prog 59 (Try.t59.zero.getD undef) := ⟨Try.zeroValue59⟩
instance tySize60 : TySize Try.prog 60 1 := ⟨Try.sizeOf60⟩
instance tyOne60 : TyOne Try.prog 60 := ⟨Try.isAgg60, Try.sizeOf60⟩
instance tyElem60 : TyElem Try.prog 60 1 8 := ⟨Try.t60, _, info_of Try.type60, rfl, rfl, rfl, rfl⟩
instance tyInfo60 : TyInfo Try.prog 60 Try.t60 := ⟨info_of Try.type60⟩
instance tyZero60 : TyZero Try.prog 60 (Try.t60.zero.getD undef) := ⟨Try.zeroValue60⟩
instance tySize61 : TySize Try.prog 61 1 := ⟨Try.sizeOf61⟩
instance tyOne61 : TyOne Try.prog 61 := ⟨Try.isAgg61, Try.sizeOf61⟩
instance tyElem61 : TyElem Try.prog 61 1 24 := ⟨Try.t61, _, info_of Try.type61, rfl, rfl, rfl, rfl⟩
instance tyInfo61 : TyInfo Try.prog 61 Try.t61 := ⟨info_of Try.type61⟩
instance tyZero61 : TyZero Try.prog 61 (Try.t61.zero.getD undef) := ⟨Try.zeroValue61⟩
instance tySlice61 : TySlice Try.prog 61 63 := ⟨Try.underlying61⟩
instance tySize62 : TySize Try.prog 62 1 := ⟨Try.sizeOf62⟩
instance tyOne62 : TyOne Try.prog 62 := ⟨Try.isAgg62, Try.sizeOf62⟩
instance tyElem62 : TyElem Try.prog 62 1 8 := ⟨Try.t62, _, info_of Try.type62, rfl, rfl, rfl, rfl⟩
instance tyInfo62 : TyInfo Try.prog 62 Try.t62 := ⟨info_of Try.type62⟩
instance tyZero62 : TyZero Try.prog 62 (Try.t62.zero.getD undef) := ⟨Try.zeroValue62⟩
instance tySize63 : TySize Try.prog 63 4 := ⟨Try.sizeOf63⟩
instance tyAgg63 : TyAgg Try.prog 63 := ⟨Try.isAgg63⟩
instance tyElem63 : TyElem Try.prog 63 4 48 := ⟨Try.t63, _, info_of Try.type63, rfl, rfl, rfl, rfl⟩
instance tyInfo63 : TyInfo Try.prog 63 Try.t63 := ⟨info_of Try.type63⟩
instance tyZero63 : TyZero Try.prog 63 (Try.t63.zero.getD undef) := ⟨Try.zeroValue63⟩
instance tyField63_0 : TyField Try.prog 63 0 0 5 := ⟨_, _, Try.underlying63, rfl, rfl, rfl, fun w => ⟨0, Try.sizeOf5 w⟩⟩
instance tyField63_1 : TyField Try.prog 63 1 1 43 := ⟨_, _, Try.underlying63, rfl, rfl, rfl, fun w => ⟨2, Try.sizeOf43 w⟩⟩
instance tyStruct63 : TyStruct Try.prog 63 (fieldsOf Try.t44.desc) := ⟨Try.underlying63⟩
instance tySize64 : TySize Try.prog 64 1 := ⟨Try.sizeOf64⟩
instance tyOne64 : TyOne Try.prog 64 := ⟨Try.isAgg64, Try.sizeOf64⟩
instance tyElem64 : TyElem Try.prog 64 1 24 := ⟨Try.t64, _, info_of Try.type64, rfl, rfl, rfl, rfl⟩
instance tyInfo64 : TyInfo Try.prog 64 Try.t64 := ⟨info_of Try.type64⟩
instance tyZero64 : TyZero Try.prog 64 (Try.t64.zero.getD undef) := ⟨Try.zeroValue64⟩
instance tySlice64 : TySlice Try.prog 64 67 := ⟨Try.underlying64⟩
instance tySize65 : TySize Try.prog 65 1 := ⟨Try.sizeOf65⟩
instance tyOne65 : TyOne Try.prog 65 := ⟨Try.isAgg65, Try.sizeOf65⟩
instance tyElem65 : TyElem Try.prog 65 1 24 := ⟨Try.t65, _, info_of Try.type65, rfl, rfl, rfl, rfl⟩
instance tyInfo65 : TyInfo Try.prog 65 Try.t65 := ⟨info_of Try.type65⟩
instance tyZero65 : TyZero Try.prog 65 (Try.t65.zero.getD undef) := ⟨Try.zeroValue65⟩
instance tySlice65 : TySlice Try.prog 65 22 := ⟨Try.underlying65⟩
instance tySize66 : TySize Try.prog 66 4 := ⟨Try.sizeOf66⟩
instance tyAgg66 : TyAgg Try.prog 66 := ⟨Try.isAgg66⟩
instance tyElem66 : TyElem Try.prog 66 4 64 := ⟨Try.t66, _, info_of Try.type66, rfl, rfl, rfl, rfl⟩
instance tyInfo66 : TyInfo Try.prog 66 Try.t66 := ⟨info_of Try.type66⟩
instance tyZero66 : TyZero Try.prog 66 (Try.t66.zero.getD undef) := ⟨Try.zeroValue66⟩
instance tyField66_0 : TyField Try.prog 66 0 0 43 := ⟨_, _, Try.underlying66, rfl, rfl, rfl, fun w => ⟨2, Try.sizeOf43 w⟩⟩
instance tyField66_1 : TyField Try.prog 66 1 3 65 := ⟨_, _, Try.underlying66, rfl, rfl, rfl, fun w => ⟨0, Try.sizeOf65 w⟩⟩
instance tyStruct66 : TyStruct Try.prog 66 (fieldsOf Try.t66.desc) := ⟨Try.underlying66⟩
instance tySize67 : TySize Try.prog 67 4 := ⟨Try.sizeOf67⟩
instance tyAgg67 : TyAgg Try.prog 67 := ⟨Try.isAgg67⟩
instance tyElem67 : TyElem Try.prog 67 4 64 := ⟨Try.t67, _, info_of Try.type67, rfl, rfl, rfl, rfl⟩
instance tyInfo67 : TyInfo Try.prog 67 Try.t67 := ⟨info_of Try.type67⟩
instance tyZero67 : TyZero Try.prog 67 (Try.t67.zero.getD undef) := ⟨Try.zeroValue67⟩
instance tyField67_0 : TyField Try.prog 67 0 0 43 := ⟨_, _, Try.underlying67, rfl, rfl, rfl, fun w => ⟨2, Try.sizeOf43 w⟩⟩
instance tyField67_1 : TyField Try.prog 67 1 3 65 := ⟨_, _, Try.underlying67, rfl, rfl, rfl, fun w => ⟨0, Try.sizeOf65 w⟩⟩
instance tyStruct67 : TyStruct Try.prog 67 (fieldsOf Try.t66.desc) := ⟨Try.underlying67⟩
instance tySize68 : TySize Try.prog 68 1 := ⟨Try.sizeOf68⟩
instance tyOne68 : TyOne Try.prog 68 := ⟨Try.isAgg68, Try.sizeOf68⟩
instance tyElem68 : TyElem Try.prog 68 1 8 := ⟨Try.t68, _, info_of Try.type68, rfl, rfl, rfl, rfl⟩
instance tyInfo68 : TyInfo Try.prog 68 Try.t68 := ⟨info_of Try.type68⟩
instance tyZero68 : TyZero Try.prog 68 (Try.t68.zero.getD undef) := ⟨Try.zeroValue68⟩
instance tySize69 : TySize Try.prog 69 1 := ⟨Try.sizeOf69⟩
instance tyOne69 : TyOne Try.prog 69 := ⟨Try.isAgg69, Try.sizeOf69⟩
instance tyElem69 : TyElem Try.prog 69 1 8 := ⟨Try.t69, _, info_of Try.type69, rfl, rfl, rfl, rfl⟩
instance tyInfo69 : TyInfo Try.prog 69 Try.t69 := ⟨info_of Try.type69⟩
instance tyZero69 : TyZero Try.prog 69 (Try.t69.zero.getD undef) := ⟨Try.zeroValue69⟩
instance tySize71 : TySize Try.prog 71 1 := ⟨Try.sizeOf71⟩
instance tyOne71 : TyOne Try.prog 71 := ⟨Try.isAgg71, Try.sizeOf71⟩
instance tyElem71 : TyElem Try.prog 71 1 8 := ⟨Try.t71, _, info_of Try.type71, rfl, rfl, rfl, rfl⟩
instance tyInfo71 : TyInfo Try.prog 71 Try.t71 := ⟨info_of Try.type71⟩
instance tyZero71 : TyZero Try.prog 71 (Try.t71.zero.getD undef) := ⟨Try.zeroValue71⟩
instance tySize72 : TySize Try.prog 72 1 := ⟨Try.sizeOf72⟩
instance tyOne72 : TyOne Try.prog 72 := ⟨Try.isAgg72, Try.sizeOf72⟩
instance tyElem72 : TyElem Try.prog 72 1 8 := ⟨Try.t72, _, info_of Try.type72, rfl, rfl, rfl, rfl⟩
instance tyInfo72 : TyInfo Try.prog 72 Try.t72 := ⟨info_of Try.type72⟩
instance tyZero72 : TyZero Try.prog 72 (Try.t72.zero.getD undef) := ⟨Try.zeroValue72⟩
instance tySize73 : TySize Try.prog 73 1 := ⟨Try.sizeOf73⟩
instance tyOne73 : TyOne Try.prog 73 := ⟨Try.isAgg73, Try.sizeOf73⟩
instance tyElem73 : TyElem Try.prog 73 1 8 := ⟨Try.t73, _, info_of Try.type73, rfl, rfl, rfl, rfl⟩
instance tyInfo73 : TyInfo Try.prog 73 Try.t73 := ⟨info_of Try.type73⟩
instance tyZero73 : TyZero Try.prog 73 (Try.t73.zero.getD undef) := ⟨Try.zeroValue73⟩
instance tySize74 : TySize Try.prog 74 1 := ⟨Try.sizeOf74⟩
instance tyOne74 : TyOne Try.prog 74 := ⟨Try.isAgg74, Try.sizeOf74⟩
instance tyElem74 : TyElem Try.prog 74 1 8 := ⟨Try.t74, _, info_of Try.type74, rfl, rfl, rfl, rfl⟩
instance tyInfo74 : TyInfo Try.prog 74 Try.t74 := ⟨info_of Try.type74⟩
instance tyZero74 : TyZero Try.prog 74 (Try.t74.zero.getD undef) := ⟨Try.zeroValue74⟩
instance tySize75 : TySize Try.prog 75 1 := ⟨Try.sizeOf75⟩
instance tyOne75 : TyOne Try.prog 75 := ⟨Try.isAgg75, Try.sizeOf75⟩
instance tyElem75 : TyElem Try.prog 75 1 24 := ⟨Try.t75, _, info_of Try.type75, rfl, rfl, rfl, rfl⟩
instance tyInfo75 : TyInfo Try.prog 75 Try.t75 := ⟨info_of Try.type75⟩
instance tyZero75 : TyZero Try.prog 75 (Try.t75.zero.getD undef) := ⟨Try.zeroValue75⟩
instance tySlice75 : TySlice Try.prog 75 29 := ⟨Try.underlying75⟩
instance tySize76 : TySize Try.prog 76 3 := ⟨Try.sizeOf76⟩
instance tyAgg76 : TyAgg Try.prog 76 := ⟨Try.isAgg76⟩
instance tyElem76 : TyElem Try.prog 76 3 40 := ⟨Try.t76, _, info_of Try.type76, rfl, rfl, rfl, rfl⟩
instance tyInfo76 : TyInfo Try.prog 76 Try.t76 := ⟨info_of Try.type76⟩
instance tyZero76 : TyZero Try.prog 76 (Try.t76.zero.getD undef) := ⟨Try.zeroValue76⟩
instance tyField76_0 : TyField Try.prog 76 0 0 75 := ⟨_, _, Try.underlying76, rfl, rfl, rfl, fun w => ⟨0, Try.sizeOf75 w⟩⟩
instance tyField76_1 : TyField Try.prog 76 1 1 3 := ⟨_, _, Try.underlying76, rfl, rfl, rfl, fun w => ⟨0, Try.sizeOf3 w⟩⟩
instance tyField76_2 : TyField Try.prog 76 2 2 3 := ⟨_, _, Try.underlying76, rfl, rfl, rfl, fun w => ⟨0, Try.sizeOf3 w⟩⟩
instance tyStruct76 : TyStruct Try.prog 76 (fieldsOf Try.t76.desc) := ⟨Try.underlying76⟩
instance tySize77 : TySize Try.prog 77 3 := ⟨Try.sizeOf77⟩
instance tyAgg77 : TyAgg Try.prog 77 := ⟨Try.isAgg77⟩
instance tyElem77 : TyElem Try.prog 77 3 40 := ⟨Try.t77, _, info_of Try.type77, rfl, rfl, rfl, rfl⟩
instance tyInfo77 : TyInfo Try.prog 77 Try.t77 := ⟨info_of Try.type77⟩
instance tyZero77 : TyZero Try.prog 77 (Try.t77.zero.getD undef) := ⟨Try.zeroValue77⟩
instance tyField77_0 : TyField Try.prog 77 0 0 75 := ⟨_, _, Try.underlying77, rfl, rfl, rfl, fun w => ⟨0, Try.sizeOf75 w⟩⟩
instance tyField77_1 : TyField Try.prog 77 1 1 3 := ⟨_, _, Try.underlying77, rfl, rfl, rfl, fun w => ⟨0, Try.sizeOf3 w⟩⟩
instance tyField77_2 : TyField Try.prog 77 2 2 3 := ⟨_, _, Try.underlying77, rfl, rfl, rfl, fun w => ⟨0, Try.sizeOf3 w⟩⟩
instance tyStruct77 : TyStruct Try.prog 77 (fieldsOf Try.t76.desc) := ⟨Try.underlying77⟩
instance tySize78 : TySize Try.prog 78 1 := ⟨Try.sizeOf78⟩
instance tyOne78 : TyOne Try.prog 78 := ⟨Try.isAgg78, Try.sizeOf78⟩
instance tyElem78 : TyElem Try.prog 78 1 8 := ⟨Try.t78, _, info_of Try.type78, rfl, rfl, rfl, rfl⟩
instance tyInfo78 : TyInfo Try.prog 78 Try.t78 := ⟨info_of Try.type78⟩
instance tyZero78 : TyZero Try.prog 78 (Try.t78.zero.getD undef) := ⟨Try.zeroValue78⟩
instance tySize80 : TySize Try.prog 80 1 := ⟨Try.sizeOf80⟩
instance tyOne80 : TyOne Try.prog 80 := ⟨Try.isAgg80, Try.sizeOf80⟩
instance tyElem80 : TyElem Try.prog 80 1 8 := ⟨Try.t80, _, info_of Try.type80, rfl, rfl, rfl, rfl⟩
instance tyInfo80 : TyInfo Try.prog 80 Try.t80 := ⟨info_of Try.type80⟩
instance tyZero80 : TyZero Try.prog 80 (Try.t80.zero.getD undef) := ⟨Try.zeroValue80⟩
instance tySize81 : TySize Try.prog 81 1 := ⟨Try.sizeOf81⟩
instance tyOne81 : TyOne Try.prog 81 := ⟨Try.isAgg81, Try.sizeOf81⟩
instance tyElem81 : TyElem Try.prog 81 1 8 := ⟨Try.t81, _, info_of Try.type81, rfl, rfl, rfl, rfl⟩
instance tyInfo81 : TyInfo Try.prog 81 Try.t81 := ⟨info_of Try.type81⟩
instance tyZero81 : TyZero Try.prog 81 (Try.t81.zero.getD undef) := ⟨Try.zeroValue81⟩
instance tySize82 : TySize Try.prog 82 1 := ⟨Try.sizeOf82⟩
instance tyOne82 : TyOne Try.prog 82 := ⟨Try.isAgg82, Try.sizeOf82⟩
instance tyElem82 : TyElem Try.prog 82 1 8 := ⟨Try.t82, _, info_of Try.type82, rfl, rfl, rfl, rfl⟩
instance tyInfo82 : TyInfo Try.prog 82 Try.t82 := ⟨info_of Try.type82⟩
instance tyZero82 : TyZero Try.prog 82 (Try.t82.zero.getD undef) := ⟨Try.zeroValue82⟩
instance tySize83 : TySize Try.prog 83 1 := ⟨Try.sizeOf83⟩
instance tyOne83 : TyOne Try.prog 83 := ⟨Try.isAgg83, Try.sizeOf83⟩
instance tyElem83 : TyElem Try.prog 83 1 8 := ⟨Try.t83, _, info_of Try.type83, rfl, rfl, rfl, rfl⟩
instance tyInfo83 : TyInfo Try.prog 83 Try.t83 := ⟨info_of Try.type83⟩
instance tyZero83 : TyZero Try.prog 83 (Try.t83.zero.getD undef) := ⟨Try.zeroValue83⟩
instance tySize84 : TySize Try.prog 84 1 := ⟨Try.sizeOf84⟩
instance tyOne84 : TyOne Try.prog 84 := ⟨Try.isAgg84, Try.sizeOf84⟩
instance tyElem84 : TyElem Try.prog 84 1 8 := ⟨Try.t84, _, info_of Try.type84, rfl, rfl, rfl, rfl⟩
instance tyInfo84 : TyInfo Try.prog 84 Try.t84 := ⟨info_of Try.type84⟩
instance tyZero84 : TyZero Try.prog 84 (Try.t84.zero.getD undef) := ⟨Try.zeroValue84⟩
instance tySize85 : TySize Try.prog 85 1 := ⟨Try.sizeOf85⟩
instance tyOne85 : TyOne Try.prog 85 := ⟨Try.isAgg85, Try.sizeOf85⟩
instance tyElem85 : TyElem Try.prog 85 1 8 := ⟨Try.t85, _, info_of Try.type85, rfl, rfl, rfl, rfl⟩
instance tyInfo85 : TyInfo Try.prog 85 Try.t85 := ⟨info_of Try.type85⟩
instance tyZero85 : TyZero Try.prog 85 (Try.t85.zero.getD undef) := ⟨Try.zeroValue85⟩
instance tySize86 : TySize Try.prog 86 1 := ⟨Try.sizeOf86⟩
instance tyOne86 : TyOne Try.prog 86 := ⟨Try.isAgg86, Try.sizeOf86⟩
instance tyElem86 : TyElem Try.prog 86 1 8 := ⟨Try.t86, _, info_of Try.type86, rfl, rfl, rfl, rfl⟩
instance tyInfo86 : TyInfo Try.prog 86 Try.t86 := ⟨info_of Try.type86⟩
instance tyZero86 : TyZero Try.prog 86 (Try.t86.zero.getD undef) := ⟨Try.zeroValue86⟩
instance tySize87 : TySize Try.prog 87 1 := ⟨Try.sizeOf87⟩
instance tyOne87 : TyOne Try.prog 87 := ⟨Try.isAgg87, Try.sizeOf87⟩
instance tyElem87 : TyElem Try.prog 87 1 8 := ⟨Try.t87, _, info_of Try.type87, rfl, rfl, rfl, rfl⟩
instance tyInfo87 : TyInfo Try.prog 87 Try.t87 := ⟨info_of Try.type87⟩
instance tyZero87 : TyZero Try.prog 87 (Try.t87.zero.getD undef) := ⟨Try.zeroValue87⟩
instance tySize89 : TySize Try.prog 89 1 := ⟨Try.sizeOf89⟩
instance tyOne89 : TyOne Try.prog 89 := ⟨Try.isAgg89, Try.sizeOf89⟩
instance tyElem89 : TyElem Try.prog 89 1 8 := ⟨Try.t89, _, info_of Try.type89, rfl, rfl, rfl, rfl⟩
instance tyInfo89 : TyInfo Try.prog 89 Try.t89 := ⟨info_of Try.type89⟩
instance tyZero89 : TyZero Try.prog 89 (Try.t89.zero.getD undef) := ⟨Try.zeroValue89⟩
instance tySize90 : TySize Try.prog 90 1 := ⟨Try.sizeOf90⟩
instance tyOne90 : TyOne Try.prog 90 := ⟨Try.isAgg90, Try.sizeOf90⟩
instance tyElem90 : TyElem Try.prog 90 1 8 := ⟨Try.t90, _, info_of Try.type90, rfl, rfl, rfl, rfl⟩
instance tyInfo90 : TyInfo Try.prog 90 Try.t90 := ⟨info_of Try.type90⟩
instance tyZero90 : TyZero Try.prog 90 (Try.t90.zero.getD undef) := ⟨Try.zeroValue90⟩
instance tySize91 : TySize Try.prog 91 1 := ⟨Try.sizeOf91⟩
instance tyOne91 : TyOne Try.prog 91 := ⟨Try.isAgg91, Try.sizeOf91⟩
instance tyElem91 : TyElem Try.prog 91 1 8 := ⟨Try.t91, _, info_of Try.type91, rfl, rfl, rfl, rfl⟩
instance tyInfo91 : TyInfo Try.prog 91 Try.t91 := ⟨info_of Try.type91⟩
instance tyZero91 : TyZero Try.prog 91 (Try.t91.zero.getD undef) := ⟨Try.zeroValue91⟩
instance tySize92 : TySize Try.prog 92 1 := ⟨Try.sizeOf92⟩
instance tyOne92 : TyOne Try.prog 92 := ⟨Try.isAgg92, Try.sizeOf92⟩
instance tyElem92 : TyElem Try.prog 92 1 8 := ⟨Try.t92, _, info_of Try.type92, rfl, rfl, rfl, rfl⟩
instance tyInfo92 : TyInfo Try.prog 92 Try.t92 := ⟨info_of Try.type92⟩
instance tyZero92 : TyZero Try.prog 92 (Try.t92.zero.getD undef) := ⟨Try.zeroValue92⟩
instance tySize93 : TySize Try.prog 93 1 := ⟨Try.sizeOf93⟩
instance tyOne93 : TyOne Try.prog 93 := ⟨Try.isAgg93, Try.sizeOf93⟩
instance tyElem93 : TyElem Try.prog 93 1 8 := ⟨Try.t93, _, info_of Try.type93, rfl, rfl, rfl, rfl⟩
instance tyInfo93 : TyInfo Try.prog 93 Try.t93 := ⟨info_of Try.type93⟩
instance tyZero93 : TyZero Try.prog 93 (Try.t93.zero.getD undef) := ⟨Try.zeroValue93⟩
instance tySize95 : TySize Try.prog 95 1 := ⟨Try.sizeOf95⟩
instance tyOne95 : TyOne Try.prog 95 := ⟨Try.isAgg95, Try.sizeOf95⟩
instance tyElem95 : TyElem Try.prog 95 1 8 := ⟨Try.t95, _, info_of Try.type95, rfl, rfl, rfl, rfl⟩
instance tyInfo95 : TyInfo Try.prog 95 Try.t95 := ⟨info_of Try.type95⟩
instance tyZero95 : TyZero Try.prog 95 (Try.t95.zero.getD undef) := ⟨Try.zeroValue95⟩
instance tySize96 : TySize Try.prog 96 1 := ⟨Try.sizeOf96⟩
instance tyOne96 : TyOne Try.prog 96 := ⟨Try.isAgg96, Try.sizeOf96⟩
instance tyElem96 : TyElem Try.prog 96 1 8 := ⟨Try.t96, _, info_of Try.type96, rfl, rfl, rfl, rfl⟩
instance tyInfo96 : TyInfo Try.prog 96 Try.t96 := ⟨info_of Try.type96⟩
instance tyZero96 : TyZero Try.prog 96 (Try.t96.zero.getD undef) := ⟨Try.zeroValue96⟩
instance tySize97 : TySize Try.prog 97 5 := ⟨Try.sizeOf97⟩
instance tyAgg97 : TyAgg Try.prog 97 := ⟨Try.isAgg97⟩
instance tyElem97 : TyElem Try.prog 97 5 88 := ⟨Try.t97, _, info_of Try.type97, rfl, rfl, rfl, rfl⟩
instance tyInfo97 : TyInfo Try.prog 97 Try.t97 := ⟨info_of Try.type97⟩
instance tyZero97 : TyZero Try.prog 97 (Try.t97.zero.getD undef) := ⟨Try.zeroValue97⟩
instance tyField97_0 : TyField Try.prog 97 0 0 22 := ⟨_, _, Try.underlying97, rfl, rfl, rfl, fun w => ⟨0, Try.sizeOf22 w⟩⟩
instance tyField97_1 : TyField Try.prog 97 1 1 75 := ⟨_, _, Try.underlying97, rfl, rfl, rfl, fun w => ⟨0, Try.sizeOf75 w⟩⟩
instance tyField97_2 : TyField Try.prog 97 2 2 3 := ⟨_, _, Try.underlying97, rfl, rfl, rfl, fun w => ⟨0, Try.sizeOf3 w⟩⟩
instance tyField97_3 : TyField Try.prog 97 3 3 9 := ⟨_, _, Try.underlying97, rfl, rfl, rfl, fun w => ⟨0, Try.sizeOf9 w⟩⟩
instance tyField97_4 : TyField Try.prog 97 4 4 9 := ⟨_, _, Try.underlying97, rfl, rfl, rfl, fun w => ⟨0, Try.sizeOf9 w⟩⟩
instance tyStruct97 : TyStruct Try.prog 97 (fieldsOf Try.t97.desc) := ⟨Try.underlying97⟩
instance tySize98 : TySize Try.prog 98 5 := ⟨Try.sizeOf98⟩
instance tyAgg98 : TyAgg Try.prog 98 := ⟨Try.isAgg98⟩
instance tyElem98 : TyElem Try.prog 98 5 88 := ⟨Try.t98, _, info_of Try.type98, rfl, rfl, rfl, rfl⟩
instance tyInfo98 : TyInfo Try.prog 98 Try.t98 := ⟨info_of Try.type98⟩
instance tyZero98 : TyZero Try.prog 98 (Try.t98.zero.getD undef) := ⟨Try.zeroValue98⟩
instance tyField98_0 : TyField Try.prog 98 0 0 22 := ⟨_, _, Try.underlying98, rfl, rfl, rfl, fun w => ⟨0, Try.sizeOf22 w⟩⟩
instance tyField98_1 : TyField Try.prog 98 1 1 75 := ⟨_, _, Try.underlying98, rfl, rfl, rfl, fun w => ⟨0, Try.sizeOf75 w⟩⟩
instance tyField98_2 : TyField Try.prog 98 2 2 3 := ⟨_, _, Try.underlying98, rfl, rfl, rfl, fun w => ⟨0, Try.sizeOf3 w⟩⟩
instance tyField98_3 : TyField Try.prog 98 3 3 9 := ⟨_, _, Try.underlying98, rfl, rfl, rfl, fun w => ⟨0, Try.sizeOf9 w⟩⟩
instance tyField98_4 : TyField Try.prog 98 4 4 9 := ⟨_, _, Try.underlying98, rfl, rfl, rfl, fun w => ⟨0, Try.sizeOf9 w⟩⟩
instance tyStruct98 : TyStruct Try.prog 98 (fieldsOf Try.t97.desc) := ⟨Try.underlying98⟩
instance tySize99 : TySize Try.prog 99 1 := ⟨Try.sizeOf99⟩
instance tyOne99 : TyOne Try.prog 99 := ⟨Try.isAgg99, Try.sizeOf99⟩
instance tyElem99 : TyElem Try.prog 99 1 8 := ⟨Try.t99, _, info_of Try.type99, rfl, rfl, rfl, rfl⟩
instance tyInfo99 : TyInfo Try.prog 99 Try.t99 := ⟨info_of Try.type99⟩
instance tyZero99 : TyZero Try.prog 99 (Try.t99.zero.getD undef) := ⟨Try.zeroValue99⟩
instance tySize100 : TySize Try.prog 100 1 := ⟨Try.sizeOf100⟩
instance tyOne100 : TyOne Try.prog 100 := ⟨Try.isAgg100, Try.sizeOf100⟩
instance tyElem100 : TyElem Try.prog 100 1 8 := ⟨Try.t100, _, info_of Try.type100, rfl, rfl, rfl, rfl⟩
instance tyInfo100 : TyInfo Try.prog 100 Try.t100 := ⟨info_of Try.type100⟩
instance tyZero100 : TyZero Try.prog 100 (Try.t100.zero.getD undef) := ⟨Try.zeroValue100⟩
instance tySize102 : TySize Try.prog 102 1 := ⟨Try.sizeOf102⟩
instance tyOne102 : TyOne Try.prog 102 := ⟨Try.isAgg102, Try.sizeOf102⟩
instance tyElem102 : TyElem Try.prog 102 1 8 := ⟨Try.t102, _, info_of Try.type102, rfl, rfl, rfl, rfl⟩
instance tyInfo102 : TyInfo Try.prog 102 Try.t102 := ⟨info_of Try.type102⟩
instance tyZero102 : TyZero Try.prog 102 (Try.t102.zero.getD undef) := ⟨Try.zeroValue102⟩
instance tySize103 : TySize Try.prog 103 1 := ⟨Try.sizeOf103⟩
instance tyOne103 : TyOne Try.prog 103 := ⟨Try.isAgg103, Try.sizeOf103⟩
instance tyElem103 : TyElem Try.prog 103 1 8 := ⟨Try.t103, _, info_of Try.type103, rfl, rfl, rfl, rfl⟩
instance tyInfo103 : TyInfo Try.prog 103 Try.t103 := ⟨info_of Try.type103⟩
instance tyZero103 : TyZero Try.prog 103 (Try.t103.zero.getD undef) := ⟨Try.zeroValue103⟩
instance tySize105 : TySize Try.prog 105 1 := ⟨Try.sizeOf105⟩
instance tyOne105 : TyOne Try.prog 105 := ⟨Try.isAgg105, Try.sizeOf105⟩
instance tyElem105 : TyElem Try.prog 105 1 8 := ⟨Try.t105, _, info_of Try.type105, rfl, rfl, rfl, rfl⟩
instance tyInfo105 : TyInfo Try.prog 105 Try.t105 := ⟨info_of Try.type105⟩
instance tyZero105 : TyZero Try.prog 105 (Try.t105.zero.getD undef) := ⟨Try.zeroValue105⟩
instance tySize106 : TySize Try.prog 106 1 := ⟨Try.sizeOf106⟩
instance tyOne106 : TyOne Try.prog 106 := ⟨Try.isAgg106, Try.sizeOf106⟩
instance tyElem106 : TyElem Try.prog 106 1 8 := ⟨Try.t106, _, info_of Try.type106, rfl, rfl, rfl, rfl⟩
instance tyInfo106 : TyInfo Try.prog 106 Try.t106 := ⟨info_of Try.type106⟩
instance tyZero106 : TyZero Try.prog 106 (Try.t106.zero.getD undef) := ⟨Try.zeroValue106⟩
instance tySize107 : TySize Try.prog 107 1 := ⟨Try.sizeOf107⟩
instance tyOne107 : TyOne Try.prog 107 := ⟨Try.isAgg107, Try.sizeOf107⟩
instance tyElem107 : TyElem Try.prog 107 1 8 := ⟨Try.t107, _, info_of Try.type107, rfl, rfl, rfl, rfl⟩
instance tyInfo107 : TyInfo Try.prog 107 Try.t107 := ⟨info_of Try.type107⟩
instance tyZero107 : TyZero Try.prog 107 (Try.t107.zero.getD undef) := ⟨Try.zeroValue107⟩
instance tySize108 : TySize Try.prog 108 1 := ⟨Try.sizeOf108⟩
instance tyOne108 : TyOne Try.prog 108 := ⟨Try.isAgg108, Try.sizeOf108⟩
instance tyElem108 : TyElem Try.prog 108 1 8 := ⟨Try.t108, _, info_of Try.type108, rfl, rfl, rfl, rfl⟩
instance tyInfo108 : TyInfo Try.prog 108 Try.t108 := ⟨info_of Try.type108⟩
instance tyZero108 : TyZero Try.prog 108 (Try.t108.zero.getD undef) := ⟨Try.zeroValue108⟩
instance tySize109 : TySize Try.prog 109 1 := ⟨Try.sizeOf109⟩
instance tyOne109 : TyOne Try.prog 109 := ⟨Try.isAgg109, Try.sizeOf109⟩
instance tyElem109 : TyElem Try.prog 109 1 8 := ⟨Try.t109, _, info_of Try.type109, rfl, rfl, rfl, rfl⟩
instance tyInfo109 : TyInfo Try.prog 109 Try.t109 := ⟨info_of Try.type109⟩
instance tyZero109 : TyZero Try.prog 109 (Try.t109.zero.getD undef) := ⟨Try.zeroValue109⟩
instance tySize111 : TySize Try.prog 111 1 := ⟨Try.sizeOf111⟩
instance tyOne111 : TyOne Try.prog 111 := ⟨Try.isAgg111, Try.sizeOf111⟩
instance tyElem111 : TyElem Try.prog 111 1 8 := ⟨Try.t111, _, info_of Try.type111, rfl, rfl, rfl, rfl⟩
instance tyInfo111 : TyInfo Try.prog 111 Try.t111 := ⟨info_of Try.type111⟩
instance tyZero111 : TyZero Try.prog 111 (Try.t111.zero.getD undef) := ⟨Try.zeroValue111⟩
instance tySize112 : TySize Try.prog 112 1 := ⟨Try.sizeOf112⟩
instance tyOne112 : TyOne Try.prog 112 := ⟨Try.isAgg112, Try.sizeOf112⟩
instance tyElem112 : TyElem Try.prog 112 1 24 := ⟨Try.t112, _, info_of Try.type112, rfl, rfl, rfl, rfl⟩
instance tyInfo112 : TyInfo Try.prog 112 Try.t112 := ⟨info_of Try.type112⟩
instance tyZero112 : TyZero Try.prog 112 (Try.t112.zero.getD undef) := ⟨Try.zeroValue112⟩
instance tySlice112 : TySlice Try.prog 112 41 := ⟨Try.underlying112⟩
instance tySize113 : TySize Try.prog 113 1 := ⟨Try.sizeOf113⟩
instance tyOne113 : TyOne Try.prog 113 := ⟨Try.isAgg113, Try.sizeOf113⟩
instance tyElem113 : TyElem Try.prog 113 1 8 := ⟨Try.t113, _, info_of Try.type113, rfl, rfl, rfl, rfl⟩
instance tyInfo113 : TyInfo Try.prog 113 Try.t113 := ⟨info_of Try.type113⟩
instance tyZero113 : TyZero Try.prog 113 (Try.t113.zero.getD undef) := ⟨Try.zeroValue113⟩
instance tySize114 : TySize Try.prog 114 1 := ⟨Try.sizeOf114⟩
instance tyOne114 : TyOne Try.prog 114 := ⟨Try.isAgg114, Try.sizeOf114⟩
instance tyElem114 : TyElem Try.prog 114 1 8 := ⟨Try.t114, _, info_of Try.type114, rfl, rfl, rfl, rfl⟩
instance tyInfo114 : TyInfo Try.prog 114 Try.t114 := ⟨info_of Try.type114⟩
instance tyZero114 : TyZero Try.prog 114 (Try.t114.zero.getD undef) := ⟨Try.zeroValue114⟩
instance tySize116 : TySize Try.prog 116 1 := ⟨Try.sizeOf116⟩
instance tyOne116 : TyOne Try.prog 116 := ⟨Try.isAgg116, Try.sizeOf116⟩
instance tyElem116 : TyElem Try.prog 116 1 8 := ⟨Try.t116, _, info_of Try.type116, rfl, rfl, rfl, rfl⟩
instance tyInfo116 : TyInfo Try.prog 116 Try.t116 := ⟨info_of Try.type116⟩
instance tyZero116 : TyZero Try.prog 116 (Try.t116.zero.getD undef) := ⟨Try.zeroValue116⟩
instance tySize117 : TySize Try.prog 117 1 := ⟨Try.sizeOf117⟩
instance tyOne117 : TyOne Try.prog 117 := ⟨Try.isAgg117, Try.sizeOf117⟩
instance tyElem117 : TyElem Try.prog 117 1 8 := ⟨Try.t117, _, info_of Try.type117, rfl, rfl, rfl, rfl⟩
instance tyInfo117 : TyInfo Try.prog 117 Try.t117 := ⟨info_of Try.type117⟩
instance tyZero117 : TyZero Try.prog 117 (Try.t117.zero.getD undef) := ⟨Try.zeroValue117⟩
instance tySize119 : TySize Try.prog 119 1 := ⟨Try.sizeOf119⟩
instance tyOne119 : TyOne Try.prog 119 := ⟨Try.isAgg119, Try.sizeOf119⟩
instance tyElem119 : TyElem Try.prog 119 1 8 := ⟨Try.t119, _, info_of Try.type119, rfl, rfl, rfl, rfl⟩
instance tyInfo119 : TyInfo Try.prog 119 Try.t119 := ⟨info_of Try.type119⟩
instance tyZero119 : TyZero Try.prog 119 (Try.t119.zero.getD undef) := ⟨Try.zeroValue119⟩
instance tySize120 : TySize Try.prog 120 1 := ⟨Try.sizeOf120⟩
instance tyOne120 : TyOne Try.prog 120 := ⟨Try.isAgg120, Try.sizeOf120⟩
instance tyElem120 : TyElem Try.prog 120 1 24 := ⟨Try.t120, _, info_of Try.type120, rfl, rfl, rfl, rfl⟩
instance tyInfo120 : TyInfo Try.prog 120 Try.t120 := ⟨info_of Try.type120⟩
instance tyZero120 : TyZero Try.prog 120 (Try.t120.zero.getD undef) := ⟨Try.zeroValue120⟩
instance tySlice120 : TySlice Try.prog 120 75 := ⟨Try.underlying120⟩
instance tySize121 : TySize Try.prog 121 1 := ⟨Try.sizeOf121⟩
instance tyOne121 : TyOne Try.prog 121 := ⟨Try.isAgg121, Try.sizeOf121⟩
instance tyElem121 : TyElem Try.prog 121 1 8 := ⟨Try.t121, _, info_of Try.type121, rfl, rfl, rfl, rfl⟩
instance tyInfo121 : TyInfo Try.prog 121 Try.t121 := ⟨info_of Try.type121⟩
instance tyZero121 : TyZero Try.prog 121 (Try.t121.zero.getD undef) := ⟨Try.zeroValue121⟩
instance tySize122 : TySize Try.prog 122 2 := ⟨Try.sizeOf122⟩
instance tyAgg122 : TyAgg Try.prog 122 := ⟨Try.isAgg122⟩
instance tyElem122 : TyElem Try.prog 122 2 48 := ⟨Try.t122, _, info_of Try.type122, rfl, rfl, rfl, rfl⟩
instance tyInfo122 : TyInfo Try.prog 122 Try.t122 := ⟨info_of Try.type122⟩
instance tyZero122 : TyZero Try.prog 122 (Try.t122.zero.getD undef) := ⟨Try.zeroValue122⟩
instance tyField122_0 : TyField Try.prog 122 0 0 22 := ⟨_, _, Try.underlying122, rfl, rfl, rfl, fun w => ⟨0, Try.sizeOf22 w⟩⟩
instance tyField122_1 : TyField Try.prog 122 1 1 75 := ⟨_, _, Try.underlying122, rfl, rfl, rfl, fun w => ⟨0, Try.sizeOf75 w⟩⟩
instance tyStruct122 : TyStruct Try.prog 122 (fieldsOf Try.t122.desc) := ⟨Try.underlying122⟩
instance tySize123 : TySize Try.prog 123 2 := ⟨Try.sizeOf123⟩
instance tyAgg123 : TyAgg Try.prog 123 := ⟨Try.isAgg123⟩
instance tyElem123 : TyElem Try.prog 123 2 48 := ⟨Try.t123, _, info_of Try.type123, rfl, rfl, rfl, rfl⟩
instance tyInfo123 : TyInfo Try.prog 123 Try.t123 := ⟨info_of Try.type123⟩
instance tyZero123 : TyZero Try.prog 123 (Try.t123.zero.getD undef) := ⟨Try.zeroValue123⟩
instance tyField123_0 : TyField Try.prog 123 0 0 22 := ⟨_, _, Try.underlying123, rfl, rfl, rfl, fun w => ⟨0, Try.sizeOf22 w⟩⟩
instance tyField123_1 : TyField Try.prog 123 1 1 75 := ⟨_, _, Try.underlying123, rfl, rfl, rfl, fun w => ⟨0, Try.sizeOf75 w⟩⟩
instance tyStruct123 : TyStruct Try.prog 123 (fieldsOf Try.t122.desc) := ⟨Try.underlying123⟩
instance tySize124 : TySize Try.prog 124 1 := ⟨Try.sizeOf124⟩
instance tyOne124 : TyOne Try.prog 124 := ⟨Try.isAgg124, Try.sizeOf124⟩
instance tyElem124 : TyElem Try.prog 124 1 8 := ⟨Try.t124, _, info_of Try.type124, rfl, rfl, rfl, rfl⟩
instance tyInfo124 : TyInfo Try.prog 124 Try.t124 := ⟨info_of Try.type124⟩
instance tyZero124 : TyZero Try.prog 124 (Try.t124.zero.getD undef) := ⟨Try.zeroValue124⟩
instance tySize125 : TySize Try.prog 125 1 := ⟨Try.sizeOf125⟩
instance tyOne125 : TyOne Try.prog 125 := ⟨Try.isAgg125, Try.sizeOf125⟩
instance tyElem125 : TyElem Try.prog 125 1 8 := ⟨Try.t125, _, info_of Try.type125, rfl, rfl, rfl, rfl⟩
instance tyInfo125 : TyInfo Try.prog 125 Try.t125 := ⟨info_of Try.type125⟩
instance tyZero125 : TyZero Try.prog 125 (Try.t125.zero.getD undef) := ⟨Try.zeroValue125⟩
instance tySize126 : TySize Try.prog 126 1 := ⟨Try.sizeOf126⟩
instance tyOne126 : TyOne Try.prog 126 := ⟨Try.isAgg126, Try.sizeOf126⟩
instance tyElem126 : TyElem Try.prog 126 1 8 := ⟨Try.t126, _, info_of Try.type126, rfl, rfl, rfl, rfl⟩
instance tyInfo126 : TyInfo Try.prog 126 Try.t126 := ⟨info_of Try.type126⟩
instance tyZero126 : TyZero Try.prog 126 (Try.t126.zero.getD undef) := ⟨Try.zeroValue126⟩
instance tySize127 : TySize Try.prog 127 1 := ⟨Try.sizeOf127⟩
instance tyOne127 : TyOne Try.prog 127 := ⟨Try.isAgg127, Try.sizeOf127⟩
instance tyElem127 : TyElem Try.prog 127 1 8 := ⟨Try.t127, _, info_of Try.type127, rfl, rfl, rfl, rfl⟩
instance tyInfo127 : TyInfo Try.prog 127 Try.t127 := ⟨info_of Try.type127⟩
instance tyZero127 : TyZero Try.prog 127 (Try.t127.zero.getD undef) := ⟨Try.zeroValue127⟩
instance tySize128 : TySize Try.prog 128 1 := ⟨Try.sizeOf128⟩
instance tyOne128 : TyOne Try.prog 128 := ⟨Try.isAgg128, Try.sizeOf128⟩
instance tyElem128 : TyElem Try.prog 128 1 8 := ⟨Try.t128, _, info_of Try.type128, rfl, rfl, rfl, rfl⟩
instance tyInfo128 : TyInfo Try.prog 128 Try.t128 := ⟨info_of Try.type128⟩
instance tyZero128 : TyZero Try.prog 128 (Try.t128.zero.getD undef) := ⟨Try.zeroValue128⟩
instance tySize129 : TySize Try.prog 129 1 := ⟨Try.sizeOf129⟩
instance tyOne129 : TyOne Try.prog 129 := ⟨Try.isAgg129, Try.sizeOf129⟩
instance tyElem129 : TyElem Try.prog 129 1 8 := ⟨Try.t129, _, info_of Try.type129, rfl, rfl, rfl, rfl⟩
instance tyInfo129 : TyInfo Try.prog 129 Try.t129 := ⟨info_of Try.type129⟩
instance tyZero129 : TyZero Try.prog 129 (Try.t129.zero.getD undef) := ⟨Try.zeroValue129⟩
instance tySize130 : TySize Try.prog 130 1 := ⟨Try.sizeOf130⟩
instance tyOne130 : TyOne Try.prog 130 := ⟨Try.isAgg130, Try.sizeOf130⟩
instance tyElem130 : TyElem Try.prog 130 1 8 := ⟨Try.t130, _, info_of Try.type130, rfl, rfl, rfl, rfl⟩
instance tyInfo130 : TyInfo Try.prog 130 Try.t130 := ⟨info_of Try.type130⟩
instance tyZero130 : TyZero Try.prog 130 (Try.t130.zero.getD undef) := ⟨Try.zeroValue130⟩
instance tySize131 : TySize Try.prog 131 1 := ⟨Try.sizeOf131⟩
instance tyOne131 : TyOne Try.prog 131 := ⟨Try.isAgg131, Try.sizeOf131⟩
instance tyElem131 : TyElem Try.prog 131 1 8 := ⟨Try.t131, _, info_of Try.type131, rfl, rfl, rfl, rfl⟩
instance tyInfo131 : TyInfo Try.prog 131 Try.t131 := ⟨info_of Try.type131⟩
instance tyZero131 : TyZero Try.prog 131 (Try.t131.zero.getD undef) := ⟨Try.zeroValue131⟩
instance tySize132 : TySize Try.prog 132 4 := ⟨Try.sizeOf132⟩
instance tyAgg132 : TyAgg Try.prog 132 := ⟨Try.isAgg132⟩
instance tyElem132 : TyElem Try.prog 132 4 40 := ⟨Try.t132, _, info_of Try.type132, rfl, rfl, rfl, rfl⟩
instance tyInfo132 : TyInfo Try.prog 132 Try.t132 := ⟨info_of Try.type132⟩
instance tyZero132 : TyZero Try.prog 132 (Try.t132.zero.getD undef) := ⟨Try.zeroValue132⟩
instance tyField132_0 : TyField Try.prog 132 0 0 17 := ⟨_, _, Try.underlying132, rfl, rfl, rfl, fun w => ⟨0, Try.sizeOf17 w⟩⟩
instance tyField132_1 : TyField Try.prog 132 1 1 17 := ⟨_, _, Try.underlying132, rfl, rfl, rfl, fun w => ⟨0, Try.sizeOf17 w⟩⟩
instance tyField132_2 : TyField Try.prog 132 2 2 17 := ⟨_, _, Try.underlying132, rfl, rfl, rfl, fun w => ⟨0, Try.sizeOf17 w⟩⟩
instance tyField132_3 : TyField Try.prog 132 3 3 9 := ⟨_, _, Try.underlying132, rfl, rfl, rfl, fun w => ⟨0, Try.sizeOf9 w⟩⟩
instance tyStruct132 : TyStruct Try.prog 132 (fieldsOf Try.t132.desc) := ⟨Try.underlying132⟩
instance tySize133 : TySize Try.prog 133 4 := ⟨Try.sizeOf133⟩
instance tyAgg133 : TyAgg Try.prog 133 := ⟨Try.isAgg133⟩
instance tyElem133 : TyElem Try.prog 133 4 40 := ⟨Try.t133, _, info_of Try.type133, rfl, rfl, rfl, rfl⟩
instance tyInfo133 : TyInfo Try.prog 133 Try.t133 := ⟨info_of Try.type133⟩
instance tyZero133 : TyZero Try.prog 133 (Try.t133.zero.getD undef) := ⟨Try.zeroValue133⟩
instance tyField133_0 : TyField Try.prog 133 0 0 17 := ⟨_, _, Try.underlying133, rfl, rfl, rfl, fun w => ⟨0, Try.sizeOf17 w⟩⟩
instance tyField133_1 : TyField Try.prog 133 1 1 17 := ⟨_, _, Try.underlying133, rfl, rfl, rfl, fun w => ⟨0, Try.sizeOf17 w⟩⟩
instance tyField133_2 : TyField Try.prog 133 2 2 17 := ⟨_, _, Try.underlying133, rfl, rfl, rfl, fun w => ⟨0, Try.sizeOf17 w⟩⟩
instance tyField133_3 : TyField Try.prog 133 3 3 9 := ⟨_, _, Try.underlying133, rfl, rfl, rfl, fun w => ⟨0, Try.sizeOf9 w⟩⟩
instance tyStruct133 : TyStruct Try.prog 133 (fieldsOf Try.t132.desc) := ⟨Try.underlying133⟩
instance tySize134 : TySize Try.prog 134 0 := ⟨Try.sizeOf134⟩
instance tyAgg134 : TyAgg Try.prog 134 := ⟨Try.isAgg134⟩
instance tyElem134 : TyElem Try.prog 134 0 0 := ⟨Try.t134, _, info_of Try.type134, rfl, rfl, rfl, rfl⟩
instance tyInfo134 : TyInfo Try.prog 134 Try.t134 := ⟨info_of Try.type134⟩
instance tyZero134 : TyZero Try.prog 134 (Try.t134.zero.getD undef) := ⟨Try.zeroValue134⟩
instance tySize135 : TySize Try.prog 135 0 := ⟨Try.sizeOf135⟩
instance tyAgg135 : TyAgg Try.prog 135 := ⟨Try.isAgg135⟩
instance tyElem135 : TyElem Try.prog 135 0 0 := ⟨Try.t135, _, info_of Try.type135, rfl, rfl, rfl, rfl⟩
instance tyInfo135 : TyInfo Try.prog 135 Try.t135 := ⟨info_of Try.type135⟩
instance tyZero135 : TyZero Try.prog 135 (Try.t135.zero.getD undef) := ⟨Try.zeroValue135⟩
instance tyStruct135 : TyStruct Try.prog 135 (fieldsOf Try.t135.desc) := ⟨Try.underlying135⟩
instance tySize136 : TySize Try.prog 136 0 := ⟨Try.sizeOf136⟩
instance tyAgg136 : TyAgg Try.prog 136 := ⟨Try.isAgg136⟩
instance tyElem136 : TyElem Try.prog 136 0 0 := ⟨Try.t136, _, info_of Try.type136, rfl, rfl, rfl, rfl⟩
instance tyInfo136 : TyInfo Try.prog 136 Try.t136 := ⟨info_of Try.type136⟩
instance tyZero136 : TyZero Try.prog 136 (Try.t136.zero.getD undef) := ⟨Try.zeroValue136⟩
instance tyStruct136 : TyStruct Try.prog 136 (fieldsOf Try.t135.desc) := ⟨Try.underlying136⟩
instance tySize137 : TySize Try.prog 137 1 := ⟨Try.sizeOf137⟩
instance tyOne137 : TyOne Try.prog 137 := ⟨Try.isAgg137, Try.sizeOf137⟩
instance tyElem137 : TyElem Try.prog 137 1 4 := ⟨Try.t137, _, info_of Try.type137, rfl, rfl, rfl, rfl⟩
instance tyInfo137 : TyInfo Try.prog 137 Try.t137 := ⟨info_of Try.type137⟩
instance tyZero137 : TyZero Try.prog 137 (Try.t137.zero.getD undef) := ⟨Try.zeroValue137⟩
instance tyInt137 : TyInt Try.prog 137 .u32 := ⟨Try.underlying137⟩
instance tySize138 : TySize Try.prog 138 1 := ⟨Try.sizeOf138⟩
instance tyOne138 : TyOne Try.prog 138 := ⟨Try.isAgg138, Try.sizeOf138⟩
instance tyElem138 : TyElem Try.prog 138 1 1 := ⟨Try.t138, _, info_of Try.type138, rfl, rfl, rfl, rfl⟩
instance tyInfo138 : TyInfo Try.prog 138 Try.t138 := ⟨info_of Try.type138⟩
instance tyZero138 : TyZero Try.prog 138 (Try.t138.zero.getD undef) := ⟨Try.zeroValue138⟩
instance tyInt138 : TyInt Try.prog 138 .u8 := ⟨Try.underlying138⟩
instance tySize139 : TySize Try.prog 139 1 := ⟨Try.sizeOf139⟩
instance tyOne139 : TyOne Try.prog 139 := ⟨Try.isAgg139, Try.sizeOf139⟩
instance tyElem139 : TyElem Try.prog 139 1 1 := ⟨Try.t139, _, info_of Try.type139, rfl, rfl, rfl, rfl⟩
instance tyInfo139 : TyInfo Try.prog 139 Try.t139 := ⟨info_of Try.type139⟩
instance tyZero139 : TyZero Try.prog 139 (Try.t139.zero.getD undef) := ⟨Try.zeroValue139⟩
instance tyInt139 : TyInt Try.prog 139 .u8 := ⟨Try.underlying139⟩
instance tySize140 : TySize Try.prog 140 1 := ⟨Try.sizeOf140⟩
instance tyOne140 : TyOne Try.prog 140 := ⟨Try.isAgg140, Try.sizeOf140⟩
instance tyElem140 : TyElem Try.prog 140 1 8 := ⟨Try.t140, _, info_of Try.type140, rfl, rfl, rfl, rfl⟩
instance tyInfo140 : TyInfo Try.prog 140 Try.t140 := ⟨info_of Try.type140⟩
instance tyZero140 : TyZero Try.prog 140 (Try.t140.zero.getD undef) := ⟨Try.zeroValue140⟩
instance tySize141 : TySize Try.prog 141 1 := ⟨Try.sizeOf141⟩
instance tyOne141 : TyOne Try.prog 141 := ⟨Try.isAgg141, Try.sizeOf141⟩
instance tyElem141 : TyElem Try.prog 141 1 8 := ⟨Try.t141, _, info_of Try.type141, rfl, rfl, rfl, rfl⟩
instance tyInfo141 : TyInfo Try.prog 141 Try.t141 := ⟨info_of Try.type141⟩
instance tyZero141 : TyZero Try.prog 141 (Try.t141.zero.getD undef) := ⟨Try.zeroValue141⟩
instance tyPtr141 : TyPtr Try.prog 141 5 := ⟨Try.underlying141⟩
instance tySize142 : TySize Try.prog 142 1 := ⟨Try.sizeOf142⟩
instance tyOne142 : TyOne Try.prog 142 := ⟨Try.isAgg142, Try.sizeOf142⟩
instance tyElem142 : TyElem Try.prog 142 1 4 := ⟨Try.t142, _, info_of Try.type142, rfl, rfl, rfl, rfl⟩
instance tyInfo142 : TyInfo Try.prog 142 Try.t142 := ⟨info_of Try.type142⟩
instance tyZero142 : TyZero Try.prog 142 (Try.t142.zero.getD undef) := ⟨Try.zeroValue142⟩
instance tyInt142 : TyInt Try.prog 142 .i32 := ⟨Try.underlying142⟩
instance tySize143 : TySize Try.prog 143 1 := ⟨Try.sizeOf143⟩
instance tyOne143 : TyOne Try.prog 143 := ⟨Try.isAgg143, Try.sizeOf143⟩
instance tyElem143 : TyElem Try.prog 143 1 4 := ⟨Try.t143, _, info_of Try.type143, rfl, rfl, rfl, rfl⟩
instance tyInfo143 : TyInfo Try.prog 143 Try.t143 := ⟨info_of Try.type143⟩
instance tyZero143 : TyZero Try.prog 143 (Try.t143.zero.getD undef) := ⟨Try.zeroValue143⟩
instance tyInt143 : TyInt Try.prog 143 .i32 := ⟨Try.underlying143⟩
instance tySize144 : TySize Try.prog 144 11 := ⟨Try.sizeOf144⟩
instance tyAgg144 : TyAgg Try.prog 144 := ⟨Try.isAgg144⟩
instance tyElem144 : TyElem Try.prog 144 11 48 := ⟨Try.t144, _, info_of Try.type144, rfl, rfl, rfl, rfl⟩
instance tyInfo144 : TyInfo Try.prog 144 Try.t144 := ⟨info_of Try.type144⟩
instance tyZero144 : TyZero Try.prog 144 (Try.t144.zero.getD undef) := ⟨Try.zeroValue144⟩
instance tyField144_0 : TyField Try.prog 144 0 0 12 := ⟨_, _, Try.underlying144, rfl, rfl, rfl, fun w => ⟨0, Try.sizeOf12 w⟩⟩
instance tyField144_1 : TyField Try.prog 144 1 1 12 := ⟨_, _, Try.underlying144, rfl, rfl, rfl, fun w => ⟨0, Try.sizeOf12 w⟩⟩
instance tyField144_2 : TyField Try.prog 144 2 2 137 := ⟨_, _, Try.underlying144, rfl, rfl, rfl, fun w => ⟨0, Try.sizeOf137 w⟩⟩
instance tyField144_3 : TyField Try.prog 144 3 3 138 := ⟨_, _, Try.underlying144, rfl, rfl, rfl, fun w => ⟨0, Try.sizeOf138 w⟩⟩
instance tyField144_4 : TyField Try.prog 144 4 4 5 := ⟨_, _, Try.underlying144, rfl, rfl, rfl, fun w => ⟨0, Try.sizeOf5 w⟩⟩
instance tyField144_5 : TyField Try.prog 144 5 5 5 := ⟨_, _, Try.underlying144, rfl, rfl, rfl, fun w => ⟨0, Try.sizeOf5 w⟩⟩
instance tyField144_6 : TyField Try.prog 144 6 6 139 := ⟨_, _, Try.underlying144, rfl, rfl, rfl, fun w => ⟨0, Try.sizeOf139 w⟩⟩
instance tyField144_7 : TyField Try.prog 144 7 7 140 := ⟨_, _, Try.underlying144, rfl, rfl, rfl, fun w => ⟨0, Try.sizeOf140 w⟩⟩
instance tyField144_8 : TyField Try.prog 144 8 8 141 := ⟨_, _, Try.underlying144, rfl, rfl, rfl, fun w => ⟨0, Try.sizeOf141 w⟩⟩
instance tyField144_9 : TyField Try.prog 144 9 9 142 := ⟨_, _, Try.underlying144, rfl, rfl, rfl, fun w => ⟨0, Try.sizeOf142 w⟩⟩
instance tyField144_10 : TyField Try.prog 144 10 10 143 := ⟨_, _, Try.underlying144, rfl, rfl, rfl, fun w => ⟨0, Try.sizeOf143 w⟩⟩
instance tyStruct144 : TyStruct Try.prog 144 (fieldsOf Try.t144.desc) := ⟨Try.underlying144⟩
instance tySize145 : TySize Try.prog 145 11 := ⟨Try.sizeOf145⟩
instance tyAgg145 : TyAgg Try.prog 145 := ⟨Try.isAgg145⟩
instance tyElem145 : TyElem Try.prog 145 11 48 := ⟨Try.t145, _, info_of Try.type145, rfl, rfl, rfl, rfl⟩
instance tyInfo145 : TyInfo Try.prog 145 Try.t145 := ⟨info_of Try.type145⟩
instance tyZero145 : TyZero Try.prog 145 (Try.t145.zero.getD undef) := ⟨Try.zeroValue145⟩
instance tyField145_0 : TyField Try.prog 145 0 0 12 := ⟨_, _, Try.underlying145, rfl, rfl, rfl, fun w => ⟨0, Try.sizeOf12 w⟩⟩
instance tyField145_1 : TyField Try.prog 145 1 1 12 := ⟨_, _, Try.underlying145, rfl, rfl, rfl, fun w => ⟨0, Try.sizeOf12 w⟩⟩
instance tyField145_2 : TyField Try.prog 145 2 2 137 := ⟨_, _, Try.underlying145, rfl, rfl, rfl, fun w => ⟨0, Try.sizeOf137 w⟩⟩
instance tyField145_3 : TyField Try.prog 145 3 3 138 := ⟨_, _, Try.underlying145, rfl, rfl, rfl, fun w => ⟨0, Try.sizeOf138 w⟩⟩
instance tyField145_4 : TyField Try.prog 145 4 4 5 := ⟨_, _, Try.underlying145, rfl, rfl, rfl, fun w => ⟨0, Try.sizeOf5 w⟩⟩
instance tyField145_5 : TyField Try.prog 145 5 5 5 := ⟨_, _, Try.underlying145, rfl, rfl, rfl, fun w => ⟨0, Try.sizeOf5 w⟩⟩
instance tyField145_6 : TyField Try.prog 145 6 6 139 := ⟨_, _, Try.underlying145, rfl, rfl, rfl, fun w => ⟨0, Try.sizeOf139 w⟩⟩
instance tyField145_7 : TyField Try.prog 145 7 7 140 := ⟨_, _, Try.underlying145, rfl, rfl, rfl, fun w => ⟨0, Try.sizeOf140 w⟩⟩
instance tyField145_8 : TyField Try.prog 145 8 8 141 := ⟨_, _, Try.underlying145, rfl, rfl, rfl, fun w => ⟨0, Try.sizeOf141 w⟩⟩
instance tyField145_9 : TyField Try.prog 145 9 9 142 := ⟨_, _, Try.underlying145, rfl, rfl, rfl, fun w => ⟨0, Try.sizeOf142 w⟩⟩
instance tyField145_10 : TyField Try.prog 145 10 10 143 := ⟨_, _, Try.underlying145, rfl, rfl, rfl, fun w => ⟨0, Try.sizeOf143 w⟩⟩
instance tyStruct145 : TyStruct Try.prog 145 (fieldsOf Try.t144.desc) := ⟨Try.underlying145⟩
instance tySize146 : TySize Try.prog 146 1 := ⟨Try.sizeOf146⟩
instance tyOne146 : TyOne Try.prog 146 := ⟨Try.isAgg146, Try.sizeOf146⟩
instance tyElem146 : TyElem Try.prog 146 1 8 := ⟨Try.t146, _, info_of Try.type146, rfl, rfl, rfl, rfl⟩
instance tyInfo146 : TyInfo Try.prog 146 Try.t146 := ⟨info_of Try.type146⟩
instance tyZero146 : TyZero Try.prog 146 (Try.t146.zero.getD undef) := ⟨Try.zeroValue146⟩
instance fnCall3 : FnCall Try.prog 3 := ⟨Try.call3⟩
instance fnCall4 : FnCall Try.prog 4 := ⟨Try.call4⟩
instance fnCall5 : FnCall Try.prog 5 := ⟨Try.call5⟩
instance fnCall6 : FnCall Try.prog 6 := ⟨Try.call6⟩
instance fnCall7 : FnCall Try.prog 7 := ⟨Try.call7⟩
instance fnCall8 : FnCall Try.prog 8 := ⟨Try.call8⟩
instance fnCall9 : FnCall Try.prog 9 := ⟨Try.call9⟩
instance fnCall10 : FnCall Try.prog 10 := ⟨Try.call10⟩
instance fnCall11 : FnCall Try.prog 11 := ⟨Try.call11⟩
instance fnCall12 : FnCall Try.prog 12 := ⟨Try.call12⟩
instance fnCall13 : FnCall Try.prog 13 := ⟨Try.call13⟩
instance fnCall14 : FnCall Try.prog 14 := ⟨Try.call14⟩
instance fnCall15 : FnCall Try.prog 15 := ⟨Try.call15⟩
instance fnCall16 : FnCall Try.prog 16 := ⟨Try.call16⟩
instance fnCall17 : FnCall Try.prog 17 := ⟨Try.call17⟩
instance fnCall18 : FnCall Try.prog 18 := ⟨Try.call18⟩
instance fnCall19 : FnCall Try.prog 19 := ⟨Try.call19⟩
instance fnCall20 : FnCall Try.prog 20 := ⟨Try.call20⟩
instance fnCall21 : FnCall Try.prog 21 := ⟨Try.call21⟩
instance fnCall22 : FnCall Try.prog 22 := ⟨Try.call22⟩
instance fnCall23 : FnCall Try.prog 23 := ⟨Try.call23⟩
instance fnCall24 : FnCall Try.prog 24 := ⟨Try.call24⟩
instance fnCall25 : FnCall Try.prog 25 := ⟨Try.call25⟩
instance fnCall26 : FnCall Try.prog 26 := ⟨Try.call26⟩
instance fnCall27 : FnCall Try.prog 27 := ⟨Try.call27⟩
instance fnCall28 : FnCall Try.prog 28 := ⟨Try.call28⟩
instance fnCall29 : FnCall Try.prog 29 := ⟨Try.call29⟩
instance fnCall30 : FnCall Try.prog 30 := ⟨Try.call30⟩
instance fnCall31 : FnCall Try.prog 31 := ⟨Try.call31⟩
instance fnCall32 : FnCall Try.prog 32 := ⟨Try.call32⟩
instance fnCall33 : FnCall Try.prog 33 := ⟨Try.call33⟩
instance fnCall34 : FnCall Try.prog 34 := ⟨Try.call34⟩
instance fnCall35 : FnCall Try.prog 35 := ⟨Try.call35⟩
instance fnCall36 : FnCall Try.prog 36 := ⟨Try.call36⟩
instance fnCall37 : FnCall Try.prog 37 := ⟨Try.call37⟩
instance fnCall38 : FnCall Try.prog 38 := ⟨Try.call38⟩
instance fnCall39 : FnCall Try.prog 39 := ⟨Try.call39⟩
instance fnCall40 : FnCall Try.prog 40 := ⟨Try.call40⟩
instance fnCall41 : FnCall Try.prog 41 := ⟨Try.call41⟩
instance fnCall42 : FnCall Try.prog 42 := ⟨Try.call42⟩
instance fnCall43 : FnCall Try.prog 43 := ⟨Try.call43⟩
instance fnCall44 : FnCall Try.prog 44 := ⟨Try.call44⟩
instance fnCall45 : FnCall Try.prog 45 := ⟨Try.call45⟩
instance fnCall46 : FnCall Try.prog 46 := ⟨Try.call46⟩
instance fnCall47 : FnCall Try.prog 47 := ⟨Try.call47⟩
instance fnCall48 : FnCall Try.prog 48 := ⟨Try.call48⟩
instance fnCall49 : FnCall Try.prog 49 := ⟨Try.call49⟩
instance fnCall50 : FnCall Try.prog 50 := ⟨Try.call50⟩
instance fnCall51 : FnCall Try.prog 51 := ⟨Try.call51⟩
instance fnCall52 : FnCall Try.prog 52 := ⟨Try.call52⟩
instance fnCall53 : FnCall Try.prog 53 := ⟨Try.call53⟩
instance fnCall54 : FnCall Try.prog 54 := ⟨Try.call54⟩
instance fnCall55 : FnCall Try.prog 55 := ⟨Try.call55⟩
instance fnCall56 : FnCall Try.prog 56 := ⟨Try.call56⟩
instance fnCall57 : FnCall Try.prog 57 := ⟨Try.call57⟩
instance fnCall58 : FnCall Try.prog 58 := ⟨Try.call58⟩
instance fnCall59 : FnCall Try.prog 59 := ⟨Try.call59⟩
instance fnCall60 : FnCall Try.prog 60 := ⟨Try.call60⟩
instance fnCall61 : FnCall Try.prog 61 := ⟨Try.call61⟩
instance fnCall62 : FnCall Try.prog 62 := ⟨Try.call62⟩
instance fnCall63 : FnCall Try.prog 63 := ⟨Try.call63⟩
instance fnCall64 : FnCall Try.prog 64 := ⟨Try.call64⟩
instance fnCall65 : FnCall Try.prog 65 := ⟨Try.call65⟩
instance fnCall66 : FnCall Try.prog 66 := ⟨Try.call66⟩
instance fnCall67 : FnCall Try.prog 67 := ⟨Try.call67⟩
instance fnCall68 : FnCall Try.prog 68 := ⟨Try.call68⟩
instance fnCall69 : FnCall Try.prog 69 := ⟨Try.call69⟩
instance fnCall70 : FnCall Try.prog 70 := ⟨Try.call70⟩
instance fnCall71 : FnCall Try.prog 71 := ⟨Try.call71⟩
instance fnCall72 : FnCall Try.prog 72 := ⟨Try.call72⟩
instance fnCall73 : FnCall Try.prog 73 := ⟨Try.call73⟩
instance fnCall74 : FnCall Try.prog 74 := ⟨Try.call74⟩
instance fnCall75 : FnCall Try.prog 75 := ⟨Try.call75⟩
instance fnCall76 : FnCall Try.prog 76 := ⟨Try.call76⟩
instance fnCall77 : FnCall Try.prog 77 := ⟨Try.call77⟩
instance fnCall78 : FnCall Try.prog 78 := ⟨Try.call78⟩
instance fnCall79 : FnCall Try.prog 79 := ⟨Try.call79⟩
instance fnCall80 : FnCall Try.prog 80 := ⟨Try.call80⟩
instance fnCall81 : FnCall Try.prog 81 := ⟨Try.call81⟩
instance fnCall82 : FnCall Try.prog 82 := ⟨Try.call82⟩
instance fnCall83 : FnCall Try.prog 83 := ⟨Try.call83⟩
instance fnCall84 : FnCall Try.prog 84 := ⟨Try.call84⟩
theorem mixed : Try.prog.follows .mixedOrders = true := by kernel_rfl
end Go.Proofs.Ytglhnfficliaoaa
