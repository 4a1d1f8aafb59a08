/- Facts on the types and functions of the program, by their numbers. No conditions. -/
import Derived.Test.YtinnkclemjognaaRows
import Derived.Test.YtinnkclemjognaaAuto
namespace Go.Proofs.Ytinnkclemjognaa
open Go Go.RowKit
instance : Ag Try.prog 0 false := ⟨fun w => ag_of Try.underlying0 rfl w⟩
instance : Sz Try.prog 0 1 := ⟨Try.sizeOf0⟩
instance : Zr Try.prog 0 (Value.tuple #[]) := ⟨Try.zeroValue0⟩
instance : Ag Try.prog 1 false := ⟨fun w => ag_of Try.underlying1 rfl w⟩
instance : Sz Try.prog 1 1 := ⟨Try.sizeOf1⟩
instance : Zr Try.prog 1 (Value.nilFunc) := ⟨Try.zeroValue1⟩
instance : Und Try.prog 2 (TypeDesc.int IntKind.i64) := ⟨Try.underlying2⟩
instance : ElT Try.prog 2 Int := ⟨trivial⟩
instance : Ag Try.prog 2 false := ⟨fun w => ag_of Try.underlying2 rfl w⟩
instance : Sz Try.prog 2 1 := ⟨Try.sizeOf2⟩
instance : Zr Try.prog 2 (Value.int IntKind.i64 0) := ⟨Try.zeroValue2⟩
instance : Und Try.prog 3 (TypeDesc.int IntKind.i64) := ⟨Try.underlying3⟩
instance : ElT Try.prog 3 Int := ⟨trivial⟩
instance : Ag Try.prog 3 false := ⟨fun w => ag_of Try.underlying3 rfl w⟩
instance : Sz Try.prog 3 1 := ⟨Try.sizeOf3⟩
instance : Zr Try.prog 3 (Value.int IntKind.i64 0) := ⟨Try.zeroValue3⟩
instance : Und Try.prog 4 (TypeDesc.bool) := ⟨Try.underlying4⟩
instance : ElT Try.prog 4 Bool := ⟨trivial⟩
instance : Ag Try.prog 4 false := ⟨fun w => ag_of Try.underlying4 rfl w⟩
instance : Sz Try.prog 4 1 := ⟨Try.sizeOf4⟩
instance : Zr Try.prog 4 (Value.bool false) := ⟨Try.zeroValue4⟩
instance : Und Try.prog 5 (TypeDesc.int IntKind.u8) := ⟨Try.underlying5⟩
instance : Ag Try.prog 5 false := ⟨fun w => ag_of Try.underlying5 rfl w⟩
instance : Sz Try.prog 5 1 := ⟨Try.sizeOf5⟩
instance : Zr Try.prog 5 (Value.int IntKind.u8 0) := ⟨Try.zeroValue5⟩
instance : Und Try.prog 6 (TypeDesc.int IntKind.u8) := ⟨Try.underlying6⟩
instance : Ag Try.prog 6 false := ⟨fun w => ag_of Try.underlying6 rfl w⟩
instance : Sz Try.prog 6 1 := ⟨Try.sizeOf6⟩
instance : Zr Try.prog 6 (Value.int IntKind.u8 0) := ⟨Try.zeroValue6⟩
instance : Ag Try.prog 7 true := ⟨fun w => ag_of Try.underlying7 rfl w⟩
instance : Sz Try.prog 7 4 := ⟨Try.sizeOf7⟩
instance : Zr Try.prog 7 (Value.agg #[Value.int IntKind.i64 0, Value.int IntKind.i64 0, Value.bool false, Value.int IntKind.u8 0]) := ⟨Try.zeroValue7⟩
instance : Fo Try.prog 7 0 0 := ⟨fun w b o => by simp [go_sem]⟩
instance : Fo Try.prog 7 1 1 := ⟨fun w b o => by simp [go_sem]⟩
instance : Fo Try.prog 7 2 2 := ⟨fun w b o => by simp [go_sem]⟩
instance : Fo Try.prog 7 3 3 := ⟨fun w b o => by simp [go_sem]⟩
instance : Bld Try.prog 7 [Value.int IntKind.i64 0, Value.int IntKind.i64 0, Value.bool false, Value.int IntKind.u8 0] [(0, 1), (1, 1), (2, 1), (3, 1)] := bld_struct Try.underlying7 Try.zeroValue7 fun w => by simp [go_sem]
instance (a0 b0 : Int) (a1 b1 : Int) (a2 b2 : Bool) (a3 b3 : Int) : Eq_ Try.prog 7 (.agg #[.int IntKind.i64 a0, .int IntKind.i64 a1, .bool a2, .int IntKind.u8 a3]) (.agg #[.int IntKind.i64 b0, .int IntKind.i64 b1, .bool b2, .int IntKind.u8 b3]) (a0 == b0 && a1 == b1 && a2 == b2 && a3 == b3) := ⟨fun w p q => by simp [go_sem], fun w => by simp [go_sem]; (repeat' split) <;> simp_all⟩
instance (a0 b0 : Int) (a1 b1 : Int) (a2 b2 : Bool) (a3 b3 : Int) : Neq_ Try.prog 7 (.agg #[.int IntKind.i64 a0, .int IntKind.i64 a1, .bool a2, .int IntKind.u8 a3]) (.agg #[.int IntKind.i64 b0, .int IntKind.i64 b1, .bool b2, .int IntKind.u8 b3]) (!(a0 == b0 && a1 == b1 && a2 == b2 && a3 == b3)) := ⟨fun w p q => by simp [go_sem], fun w => by simp [go_sem]; (repeat' split) <;> simp_all⟩
instance : Ag Try.prog 8 true := ⟨fun w => ag_of Try.underlying8 rfl w⟩
instance : Sz Try.prog 8 4 := ⟨Try.sizeOf8⟩
instance : Zr Try.prog 8 (Value.agg #[Value.int IntKind.i64 0, Value.int IntKind.i64 0, Value.bool false, Value.int IntKind.u8 0]) := ⟨Try.zeroValue8⟩
instance : Fo Try.prog 8 0 0 := ⟨fun w b o => by simp [go_sem]⟩
instance : Fo Try.prog 8 1 1 := ⟨fun w b o => by simp [go_sem]⟩
instance : Fo Try.prog 8 2 2 := ⟨fun w b o => by simp [go_sem]⟩
instance : Fo Try.prog 8 3 3 := ⟨fun w b o => by simp [go_sem]⟩
instance : Bld Try.prog 8 [Value.int IntKind.i64 0, Value.int IntKind.i64 0, Value.bool false, Value.int IntKind.u8 0] [(0, 1), (1, 1), (2, 1), (3, 1)] := bld_struct Try.underlying8 Try.zeroValue8 fun w => by simp [go_sem]
instance (a0 b0 : Int) (a1 b1 : Int) (a2 b2 : Bool) (a3 b3 : Int) : Eq_ Try.prog 8 (.agg #[.int IntKind.i64 a0, .int IntKind.i64 a1, .bool a2, .int IntKind.u8 a3]) (.agg #[.int IntKind.i64 b0, .int IntKind.i64 b1, .bool b2, .int IntKind.u8 b3]) (a0 == b0 && a1 == b1 && a2 == b2 && a3 == b3) := ⟨fun w p q => by simp [go_sem], fun w => by simp [go_sem]; (repeat' split) <;> simp_all⟩
instance (a0 b0 : Int) (a1 b1 : Int) (a2 b2 : Bool) (a3 b3 : Int) : Neq_ Try.prog 8 (.agg #[.int IntKind.i64 a0, .int IntKind.i64 a1, .bool a2, .int IntKind.u8 a3]) (.agg #[.int IntKind.i64 b0, .int IntKind.i64 b1, .bool b2, .int IntKind.u8 b3]) (!(a0 == b0 && a1 == b1 && a2 == b2 && a3 == b3)) := ⟨fun w p q => by simp [go_sem], fun w => by simp [go_sem]; (repeat' split) <;> simp_all⟩
instance : Ag Try.prog 9 false := ⟨fun w => ag_of Try.underlying9 rfl w⟩
instance : Sz Try.prog 9 1 := ⟨Try.sizeOf9⟩
instance : Zr Try.prog 9 (Value.string { data := #[] }) := ⟨Try.zeroValue9⟩
instance : Ag Try.prog 10 false := ⟨fun w => ag_of Try.underlying10 rfl w⟩
instance : Sz Try.prog 10 1 := ⟨Try.sizeOf10⟩
instance : Zr Try.prog 10 (Value.string { data := #[] }) := ⟨Try.zeroValue10⟩
instance : Ag Try.prog 11 false := ⟨fun w => ag_of Try.underlying11 rfl w⟩
instance : Sz Try.prog 11 1 := ⟨Try.sizeOf11⟩
instance : Zr Try.prog 11 (Value.string { data := #[] }) := ⟨Try.zeroValue11⟩
instance : Und Try.prog 12 (TypeDesc.int IntKind.u64) := ⟨Try.underlying12⟩
instance : Ag Try.prog 12 false := ⟨fun w => ag_of Try.underlying12 rfl w⟩
instance : Sz Try.prog 12 1 := ⟨Try.sizeOf12⟩
instance : Zr Try.prog 12 (Value.int IntKind.u64 0) := ⟨Try.zeroValue12⟩
instance : Ag Try.prog 13 true := ⟨fun w => ag_of Try.underlying13 rfl w⟩
instance : Sz Try.prog 13 2 := ⟨Try.sizeOf13⟩
instance : Zr Try.prog 13 (Value.agg #[Value.string { data := #[] }, Value.int IntKind.u64 0]) := ⟨Try.zeroValue13⟩
instance : Fo Try.prog 13 0 0 := ⟨fun w b o => by simp [go_sem]⟩
instance : Fo Try.prog 13 1 1 := ⟨fun w b o => by simp [go_sem]⟩
instance : Bld Try.prog 13 [Value.string { data := #[] }, Value.int IntKind.u64 0] [(0, 1), (1, 1)] := bld_struct Try.underlying13 Try.zeroValue13 fun w => by simp [go_sem]
instance : Ag Try.prog 14 true := ⟨fun w => ag_of Try.underlying14 rfl w⟩
instance : Sz Try.prog 14 2 := ⟨Try.sizeOf14⟩
instance : Zr Try.prog 14 (Value.agg #[Value.string { data := #[] }, Value.int IntKind.u64 0]) := ⟨Try.zeroValue14⟩
instance : Fo Try.prog 14 0 0 := ⟨fun w b o => by simp [go_sem]⟩
instance : Fo Try.prog 14 1 1 := ⟨fun w b o => by simp [go_sem]⟩
instance : Bld Try.prog 14 [Value.string { data := #[] }, Value.int IntKind.u64 0] [(0, 1), (1, 1)] := bld_struct Try.underlying14 Try.zeroValue14 fun w => by simp [go_sem]
instance : Und Try.prog 15 (TypeDesc.pointer 95) := ⟨Try.underlying15⟩
instance : Ag Try.prog 15 false := ⟨fun w => ag_of Try.underlying15 rfl w⟩
instance : Sz Try.prog 15 1 := ⟨Try.sizeOf15⟩
instance : Zr Try.prog 15 (Value.pointer none) := ⟨Try.zeroValue15⟩
instance : Und Try.prog 16 (TypeDesc.pointer 98) := ⟨Try.underlying16⟩
instance : Ag Try.prog 16 false := ⟨fun w => ag_of Try.underlying16 rfl w⟩
instance : Sz Try.prog 16 1 := ⟨Try.sizeOf16⟩
instance : Zr Try.prog 16 (Value.pointer none) := ⟨Try.zeroValue16⟩
instance : Und Try.prog 17 (TypeDesc.pointer 106) := ⟨Try.underlying17⟩
instance : Ag Try.prog 17 false := ⟨fun w => ag_of Try.underlying17 rfl w⟩
instance : Sz Try.prog 17 1 := ⟨Try.sizeOf17⟩
instance : Zr Try.prog 17 (Value.pointer none) := ⟨Try.zeroValue17⟩
instance : Ag Try.prog 18 true := ⟨fun w => ag_of Try.underlying18 rfl w⟩
instance : Sz Try.prog 18 1 := ⟨Try.sizeOf18⟩
instance : Zr Try.prog 18 (Value.agg #[Value.pointer none]) := ⟨Try.zeroValue18⟩
instance : Fo Try.prog 18 0 0 := ⟨fun w b o => by simp [go_sem]⟩
instance : Bld Try.prog 18 [Value.pointer none] [(0, 1)] := bld_struct Try.underlying18 Try.zeroValue18 fun w => by simp [go_sem]
instance : Ag Try.prog 19 true := ⟨fun w => ag_of Try.underlying19 rfl w⟩
instance : Sz Try.prog 19 1 := ⟨Try.sizeOf19⟩
instance : Zr Try.prog 19 (Value.agg #[Value.pointer none]) := ⟨Try.zeroValue19⟩
instance : Fo Try.prog 19 0 0 := ⟨fun w b o => by simp [go_sem]⟩
instance : Bld Try.prog 19 [Value.pointer none] [(0, 1)] := bld_struct Try.underlying19 Try.zeroValue19 fun w => by simp [go_sem]
instance : Ag Try.prog 20 false := ⟨fun w => ag_of Try.underlying20 rfl w⟩
instance : Sz Try.prog 20 1 := ⟨Try.sizeOf20⟩
instance : Zr Try.prog 20 (Value.nilIface) := ⟨Try.zeroValue20⟩
instance : Und Try.prog 21 (TypeDesc.int IntKind.i32) := ⟨Try.underlying21⟩
instance : Ag Try.prog 21 false := ⟨fun w => ag_of Try.underlying21 rfl w⟩
instance : Sz Try.prog 21 1 := ⟨Try.sizeOf21⟩
instance : Zr Try.prog 21 (Value.int IntKind.i32 0) := ⟨Try.zeroValue21⟩
instance : Und Try.prog 22 (TypeDesc.slice 3) := ⟨Try.underlying22⟩
instance : SlTy Try.prog 22 3 1 (Value.int IntKind.i64 0) := ⟨Try.underlying22, by kernel_rfl, rfl⟩
instance : Ag Try.prog 22 false := ⟨fun w => ag_of Try.underlying22 rfl w⟩
instance : Sz Try.prog 22 1 := ⟨Try.sizeOf22⟩
instance : Zr Try.prog 22 (Value.slice none 0 0) := ⟨Try.zeroValue22⟩
instance : Ag Try.prog 23 false := ⟨fun w => ag_of Try.underlying23 rfl w⟩
instance : Sz Try.prog 23 1 := ⟨Try.sizeOf23⟩
instance : Zr Try.prog 23 (Value.nilFunc) := ⟨Try.zeroValue23⟩
instance : Und Try.prog 24 (TypeDesc.slice 62) := ⟨Try.underlying24⟩
instance : SlTy Try.prog 24 62 2 (Value.agg #[Value.bool false, Value.slice none 0 0]) := ⟨Try.underlying24, by kernel_rfl, rfl⟩
instance : Ag Try.prog 24 false := ⟨fun w => ag_of Try.underlying24 rfl w⟩
instance : Sz Try.prog 24 1 := ⟨Try.sizeOf24⟩
instance : Zr Try.prog 24 (Value.slice none 0 0) := ⟨Try.zeroValue24⟩
instance : Und Try.prog 25 (TypeDesc.slice 57) := ⟨Try.underlying25⟩
instance : SlTy Try.prog 25 57 2 (Value.agg #[Value.int IntKind.i64 0, Value.int IntKind.i64 0]) := ⟨Try.underlying25, by kernel_rfl, rfl⟩
instance : Ag Try.prog 25 false := ⟨fun w => ag_of Try.underlying25 rfl w⟩
instance : Sz Try.prog 25 1 := ⟨Try.sizeOf25⟩
instance : Zr Try.prog 25 (Value.slice none 0 0) := ⟨Try.zeroValue25⟩
instance : Ag Try.prog 26 true := ⟨fun w => ag_of Try.underlying26 rfl w⟩
instance : Sz Try.prog 26 4 := ⟨Try.sizeOf26⟩
instance : Zr Try.prog 26 (Value.agg #[Value.int IntKind.i64 0, Value.slice none 0 0, Value.slice none 0 0, Value.int IntKind.i64 0]) := ⟨Try.zeroValue26⟩
instance : Fo Try.prog 26 0 0 := ⟨fun w b o => by simp [go_sem]⟩
instance : Fo Try.prog 26 1 1 := ⟨fun w b o => by simp [go_sem]⟩
instance : Fo Try.prog 26 2 2 := ⟨fun w b o => by simp [go_sem]⟩
instance : Fo Try.prog 26 3 3 := ⟨fun w b o => by simp [go_sem]⟩
instance : Bld Try.prog 26 [Value.int IntKind.i64 0, Value.slice none 0 0, Value.slice none 0 0, Value.int IntKind.i64 0] [(0, 1), (1, 1), (2, 1), (3, 1)] := bld_struct Try.underlying26 Try.zeroValue26 fun w => by simp [go_sem]
instance : Ag Try.prog 27 true := ⟨fun w => ag_of Try.underlying27 rfl w⟩
instance : Sz Try.prog 27 4 := ⟨Try.sizeOf27⟩
instance : Zr Try.prog 27 (Value.agg #[Value.int IntKind.i64 0, Value.slice none 0 0, Value.slice none 0 0, Value.int IntKind.i64 0]) := ⟨Try.zeroValue27⟩
instance : Fo Try.prog 27 0 0 := ⟨fun w b o => by simp [go_sem]⟩
instance : Fo Try.prog 27 1 1 := ⟨fun w b o => by simp [go_sem]⟩
instance : Fo Try.prog 27 2 2 := ⟨fun w b o => by simp [go_sem]⟩
instance : Fo Try.prog 27 3 3 := ⟨fun w b o => by simp [go_sem]⟩
instance : Bld Try.prog 27 [Value.int IntKind.i64 0, Value.slice none 0 0, Value.slice none 0 0, Value.int IntKind.i64 0] [(0, 1), (1, 1), (2, 1), (3, 1)] := bld_struct Try.underlying27 Try.zeroValue27 fun w => by simp [go_sem]
instance : Ag Try.prog 28 false := ⟨fun w => ag_of Try.underlying28 rfl w⟩
instance : Sz Try.prog 28 1 := ⟨Try.sizeOf28⟩
instance : Zr Try.prog 28 (Value.tuple   #[Value.agg #[Value.int IntKind.i64 0, Value.slice none 0 0, Value.slice none 0 0, Value.int IntKind.i64 0],     Value.int IntKind.i64 0]) := ⟨Try.zeroValue28⟩
instance : Ag Try.prog 29 false := ⟨fun w => ag_of Try.underlying29 rfl w⟩
instance : Sz Try.prog 29 1 := ⟨Try.sizeOf29⟩
instance : Zr Try.prog 29 (Value.nilFunc) := ⟨Try.zeroValue29⟩
instance : Ag Try.prog 30 false := ⟨fun w => ag_of Try.underlying30 rfl w⟩
instance : Sz Try.prog 30 1 := ⟨Try.sizeOf30⟩
instance : Zr Try.prog 30 (Value.nilFunc) := ⟨Try.zeroValue30⟩
instance : Ag Try.prog 31 false := ⟨fun w => ag_of Try.underlying31 rfl w⟩
instance : Sz Try.prog 31 1 := ⟨Try.sizeOf31⟩
instance : Zr Try.prog 31 (Value.tuple   #[Value.agg #[Value.int IntKind.i64 0, Value.slice none 0 0, Value.slice none 0 0, Value.int IntKind.i64 0],     Value.int IntKind.i64 0, Value.int IntKind.i64 0]) := ⟨Try.zeroValue31⟩
instance : Ag Try.prog 32 false := ⟨fun w => ag_of Try.underlying32 rfl w⟩
instance : Sz Try.prog 32 1 := ⟨Try.sizeOf32⟩
instance : Zr Try.prog 32 (Value.nilFunc) := ⟨Try.zeroValue32⟩
instance : Ag Try.prog 33 false := ⟨fun w => ag_of Try.underlying33 rfl w⟩
instance : Sz Try.prog 33 1 := ⟨Try.sizeOf33⟩
instance : Zr Try.prog 33 (Value.nilFunc) := ⟨Try.zeroValue33⟩
instance : Ag Try.prog 34 false := ⟨fun w => ag_of Try.underlying34 rfl w⟩
instance : Sz Try.prog 34 1 := ⟨Try.sizeOf34⟩
instance : Zr Try.prog 34 (Value.nilFunc) := ⟨Try.zeroValue34⟩
instance : Ag Try.prog 35 false := ⟨fun w => ag_of Try.underlying35 rfl w⟩
instance : Sz Try.prog 35 1 := ⟨Try.sizeOf35⟩
instance : Zr Try.prog 35 (Value.nilFunc) := ⟨Try.zeroValue35⟩
instance : Und Try.prog 36 (TypeDesc.array 2 3) := ⟨Try.underlying36⟩
instance : Ag Try.prog 36 true := ⟨fun w => ag_of Try.underlying36 rfl w⟩
instance : Sz Try.prog 36 2 := ⟨Try.sizeOf36⟩
instance : Zr Try.prog 36 (Value.agg #[Value.int IntKind.i64 0, Value.int IntKind.i64 0]) := ⟨Try.zeroValue36⟩
instance : Und Try.prog 37 (TypeDesc.slice 40) := ⟨Try.underlying37⟩
instance : SlTy Try.prog 37 40 4 (Value.agg #[Value.int IntKind.i64 0, Value.int IntKind.i64 0, Value.int IntKind.i64 0, Value.int IntKind.i64 0]) := ⟨Try.underlying37, by kernel_rfl, rfl⟩
instance : Ag Try.prog 37 false := ⟨fun w => ag_of Try.underlying37 rfl w⟩
instance : Sz Try.prog 37 1 := ⟨Try.sizeOf37⟩
instance : Zr Try.prog 37 (Value.slice none 0 0) := ⟨Try.zeroValue37⟩
instance : Ag Try.prog 38 false := ⟨fun w => ag_of Try.underlying38 rfl w⟩
instance : Sz Try.prog 38 1 := ⟨Try.sizeOf38⟩
instance : Zr Try.prog 38 (Value.nilFunc) := ⟨Try.zeroValue38⟩
instance : Ag Try.prog 39 true := ⟨fun w => ag_of Try.underlying39 rfl w⟩
instance : Sz Try.prog 39 4 := ⟨Try.sizeOf39⟩
instance : Zr Try.prog 39 (Value.agg #[Value.int IntKind.i64 0, Value.int IntKind.i64 0, Value.int IntKind.i64 0, Value.int IntKind.i64 0]) := ⟨Try.zeroValue39⟩
instance : Fo Try.prog 39 0 0 := ⟨fun w b o => by simp [go_sem]⟩
instance : Fo Try.prog 39 1 1 := ⟨fun w b o => by simp [go_sem]⟩
instance : Fo Try.prog 39 2 2 := ⟨fun w b o => by simp [go_sem]⟩
instance : Fo Try.prog 39 3 3 := ⟨fun w b o => by simp [go_sem]⟩
instance : Bld Try.prog 39 [Value.int IntKind.i64 0, Value.int IntKind.i64 0, Value.int IntKind.i64 0, Value.int IntKind.i64 0] [(0, 1), (1, 1), (2, 1), (3, 1)] := bld_struct Try.underlying39 Try.zeroValue39 fun w => by simp [go_sem]
instance (a0 b0 : Int) (a1 b1 : Int) (a2 b2 : Int) (a3 b3 : Int) : Eq_ Try.prog 39 (.agg #[.int IntKind.i64 a0, .int IntKind.i64 a1, .int IntKind.i64 a2, .int IntKind.i64 a3]) (.agg #[.int IntKind.i64 b0, .int IntKind.i64 b1, .int IntKind.i64 b2, .int IntKind.i64 b3]) (a0 == b0 && a1 == b1 && a2 == b2 && a3 == b3) := ⟨fun w p q => by simp [go_sem], fun w => by simp [go_sem]; (repeat' split) <;> simp_all⟩
instance (a0 b0 : Int) (a1 b1 : Int) (a2 b2 : Int) (a3 b3 : Int) : Neq_ Try.prog 39 (.agg #[.int IntKind.i64 a0, .int IntKind.i64 a1, .int IntKind.i64 a2, .int IntKind.i64 a3]) (.agg #[.int IntKind.i64 b0, .int IntKind.i64 b1, .int IntKind.i64 b2, .int IntKind.i64 b3]) (!(a0 == b0 && a1 == b1 && a2 == b2 && a3 == b3)) := ⟨fun w p q => by simp [go_sem], fun w => by simp [go_sem]; (repeat' split) <;> simp_all⟩
instance : Ag Try.prog 40 true := ⟨fun w => ag_of Try.underlying40 rfl w⟩
instance : Sz Try.prog 40 4 := ⟨Try.sizeOf40⟩
instance : Zr Try.prog 40 (Value.agg #[Value.int IntKind.i64 0, Value.int IntKind.i64 0, Value.int IntKind.i64 0, Value.int IntKind.i64 0]) := ⟨Try.zeroValue40⟩
instance : Fo Try.prog 40 0 0 := ⟨fun w b o => by simp [go_sem]⟩
instance : Fo Try.prog 40 1 1 := ⟨fun w b o => by simp [go_sem]⟩
instance : Fo Try.prog 40 2 2 := ⟨fun w b o => by simp [go_sem]⟩
instance : Fo Try.prog 40 3 3 := ⟨fun w b o => by simp [go_sem]⟩
instance : Bld Try.prog 40 [Value.int IntKind.i64 0, Value.int IntKind.i64 0, Value.int IntKind.i64 0, Value.int IntKind.i64 0] [(0, 1), (1, 1), (2, 1), (3, 1)] := bld_struct Try.underlying40 Try.zeroValue40 fun w => by simp [go_sem]
instance (a0 b0 : Int) (a1 b1 : Int) (a2 b2 : Int) (a3 b3 : Int) : Eq_ Try.prog 40 (.agg #[.int IntKind.i64 a0, .int IntKind.i64 a1, .int IntKind.i64 a2, .int IntKind.i64 a3]) (.agg #[.int IntKind.i64 b0, .int IntKind.i64 b1, .int IntKind.i64 b2, .int IntKind.i64 b3]) (a0 == b0 && a1 == b1 && a2 == b2 && a3 == b3) := ⟨fun w p q => by simp [go_sem], fun w => by simp [go_sem]; (repeat' split) <;> simp_all⟩
instance (a0 b0 : Int) (a1 b1 : Int) (a2 b2 : Int) (a3 b3 : Int) : Neq_ Try.prog 40 (.agg #[.int IntKind.i64 a0, .int IntKind.i64 a1, .int IntKind.i64 a2, .int IntKind.i64 a3]) (.agg #[.int IntKind.i64 b0, .int IntKind.i64 b1, .int IntKind.i64 b2, .int IntKind.i64 b3]) (!(a0 == b0 && a1 == b1 && a2 == b2 && a3 == b3)) := ⟨fun w p q => by simp [go_sem], fun w => by simp [go_sem]; (repeat' split) <;> simp_all⟩
instance : Ag Try.prog 41 false := ⟨fun w => ag_of Try.underlying41 rfl w⟩
instance : Sz Try.prog 41 1 := ⟨Try.sizeOf41⟩
instance : Zr Try.prog 41 (Value.nilFunc) := ⟨Try.zeroValue41⟩
instance : Ag Try.prog 42 false := ⟨fun w => ag_of Try.underlying42 rfl w⟩
instance : Sz Try.prog 42 1 := ⟨Try.sizeOf42⟩
instance : Zr Try.prog 42 (Value.nilFunc) := ⟨Try.zeroValue42⟩
instance : Ag Try.prog 43 false := ⟨fun w => ag_of Try.underlying43 rfl w⟩
instance : Sz Try.prog 43 1 := ⟨Try.sizeOf43⟩
instance : Zr Try.prog 43 (Value.nilFunc) := ⟨Try.zeroValue43⟩
instance : Ag Try.prog 44 false := ⟨fun w => ag_of Try.underlying44 rfl w⟩
instance : Sz Try.prog 44 1 := ⟨Try.sizeOf44⟩
instance : Zr Try.prog 44 (Value.nilFunc) := ⟨Try.zeroValue44⟩
instance : Und Try.prog 45 (TypeDesc.array 2 5) := ⟨Try.underlying45⟩
instance : Ag Try.prog 45 true := ⟨fun w => ag_of Try.underlying45 rfl w⟩
instance : Sz Try.prog 45 2 := ⟨Try.sizeOf45⟩
instance : Zr Try.prog 45 (Value.agg #[Value.int IntKind.u8 0, Value.int IntKind.u8 0]) := ⟨Try.zeroValue45⟩
instance : Ag Try.prog 46 false := ⟨fun w => ag_of Try.underlying46 rfl w⟩
instance : Sz Try.prog 46 1 := ⟨Try.sizeOf46⟩
instance : Zr Try.prog 46 (Value.nilFunc) := ⟨Try.zeroValue46⟩
instance : Und Try.prog 47 (TypeDesc.pointer 51) := ⟨Try.underlying47⟩
instance : Ag Try.prog 47 false := ⟨fun w => ag_of Try.underlying47 rfl w⟩
instance : Sz Try.prog 47 1 := ⟨Try.sizeOf47⟩
instance : Zr Try.prog 47 (Value.pointer none) := ⟨Try.zeroValue47⟩
instance : Und Try.prog 48 (TypeDesc.slice 4) := ⟨Try.underlying48⟩
instance : SlTy Try.prog 48 4 1 (Value.bool false) := ⟨Try.underlying48, by kernel_rfl, rfl⟩
instance : Ag Try.prog 48 false := ⟨fun w => ag_of Try.underlying48 rfl w⟩
instance : Sz Try.prog 48 1 := ⟨Try.sizeOf48⟩
instance : Zr Try.prog 48 (Value.slice none 0 0) := ⟨Try.zeroValue48⟩
instance : Und Try.prog 49 (TypeDesc.slice 22) := ⟨Try.underlying49⟩
instance : SlTy Try.prog 49 22 1 (Value.slice none 0 0) := ⟨Try.underlying49, by kernel_rfl, rfl⟩
instance : Ag Try.prog 49 false := ⟨fun w => ag_of Try.underlying49 rfl w⟩
instance : Sz Try.prog 49 1 := ⟨Try.sizeOf49⟩
instance : Zr Try.prog 49 (Value.slice none 0 0) := ⟨Try.zeroValue49⟩
instance : Ag Try.prog 50 true := ⟨fun w => ag_of Try.underlying50 rfl w⟩
instance : Sz Try.prog 50 4 := ⟨Try.sizeOf50⟩
instance : Zr Try.prog 50 (Value.agg #[Value.slice none 0 0, Value.slice none 0 0, Value.slice none 0 0, Value.int IntKind.i64 0]) := ⟨Try.zeroValue50⟩
instance : Fo Try.prog 50 0 0 := ⟨fun w b o => by simp [go_sem]⟩
instance : Fo Try.prog 50 1 1 := ⟨fun w b o => by simp [go_sem]⟩
instance : Fo Try.prog 50 2 2 := ⟨fun w b o => by simp [go_sem]⟩
instance : Fo Try.prog 50 3 3 := ⟨fun w b o => by simp [go_sem]⟩
instance : Bld Try.prog 50 [Value.slice none 0 0, Value.slice none 0 0, Value.slice none 0 0, Value.int IntKind.i64 0] [(0, 1), (1, 1), (2, 1), (3, 1)] := bld_struct Try.underlying50 Try.zeroValue50 fun w => by simp [go_sem]
instance : Ag Try.prog 51 true := ⟨fun w => ag_of Try.underlying51 rfl w⟩
instance : Sz Try.prog 51 4 := ⟨Try.sizeOf51⟩
instance : Zr Try.prog 51 (Value.agg #[Value.slice none 0 0, Value.slice none 0 0, Value.slice none 0 0, Value.int IntKind.i64 0]) := ⟨Try.zeroValue51⟩
instance : Fo Try.prog 51 0 0 := ⟨fun w b o => by simp [go_sem]⟩
instance : Fo Try.prog 51 1 1 := ⟨fun w b o => by simp [go_sem]⟩
instance : Fo Try.prog 51 2 2 := ⟨fun w b o => by simp [go_sem]⟩
instance : Fo Try.prog 51 3 3 := ⟨fun w b o => by simp [go_sem]⟩
instance : Bld Try.prog 51 [Value.slice none 0 0, Value.slice none 0 0, Value.slice none 0 0, Value.int IntKind.i64 0] [(0, 1), (1, 1), (2, 1), (3, 1)] := bld_struct Try.underlying51 Try.zeroValue51 fun w => by simp [go_sem]
instance : Ag Try.prog 52 false := ⟨fun w => ag_of Try.underlying52 rfl w⟩
instance : Sz Try.prog 52 1 := ⟨Try.sizeOf52⟩
instance : Zr Try.prog 52 (Value.tuple #[Value.int IntKind.i64 0, Value.int IntKind.i64 0]) := ⟨Try.zeroValue52⟩
instance : Ag Try.prog 53 false := ⟨fun w => ag_of Try.underlying53 rfl w⟩
instance : Sz Try.prog 53 1 := ⟨Try.sizeOf53⟩
instance : Zr Try.prog 53 (Value.nilFunc) := ⟨Try.zeroValue53⟩
instance : Ag Try.prog 54 false := ⟨fun w => ag_of Try.underlying54 rfl w⟩
instance : Sz Try.prog 54 1 := ⟨Try.sizeOf54⟩
instance : Zr Try.prog 54 (Value.nilFunc) := ⟨Try.zeroValue54⟩
instance : Ag Try.prog 55 false := ⟨fun w => ag_of Try.underlying55 rfl w⟩
instance : Sz Try.prog 55 1 := ⟨Try.sizeOf55⟩
instance : Zr Try.prog 55 (Value.nilFunc) := ⟨Try.zeroValue55⟩
instance : Ag Try.prog 56 true := ⟨fun w => ag_of Try.underlying56 rfl w⟩
instance : Sz Try.prog 56 2 := ⟨Try.sizeOf56⟩
instance : Zr Try.prog 56 (Value.agg #[Value.int IntKind.i64 0, Value.int IntKind.i64 0]) := ⟨Try.zeroValue56⟩
instance : Fo Try.prog 56 0 0 := ⟨fun w b o => by simp [go_sem]⟩
instance : Fo Try.prog 56 1 1 := ⟨fun w b o => by simp [go_sem]⟩
instance : Bld Try.prog 56 [Value.int IntKind.i64 0, Value.int IntKind.i64 0] [(0, 1), (1, 1)] := bld_struct Try.underlying56 Try.zeroValue56 fun w => by simp [go_sem]
instance (a0 b0 : Int) (a1 b1 : Int) : Eq_ Try.prog 56 (.agg #[.int IntKind.i64 a0, .int IntKind.i64 a1]) (.agg #[.int IntKind.i64 b0, .int IntKind.i64 b1]) (a0 == b0 && a1 == b1) := ⟨fun w p q => by simp [go_sem], fun w => by simp [go_sem]; (repeat' split) <;> simp_all⟩
instance (a0 b0 : Int) (a1 b1 : Int) : Neq_ Try.prog 56 (.agg #[.int IntKind.i64 a0, .int IntKind.i64 a1]) (.agg #[.int IntKind.i64 b0, .int IntKind.i64 b1]) (!(a0 == b0 && a1 == b1)) := ⟨fun w p q => by simp [go_sem], fun w => by simp [go_sem]; (repeat' split) <;> simp_all⟩
instance : Ag Try.prog 57 true := ⟨fun w => ag_of Try.underlying57 rfl w⟩
instance : Sz Try.prog 57 2 := ⟨Try.sizeOf57⟩
instance : Zr Try.prog 57 (Value.agg #[Value.int IntKind.i64 0, Value.int IntKind.i64 0]) := ⟨Try.zeroValue57⟩
instance : Fo Try.prog 57 0 0 := ⟨fun w b o => by simp [go_sem]⟩
instance : Fo Try.prog 57 1 1 := ⟨fun w b o => by simp [go_sem]⟩
instance : Bld Try.prog 57 [Value.int IntKind.i64 0, Value.int IntKind.i64 0] [(0, 1), (1, 1)] := bld_struct Try.underlying57 Try.zeroValue57 fun w => by simp [go_sem]
instance (a0 b0 : Int) (a1 b1 : Int) : Eq_ Try.prog 57 (.agg #[.int IntKind.i64 a0, .int IntKind.i64 a1]) (.agg #[.int IntKind.i64 b0, .int IntKind.i64 b1]) (a0 == b0 && a1 == b1) := ⟨fun w p q => by simp [go_sem], fun w => by simp [go_sem]; (repeat' split) <;> simp_all⟩
instance (a0 b0 : Int) (a1 b1 : Int) : Neq_ Try.prog 57 (.agg #[.int IntKind.i64 a0, .int IntKind.i64 a1]) (.agg #[.int IntKind.i64 b0, .int IntKind.i64 b1]) (!(a0 == b0 && a1 == b1)) := ⟨fun w p q => by simp [go_sem], fun w => by simp [go_sem]; (repeat' split) <;> simp_all⟩
instance : Ag Try.prog 58 false := ⟨fun w => ag_of Try.underlying58 rfl w⟩
instance : Sz Try.prog 58 1 := ⟨Try.sizeOf58⟩
instance : Zr Try.prog 58 (Value.nilFunc) := ⟨Try.zeroValue58⟩
instance : Ag Try.prog 59 false := ⟨fun w => ag_of Try.underlying59 rfl w⟩
instance : Sz Try.prog 59 1 := ⟨Try.sizeOf59⟩
instance : Zr Try.prog 59 (Value.nilFunc) := ⟨Try.zeroValue59⟩
instance : Und Try.prog 60 (TypeDesc.slice 64) := ⟨Try.underlying60⟩
instance : SlTy Try.prog 60 64 2 (Value.agg #[Value.int IntKind.i64 0, Value.bool false]) := ⟨Try.underlying60, by kernel_rfl, rfl⟩
instance : Ag Try.prog 60 false := ⟨fun w => ag_of Try.underlying60 rfl w⟩
instance : Sz Try.prog 60 1 := ⟨Try.sizeOf60⟩
instance : Zr Try.prog 60 (Value.slice none 0 0) := ⟨Try.zeroValue60⟩
instance : Ag Try.prog 61 true := ⟨fun w => ag_of Try.underlying61 rfl w⟩
instance : Sz Try.prog 61 2 := ⟨Try.sizeOf61⟩
instance : Zr Try.prog 61 (Value.agg #[Value.bool false, Value.slice none 0 0]) := ⟨Try.zeroValue61⟩
instance : Fo Try.prog 61 0 0 := ⟨fun w b o => by simp [go_sem]⟩
instance : Fo Try.prog 61 1 1 := ⟨fun w b o => by simp [go_sem]⟩
instance : Bld Try.prog 61 [Value.bool false, Value.slice none 0 0] [(0, 1), (1, 1)] := bld_struct Try.underlying61 Try.zeroValue61 fun w => by simp [go_sem]
instance : Ag Try.prog 62 true := ⟨fun w => ag_of Try.underlying62 rfl w⟩
instance : Sz Try.prog 62 2 := ⟨Try.sizeOf62⟩
instance : Zr Try.prog 62 (Value.agg #[Value.bool false, Value.slice none 0 0]) := ⟨Try.zeroValue62⟩
instance : Fo Try.prog 62 0 0 := ⟨fun w b o => by simp [go_sem]⟩
instance : Fo Try.prog 62 1 1 := ⟨fun w b o => by simp [go_sem]⟩
instance : Bld Try.prog 62 [Value.bool false, Value.slice none 0 0] [(0, 1), (1, 1)] := bld_struct Try.underlying62 Try.zeroValue62 fun w => by simp [go_sem]
instance : Ag Try.prog 63 true := ⟨fun w => ag_of Try.underlying63 rfl w⟩
instance : Sz Try.prog 63 2 := ⟨Try.sizeOf63⟩
instance : Zr Try.prog 63 (Value.agg #[Value.int IntKind.i64 0, Value.bool false]) := ⟨Try.zeroValue63⟩
instance : Fo Try.prog 63 0 0 := ⟨fun w b o => by simp [go_sem]⟩
instance : Fo Try.prog 63 1 1 := ⟨fun w b o => by simp [go_sem]⟩
instance : Bld Try.prog 63 [Value.int IntKind.i64 0, Value.bool false] [(0, 1), (1, 1)] := bld_struct Try.underlying63 Try.zeroValue63 fun w => by simp [go_sem]
instance (a0 b0 : Int) (a1 b1 : Bool) : Eq_ Try.prog 63 (.agg #[.int IntKind.i64 a0, .bool a1]) (.agg #[.int IntKind.i64 b0, .bool b1]) (a0 == b0 && a1 == b1) := ⟨fun w p q => by simp [go_sem], fun w => by simp [go_sem]; (repeat' split) <;> simp_all⟩
instance (a0 b0 : Int) (a1 b1 : Bool) : Neq_ Try.prog 63 (.agg #[.int IntKind.i64 a0, .bool a1]) (.agg #[.int IntKind.i64 b0, .bool b1]) (!(a0 == b0 && a1 == b1)) := ⟨fun w p q => by simp [go_sem], fun w => by simp [go_sem]; (repeat' split) <;> simp_all⟩
instance : Ag Try.prog 64 true := ⟨fun w => ag_of Try.underlying64 rfl w⟩
instance : Sz Try.prog 64 2 := ⟨Try.sizeOf64⟩
instance : Zr Try.prog 64 (Value.agg #[Value.int IntKind.i64 0, Value.bool false]) := ⟨Try.zeroValue64⟩
instance : Fo Try.prog 64 0 0 := ⟨fun w b o => by simp [go_sem]⟩
instance : Fo Try.prog 64 1 1 := ⟨fun w b o => by simp [go_sem]⟩
instance : Bld Try.prog 64 [Value.int IntKind.i64 0, Value.bool false] [(0, 1), (1, 1)] := bld_struct Try.underlying64 Try.zeroValue64 fun w => by simp [go_sem]
instance (a0 b0 : Int) (a1 b1 : Bool) : Eq_ Try.prog 64 (.agg #[.int IntKind.i64 a0, .bool a1]) (.agg #[.int IntKind.i64 b0, .bool b1]) (a0 == b0 && a1 == b1) := ⟨fun w p q => by simp [go_sem], fun w => by simp [go_sem]; (repeat' split) <;> simp_all⟩
instance (a0 b0 : Int) (a1 b1 : Bool) : Neq_ Try.prog 64 (.agg #[.int IntKind.i64 a0, .bool a1]) (.agg #[.int IntKind.i64 b0, .bool b1]) (!(a0 == b0 && a1 == b1)) := ⟨fun w p q => by simp [go_sem], fun w => by simp [go_sem]; (repeat' split) <;> simp_all⟩
instance : Ag Try.prog 65 false := ⟨fun w => ag_of Try.underlying65 rfl w⟩
instance : Sz Try.prog 65 1 := ⟨Try.sizeOf65⟩
instance : Zr Try.prog 65 (Value.nilFunc) := ⟨Try.zeroValue65⟩
instance : Ag Try.prog 66 false := ⟨fun w => ag_of Try.underlying66 rfl w⟩
instance : Sz Try.prog 66 1 := ⟨Try.sizeOf66⟩
instance : Zr Try.prog 66 (Value.nilFunc) := ⟨Try.zeroValue66⟩
instance : Ag Try.prog 67 false := ⟨fun w => ag_of Try.underlying67 rfl w⟩
instance : Sz Try.prog 67 1 := ⟨Try.sizeOf67⟩
instance : Zr Try.prog 67 (Value.nilFunc) := ⟨Try.zeroValue67⟩
instance : Und Try.prog 68 (TypeDesc.pointer 64) := ⟨Try.underlying68⟩
instance : Ag Try.prog 68 false := ⟨fun w => ag_of Try.underlying68 rfl w⟩
instance : Sz Try.prog 68 1 := ⟨Try.sizeOf68⟩
instance : Zr Try.prog 68 (Value.pointer none) := ⟨Try.zeroValue68⟩
instance : Ag Try.prog 69 false := ⟨fun w => ag_of Try.underlying69 rfl w⟩
instance : Sz Try.prog 69 1 := ⟨Try.sizeOf69⟩
instance : Zr Try.prog 69 (Value.nilFunc) := ⟨Try.zeroValue69⟩
instance : Ag Try.prog 70 false := ⟨fun w => ag_of Try.underlying70 rfl w⟩
instance : Sz Try.prog 70 1 := ⟨Try.sizeOf70⟩
instance : Zr Try.prog 70 (Value.nilFunc) := ⟨Try.zeroValue70⟩
instance : Ag Try.prog 71 false := ⟨fun w => ag_of Try.underlying71 rfl w⟩
instance : Sz Try.prog 71 1 := ⟨Try.sizeOf71⟩
instance : Zr Try.prog 71 (Value.nilFunc) := ⟨Try.zeroValue71⟩
instance : Ag Try.prog 72 false := ⟨fun w => ag_of Try.underlying72 rfl w⟩
instance : Sz Try.prog 72 1 := ⟨Try.sizeOf72⟩
instance : Zr Try.prog 72 (Value.nilFunc) := ⟨Try.zeroValue72⟩
instance : Ag Try.prog 73 false := ⟨fun w => ag_of Try.underlying73 rfl w⟩
instance : Sz Try.prog 73 1 := ⟨Try.sizeOf73⟩
instance : Zr Try.prog 73 (Value.nilFunc) := ⟨Try.zeroValue73⟩
instance : Ag Try.prog 74 false := ⟨fun w => ag_of Try.underlying74 rfl w⟩
instance : Sz Try.prog 74 1 := ⟨Try.sizeOf74⟩
instance : Zr Try.prog 74 (Value.nilFunc) := ⟨Try.zeroValue74⟩
instance : Ag Try.prog 75 false := ⟨fun w => ag_of Try.underlying75 rfl w⟩
instance : Sz Try.prog 75 1 := ⟨Try.sizeOf75⟩
instance : Zr Try.prog 75 (Value.nilFunc) := ⟨Try.zeroValue75⟩
instance : Ag Try.prog 76 false := ⟨fun w => ag_of Try.underlying76 rfl w⟩
instance : Sz Try.prog 76 1 := ⟨Try.sizeOf76⟩
instance : Zr Try.prog 76 (Value.nilFunc) := ⟨Try.zeroValue76⟩
instance : Ag Try.prog 77 false := ⟨fun w => ag_of Try.underlying77 rfl w⟩
instance : Sz Try.prog 77 1 := ⟨Try.sizeOf77⟩
instance : Zr Try.prog 77 (Value.nilFunc) := ⟨Try.zeroValue77⟩
instance : Ag Try.prog 78 false := ⟨fun w => ag_of Try.underlying78 rfl w⟩
instance : Sz Try.prog 78 1 := ⟨Try.sizeOf78⟩
instance : Zr Try.prog 78 (Value.nilFunc) := ⟨Try.zeroValue78⟩
instance : Und Try.prog 79 (TypeDesc.map 3 4) := ⟨Try.underlying79⟩
instance : Ag Try.prog 79 false := ⟨fun w => ag_of Try.underlying79 rfl w⟩
instance : Sz Try.prog 79 1 := ⟨Try.sizeOf79⟩
instance : Zr Try.prog 79 (Value.map none) := ⟨Try.zeroValue79⟩
instance : Und Try.prog 80 (TypeDesc.int IntKind.u64) := ⟨Try.underlying80⟩
instance : Ag Try.prog 80 false := ⟨fun w => ag_of Try.underlying80 rfl w⟩
instance : Sz Try.prog 80 1 := ⟨Try.sizeOf80⟩
instance : Zr Try.prog 80 (Value.int IntKind.u64 0) := ⟨Try.zeroValue80⟩
instance : Ag Try.prog 81 false := ⟨fun w => ag_of Try.underlying81 rfl w⟩
instance : Sz Try.prog 81 1 := ⟨Try.sizeOf81⟩
instance : Zr Try.prog 81 (Value.tuple #[Value.int IntKind.u64 0, Value.int IntKind.u64 0]) := ⟨Try.zeroValue81⟩
instance : Ag Try.prog 82 false := ⟨fun w => ag_of Try.underlying82 rfl w⟩
instance : Sz Try.prog 82 1 := ⟨Try.sizeOf82⟩
instance : Zr Try.prog 82 (Value.nilFunc) := ⟨Try.zeroValue82⟩
instance : Ag Try.prog 83 false := ⟨fun w => ag_of Try.underlying83 rfl w⟩
instance : Sz Try.prog 83 1 := ⟨Try.sizeOf83⟩
instance : Zr Try.prog 83 (Value.nilFunc) := ⟨Try.zeroValue83⟩
instance : Ag Try.prog 84 false := ⟨fun w => ag_of Try.underlying84 rfl w⟩
instance : Sz Try.prog 84 1 := ⟨Try.sizeOf84⟩
instance : Zr Try.prog 84 (Value.nilFunc) := ⟨Try.zeroValue84⟩
instance : Und Try.prog 85 (TypeDesc.pointer 57) := ⟨Try.underlying85⟩
instance : Ag Try.prog 85 false := ⟨fun w => ag_of Try.underlying85 rfl w⟩
instance : Sz Try.prog 85 1 := ⟨Try.sizeOf85⟩
instance : Zr Try.prog 85 (Value.pointer none) := ⟨Try.zeroValue85⟩
instance : Ag Try.prog 86 false := ⟨fun w => ag_of Try.underlying86 rfl w⟩
instance : Sz Try.prog 86 1 := ⟨Try.sizeOf86⟩
instance : Zr Try.prog 86 (Value.nilFunc) := ⟨Try.zeroValue86⟩
instance : Und Try.prog 87 (TypeDesc.int IntKind.u32) := ⟨Try.underlying87⟩
instance : Ag Try.prog 87 false := ⟨fun w => ag_of Try.underlying87 rfl w⟩
instance : Sz Try.prog 87 1 := ⟨Try.sizeOf87⟩
instance : Zr Try.prog 87 (Value.int IntKind.u32 0) := ⟨Try.zeroValue87⟩
instance : Ag Try.prog 88 false := ⟨fun w => ag_of Try.underlying88 rfl w⟩
instance : Sz Try.prog 88 1 := ⟨Try.sizeOf88⟩
instance : Zr Try.prog 88 (Value.tuple #[Value.int IntKind.u32 0, Value.int IntKind.u32 0]) := ⟨Try.zeroValue88⟩
instance : Ag Try.prog 89 false := ⟨fun w => ag_of Try.underlying89 rfl w⟩
instance : Sz Try.prog 89 1 := ⟨Try.sizeOf89⟩
instance : Zr Try.prog 89 (Value.nilFunc) := ⟨Try.zeroValue89⟩
instance : Und Try.prog 90 (TypeDesc.int IntKind.u64) := ⟨Try.underlying90⟩
instance : Ag Try.prog 90 false := ⟨fun w => ag_of Try.underlying90 rfl w⟩
instance : Sz Try.prog 90 1 := ⟨Try.sizeOf90⟩
instance : Zr Try.prog 90 (Value.int IntKind.u64 0) := ⟨Try.zeroValue90⟩
instance : Ag Try.prog 91 false := ⟨fun w => ag_of Try.underlying91 rfl w⟩
instance : Sz Try.prog 91 1 := ⟨Try.sizeOf91⟩
instance : Zr Try.prog 91 (Value.tuple #[Value.int IntKind.u64 0, Value.int IntKind.u64 0]) := ⟨Try.zeroValue91⟩
instance : Ag Try.prog 92 false := ⟨fun w => ag_of Try.underlying92 rfl w⟩
instance : Sz Try.prog 92 1 := ⟨Try.sizeOf92⟩
instance : Zr Try.prog 92 (Value.nilFunc) := ⟨Try.zeroValue92⟩
instance : Ag Try.prog 93 false := ⟨fun w => ag_of Try.underlying93 rfl w⟩
instance : Sz Try.prog 93 1 := ⟨Try.sizeOf93⟩
instance : Zr Try.prog 93 (Value.nilFunc) := ⟨Try.zeroValue93⟩
instance : Ag Try.prog 94 true := ⟨fun w => ag_of Try.underlying94 rfl w⟩
instance : Sz Try.prog 94 4 := ⟨Try.sizeOf94⟩
instance : Zr Try.prog 94 (Value.agg #[Value.pointer none, Value.pointer none, Value.pointer none, Value.string { data := #[] }]) := ⟨Try.zeroValue94⟩
instance : Fo Try.prog 94 0 0 := ⟨fun w b o => by simp [go_sem]⟩
instance : Fo Try.prog 94 1 1 := ⟨fun w b o => by simp [go_sem]⟩
instance : Fo Try.prog 94 2 2 := ⟨fun w b o => by simp [go_sem]⟩
instance : Fo Try.prog 94 3 3 := ⟨fun w b o => by simp [go_sem]⟩
instance : Bld Try.prog 94 [Value.pointer none, Value.pointer none, Value.pointer none, Value.string { data := #[] }] [(0, 1), (1, 1), (2, 1), (3, 1)] := bld_struct Try.underlying94 Try.zeroValue94 fun w => by simp [go_sem]
instance : Ag Try.prog 95 true := ⟨fun w => ag_of Try.underlying95 rfl w⟩
instance : Sz Try.prog 95 4 := ⟨Try.sizeOf95⟩
instance : Zr Try.prog 95 (Value.agg #[Value.pointer none, Value.pointer none, Value.pointer none, Value.string { data := #[] }]) := ⟨Try.zeroValue95⟩
instance : Fo Try.prog 95 0 0 := ⟨fun w b o => by simp [go_sem]⟩
instance : Fo Try.prog 95 1 1 := ⟨fun w b o => by simp [go_sem]⟩
instance : Fo Try.prog 95 2 2 := ⟨fun w b o => by simp [go_sem]⟩
instance : Fo Try.prog 95 3 3 := ⟨fun w b o => by simp [go_sem]⟩
instance : Bld Try.prog 95 [Value.pointer none, Value.pointer none, Value.pointer none, Value.string { data := #[] }] [(0, 1), (1, 1), (2, 1), (3, 1)] := bld_struct Try.underlying95 Try.zeroValue95 fun w => by simp [go_sem]
instance : Und Try.prog 96 (TypeDesc.array 0 16) := ⟨Try.underlying96⟩
instance : Ag Try.prog 96 true := ⟨fun w => ag_of Try.underlying96 rfl w⟩
instance : Sz Try.prog 96 0 := ⟨Try.sizeOf96⟩
instance : Zr Try.prog 96 (Value.agg #[]) := ⟨Try.zeroValue96⟩
instance : Ag Try.prog 97 true := ⟨fun w => ag_of Try.underlying97 rfl w⟩
instance : Sz Try.prog 97 0 := ⟨Try.sizeOf97⟩
instance : Zr Try.prog 97 (Value.agg #[]) := ⟨Try.zeroValue97⟩
instance : Bld Try.prog 97 [] [(0, 0)] := bld_struct Try.underlying97 Try.zeroValue97 fun w => by simp [go_sem]
instance : Ag Try.prog 98 true := ⟨fun w => ag_of Try.underlying98 rfl w⟩
instance : Sz Try.prog 98 0 := ⟨Try.sizeOf98⟩
instance : Zr Try.prog 98 (Value.agg #[]) := ⟨Try.zeroValue98⟩
instance : Bld Try.prog 98 [] [(0, 0)] := bld_struct Try.underlying98 Try.zeroValue98 fun w => by simp [go_sem]
instance : Und Try.prog 99 (TypeDesc.int IntKind.u8) := ⟨Try.underlying99⟩
instance : Ag Try.prog 99 false := ⟨fun w => ag_of Try.underlying99 rfl w⟩
instance : Sz Try.prog 99 1 := ⟨Try.sizeOf99⟩
instance : Zr Try.prog 99 (Value.int IntKind.u8 0) := ⟨Try.zeroValue99⟩
instance : Und Try.prog 100 (TypeDesc.int IntKind.u8) := ⟨Try.underlying100⟩
instance : Ag Try.prog 100 false := ⟨fun w => ag_of Try.underlying100 rfl w⟩
instance : Sz Try.prog 100 1 := ⟨Try.sizeOf100⟩
instance : Zr Try.prog 100 (Value.int IntKind.u8 0) := ⟨Try.zeroValue100⟩
instance : Ag Try.prog 101 false := ⟨fun w => ag_of Try.underlying101 rfl w⟩
instance : Sz Try.prog 101 1 := ⟨Try.sizeOf101⟩
instance : Zr Try.prog 101 (Value.nilFunc) := ⟨Try.zeroValue101⟩
instance : Und Try.prog 102 (TypeDesc.pointer 5) := ⟨Try.underlying102⟩
instance : Ag Try.prog 102 false := ⟨fun w => ag_of Try.underlying102 rfl w⟩
instance : Sz Try.prog 102 1 := ⟨Try.sizeOf102⟩
instance : Zr Try.prog 102 (Value.pointer none) := ⟨Try.zeroValue102⟩
instance : Und Try.prog 103 (TypeDesc.int IntKind.i32) := ⟨Try.underlying103⟩
instance : Ag Try.prog 103 false := ⟨fun w => ag_of Try.underlying103 rfl w⟩
instance : Sz Try.prog 103 1 := ⟨Try.sizeOf103⟩
instance : Zr Try.prog 103 (Value.int IntKind.i32 0) := ⟨Try.zeroValue103⟩
instance : Und Try.prog 104 (TypeDesc.int IntKind.i32) := ⟨Try.underlying104⟩
instance : Ag Try.prog 104 false := ⟨fun w => ag_of Try.underlying104 rfl w⟩
instance : Sz Try.prog 104 1 := ⟨Try.sizeOf104⟩
instance : Zr Try.prog 104 (Value.int IntKind.i32 0) := ⟨Try.zeroValue104⟩
instance : Ag Try.prog 105 true := ⟨fun w => ag_of Try.underlying105 rfl w⟩
instance : Sz Try.prog 105 11 := ⟨Try.sizeOf105⟩
instance : Zr Try.prog 105 (Value.agg   #[Value.int IntKind.u64 0, Value.int IntKind.u64 0, Value.int IntKind.u32 0, Value.int IntKind.u8 0,     Value.int IntKind.u8 0, Value.int IntKind.u8 0, Value.int IntKind.u8 0, Value.nilFunc, Value.pointer none,     Value.int IntKind.i32 0, Value.int IntKind.i32 0]) := ⟨Try.zeroValue105⟩
instance : Fo Try.prog 105 0 0 := ⟨fun w b o => by simp [go_sem]⟩
instance : Fo Try.prog 105 1 1 := ⟨fun w b o => by simp [go_sem]⟩
instance : Fo Try.prog 105 2 2 := ⟨fun w b o => by simp [go_sem]⟩
instance : Fo Try.prog 105 3 3 := ⟨fun w b o => by simp [go_sem]⟩
instance : Fo Try.prog 105 4 4 := ⟨fun w b o => by simp [go_sem]⟩
instance : Fo Try.prog 105 5 5 := ⟨fun w b o => by simp [go_sem]⟩
instance : Fo Try.prog 105 6 6 := ⟨fun w b o => by simp [go_sem]⟩
instance : Fo Try.prog 105 7 7 := ⟨fun w b o => by simp [go_sem]⟩
instance : Fo Try.prog 105 8 8 := ⟨fun w b o => by simp [go_sem]⟩
instance : Fo Try.prog 105 9 9 := ⟨fun w b o => by simp [go_sem]⟩
instance : Fo Try.prog 105 10 10 := ⟨fun w b o => by simp [go_sem]⟩
instance : Bld Try.prog 105 [Value.int IntKind.u64 0, Value.int IntKind.u64 0, Value.int IntKind.u32 0, Value.int IntKind.u8 0, Value.int IntKind.u8 0, Value.int IntKind.u8 0, Value.int IntKind.u8 0, Value.nilFunc, Value.pointer none, Value.int IntKind.i32 0, Value.int IntKind.i32 0] [(0, 1), (1, 1), (2, 1), (3, 1), (4, 1), (5, 1), (6, 1), (7, 1), (8, 1), (9, 1), (10, 1)] := bld_struct Try.underlying105 Try.zeroValue105 fun w => by simp [go_sem]
instance : Ag Try.prog 106 true := ⟨fun w => ag_of Try.underlying106 rfl w⟩
instance : Sz Try.prog 106 11 := ⟨Try.sizeOf106⟩
instance : Zr Try.prog 106 (Value.agg   #[Value.int IntKind.u64 0, Value.int IntKind.u64 0, Value.int IntKind.u32 0, Value.int IntKind.u8 0,     Value.int IntKind.u8 0, Value.int IntKind.u8 0, Value.int IntKind.u8 0, Value.nilFunc, Value.pointer none,     Value.int IntKind.i32 0, Value.int IntKind.i32 0]) := ⟨Try.zeroValue106⟩
instance : Fo Try.prog 106 0 0 := ⟨fun w b o => by simp [go_sem]⟩
instance : Fo Try.prog 106 1 1 := ⟨fun w b o => by simp [go_sem]⟩
instance : Fo Try.prog 106 2 2 := ⟨fun w b o => by simp [go_sem]⟩
instance : Fo Try.prog 106 3 3 := ⟨fun w b o => by simp [go_sem]⟩
instance : Fo Try.prog 106 4 4 := ⟨fun w b o => by simp [go_sem]⟩
instance : Fo Try.prog 106 5 5 := ⟨fun w b o => by simp [go_sem]⟩
instance : Fo Try.prog 106 6 6 := ⟨fun w b o => by simp [go_sem]⟩
instance : Fo Try.prog 106 7 7 := ⟨fun w b o => by simp [go_sem]⟩
instance : Fo Try.prog 106 8 8 := ⟨fun w b o => by simp [go_sem]⟩
instance : Fo Try.prog 106 9 9 := ⟨fun w b o => by simp [go_sem]⟩
instance : Fo Try.prog 106 10 10 := ⟨fun w b o => by simp [go_sem]⟩
instance : Bld Try.prog 106 [Value.int IntKind.u64 0, Value.int IntKind.u64 0, Value.int IntKind.u32 0, Value.int IntKind.u8 0, Value.int IntKind.u8 0, Value.int IntKind.u8 0, Value.int IntKind.u8 0, Value.nilFunc, Value.pointer none, Value.int IntKind.i32 0, Value.int IntKind.i32 0] [(0, 1), (1, 1), (2, 1), (3, 1), (4, 1), (5, 1), (6, 1), (7, 1), (8, 1), (9, 1), (10, 1)] := bld_struct Try.underlying106 Try.zeroValue106 fun w => by simp [go_sem]
instance : Ag Try.prog 107 false := ⟨fun w => ag_of Try.underlying107 rfl w⟩
instance : Sz Try.prog 107 1 := ⟨Try.sizeOf107⟩
instance : Zr Try.prog 107 (Value.pointer none) := ⟨Try.zeroValue107⟩
instance : Fun_ Try.prog 2 := ⟨Try.call2⟩
instance : Fun_ Try.prog 3 := ⟨Try.call3⟩
instance : Fun_ Try.prog 4 := ⟨Try.call4⟩
instance : Fun_ Try.prog 5 := ⟨Try.call5⟩
instance : Fun_ Try.prog 6 := ⟨Try.call6⟩
instance : Fun_ Try.prog 7 := ⟨Try.call7⟩
instance : Fun_ Try.prog 8 := ⟨Try.call8⟩
instance : Fun_ Try.prog 9 := ⟨Try.call9⟩
instance : Fun_ Try.prog 10 := ⟨Try.call10⟩
instance : Fun_ Try.prog 11 := ⟨Try.call11⟩
instance : Fun_ Try.prog 12 := ⟨Try.call12⟩
instance : Fun_ Try.prog 13 := ⟨Try.call13⟩
instance : Fun_ Try.prog 14 := ⟨Try.call14⟩
instance : Fun_ Try.prog 15 := ⟨Try.call15⟩
instance : Fun_ Try.prog 16 := ⟨Try.call16⟩
instance : Fun_ Try.prog 17 := ⟨Try.call17⟩
instance : Fun_ Try.prog 18 := ⟨Try.call18⟩
instance : Fun_ Try.prog 19 := ⟨Try.call19⟩
instance : Fun_ Try.prog 20 := ⟨Try.call20⟩
instance : Fun_ Try.prog 21 := ⟨Try.call21⟩
instance : Fun_ Try.prog 22 := ⟨Try.call22⟩
instance : Fun_ Try.prog 23 := ⟨Try.call23⟩
instance : Fun_ Try.prog 24 := ⟨Try.call24⟩
instance : Fun_ Try.prog 25 := ⟨Try.call25⟩
instance : Fun_ Try.prog 26 := ⟨Try.call26⟩
instance : Fun_ Try.prog 27 := ⟨Try.call27⟩
instance : Fun_ Try.prog 28 := ⟨Try.call28⟩
instance : Fun_ Try.prog 29 := ⟨Try.call29⟩
instance : Fun_ Try.prog 30 := ⟨Try.call30⟩
instance : Fun_ Try.prog 31 := ⟨Try.call31⟩
instance : Fun_ Try.prog 32 := ⟨Try.call32⟩
instance : Fun_ Try.prog 33 := ⟨Try.call33⟩
instance : Fun_ Try.prog 34 := ⟨Try.call34⟩
instance : Fun_ Try.prog 35 := ⟨Try.call35⟩
instance : Fun_ Try.prog 36 := ⟨Try.call36⟩
instance : Fun_ Try.prog 37 := ⟨Try.call37⟩
instance : Fun_ Try.prog 38 := ⟨Try.call38⟩
instance : Fun_ Try.prog 39 := ⟨Try.call39⟩
instance : Fun_ Try.prog 40 := ⟨Try.call40⟩
instance : Fun_ Try.prog 41 := ⟨Try.call41⟩
instance : Fun_ Try.prog 42 := ⟨Try.call42⟩
instance : Fun_ Try.prog 43 := ⟨Try.call43⟩
instance : Fun_ Try.prog 44 := ⟨Try.call44⟩
instance : Fun_ Try.prog 45 := ⟨Try.call45⟩
instance : Fun_ Try.prog 46 := ⟨Try.call46⟩
instance : Fun_ Try.prog 47 := ⟨Try.call47⟩
instance : Fun_ Try.prog 48 := ⟨Try.call48⟩
instance : Fun_ Try.prog 49 := ⟨Try.call49⟩
instance : Fun_ Try.prog 50 := ⟨Try.call50⟩
instance : Fun_ Try.prog 51 := ⟨Try.call51⟩
instance : Fun_ Try.prog 52 := ⟨Try.call52⟩
instance : Fun_ Try.prog 53 := ⟨Try.call53⟩
instance : Fun_ Try.prog 54 := ⟨Try.call54⟩
instance : Fun_ Try.prog 55 := ⟨Try.call55⟩
instance : Fun_ Try.prog 56 := ⟨Try.call56⟩
instance : Fun_ Try.prog 57 := ⟨Try.call57⟩
instance : Fun_ Try.prog 58 := ⟨Try.call58⟩
instance : Fun_ Try.prog 59 := ⟨Try.call59⟩
instance : Fun_ Try.prog 60 := ⟨Try.call60⟩
instance : Fun_ Try.prog 61 := ⟨Try.call61⟩
end Go.Proofs.Ytinnkclemjognaa
