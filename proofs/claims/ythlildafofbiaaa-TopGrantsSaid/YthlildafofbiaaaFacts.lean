/- Facts on the types and functions of the program, by their numbers. No conditions. -/
import Derived.Test.YthlildafofbiaaaRows
import Derived.Test.YthlildafofbiaaaAuto
namespace Go.Proofs.Ythlildafofbiaaa
open Go Go.RowKit
instance : Ag Try.prog 0 false := ⟨fun w => ag_of Try.underlying0 rfl w⟩
instance : Sz Try.prog 0 1 := ⟨Try.sizeOf0⟩
instance : Zr Try.prog 0 (Value.tuple #[]) := ⟨Try.zeroValue0⟩
instance : Ag Try.prog 1 false := ⟨fun w => ag_of Try.underlying1 rfl w⟩
instance : Sz Try.prog 1 1 := ⟨Try.sizeOf1⟩
instance : Zr Try.prog 1 (Value.nilFunc) := ⟨Try.zeroValue1⟩
instance : Und Try.prog 2 (TypeDesc.int IntKind.i64) := ⟨Try.underlying2⟩
instance : ElT Try.prog 2 Int := ⟨trivial⟩
instance : Ag Try.prog 2 false := ⟨fun w => ag_of Try.underlying2 rfl w⟩
instance : Sz Try.prog 2 1 := ⟨Try.sizeOf2⟩
instance : Zr Try.prog 2 (Value.int IntKind.i64 0) := ⟨Try.zeroValue2⟩
instance : Und Try.prog 3 (TypeDesc.int IntKind.i64) := ⟨Try.underlying3⟩
instance : ElT Try.prog 3 Int := ⟨trivial⟩
instance : Ag Try.prog 3 false := ⟨fun w => ag_of Try.underlying3 rfl w⟩
instance : Sz Try.prog 3 1 := ⟨Try.sizeOf3⟩
instance : Zr Try.prog 3 (Value.int IntKind.i64 0) := ⟨Try.zeroValue3⟩
instance : Und Try.prog 4 (TypeDesc.bool) := ⟨Try.underlying4⟩
instance : ElT Try.prog 4 Bool := ⟨trivial⟩
instance : Ag Try.prog 4 false := ⟨fun w => ag_of Try.underlying4 rfl w⟩
instance : Sz Try.prog 4 1 := ⟨Try.sizeOf4⟩
instance : Zr Try.prog 4 (Value.bool false) := ⟨Try.zeroValue4⟩
instance : Und Try.prog 5 (TypeDesc.int IntKind.u8) := ⟨Try.underlying5⟩
instance : Ag Try.prog 5 false := ⟨fun w => ag_of Try.underlying5 rfl w⟩
instance : Sz Try.prog 5 1 := ⟨Try.sizeOf5⟩
instance : Zr Try.prog 5 (Value.int IntKind.u8 0) := ⟨Try.zeroValue5⟩
instance : Und Try.prog 6 (TypeDesc.int IntKind.u8) := ⟨Try.underlying6⟩
instance : Ag Try.prog 6 false := ⟨fun w => ag_of Try.underlying6 rfl w⟩
instance : Sz Try.prog 6 1 := ⟨Try.sizeOf6⟩
instance : Zr Try.prog 6 (Value.int IntKind.u8 0) := ⟨Try.zeroValue6⟩
instance : Ag Try.prog 7 true := ⟨fun w => ag_of Try.underlying7 rfl w⟩
instance : Sz Try.prog 7 4 := ⟨Try.sizeOf7⟩
instance : Zr Try.prog 7 (Value.agg #[Value.int IntKind.i64 0, Value.int IntKind.i64 0, Value.bool false, Value.int IntKind.u8 0]) := ⟨Try.zeroValue7⟩
instance : Fo Try.prog 7 0 0 := ⟨fun w b o => by simp [go_sem]⟩
instance : Fo Try.prog 7 1 1 := ⟨fun w b o => by simp [go_sem]⟩
instance : Fo Try.prog 7 2 2 := ⟨fun w b o => by simp [go_sem]⟩
instance : Fo Try.prog 7 3 3 := ⟨fun w b o => by simp [go_sem]⟩
instance : Bld Try.prog 7 [Value.int IntKind.i64 0, Value.int IntKind.i64 0, Value.bool false, Value.int IntKind.u8 0] [(0, 1), (1, 1), (2, 1), (3, 1)] := bld_struct Try.underlying7 Try.zeroValue7 fun w => by simp [go_sem]
instance (a0 b0 : Int) (a1 b1 : Int) (a2 b2 : Bool) (a3 b3 : Int) : Eq_ Try.prog 7 (.agg #[.int IntKind.i64 a0, .int IntKind.i64 a1, .bool a2, .int IntKind.u8 a3]) (.agg #[.int IntKind.i64 b0, .int IntKind.i64 b1, .bool b2, .int IntKind.u8 b3]) (a0 == b0 && a1 == b1 && a2 == b2 && a3 == b3) := ⟨fun w p q => by simp [go_sem], fun w => by simp [go_sem]; (repeat' split) <;> simp_all⟩
instance (a0 b0 : Int) (a1 b1 : Int) (a2 b2 : Bool) (a3 b3 : Int) : Neq_ Try.prog 7 (.agg #[.int IntKind.i64 a0, .int IntKind.i64 a1, .bool a2, .int IntKind.u8 a3]) (.agg #[.int IntKind.i64 b0, .int IntKind.i64 b1, .bool b2, .int IntKind.u8 b3]) (!(a0 == b0 && a1 == b1 && a2 == b2 && a3 == b3)) := ⟨fun w p q => by simp [go_sem], fun w => by simp [go_sem]; (repeat' split) <;> simp_all⟩
instance : Ag Try.prog 8 true := ⟨fun w => ag_of Try.underlying8 rfl w⟩
instance : Sz Try.prog 8 4 := ⟨Try.sizeOf8⟩
instance : Zr Try.prog 8 (Value.agg #[Value.int IntKind.i64 0, Value.int IntKind.i64 0, Value.bool false, Value.int IntKind.u8 0]) := ⟨Try.zeroValue8⟩
instance : Fo Try.prog 8 0 0 := ⟨fun w b o => by simp [go_sem]⟩
instance : Fo Try.prog 8 1 1 := ⟨fun w b o => by simp [go_sem]⟩
instance : Fo Try.prog 8 2 2 := ⟨fun w b o => by simp [go_sem]⟩
instance : Fo Try.prog 8 3 3 := ⟨fun w b o => by simp [go_sem]⟩
instance : Bld Try.prog 8 [Value.int IntKind.i64 0, Value.int IntKind.i64 0, Value.bool false, Value.int IntKind.u8 0] [(0, 1), (1, 1), (2, 1), (3, 1)] := bld_struct Try.underlying8 Try.zeroValue8 fun w => by simp [go_sem]
instance (a0 b0 : Int) (a1 b1 : Int) (a2 b2 : Bool) (a3 b3 : Int) : Eq_ Try.prog 8 (.agg #[.int IntKind.i64 a0, .int IntKind.i64 a1, .bool a2, .int IntKind.u8 a3]) (.agg #[.int IntKind.i64 b0, .int IntKind.i64 b1, .bool b2, .int IntKind.u8 b3]) (a0 == b0 && a1 == b1 && a2 == b2 && a3 == b3) := ⟨fun w p q => by simp [go_sem], fun w => by simp [go_sem]; (repeat' split) <;> simp_all⟩
instance (a0 b0 : Int) (a1 b1 : Int) (a2 b2 : Bool) (a3 b3 : Int) : Neq_ Try.prog 8 (.agg #[.int IntKind.i64 a0, .int IntKind.i64 a1, .bool a2, .int IntKind.u8 a3]) (.agg #[.int IntKind.i64 b0, .int IntKind.i64 b1, .bool b2, .int IntKind.u8 b3]) (!(a0 == b0 && a1 == b1 && a2 == b2 && a3 == b3)) := ⟨fun w p q => by simp [go_sem], fun w => by simp [go_sem]; (repeat' split) <;> simp_all⟩
instance : Ag Try.prog 9 false := ⟨fun w => ag_of Try.underlying9 rfl w⟩
instance : Sz Try.prog 9 1 := ⟨Try.sizeOf9⟩
instance : Zr Try.prog 9 (Value.string { data := #[] }) := ⟨Try.zeroValue9⟩
instance : Ag Try.prog 10 false := ⟨fun w => ag_of Try.underlying10 rfl w⟩
instance : Sz Try.prog 10 1 := ⟨Try.sizeOf10⟩
instance : Zr Try.prog 10 (Value.string { data := #[] }) := ⟨Try.zeroValue10⟩
instance : Ag Try.prog 11 false := ⟨fun w => ag_of Try.underlying11 rfl w⟩
instance : Sz Try.prog 11 1 := ⟨Try.sizeOf11⟩
instance : Zr Try.prog 11 (Value.string { data := #[] }) := ⟨Try.zeroValue11⟩
instance : Und Try.prog 12 (TypeDesc.int IntKind.u64) := ⟨Try.underlying12⟩
instance : Ag Try.prog 12 false := ⟨fun w => ag_of Try.underlying12 rfl w⟩
instance : Sz Try.prog 12 1 := ⟨Try.sizeOf12⟩
instance : Zr Try.prog 12 (Value.int IntKind.u64 0) := ⟨Try.zeroValue12⟩
instance : Ag Try.prog 13 true := ⟨fun w => ag_of Try.underlying13 rfl w⟩
instance : Sz Try.prog 13 2 := ⟨Try.sizeOf13⟩
instance : Zr Try.prog 13 (Value.agg #[Value.string { data := #[] }, Value.int IntKind.u64 0]) := ⟨Try.zeroValue13⟩
instance : Fo Try.prog 13 0 0 := ⟨fun w b o => by simp [go_sem]⟩
instance : Fo Try.prog 13 1 1 := ⟨fun w b o => by simp [go_sem]⟩
instance : Bld Try.prog 13 [Value.string { data := #[] }, Value.int IntKind.u64 0] [(0, 1), (1, 1)] := bld_struct Try.underlying13 Try.zeroValue13 fun w => by simp [go_sem]
instance : Ag Try.prog 14 true := ⟨fun w => ag_of Try.underlying14 rfl w⟩
instance : Sz Try.prog 14 2 := ⟨Try.sizeOf14⟩
instance : Zr Try.prog 14 (Value.agg #[Value.string { data := #[] }, Value.int IntKind.u64 0]) := ⟨Try.zeroValue14⟩
instance : Fo Try.prog 14 0 0 := ⟨fun w b o => by simp [go_sem]⟩
instance : Fo Try.prog 14 1 1 := ⟨fun w b o => by simp [go_sem]⟩
instance : Bld Try.prog 14 [Value.string { data := #[] }, Value.int IntKind.u64 0] [(0, 1), (1, 1)] := bld_struct Try.underlying14 Try.zeroValue14 fun w => by simp [go_sem]
instance : Und Try.prog 15 (TypeDesc.pointer 80) := ⟨Try.underlying15⟩
instance : Ag Try.prog 15 false := ⟨fun w => ag_of Try.underlying15 rfl w⟩
instance : Sz Try.prog 15 1 := ⟨Try.sizeOf15⟩
instance : Zr Try.prog 15 (Value.pointer none) := ⟨Try.zeroValue15⟩
instance : Und Try.prog 16 (TypeDesc.pointer 83) := ⟨Try.underlying16⟩
instance : Ag Try.prog 16 false := ⟨fun w => ag_of Try.underlying16 rfl w⟩
instance : Sz Try.prog 16 1 := ⟨Try.sizeOf16⟩
instance : Zr Try.prog 16 (Value.pointer none) := ⟨Try.zeroValue16⟩
instance : Und Try.prog 17 (TypeDesc.pointer 93) := ⟨Try.underlying17⟩
instance : Ag Try.prog 17 false := ⟨fun w => ag_of Try.underlying17 rfl w⟩
instance : Sz Try.prog 17 1 := ⟨Try.sizeOf17⟩
instance : Zr Try.prog 17 (Value.pointer none) := ⟨Try.zeroValue17⟩
instance : Ag Try.prog 18 true := ⟨fun w => ag_of Try.underlying18 rfl w⟩
instance : Sz Try.prog 18 1 := ⟨Try.sizeOf18⟩
instance : Zr Try.prog 18 (Value.agg #[Value.pointer none]) := ⟨Try.zeroValue18⟩
instance : Fo Try.prog 18 0 0 := ⟨fun w b o => by simp [go_sem]⟩
instance : Bld Try.prog 18 [Value.pointer none] [(0, 1)] := bld_struct Try.underlying18 Try.zeroValue18 fun w => by simp [go_sem]
instance : Ag Try.prog 19 true := ⟨fun w => ag_of Try.underlying19 rfl w⟩
instance : Sz Try.prog 19 1 := ⟨Try.sizeOf19⟩
instance : Zr Try.prog 19 (Value.agg #[Value.pointer none]) := ⟨Try.zeroValue19⟩
instance : Fo Try.prog 19 0 0 := ⟨fun w b o => by simp [go_sem]⟩
instance : Bld Try.prog 19 [Value.pointer none] [(0, 1)] := bld_struct Try.underlying19 Try.zeroValue19 fun w => by simp [go_sem]
instance : Ag Try.prog 20 false := ⟨fun w => ag_of Try.underlying20 rfl w⟩
instance : Sz Try.prog 20 1 := ⟨Try.sizeOf20⟩
instance : Zr Try.prog 20 (Value.nilIface) := ⟨Try.zeroValue20⟩
instance : Und Try.prog 21 (TypeDesc.int IntKind.i32) := ⟨Try.underlying21⟩
instance : Ag Try.prog 21 false := ⟨fun w => ag_of Try.underlying21 rfl w⟩
instance : Sz Try.prog 21 1 := ⟨Try.sizeOf21⟩
instance : Zr Try.prog 21 (Value.int IntKind.i32 0) := ⟨Try.zeroValue21⟩
instance : Und Try.prog 22 (TypeDesc.slice 27) := ⟨Try.underlying22⟩
instance : SlTy Try.prog 22 27 4 (Value.agg #[Value.int IntKind.u8 0, Value.int IntKind.u8 0, Value.int IntKind.u8 0, Value.int IntKind.u8 0]) := ⟨Try.underlying22, by kernel_rfl, rfl⟩
instance : Ag Try.prog 22 false := ⟨fun w => ag_of Try.underlying22 rfl w⟩
instance : Sz Try.prog 22 1 := ⟨Try.sizeOf22⟩
instance : Zr Try.prog 22 (Value.slice none 0 0) := ⟨Try.zeroValue22⟩
instance : Ag Try.prog 23 false := ⟨fun w => ag_of Try.underlying23 rfl w⟩
instance : Sz Try.prog 23 1 := ⟨Try.sizeOf23⟩
instance : Zr Try.prog 23 (Value.nilFunc) := ⟨Try.zeroValue23⟩
instance : Und Try.prog 24 (TypeDesc.pointer 35) := ⟨Try.underlying24⟩
instance : Ag Try.prog 24 false := ⟨fun w => ag_of Try.underlying24 rfl w⟩
instance : Sz Try.prog 24 1 := ⟨Try.sizeOf24⟩
instance : Zr Try.prog 24 (Value.pointer none) := ⟨Try.zeroValue24⟩
instance : Ag Try.prog 25 false := ⟨fun w => ag_of Try.underlying25 rfl w⟩
instance : Sz Try.prog 25 1 := ⟨Try.sizeOf25⟩
instance : Zr Try.prog 25 (Value.nilFunc) := ⟨Try.zeroValue25⟩
instance : Ag Try.prog 26 true := ⟨fun w => ag_of Try.underlying26 rfl w⟩
instance : Sz Try.prog 26 4 := ⟨Try.sizeOf26⟩
instance : Zr Try.prog 26 (Value.agg #[Value.int IntKind.u8 0, Value.int IntKind.u8 0, Value.int IntKind.u8 0, Value.int IntKind.u8 0]) := ⟨Try.zeroValue26⟩
instance : Fo Try.prog 26 0 0 := ⟨fun w b o => by simp [go_sem]⟩
instance : Fo Try.prog 26 1 1 := ⟨fun w b o => by simp [go_sem]⟩
instance : Fo Try.prog 26 2 2 := ⟨fun w b o => by simp [go_sem]⟩
instance : Fo Try.prog 26 3 3 := ⟨fun w b o => by simp [go_sem]⟩
instance : Bld Try.prog 26 [Value.int IntKind.u8 0, Value.int IntKind.u8 0, Value.int IntKind.u8 0, Value.int IntKind.u8 0] [(0, 1), (1, 1), (2, 1), (3, 1)] := bld_struct Try.underlying26 Try.zeroValue26 fun w => by simp [go_sem]
instance (a0 b0 : Int) (a1 b1 : Int) (a2 b2 : Int) (a3 b3 : Int) : Eq_ Try.prog 26 (.agg #[.int IntKind.u8 a0, .int IntKind.u8 a1, .int IntKind.u8 a2, .int IntKind.u8 a3]) (.agg #[.int IntKind.u8 b0, .int IntKind.u8 b1, .int IntKind.u8 b2, .int IntKind.u8 b3]) (a0 == b0 && a1 == b1 && a2 == b2 && a3 == b3) := ⟨fun w p q => by simp [go_sem], fun w => by simp [go_sem]; (repeat' split) <;> simp_all⟩
instance (a0 b0 : Int) (a1 b1 : Int) (a2 b2 : Int) (a3 b3 : Int) : Neq_ Try.prog 26 (.agg #[.int IntKind.u8 a0, .int IntKind.u8 a1, .int IntKind.u8 a2, .int IntKind.u8 a3]) (.agg #[.int IntKind.u8 b0, .int IntKind.u8 b1, .int IntKind.u8 b2, .int IntKind.u8 b3]) (!(a0 == b0 && a1 == b1 && a2 == b2 && a3 == b3)) := ⟨fun w p q => by simp [go_sem], fun w => by simp [go_sem]; (repeat' split) <;> simp_all⟩
instance : Ag Try.prog 27 true := ⟨fun w => ag_of Try.underlying27 rfl w⟩
instance : Sz Try.prog 27 4 := ⟨Try.sizeOf27⟩
instance : Zr Try.prog 27 (Value.agg #[Value.int IntKind.u8 0, Value.int IntKind.u8 0, Value.int IntKind.u8 0, Value.int IntKind.u8 0]) := ⟨Try.zeroValue27⟩
instance : Fo Try.prog 27 0 0 := ⟨fun w b o => by simp [go_sem]⟩
instance : Fo Try.prog 27 1 1 := ⟨fun w b o => by simp [go_sem]⟩
instance : Fo Try.prog 27 2 2 := ⟨fun w b o => by simp [go_sem]⟩
instance : Fo Try.prog 27 3 3 := ⟨fun w b o => by simp [go_sem]⟩
instance : Bld Try.prog 27 [Value.int IntKind.u8 0, Value.int IntKind.u8 0, Value.int IntKind.u8 0, Value.int IntKind.u8 0] [(0, 1), (1, 1), (2, 1), (3, 1)] := bld_struct Try.underlying27 Try.zeroValue27 fun w => by simp [go_sem]
instance (a0 b0 : Int) (a1 b1 : Int) (a2 b2 : Int) (a3 b3 : Int) : Eq_ Try.prog 27 (.agg #[.int IntKind.u8 a0, .int IntKind.u8 a1, .int IntKind.u8 a2, .int IntKind.u8 a3]) (.agg #[.int IntKind.u8 b0, .int IntKind.u8 b1, .int IntKind.u8 b2, .int IntKind.u8 b3]) (a0 == b0 && a1 == b1 && a2 == b2 && a3 == b3) := ⟨fun w p q => by simp [go_sem], fun w => by simp [go_sem]; (repeat' split) <;> simp_all⟩
instance (a0 b0 : Int) (a1 b1 : Int) (a2 b2 : Int) (a3 b3 : Int) : Neq_ Try.prog 27 (.agg #[.int IntKind.u8 a0, .int IntKind.u8 a1, .int IntKind.u8 a2, .int IntKind.u8 a3]) (.agg #[.int IntKind.u8 b0, .int IntKind.u8 b1, .int IntKind.u8 b2, .int IntKind.u8 b3]) (!(a0 == b0 && a1 == b1 && a2 == b2 && a3 == b3)) := ⟨fun w p q => by simp [go_sem], fun w => by simp [go_sem]; (repeat' split) <;> simp_all⟩
instance : Ag Try.prog 28 false := ⟨fun w => ag_of Try.underlying28 rfl w⟩
instance : Sz Try.prog 28 1 := ⟨Try.sizeOf28⟩
instance : Zr Try.prog 28 (Value.nilFunc) := ⟨Try.zeroValue28⟩
instance : Ag Try.prog 29 false := ⟨fun w => ag_of Try.underlying29 rfl w⟩
instance : Sz Try.prog 29 1 := ⟨Try.sizeOf29⟩
instance : Zr Try.prog 29 (Value.nilFunc) := ⟨Try.zeroValue29⟩
instance : Und Try.prog 30 (TypeDesc.slice 37) := ⟨Try.underlying30⟩
instance : SlTy Try.prog 30 37 4 (Value.agg #[Value.int IntKind.i64 0, Value.int IntKind.i64 0, Value.int IntKind.i64 0, Value.int IntKind.i64 0]) := ⟨Try.underlying30, by kernel_rfl, rfl⟩
instance : Ag Try.prog 30 false := ⟨fun w => ag_of Try.underlying30 rfl w⟩
instance : Sz Try.prog 30 1 := ⟨Try.sizeOf30⟩
instance : Zr Try.prog 30 (Value.slice none 0 0) := ⟨Try.zeroValue30⟩
instance : Und Try.prog 31 (TypeDesc.slice 41) := ⟨Try.underlying31⟩
instance : SlTy Try.prog 31 41 5 (Value.agg   #[Value.int IntKind.i64 0, Value.int IntKind.i64 0, Value.int IntKind.i64 0, Value.int IntKind.i64 0,     Value.int IntKind.i64 0]) := ⟨Try.underlying31, by kernel_rfl, rfl⟩
instance : Ag Try.prog 31 false := ⟨fun w => ag_of Try.underlying31 rfl w⟩
instance : Sz Try.prog 31 1 := ⟨Try.sizeOf31⟩
instance : Zr Try.prog 31 (Value.slice none 0 0) := ⟨Try.zeroValue31⟩
instance : Und Try.prog 32 (TypeDesc.array 8 3) := ⟨Try.underlying32⟩
instance : Ag Try.prog 32 true := ⟨fun w => ag_of Try.underlying32 rfl w⟩
instance : Sz Try.prog 32 8 := ⟨Try.sizeOf32⟩
instance : Zr Try.prog 32 (Value.agg   #[Value.int IntKind.i64 0, Value.int IntKind.i64 0, Value.int IntKind.i64 0, Value.int IntKind.i64 0,     Value.int IntKind.i64 0, Value.int IntKind.i64 0, Value.int IntKind.i64 0, Value.int IntKind.i64 0]) := ⟨Try.zeroValue32⟩
instance : Und Try.prog 33 (TypeDesc.slice 39) := ⟨Try.underlying33⟩
instance : SlTy Try.prog 33 39 5 (Value.agg   #[Value.int IntKind.i64 0, Value.int IntKind.i64 0, Value.int IntKind.i64 0, Value.int IntKind.i64 0,     Value.int IntKind.i64 0]) := ⟨Try.underlying33, by kernel_rfl, rfl⟩
instance : Ag Try.prog 33 false := ⟨fun w => ag_of Try.underlying33 rfl w⟩
instance : Sz Try.prog 33 1 := ⟨Try.sizeOf33⟩
instance : Zr Try.prog 33 (Value.slice none 0 0) := ⟨Try.zeroValue33⟩
instance : Ag Try.prog 34 true := ⟨fun w => ag_of Try.underlying34 rfl w⟩
instance : Sz Try.prog 34 15 := ⟨Try.sizeOf34⟩
instance : Zr Try.prog 34 (Value.agg   #[Value.slice none 0 0, Value.slice none 0 0, Value.int IntKind.i64 0, Value.int IntKind.i64 0,     Value.int IntKind.i64 0, Value.int IntKind.i64 0, Value.int IntKind.i64 0, Value.int IntKind.i64 0,     Value.int IntKind.i64 0, Value.int IntKind.i64 0, Value.int IntKind.i64 0, Value.int IntKind.i64 0,     Value.int IntKind.i64 0, Value.int IntKind.i64 0, Value.slice none 0 0]) := ⟨Try.zeroValue34⟩
instance : Fo Try.prog 34 0 0 := ⟨fun w b o => by simp [go_sem]⟩
instance : Fo Try.prog 34 1 1 := ⟨fun w b o => by simp [go_sem]⟩
instance : Fo Try.prog 34 2 2 := ⟨fun w b o => by simp [go_sem]⟩
instance : Fo Try.prog 34 3 3 := ⟨fun w b o => by simp [go_sem]⟩
instance : Fo Try.prog 34 4 4 := ⟨fun w b o => by simp [go_sem]⟩
instance : Fo Try.prog 34 5 12 := ⟨fun w b o => by simp [go_sem]⟩
instance : Fo Try.prog 34 6 13 := ⟨fun w b o => by simp [go_sem]⟩
instance : Fo Try.prog 34 7 14 := ⟨fun w b o => by simp [go_sem]⟩
instance : Bld Try.prog 34 [Value.slice none 0 0, Value.slice none 0 0, Value.int IntKind.i64 0, Value.int IntKind.i64 0, Value.int IntKind.i64 0, Value.int IntKind.i64 0, Value.int IntKind.i64 0, Value.int IntKind.i64 0, Value.int IntKind.i64 0, Value.int IntKind.i64 0, Value.int IntKind.i64 0, Value.int IntKind.i64 0, Value.int IntKind.i64 0, Value.int IntKind.i64 0, Value.slice none 0 0] [(0, 1), (1, 1), (2, 1), (3, 1), (4, 8), (12, 1), (13, 1), (14, 1)] := bld_struct Try.underlying34 Try.zeroValue34 fun w => by simp [go_sem]
instance : Ag Try.prog 35 true := ⟨fun w => ag_of Try.underlying35 rfl w⟩
instance : Sz Try.prog 35 15 := ⟨Try.sizeOf35⟩
instance : Zr Try.prog 35 (Value.agg   #[Value.slice none 0 0, Value.slice none 0 0, Value.int IntKind.i64 0, Value.int IntKind.i64 0,     Value.int IntKind.i64 0, Value.int IntKind.i64 0, Value.int IntKind.i64 0, Value.int IntKind.i64 0,     Value.int IntKind.i64 0, Value.int IntKind.i64 0, Value.int IntKind.i64 0, Value.int IntKind.i64 0,     Value.int IntKind.i64 0, Value.int IntKind.i64 0, Value.slice none 0 0]) := ⟨Try.zeroValue35⟩
instance : Fo Try.prog 35 0 0 := ⟨fun w b o => by simp [go_sem]⟩
instance : Fo Try.prog 35 1 1 := ⟨fun w b o => by simp [go_sem]⟩
instance : Fo Try.prog 35 2 2 := ⟨fun w b o => by simp [go_sem]⟩
instance : Fo Try.prog 35 3 3 := ⟨fun w b o => by simp [go_sem]⟩
instance : Fo Try.prog 35 4 4 := ⟨fun w b o => by simp [go_sem]⟩
instance : Fo Try.prog 35 5 12 := ⟨fun w b o => by simp [go_sem]⟩
instance : Fo Try.prog 35 6 13 := ⟨fun w b o => by simp [go_sem]⟩
instance : Fo Try.prog 35 7 14 := ⟨fun w b o => by simp [go_sem]⟩
instance : Bld Try.prog 35 [Value.slice none 0 0, Value.slice none 0 0, Value.int IntKind.i64 0, Value.int IntKind.i64 0, Value.int IntKind.i64 0, Value.int IntKind.i64 0, Value.int IntKind.i64 0, Value.int IntKind.i64 0, Value.int IntKind.i64 0, Value.int IntKind.i64 0, Value.int IntKind.i64 0, Value.int IntKind.i64 0, Value.int IntKind.i64 0, Value.int IntKind.i64 0, Value.slice none 0 0] [(0, 1), (1, 1), (2, 1), (3, 1), (4, 8), (12, 1), (13, 1), (14, 1)] := bld_struct Try.underlying35 Try.zeroValue35 fun w => by simp [go_sem]
instance : Ag Try.prog 36 true := ⟨fun w => ag_of Try.underlying36 rfl w⟩
instance : Sz Try.prog 36 4 := ⟨Try.sizeOf36⟩
instance : Zr Try.prog 36 (Value.agg #[Value.int IntKind.i64 0, Value.int IntKind.i64 0, Value.int IntKind.i64 0, Value.int IntKind.i64 0]) := ⟨Try.zeroValue36⟩
instance : Fo Try.prog 36 0 0 := ⟨fun w b o => by simp [go_sem]⟩
instance : Fo Try.prog 36 1 1 := ⟨fun w b o => by simp [go_sem]⟩
instance : Fo Try.prog 36 2 2 := ⟨fun w b o => by simp [go_sem]⟩
instance : Fo Try.prog 36 3 3 := ⟨fun w b o => by simp [go_sem]⟩
instance : Bld Try.prog 36 [Value.int IntKind.i64 0, Value.int IntKind.i64 0, Value.int IntKind.i64 0, Value.int IntKind.i64 0] [(0, 1), (1, 1), (2, 1), (3, 1)] := bld_struct Try.underlying36 Try.zeroValue36 fun w => by simp [go_sem]
instance (a0 b0 : Int) (a1 b1 : Int) (a2 b2 : Int) (a3 b3 : Int) : Eq_ Try.prog 36 (.agg #[.int IntKind.i64 a0, .int IntKind.i64 a1, .int IntKind.i64 a2, .int IntKind.i64 a3]) (.agg #[.int IntKind.i64 b0, .int IntKind.i64 b1, .int IntKind.i64 b2, .int IntKind.i64 b3]) (a0 == b0 && a1 == b1 && a2 == b2 && a3 == b3) := ⟨fun w p q => by simp [go_sem], fun w => by simp [go_sem]; (repeat' split) <;> simp_all⟩
instance (a0 b0 : Int) (a1 b1 : Int) (a2 b2 : Int) (a3 b3 : Int) : Neq_ Try.prog 36 (.agg #[.int IntKind.i64 a0, .int IntKind.i64 a1, .int IntKind.i64 a2, .int IntKind.i64 a3]) (.agg #[.int IntKind.i64 b0, .int IntKind.i64 b1, .int IntKind.i64 b2, .int IntKind.i64 b3]) (!(a0 == b0 && a1 == b1 && a2 == b2 && a3 == b3)) := ⟨fun w p q => by simp [go_sem], fun w => by simp [go_sem]; (repeat' split) <;> simp_all⟩
instance : Ag Try.prog 37 true := ⟨fun w => ag_of Try.underlying37 rfl w⟩
instance : Sz Try.prog 37 4 := ⟨Try.sizeOf37⟩
instance : Zr Try.prog 37 (Value.agg #[Value.int IntKind.i64 0, Value.int IntKind.i64 0, Value.int IntKind.i64 0, Value.int IntKind.i64 0]) := ⟨Try.zeroValue37⟩
instance : Fo Try.prog 37 0 0 := ⟨fun w b o => by simp [go_sem]⟩
instance : Fo Try.prog 37 1 1 := ⟨fun w b o => by simp [go_sem]⟩
instance : Fo Try.prog 37 2 2 := ⟨fun w b o => by simp [go_sem]⟩
instance : Fo Try.prog 37 3 3 := ⟨fun w b o => by simp [go_sem]⟩
instance : Bld Try.prog 37 [Value.int IntKind.i64 0, Value.int IntKind.i64 0, Value.int IntKind.i64 0, Value.int IntKind.i64 0] [(0, 1), (1, 1), (2, 1), (3, 1)] := bld_struct Try.underlying37 Try.zeroValue37 fun w => by simp [go_sem]
instance (a0 b0 : Int) (a1 b1 : Int) (a2 b2 : Int) (a3 b3 : Int) : Eq_ Try.prog 37 (.agg #[.int IntKind.i64 a0, .int IntKind.i64 a1, .int IntKind.i64 a2, .int IntKind.i64 a3]) (.agg #[.int IntKind.i64 b0, .int IntKind.i64 b1, .int IntKind.i64 b2, .int IntKind.i64 b3]) (a0 == b0 && a1 == b1 && a2 == b2 && a3 == b3) := ⟨fun w p q => by simp [go_sem], fun w => by simp [go_sem]; (repeat' split) <;> simp_all⟩
instance (a0 b0 : Int) (a1 b1 : Int) (a2 b2 : Int) (a3 b3 : Int) : Neq_ Try.prog 37 (.agg #[.int IntKind.i64 a0, .int IntKind.i64 a1, .int IntKind.i64 a2, .int IntKind.i64 a3]) (.agg #[.int IntKind.i64 b0, .int IntKind.i64 b1, .int IntKind.i64 b2, .int IntKind.i64 b3]) (!(a0 == b0 && a1 == b1 && a2 == b2 && a3 == b3)) := ⟨fun w p q => by simp [go_sem], fun w => by simp [go_sem]; (repeat' split) <;> simp_all⟩
instance : Ag Try.prog 38 true := ⟨fun w => ag_of Try.underlying38 rfl w⟩
instance : Sz Try.prog 38 5 := ⟨Try.sizeOf38⟩
instance : Zr Try.prog 38 (Value.agg   #[Value.int IntKind.i64 0, Value.int IntKind.i64 0, Value.int IntKind.i64 0, Value.int IntKind.i64 0,     Value.int IntKind.i64 0]) := ⟨Try.zeroValue38⟩
instance : Fo Try.prog 38 0 0 := ⟨fun w b o => by simp [go_sem]⟩
instance : Fo Try.prog 38 1 1 := ⟨fun w b o => by simp [go_sem]⟩
instance : Bld Try.prog 38 [Value.int IntKind.i64 0, Value.int IntKind.i64 0, Value.int IntKind.i64 0, Value.int IntKind.i64 0, Value.int IntKind.i64 0] [(0, 1), (1, 4)] := bld_struct Try.underlying38 Try.zeroValue38 fun w => by simp [go_sem]
instance : Ag Try.prog 39 true := ⟨fun w => ag_of Try.underlying39 rfl w⟩
instance : Sz Try.prog 39 5 := ⟨Try.sizeOf39⟩
instance : Zr Try.prog 39 (Value.agg   #[Value.int IntKind.i64 0, Value.int IntKind.i64 0, Value.int IntKind.i64 0, Value.int IntKind.i64 0,     Value.int IntKind.i64 0]) := ⟨Try.zeroValue39⟩
instance : Fo Try.prog 39 0 0 := ⟨fun w b o => by simp [go_sem]⟩
instance : Fo Try.prog 39 1 1 := ⟨fun w b o => by simp [go_sem]⟩
instance : Bld Try.prog 39 [Value.int IntKind.i64 0, Value.int IntKind.i64 0, Value.int IntKind.i64 0, Value.int IntKind.i64 0, Value.int IntKind.i64 0] [(0, 1), (1, 4)] := bld_struct Try.underlying39 Try.zeroValue39 fun w => by simp [go_sem]
instance : Ag Try.prog 40 true := ⟨fun w => ag_of Try.underlying40 rfl w⟩
instance : Sz Try.prog 40 5 := ⟨Try.sizeOf40⟩
instance : Zr Try.prog 40 (Value.agg   #[Value.int IntKind.i64 0, Value.int IntKind.i64 0, Value.int IntKind.i64 0, Value.int IntKind.i64 0,     Value.int IntKind.i64 0]) := ⟨Try.zeroValue40⟩
instance : Fo Try.prog 40 0 0 := ⟨fun w b o => by simp [go_sem]⟩
instance : Fo Try.prog 40 1 1 := ⟨fun w b o => by simp [go_sem]⟩
instance : Fo Try.prog 40 2 2 := ⟨fun w b o => by simp [go_sem]⟩
instance : Fo Try.prog 40 3 3 := ⟨fun w b o => by simp [go_sem]⟩
instance : Fo Try.prog 40 4 4 := ⟨fun w b o => by simp [go_sem]⟩
instance : Bld Try.prog 40 [Value.int IntKind.i64 0, Value.int IntKind.i64 0, Value.int IntKind.i64 0, Value.int IntKind.i64 0, Value.int IntKind.i64 0] [(0, 1), (1, 1), (2, 1), (3, 1), (4, 1)] := bld_struct Try.underlying40 Try.zeroValue40 fun w => by simp [go_sem]
instance (a0 b0 : Int) (a1 b1 : Int) (a2 b2 : Int) (a3 b3 : Int) (a4 b4 : Int) : Eq_ Try.prog 40 (.agg #[.int IntKind.i64 a0, .int IntKind.i64 a1, .int IntKind.i64 a2, .int IntKind.i64 a3, .int IntKind.i64 a4]) (.agg #[.int IntKind.i64 b0, .int IntKind.i64 b1, .int IntKind.i64 b2, .int IntKind.i64 b3, .int IntKind.i64 b4]) (a0 == b0 && a1 == b1 && a2 == b2 && a3 == b3 && a4 == b4) := ⟨fun w p q => by simp [go_sem], fun w => by simp [go_sem]; (repeat' split) <;> simp_all⟩
instance (a0 b0 : Int) (a1 b1 : Int) (a2 b2 : Int) (a3 b3 : Int) (a4 b4 : Int) : Neq_ Try.prog 40 (.agg #[.int IntKind.i64 a0, .int IntKind.i64 a1, .int IntKind.i64 a2, .int IntKind.i64 a3, .int IntKind.i64 a4]) (.agg #[.int IntKind.i64 b0, .int IntKind.i64 b1, .int IntKind.i64 b2, .int IntKind.i64 b3, .int IntKind.i64 b4]) (!(a0 == b0 && a1 == b1 && a2 == b2 && a3 == b3 && a4 == b4)) := ⟨fun w p q => by simp [go_sem], fun w => by simp [go_sem]; (repeat' split) <;> simp_all⟩
instance : Ag Try.prog 41 true := ⟨fun w => ag_of Try.underlying41 rfl w⟩
instance : Sz Try.prog 41 5 := ⟨Try.sizeOf41⟩
instance : Zr Try.prog 41 (Value.agg   #[Value.int IntKind.i64 0, Value.int IntKind.i64 0, Value.int IntKind.i64 0, Value.int IntKind.i64 0,     Value.int IntKind.i64 0]) := ⟨Try.zeroValue41⟩
instance : Fo Try.prog 41 0 0 := ⟨fun w b o => by simp [go_sem]⟩
instance : Fo Try.prog 41 1 1 := ⟨fun w b o => by simp [go_sem]⟩
instance : Fo Try.prog 41 2 2 := ⟨fun w b o => by simp [go_sem]⟩
instance : Fo Try.prog 41 3 3 := ⟨fun w b o => by simp [go_sem]⟩
instance : Fo Try.prog 41 4 4 := ⟨fun w b o => by simp [go_sem]⟩
instance : Bld Try.prog 41 [Value.int IntKind.i64 0, Value.int IntKind.i64 0, Value.int IntKind.i64 0, Value.int IntKind.i64 0, Value.int IntKind.i64 0] [(0, 1), (1, 1), (2, 1), (3, 1), (4, 1)] := bld_struct Try.underlying41 Try.zeroValue41 fun w => by simp [go_sem]
instance (a0 b0 : Int) (a1 b1 : Int) (a2 b2 : Int) (a3 b3 : Int) (a4 b4 : Int) : Eq_ Try.prog 41 (.agg #[.int IntKind.i64 a0, .int IntKind.i64 a1, .int IntKind.i64 a2, .int IntKind.i64 a3, .int IntKind.i64 a4]) (.agg #[.int IntKind.i64 b0, .int IntKind.i64 b1, .int IntKind.i64 b2, .int IntKind.i64 b3, .int IntKind.i64 b4]) (a0 == b0 && a1 == b1 && a2 == b2 && a3 == b3 && a4 == b4) := ⟨fun w p q => by simp [go_sem], fun w => by simp [go_sem]; (repeat' split) <;> simp_all⟩
instance (a0 b0 : Int) (a1 b1 : Int) (a2 b2 : Int) (a3 b3 : Int) (a4 b4 : Int) : Neq_ Try.prog 41 (.agg #[.int IntKind.i64 a0, .int IntKind.i64 a1, .int IntKind.i64 a2, .int IntKind.i64 a3, .int IntKind.i64 a4]) (.agg #[.int IntKind.i64 b0, .int IntKind.i64 b1, .int IntKind.i64 b2, .int IntKind.i64 b3, .int IntKind.i64 b4]) (!(a0 == b0 && a1 == b1 && a2 == b2 && a3 == b3 && a4 == b4)) := ⟨fun w p q => by simp [go_sem], fun w => by simp [go_sem]; (repeat' split) <;> simp_all⟩
instance : Ag Try.prog 42 false := ⟨fun w => ag_of Try.underlying42 rfl w⟩
instance : Sz Try.prog 42 1 := ⟨Try.sizeOf42⟩
instance : Zr Try.prog 42 (Value.tuple #[Value.slice none 0 0, Value.int IntKind.i64 0]) := ⟨Try.zeroValue42⟩
instance : Ag Try.prog 43 false := ⟨fun w => ag_of Try.underlying43 rfl w⟩
instance : Sz Try.prog 43 1 := ⟨Try.sizeOf43⟩
instance : Zr Try.prog 43 (Value.nilFunc) := ⟨Try.zeroValue43⟩
instance : Ag Try.prog 44 false := ⟨fun w => ag_of Try.underlying44 rfl w⟩
instance : Sz Try.prog 44 1 := ⟨Try.sizeOf44⟩
instance : Zr Try.prog 44 (Value.nilFunc) := ⟨Try.zeroValue44⟩
instance : Ag Try.prog 45 false := ⟨fun w => ag_of Try.underlying45 rfl w⟩
instance : Sz Try.prog 45 1 := ⟨Try.sizeOf45⟩
instance : Zr Try.prog 45 (Value.tuple #[Value.int IntKind.i64 0, Value.slice none 0 0, Value.int IntKind.i64 0]) := ⟨Try.zeroValue45⟩
instance : Ag Try.prog 46 false := ⟨fun w => ag_of Try.underlying46 rfl w⟩
instance : Sz Try.prog 46 1 := ⟨Try.sizeOf46⟩
instance : Zr Try.prog 46 (Value.nilFunc) := ⟨Try.zeroValue46⟩
instance : Ag Try.prog 47 false := ⟨fun w => ag_of Try.underlying47 rfl w⟩
instance : Sz Try.prog 47 1 := ⟨Try.sizeOf47⟩
instance : Zr Try.prog 47 (Value.tuple #[Value.slice none 0 0, Value.int IntKind.i64 0]) := ⟨Try.zeroValue47⟩
instance : Ag Try.prog 48 false := ⟨fun w => ag_of Try.underlying48 rfl w⟩
instance : Sz Try.prog 48 1 := ⟨Try.sizeOf48⟩
instance : Zr Try.prog 48 (Value.nilFunc) := ⟨Try.zeroValue48⟩
instance : Ag Try.prog 49 false := ⟨fun w => ag_of Try.underlying49 rfl w⟩
instance : Sz Try.prog 49 1 := ⟨Try.sizeOf49⟩
instance : Zr Try.prog 49 (Value.nilFunc) := ⟨Try.zeroValue49⟩
instance : Ag Try.prog 50 false := ⟨fun w => ag_of Try.underlying50 rfl w⟩
instance : Sz Try.prog 50 1 := ⟨Try.sizeOf50⟩
instance : Zr Try.prog 50 (Value.nilFunc) := ⟨Try.zeroValue50⟩
instance : Ag Try.prog 51 false := ⟨fun w => ag_of Try.underlying51 rfl w⟩
instance : Sz Try.prog 51 1 := ⟨Try.sizeOf51⟩
instance : Zr Try.prog 51 (Value.nilFunc) := ⟨Try.zeroValue51⟩
instance : Ag Try.prog 52 false := ⟨fun w => ag_of Try.underlying52 rfl w⟩
instance : Sz Try.prog 52 1 := ⟨Try.sizeOf52⟩
instance : Zr Try.prog 52 (Value.nilFunc) := ⟨Try.zeroValue52⟩
instance : Ag Try.prog 53 false := ⟨fun w => ag_of Try.underlying53 rfl w⟩
instance : Sz Try.prog 53 1 := ⟨Try.sizeOf53⟩
instance : Zr Try.prog 53 (Value.nilFunc) := ⟨Try.zeroValue53⟩
instance : Ag Try.prog 54 false := ⟨fun w => ag_of Try.underlying54 rfl w⟩
instance : Sz Try.prog 54 1 := ⟨Try.sizeOf54⟩
instance : Zr Try.prog 54 (Value.nilFunc) := ⟨Try.zeroValue54⟩
instance : Ag Try.prog 55 false := ⟨fun w => ag_of Try.underlying55 rfl w⟩
instance : Sz Try.prog 55 1 := ⟨Try.sizeOf55⟩
instance : Zr Try.prog 55 (Value.nilFunc) := ⟨Try.zeroValue55⟩
instance : Ag Try.prog 56 false := ⟨fun w => ag_of Try.underlying56 rfl w⟩
instance : Sz Try.prog 56 1 := ⟨Try.sizeOf56⟩
instance : Zr Try.prog 56 (Value.nilFunc) := ⟨Try.zeroValue56⟩
instance : Ag Try.prog 57 true := ⟨fun w => ag_of Try.underlying57 rfl w⟩
instance : Sz Try.prog 57 3 := ⟨Try.sizeOf57⟩
instance : Zr Try.prog 57 (Value.agg #[Value.int IntKind.i64 0, Value.int IntKind.i64 0, Value.bool false]) := ⟨Try.zeroValue57⟩
instance : Fo Try.prog 57 0 0 := ⟨fun w b o => by simp [go_sem]⟩
instance : Fo Try.prog 57 1 1 := ⟨fun w b o => by simp [go_sem]⟩
instance : Fo Try.prog 57 2 2 := ⟨fun w b o => by simp [go_sem]⟩
instance : Bld Try.prog 57 [Value.int IntKind.i64 0, Value.int IntKind.i64 0, Value.bool false] [(0, 1), (1, 1), (2, 1)] := bld_struct Try.underlying57 Try.zeroValue57 fun w => by simp [go_sem]
instance (a0 b0 : Int) (a1 b1 : Int) (a2 b2 : Bool) : Eq_ Try.prog 57 (.agg #[.int IntKind.i64 a0, .int IntKind.i64 a1, .bool a2]) (.agg #[.int IntKind.i64 b0, .int IntKind.i64 b1, .bool b2]) (a0 == b0 && a1 == b1 && a2 == b2) := ⟨fun w p q => by simp [go_sem], fun w => by simp [go_sem]; (repeat' split) <;> simp_all⟩
instance (a0 b0 : Int) (a1 b1 : Int) (a2 b2 : Bool) : Neq_ Try.prog 57 (.agg #[.int IntKind.i64 a0, .int IntKind.i64 a1, .bool a2]) (.agg #[.int IntKind.i64 b0, .int IntKind.i64 b1, .bool b2]) (!(a0 == b0 && a1 == b1 && a2 == b2)) := ⟨fun w p q => by simp [go_sem], fun w => by simp [go_sem]; (repeat' split) <;> simp_all⟩
instance : Ag Try.prog 58 true := ⟨fun w => ag_of Try.underlying58 rfl w⟩
instance : Sz Try.prog 58 3 := ⟨Try.sizeOf58⟩
instance : Zr Try.prog 58 (Value.agg #[Value.int IntKind.i64 0, Value.int IntKind.i64 0, Value.bool false]) := ⟨Try.zeroValue58⟩
instance : Fo Try.prog 58 0 0 := ⟨fun w b o => by simp [go_sem]⟩
instance : Fo Try.prog 58 1 1 := ⟨fun w b o => by simp [go_sem]⟩
instance : Fo Try.prog 58 2 2 := ⟨fun w b o => by simp [go_sem]⟩
instance : Bld Try.prog 58 [Value.int IntKind.i64 0, Value.int IntKind.i64 0, Value.bool false] [(0, 1), (1, 1), (2, 1)] := bld_struct Try.underlying58 Try.zeroValue58 fun w => by simp [go_sem]
instance (a0 b0 : Int) (a1 b1 : Int) (a2 b2 : Bool) : Eq_ Try.prog 58 (.agg #[.int IntKind.i64 a0, .int IntKind.i64 a1, .bool a2]) (.agg #[.int IntKind.i64 b0, .int IntKind.i64 b1, .bool b2]) (a0 == b0 && a1 == b1 && a2 == b2) := ⟨fun w p q => by simp [go_sem], fun w => by simp [go_sem]; (repeat' split) <;> simp_all⟩
instance (a0 b0 : Int) (a1 b1 : Int) (a2 b2 : Bool) : Neq_ Try.prog 58 (.agg #[.int IntKind.i64 a0, .int IntKind.i64 a1, .bool a2]) (.agg #[.int IntKind.i64 b0, .int IntKind.i64 b1, .bool b2]) (!(a0 == b0 && a1 == b1 && a2 == b2)) := ⟨fun w p q => by simp [go_sem], fun w => by simp [go_sem]; (repeat' split) <;> simp_all⟩
instance : Ag Try.prog 59 false := ⟨fun w => ag_of Try.underlying59 rfl w⟩
instance : Sz Try.prog 59 1 := ⟨Try.sizeOf59⟩
instance : Zr Try.prog 59 (Value.tuple #[Value.agg #[Value.int IntKind.i64 0, Value.int IntKind.i64 0, Value.bool false], Value.int IntKind.i64 0]) := ⟨Try.zeroValue59⟩
instance : Ag Try.prog 60 false := ⟨fun w => ag_of Try.underlying60 rfl w⟩
instance : Sz Try.prog 60 1 := ⟨Try.sizeOf60⟩
instance : Zr Try.prog 60 (Value.nilFunc) := ⟨Try.zeroValue60⟩
instance : Ag Try.prog 61 false := ⟨fun w => ag_of Try.underlying61 rfl w⟩
instance : Sz Try.prog 61 1 := ⟨Try.sizeOf61⟩
instance : Zr Try.prog 61 (Value.tuple #[Value.slice none 0 0, Value.int IntKind.i64 0, Value.int IntKind.i64 0]) := ⟨Try.zeroValue61⟩
instance : Ag Try.prog 62 false := ⟨fun w => ag_of Try.underlying62 rfl w⟩
instance : Sz Try.prog 62 1 := ⟨Try.sizeOf62⟩
instance : Zr Try.prog 62 (Value.nilFunc) := ⟨Try.zeroValue62⟩
instance : Ag Try.prog 63 false := ⟨fun w => ag_of Try.underlying63 rfl w⟩
instance : Sz Try.prog 63 1 := ⟨Try.sizeOf63⟩
instance : Zr Try.prog 63 (Value.nilFunc) := ⟨Try.zeroValue63⟩
instance : Ag Try.prog 64 false := ⟨fun w => ag_of Try.underlying64 rfl w⟩
instance : Sz Try.prog 64 1 := ⟨Try.sizeOf64⟩
instance : Zr Try.prog 64 (Value.nilFunc) := ⟨Try.zeroValue64⟩
instance : Ag Try.prog 65 false := ⟨fun w => ag_of Try.underlying65 rfl w⟩
instance : Sz Try.prog 65 1 := ⟨Try.sizeOf65⟩
instance : Zr Try.prog 65 (Value.nilFunc) := ⟨Try.zeroValue65⟩
instance : Und Try.prog 66 (TypeDesc.array 3 3) := ⟨Try.underlying66⟩
instance : Ag Try.prog 66 true := ⟨fun w => ag_of Try.underlying66 rfl w⟩
instance : Sz Try.prog 66 3 := ⟨Try.sizeOf66⟩
instance : Zr Try.prog 66 (Value.agg #[Value.int IntKind.i64 0, Value.int IntKind.i64 0, Value.int IntKind.i64 0]) := ⟨Try.zeroValue66⟩
instance : Und Try.prog 67 (TypeDesc.slice 3) := ⟨Try.underlying67⟩
instance : SlTy Try.prog 67 3 1 (Value.int IntKind.i64 0) := ⟨Try.underlying67, by kernel_rfl, rfl⟩
instance : Ag Try.prog 67 false := ⟨fun w => ag_of Try.underlying67 rfl w⟩
instance : Sz Try.prog 67 1 := ⟨Try.sizeOf67⟩
instance : Zr Try.prog 67 (Value.slice none 0 0) := ⟨Try.zeroValue67⟩
instance : Ag Try.prog 68 false := ⟨fun w => ag_of Try.underlying68 rfl w⟩
instance : Sz Try.prog 68 1 := ⟨Try.sizeOf68⟩
instance : Zr Try.prog 68 (Value.nilFunc) := ⟨Try.zeroValue68⟩
instance : Ag Try.prog 69 false := ⟨fun w => ag_of Try.underlying69 rfl w⟩
instance : Sz Try.prog 69 1 := ⟨Try.sizeOf69⟩
instance : Zr Try.prog 69 (Value.nilFunc) := ⟨Try.zeroValue69⟩
instance : Ag Try.prog 70 false := ⟨fun w => ag_of Try.underlying70 rfl w⟩
instance : Sz Try.prog 70 1 := ⟨Try.sizeOf70⟩
instance : Zr Try.prog 70 (Value.nilFunc) := ⟨Try.zeroValue70⟩
instance : Ag Try.prog 71 false := ⟨fun w => ag_of Try.underlying71 rfl w⟩
instance : Sz Try.prog 71 1 := ⟨Try.sizeOf71⟩
instance : Zr Try.prog 71 (Value.nilFunc) := ⟨Try.zeroValue71⟩
instance : Ag Try.prog 72 false := ⟨fun w => ag_of Try.underlying72 rfl w⟩
instance : Sz Try.prog 72 1 := ⟨Try.sizeOf72⟩
instance : Zr Try.prog 72 (Value.nilFunc) := ⟨Try.zeroValue72⟩
instance : Ag Try.prog 73 false := ⟨fun w => ag_of Try.underlying73 rfl w⟩
instance : Sz Try.prog 73 1 := ⟨Try.sizeOf73⟩
instance : Zr Try.prog 73 (Value.nilFunc) := ⟨Try.zeroValue73⟩
instance : Ag Try.prog 74 false := ⟨fun w => ag_of Try.underlying74 rfl w⟩
instance : Sz Try.prog 74 1 := ⟨Try.sizeOf74⟩
instance : Zr Try.prog 74 (Value.nilFunc) := ⟨Try.zeroValue74⟩
instance : Ag Try.prog 75 false := ⟨fun w => ag_of Try.underlying75 rfl w⟩
instance : Sz Try.prog 75 1 := ⟨Try.sizeOf75⟩
instance : Zr Try.prog 75 (Value.nilFunc) := ⟨Try.zeroValue75⟩
instance : Ag Try.prog 76 false := ⟨fun w => ag_of Try.underlying76 rfl w⟩
instance : Sz Try.prog 76 1 := ⟨Try.sizeOf76⟩
instance : Zr Try.prog 76 (Value.nilFunc) := ⟨Try.zeroValue76⟩
instance : Ag Try.prog 77 false := ⟨fun w => ag_of Try.underlying77 rfl w⟩
instance : Sz Try.prog 77 1 := ⟨Try.sizeOf77⟩
instance : Zr Try.prog 77 (Value.nilFunc) := ⟨Try.zeroValue77⟩
instance : Ag Try.prog 78 false := ⟨fun w => ag_of Try.underlying78 rfl w⟩
instance : Sz Try.prog 78 1 := ⟨Try.sizeOf78⟩
instance : Zr Try.prog 78 (Value.nilFunc) := ⟨Try.zeroValue78⟩
instance : Ag Try.prog 79 true := ⟨fun w => ag_of Try.underlying79 rfl w⟩
instance : Sz Try.prog 79 4 := ⟨Try.sizeOf79⟩
instance : Zr Try.prog 79 (Value.agg #[Value.pointer none, Value.pointer none, Value.pointer none, Value.string { data := #[] }]) := ⟨Try.zeroValue79⟩
instance : Fo Try.prog 79 0 0 := ⟨fun w b o => by simp [go_sem]⟩
instance : Fo Try.prog 79 1 1 := ⟨fun w b o => by simp [go_sem]⟩
instance : Fo Try.prog 79 2 2 := ⟨fun w b o => by simp [go_sem]⟩
instance : Fo Try.prog 79 3 3 := ⟨fun w b o => by simp [go_sem]⟩
instance : Bld Try.prog 79 [Value.pointer none, Value.pointer none, Value.pointer none, Value.string { data := #[] }] [(0, 1), (1, 1), (2, 1), (3, 1)] := bld_struct Try.underlying79 Try.zeroValue79 fun w => by simp [go_sem]
instance : Ag Try.prog 80 true := ⟨fun w => ag_of Try.underlying80 rfl w⟩
instance : Sz Try.prog 80 4 := ⟨Try.sizeOf80⟩
instance : Zr Try.prog 80 (Value.agg #[Value.pointer none, Value.pointer none, Value.pointer none, Value.string { data := #[] }]) := ⟨Try.zeroValue80⟩
instance : Fo Try.prog 80 0 0 := ⟨fun w b o => by simp [go_sem]⟩
instance : Fo Try.prog 80 1 1 := ⟨fun w b o => by simp [go_sem]⟩
instance : Fo Try.prog 80 2 2 := ⟨fun w b o => by simp [go_sem]⟩
instance : Fo Try.prog 80 3 3 := ⟨fun w b o => by simp [go_sem]⟩
instance : Bld Try.prog 80 [Value.pointer none, Value.pointer none, Value.pointer none, Value.string { data := #[] }] [(0, 1), (1, 1), (2, 1), (3, 1)] := bld_struct Try.underlying80 Try.zeroValue80 fun w => by simp [go_sem]
instance : Und Try.prog 81 (TypeDesc.array 0 16) := ⟨Try.underlying81⟩
instance : Ag Try.prog 81 true := ⟨fun w => ag_of Try.underlying81 rfl w⟩
instance : Sz Try.prog 81 0 := ⟨Try.sizeOf81⟩
instance : Zr Try.prog 81 (Value.agg #[]) := ⟨Try.zeroValue81⟩
instance : Ag Try.prog 82 true := ⟨fun w => ag_of Try.underlying82 rfl w⟩
instance : Sz Try.prog 82 0 := ⟨Try.sizeOf82⟩
instance : Zr Try.prog 82 (Value.agg #[]) := ⟨Try.zeroValue82⟩
instance : Bld Try.prog 82 [] [(0, 0)] := bld_struct Try.underlying82 Try.zeroValue82 fun w => by simp [go_sem]
instance : Ag Try.prog 83 true := ⟨fun w => ag_of Try.underlying83 rfl w⟩
instance : Sz Try.prog 83 0 := ⟨Try.sizeOf83⟩
instance : Zr Try.prog 83 (Value.agg #[]) := ⟨Try.zeroValue83⟩
instance : Bld Try.prog 83 [] [(0, 0)] := bld_struct Try.underlying83 Try.zeroValue83 fun w => by simp [go_sem]
instance : Ag Try.prog 84 false := ⟨fun w => ag_of Try.underlying84 rfl w⟩
instance : Sz Try.prog 84 1 := ⟨Try.sizeOf84⟩
instance : Zr Try.prog 84 (Value.nilFunc) := ⟨Try.zeroValue84⟩
instance : Und Try.prog 85 (TypeDesc.int IntKind.u32) := ⟨Try.underlying85⟩
instance : Ag Try.prog 85 false := ⟨fun w => ag_of Try.underlying85 rfl w⟩
instance : Sz Try.prog 85 1 := ⟨Try.sizeOf85⟩
instance : Zr Try.prog 85 (Value.int IntKind.u32 0) := ⟨Try.zeroValue85⟩
instance : Und Try.prog 86 (TypeDesc.int IntKind.u8) := ⟨Try.underlying86⟩
instance : Ag Try.prog 86 false := ⟨fun w => ag_of Try.underlying86 rfl w⟩
instance : Sz Try.prog 86 1 := ⟨Try.sizeOf86⟩
instance : Zr Try.prog 86 (Value.int IntKind.u8 0) := ⟨Try.zeroValue86⟩
instance : Und Try.prog 87 (TypeDesc.int IntKind.u8) := ⟨Try.underlying87⟩
instance : Ag Try.prog 87 false := ⟨fun w => ag_of Try.underlying87 rfl w⟩
instance : Sz Try.prog 87 1 := ⟨Try.sizeOf87⟩
instance : Zr Try.prog 87 (Value.int IntKind.u8 0) := ⟨Try.zeroValue87⟩
instance : Ag Try.prog 88 false := ⟨fun w => ag_of Try.underlying88 rfl w⟩
instance : Sz Try.prog 88 1 := ⟨Try.sizeOf88⟩
instance : Zr Try.prog 88 (Value.nilFunc) := ⟨Try.zeroValue88⟩
instance : Und Try.prog 89 (TypeDesc.pointer 5) := ⟨Try.underlying89⟩
instance : Ag Try.prog 89 false := ⟨fun w => ag_of Try.underlying89 rfl w⟩
instance : Sz Try.prog 89 1 := ⟨Try.sizeOf89⟩
instance : Zr Try.prog 89 (Value.pointer none) := ⟨Try.zeroValue89⟩
instance : Und Try.prog 90 (TypeDesc.int IntKind.i32) := ⟨Try.underlying90⟩
instance : Ag Try.prog 90 false := ⟨fun w => ag_of Try.underlying90 rfl w⟩
instance : Sz Try.prog 90 1 := ⟨Try.sizeOf90⟩
instance : Zr Try.prog 90 (Value.int IntKind.i32 0) := ⟨Try.zeroValue90⟩
instance : Und Try.prog 91 (TypeDesc.int IntKind.i32) := ⟨Try.underlying91⟩
instance : Ag Try.prog 91 false := ⟨fun w => ag_of Try.underlying91 rfl w⟩
instance : Sz Try.prog 91 1 := ⟨Try.sizeOf91⟩
instance : Zr Try.prog 91 (Value.int IntKind.i32 0) := ⟨Try.zeroValue91⟩
instance : Ag Try.prog 92 true := ⟨fun w => ag_of Try.underlying92 rfl w⟩
instance : Sz Try.prog 92 11 := ⟨Try.sizeOf92⟩
instance : Zr Try.prog 92 (Value.agg   #[Value.int IntKind.u64 0, Value.int IntKind.u64 0, Value.int IntKind.u32 0, Value.int IntKind.u8 0,     Value.int IntKind.u8 0, Value.int IntKind.u8 0, Value.int IntKind.u8 0, Value.nilFunc, Value.pointer none,     Value.int IntKind.i32 0, Value.int IntKind.i32 0]) := ⟨Try.zeroValue92⟩
instance : Fo Try.prog 92 0 0 := ⟨fun w b o => by simp [go_sem]⟩
instance : Fo Try.prog 92 1 1 := ⟨fun w b o => by simp [go_sem]⟩
instance : Fo Try.prog 92 2 2 := ⟨fun w b o => by simp [go_sem]⟩
instance : Fo Try.prog 92 3 3 := ⟨fun w b o => by simp [go_sem]⟩
instance : Fo Try.prog 92 4 4 := ⟨fun w b o => by simp [go_sem]⟩
instance : Fo Try.prog 92 5 5 := ⟨fun w b o => by simp [go_sem]⟩
instance : Fo Try.prog 92 6 6 := ⟨fun w b o => by simp [go_sem]⟩
instance : Fo Try.prog 92 7 7 := ⟨fun w b o => by simp [go_sem]⟩
instance : Fo Try.prog 92 8 8 := ⟨fun w b o => by simp [go_sem]⟩
instance : Fo Try.prog 92 9 9 := ⟨fun w b o => by simp [go_sem]⟩
instance : Fo Try.prog 92 10 10 := ⟨fun w b o => by simp [go_sem]⟩
instance : Bld Try.prog 92 [Value.int IntKind.u64 0, Value.int IntKind.u64 0, Value.int IntKind.u32 0, Value.int IntKind.u8 0, Value.int IntKind.u8 0, Value.int IntKind.u8 0, Value.int IntKind.u8 0, Value.nilFunc, Value.pointer none, Value.int IntKind.i32 0, Value.int IntKind.i32 0] [(0, 1), (1, 1), (2, 1), (3, 1), (4, 1), (5, 1), (6, 1), (7, 1), (8, 1), (9, 1), (10, 1)] := bld_struct Try.underlying92 Try.zeroValue92 fun w => by simp [go_sem]
instance : Ag Try.prog 93 true := ⟨fun w => ag_of Try.underlying93 rfl w⟩
instance : Sz Try.prog 93 11 := ⟨Try.sizeOf93⟩
instance : Zr Try.prog 93 (Value.agg   #[Value.int IntKind.u64 0, Value.int IntKind.u64 0, Value.int IntKind.u32 0, Value.int IntKind.u8 0,     Value.int IntKind.u8 0, Value.int IntKind.u8 0, Value.int IntKind.u8 0, Value.nilFunc, Value.pointer none,     Value.int IntKind.i32 0, Value.int IntKind.i32 0]) := ⟨Try.zeroValue93⟩
instance : Fo Try.prog 93 0 0 := ⟨fun w b o => by simp [go_sem]⟩
instance : Fo Try.prog 93 1 1 := ⟨fun w b o => by simp [go_sem]⟩
instance : Fo Try.prog 93 2 2 := ⟨fun w b o => by simp [go_sem]⟩
instance : Fo Try.prog 93 3 3 := ⟨fun w b o => by simp [go_sem]⟩
instance : Fo Try.prog 93 4 4 := ⟨fun w b o => by simp [go_sem]⟩
instance : Fo Try.prog 93 5 5 := ⟨fun w b o => by simp [go_sem]⟩
instance : Fo Try.prog 93 6 6 := ⟨fun w b o => by simp [go_sem]⟩
instance : Fo Try.prog 93 7 7 := ⟨fun w b o => by simp [go_sem]⟩
instance : Fo Try.prog 93 8 8 := ⟨fun w b o => by simp [go_sem]⟩
instance : Fo Try.prog 93 9 9 := ⟨fun w b o => by simp [go_sem]⟩
instance : Fo Try.prog 93 10 10 := ⟨fun w b o => by simp [go_sem]⟩
instance : Bld Try.prog 93 [Value.int IntKind.u64 0, Value.int IntKind.u64 0, Value.int IntKind.u32 0, Value.int IntKind.u8 0, Value.int IntKind.u8 0, Value.int IntKind.u8 0, Value.int IntKind.u8 0, Value.nilFunc, Value.pointer none, Value.int IntKind.i32 0, Value.int IntKind.i32 0] [(0, 1), (1, 1), (2, 1), (3, 1), (4, 1), (5, 1), (6, 1), (7, 1), (8, 1), (9, 1), (10, 1)] := bld_struct Try.underlying93 Try.zeroValue93 fun w => by simp [go_sem]
instance : Ag Try.prog 94 false := ⟨fun w => ag_of Try.underlying94 rfl w⟩
instance : Sz Try.prog 94 1 := ⟨Try.sizeOf94⟩
instance : Zr Try.prog 94 (Value.pointer none) := ⟨Try.zeroValue94⟩
instance : Fun_ Try.prog 2 := ⟨Try.call2⟩
instance : Fun_ Try.prog 3 := ⟨Try.call3⟩
instance : Fun_ Try.prog 4 := ⟨Try.call4⟩
instance : Fun_ Try.prog 5 := ⟨Try.call5⟩
instance : Fun_ Try.prog 6 := ⟨Try.call6⟩
instance : Fun_ Try.prog 7 := ⟨Try.call7⟩
instance : Fun_ Try.prog 8 := ⟨Try.call8⟩
instance : Fun_ Try.prog 9 := ⟨Try.call9⟩
instance : Fun_ Try.prog 10 := ⟨Try.call10⟩
instance : Fun_ Try.prog 11 := ⟨Try.call11⟩
instance : Fun_ Try.prog 12 := ⟨Try.call12⟩
instance : Fun_ Try.prog 13 := ⟨Try.call13⟩
instance : Fun_ Try.prog 14 := ⟨Try.call14⟩
instance : Fun_ Try.prog 15 := ⟨Try.call15⟩
instance : Fun_ Try.prog 16 := ⟨Try.call16⟩
instance : Fun_ Try.prog 17 := ⟨Try.call17⟩
instance : Fun_ Try.prog 18 := ⟨Try.call18⟩
instance : Fun_ Try.prog 19 := ⟨Try.call19⟩
instance : Fun_ Try.prog 20 := ⟨Try.call20⟩
instance : Fun_ Try.prog 21 := ⟨Try.call21⟩
instance : Fun_ Try.prog 22 := ⟨Try.call22⟩
instance : Fun_ Try.prog 23 := ⟨Try.call23⟩
instance : Fun_ Try.prog 24 := ⟨Try.call24⟩
instance : Fun_ Try.prog 25 := ⟨Try.call25⟩
instance : Fun_ Try.prog 26 := ⟨Try.call26⟩
instance : Fun_ Try.prog 27 := ⟨Try.call27⟩
instance : Fun_ Try.prog 28 := ⟨Try.call28⟩
instance : Fun_ Try.prog 29 := ⟨Try.call29⟩
instance : Fun_ Try.prog 30 := ⟨Try.call30⟩
instance : Fun_ Try.prog 31 := ⟨Try.call31⟩
instance : Fun_ Try.prog 32 := ⟨Try.call32⟩
instance : Fun_ Try.prog 33 := ⟨Try.call33⟩
instance : Fun_ Try.prog 34 := ⟨Try.call34⟩
instance : Fun_ Try.prog 35 := ⟨Try.call35⟩
instance : Fun_ Try.prog 36 := ⟨Try.call36⟩
instance : Fun_ Try.prog 37 := ⟨Try.call37⟩
instance : Fun_ Try.prog 38 := ⟨Try.call38⟩
end Go.Proofs.Ythlildafofbiaaa
