/- Texts joined: Facts. Each part's own remark says what it proves. -/
import Derived.Test.YtojfaelafakemaaRows
import Derived.Test.YtojfaelafakemaaM05
/- Facts on the types and functions of the program, by their numbers. No conditions. -/
namespace Go.Proofs.Ytojfaelafakemaa
open Go Go.RowKit
instance : Ag Try.prog 0 false := ⟨fun w => ag_of Try.underlying0 rfl w⟩
instance : Sz Try.prog 0 1 := ⟨Try.sizeOf0⟩
instance : Zr Try.prog 0 (Value.tuple #[]) := ⟨Try.zeroValue0⟩
instance : Ag Try.prog 1 false := ⟨fun w => ag_of Try.underlying1 rfl w⟩
instance : Sz Try.prog 1 1 := ⟨Try.sizeOf1⟩
instance : Zr Try.prog 1 (Value.nilFunc) := ⟨Try.zeroValue1⟩
instance : Und Try.prog 2 (TypeDesc.int IntKind.i64) := ⟨Try.underlying2⟩
instance : ElT Try.prog 2 Int := ⟨trivial⟩
instance : Ag Try.prog 2 false := ⟨fun w => ag_of Try.underlying2 rfl w⟩
instance : Sz Try.prog 2 1 := ⟨Try.sizeOf2⟩
instance : Zr Try.prog 2 (Value.int IntKind.i64 0) := ⟨Try.zeroValue2⟩
instance : Und Try.prog 3 (TypeDesc.int IntKind.i64) := ⟨Try.underlying3⟩
instance : ElT Try.prog 3 Int := ⟨trivial⟩
instance : Ag Try.prog 3 false := ⟨fun w => ag_of Try.underlying3 rfl w⟩
instance : Sz Try.prog 3 1 := ⟨Try.sizeOf3⟩
instance : Zr Try.prog 3 (Value.int IntKind.i64 0) := ⟨Try.zeroValue3⟩
instance : Und Try.prog 4 (TypeDesc.bool) := ⟨Try.underlying4⟩
instance : ElT Try.prog 4 Bool := ⟨trivial⟩
instance : Ag Try.prog 4 false := ⟨fun w => ag_of Try.underlying4 rfl w⟩
instance : Sz Try.prog 4 1 := ⟨Try.sizeOf4⟩
instance : Zr Try.prog 4 (Value.bool false) := ⟨Try.zeroValue4⟩
instance : Und Try.prog 5 (TypeDesc.int IntKind.u8) := ⟨Try.underlying5⟩
instance : Ag Try.prog 5 false := ⟨fun w => ag_of Try.underlying5 rfl w⟩
instance : Sz Try.prog 5 1 := ⟨Try.sizeOf5⟩
instance : Zr Try.prog 5 (Value.int IntKind.u8 0) := ⟨Try.zeroValue5⟩
instance : Und Try.prog 6 (TypeDesc.int IntKind.u8) := ⟨Try.underlying6⟩
instance : Ag Try.prog 6 false := ⟨fun w => ag_of Try.underlying6 rfl w⟩
instance : Sz Try.prog 6 1 := ⟨Try.sizeOf6⟩
instance : Zr Try.prog 6 (Value.int IntKind.u8 0) := ⟨Try.zeroValue6⟩
instance : Ag Try.prog 7 true := ⟨fun w => ag_of Try.underlying7 rfl w⟩
instance : Sz Try.prog 7 4 := ⟨Try.sizeOf7⟩
instance : Zr Try.prog 7 (Value.agg #[Value.int IntKind.i64 0, Value.int IntKind.i64 0, Value.bool false, Value.int IntKind.u8 0]) := ⟨Try.zeroValue7⟩
instance : Fo Try.prog 7 0 0 := ⟨fun w b o => by simp [go_sem]⟩
instance : Fo Try.prog 7 1 1 := ⟨fun w b o => by simp [go_sem]⟩
instance : Fo Try.prog 7 2 2 := ⟨fun w b o => by simp [go_sem]⟩
instance : Fo Try.prog 7 3 3 := ⟨fun w b o => by simp [go_sem]⟩
instance : Bld Try.prog 7 [Value.int IntKind.i64 0, Value.int IntKind.i64 0, Value.bool false, Value.int IntKind.u8 0] [(0, 1), (1, 1), (2, 1), (3, 1)] := bld_struct Try.underlying7 Try.zeroValue7 fun w => by simp [go_sem]
instance (a0 b0 : Int) (a1 b1 : Int) (a2 b2 : Bool) (a3 b3 : Int) : Eq_ Try.prog 7 (.agg #[.int IntKind.i64 a0, .int IntKind.i64 a1, .bool a2, .int IntKind.u8 a3]) (.agg #[.int IntKind.i64 b0, .int IntKind.i64 b1, .bool b2, .int IntKind.u8 b3]) (a0 == b0 && a1 == b1 && a2 == b2 && a3 == b3) := ⟨fun w p q => by simp [go_sem], fun w => by simp [go_sem]; (repeat' split) <;> simp_all⟩
instance (a0 b0 : Int) (a1 b1 : Int) (a2 b2 : Bool) (a3 b3 : Int) : Neq_ Try.prog 7 (.agg #[.int IntKind.i64 a0, .int IntKind.i64 a1, .bool a2, .int IntKind.u8 a3]) (.agg #[.int IntKind.i64 b0, .int IntKind.i64 b1, .bool b2, .int IntKind.u8 b3]) (!(a0 == b0 && a1 == b1 && a2 == b2 && a3 == b3)) := ⟨fun w p q => by simp [go_sem], fun w => by simp [go_sem]; (repeat' split) <;> simp_all⟩
instance : Ag Try.prog 8 true := ⟨fun w => ag_of Try.underlying8 rfl w⟩
instance : Sz Try.prog 8 4 := ⟨Try.sizeOf8⟩
instance : Zr Try.prog 8 (Value.agg #[Value.int IntKind.i64 0, Value.int IntKind.i64 0, Value.bool false, Value.int IntKind.u8 0]) := ⟨Try.zeroValue8⟩
instance : Fo Try.prog 8 0 0 := ⟨fun w b o => by simp [go_sem]⟩
instance : Fo Try.prog 8 1 1 := ⟨fun w b o => by simp [go_sem]⟩
instance : Fo Try.prog 8 2 2 := ⟨fun w b o => by simp [go_sem]⟩
instance : Fo Try.prog 8 3 3 := ⟨fun w b o => by simp [go_sem]⟩
instance : Bld Try.prog 8 [Value.int IntKind.i64 0, Value.int IntKind.i64 0, Value.bool false, Value.int IntKind.u8 0] [(0, 1), (1, 1), (2, 1), (3, 1)] := bld_struct Try.underlying8 Try.zeroValue8 fun w => by simp [go_sem]
instance (a0 b0 : Int) (a1 b1 : Int) (a2 b2 : Bool) (a3 b3 : Int) : Eq_ Try.prog 8 (.agg #[.int IntKind.i64 a0, .int IntKind.i64 a1, .bool a2, .int IntKind.u8 a3]) (.agg #[.int IntKind.i64 b0, .int IntKind.i64 b1, .bool b2, .int IntKind.u8 b3]) (a0 == b0 && a1 == b1 && a2 == b2 && a3 == b3) := ⟨fun w p q => by simp [go_sem], fun w => by simp [go_sem]; (repeat' split) <;> simp_all⟩
instance (a0 b0 : Int) (a1 b1 : Int) (a2 b2 : Bool) (a3 b3 : Int) : Neq_ Try.prog 8 (.agg #[.int IntKind.i64 a0, .int IntKind.i64 a1, .bool a2, .int IntKind.u8 a3]) (.agg #[.int IntKind.i64 b0, .int IntKind.i64 b1, .bool b2, .int IntKind.u8 b3]) (!(a0 == b0 && a1 == b1 && a2 == b2 && a3 == b3)) := ⟨fun w p q => by simp [go_sem], fun w => by simp [go_sem]; (repeat' split) <;> simp_all⟩
instance : Ag Try.prog 9 false := ⟨fun w => ag_of Try.underlying9 rfl w⟩
instance : Sz Try.prog 9 1 := ⟨Try.sizeOf9⟩
instance : Zr Try.prog 9 (Value.string { data := #[] }) := ⟨Try.zeroValue9⟩
instance : Ag Try.prog 10 false := ⟨fun w => ag_of Try.underlying10 rfl w⟩
instance : Sz Try.prog 10 1 := ⟨Try.sizeOf10⟩
instance : Zr Try.prog 10 (Value.string { data := #[] }) := ⟨Try.zeroValue10⟩
instance : Ag Try.prog 11 false := ⟨fun w => ag_of Try.underlying11 rfl w⟩
instance : Sz Try.prog 11 1 := ⟨Try.sizeOf11⟩
instance : Zr Try.prog 11 (Value.string { data := #[] }) := ⟨Try.zeroValue11⟩
instance : Und Try.prog 12 (TypeDesc.int IntKind.u64) := ⟨Try.underlying12⟩
instance : Ag Try.prog 12 false := ⟨fun w => ag_of Try.underlying12 rfl w⟩
instance : Sz Try.prog 12 1 := ⟨Try.sizeOf12⟩
instance : Zr Try.prog 12 (Value.int IntKind.u64 0) := ⟨Try.zeroValue12⟩
instance : Ag Try.prog 13 true := ⟨fun w => ag_of Try.underlying13 rfl w⟩
instance : Sz Try.prog 13 2 := ⟨Try.sizeOf13⟩
instance : Zr Try.prog 13 (Value.agg #[Value.string { data := #[] }, Value.int IntKind.u64 0]) := ⟨Try.zeroValue13⟩
instance : Fo Try.prog 13 0 0 := ⟨fun w b o => by simp [go_sem]⟩
instance : Fo Try.prog 13 1 1 := ⟨fun w b o => by simp [go_sem]⟩
instance : Bld Try.prog 13 [Value.string { data := #[] }, Value.int IntKind.u64 0] [(0, 1), (1, 1)] := bld_struct Try.underlying13 Try.zeroValue13 fun w => by simp [go_sem]
instance : Ag Try.prog 14 true := ⟨fun w => ag_of Try.underlying14 rfl w⟩
instance : Sz Try.prog 14 2 := ⟨Try.sizeOf14⟩
instance : Zr Try.prog 14 (Value.agg #[Value.string { data := #[] }, Value.int IntKind.u64 0]) := ⟨Try.zeroValue14⟩
instance : Fo Try.prog 14 0 0 := ⟨fun w b o => by simp [go_sem]⟩
instance : Fo Try.prog 14 1 1 := ⟨fun w b o => by simp [go_sem]⟩
instance : Bld Try.prog 14 [Value.string { data := #[] }, Value.int IntKind.u64 0] [(0, 1), (1, 1)] := bld_struct Try.underlying14 Try.zeroValue14 fun w => by simp [go_sem]
instance : Und Try.prog 15 (TypeDesc.pointer 134) := ⟨Try.underlying15⟩
instance : Ag Try.prog 15 false := ⟨fun w => ag_of Try.underlying15 rfl w⟩
instance : Sz Try.prog 15 1 := ⟨Try.sizeOf15⟩
instance : Zr Try.prog 15 (Value.pointer none) := ⟨Try.zeroValue15⟩
instance : Und Try.prog 16 (TypeDesc.pointer 137) := ⟨Try.underlying16⟩
instance : Ag Try.prog 16 false := ⟨fun w => ag_of Try.underlying16 rfl w⟩
instance : Sz Try.prog 16 1 := ⟨Try.sizeOf16⟩
instance : Zr Try.prog 16 (Value.pointer none) := ⟨Try.zeroValue16⟩
instance : Und Try.prog 17 (TypeDesc.pointer 146) := ⟨Try.underlying17⟩
instance : Ag Try.prog 17 false := ⟨fun w => ag_of Try.underlying17 rfl w⟩
instance : Sz Try.prog 17 1 := ⟨Try.sizeOf17⟩
instance : Zr Try.prog 17 (Value.pointer none) := ⟨Try.zeroValue17⟩
instance : Ag Try.prog 18 true := ⟨fun w => ag_of Try.underlying18 rfl w⟩
instance : Sz Try.prog 18 1 := ⟨Try.sizeOf18⟩
instance : Zr Try.prog 18 (Value.agg #[Value.pointer none]) := ⟨Try.zeroValue18⟩
instance : Fo Try.prog 18 0 0 := ⟨fun w b o => by simp [go_sem]⟩
instance : Bld Try.prog 18 [Value.pointer none] [(0, 1)] := bld_struct Try.underlying18 Try.zeroValue18 fun w => by simp [go_sem]
instance : Ag Try.prog 19 true := ⟨fun w => ag_of Try.underlying19 rfl w⟩
instance : Sz Try.prog 19 1 := ⟨Try.sizeOf19⟩
instance : Zr Try.prog 19 (Value.agg #[Value.pointer none]) := ⟨Try.zeroValue19⟩
instance : Fo Try.prog 19 0 0 := ⟨fun w b o => by simp [go_sem]⟩
instance : Bld Try.prog 19 [Value.pointer none] [(0, 1)] := bld_struct Try.underlying19 Try.zeroValue19 fun w => by simp [go_sem]
instance : Ag Try.prog 20 false := ⟨fun w => ag_of Try.underlying20 rfl w⟩
instance : Sz Try.prog 20 1 := ⟨Try.sizeOf20⟩
instance : Zr Try.prog 20 (Value.nilIface) := ⟨Try.zeroValue20⟩
instance : Und Try.prog 21 (TypeDesc.int IntKind.i32) := ⟨Try.underlying21⟩
instance : Ag Try.prog 21 false := ⟨fun w => ag_of Try.underlying21 rfl w⟩
instance : Sz Try.prog 21 1 := ⟨Try.sizeOf21⟩
instance : Zr Try.prog 21 (Value.int IntKind.i32 0) := ⟨Try.zeroValue21⟩
instance : Und Try.prog 22 (TypeDesc.array 4 5) := ⟨Try.underlying22⟩
instance : Ag Try.prog 22 true := ⟨fun w => ag_of Try.underlying22 rfl w⟩
instance : Sz Try.prog 22 4 := ⟨Try.sizeOf22⟩
instance : Zr Try.prog 22 (Value.agg #[Value.int IntKind.u8 0, Value.int IntKind.u8 0, Value.int IntKind.u8 0, Value.int IntKind.u8 0]) := ⟨Try.zeroValue22⟩
instance : Und Try.prog 23 (TypeDesc.slice 35) := ⟨Try.underlying23⟩
instance : SlTy Try.prog 23 35 6 (Value.agg   #[Value.int IntKind.i64 0, Value.int IntKind.i64 0, Value.int IntKind.i64 0, Value.int IntKind.i64 0,     Value.bool false, Value.int IntKind.i64 0]) := ⟨Try.underlying23, by kernel_rfl, rfl⟩
instance : Ag Try.prog 23 false := ⟨fun w => ag_of Try.underlying23 rfl w⟩
instance : Sz Try.prog 23 1 := ⟨Try.sizeOf23⟩
instance : Zr Try.prog 23 (Value.slice none 0 0) := ⟨Try.zeroValue23⟩
instance : Ag Try.prog 24 false := ⟨fun w => ag_of Try.underlying24 rfl w⟩
instance : Sz Try.prog 24 1 := ⟨Try.sizeOf24⟩
instance : Zr Try.prog 24 (Value.nilFunc) := ⟨Try.zeroValue24⟩
instance : Und Try.prog 25 (TypeDesc.slice 47) := ⟨Try.underlying25⟩
instance : SlTy Try.prog 25 47 1 (Value.int IntKind.u64 0) := ⟨Try.underlying25, by kernel_rfl, rfl⟩
instance : Ag Try.prog 25 false := ⟨fun w => ag_of Try.underlying25 rfl w⟩
instance : Sz Try.prog 25 1 := ⟨Try.sizeOf25⟩
instance : Zr Try.prog 25 (Value.slice none 0 0) := ⟨Try.zeroValue25⟩
instance : Und Try.prog 26 (TypeDesc.slice 52) := ⟨Try.underlying26⟩
instance : SlTy Try.prog 26 52 2 (Value.agg #[Value.int IntKind.i64 0, Value.slice none 0 0]) := ⟨Try.underlying26, by kernel_rfl, rfl⟩
instance : Ag Try.prog 26 false := ⟨fun w => ag_of Try.underlying26 rfl w⟩
instance : Sz Try.prog 26 1 := ⟨Try.sizeOf26⟩
instance : Zr Try.prog 26 (Value.slice none 0 0) := ⟨Try.zeroValue26⟩
instance : Und Try.prog 27 (TypeDesc.slice 60) := ⟨Try.underlying27⟩
instance : SlTy Try.prog 27 60 1 (Value.slice none 0 0) := ⟨Try.underlying27, by kernel_rfl, rfl⟩
instance : Ag Try.prog 27 false := ⟨fun w => ag_of Try.underlying27 rfl w⟩
instance : Sz Try.prog 27 1 := ⟨Try.sizeOf27⟩
instance : Zr Try.prog 27 (Value.slice none 0 0) := ⟨Try.zeroValue27⟩
instance : Und Try.prog 28 (TypeDesc.slice 41) := ⟨Try.underlying28⟩
instance : SlTy Try.prog 28 41 2 (Value.agg #[Value.int IntKind.i64 0, Value.int IntKind.i64 0]) := ⟨Try.underlying28, by kernel_rfl, rfl⟩
instance : Ag Try.prog 28 false := ⟨fun w => ag_of Try.underlying28 rfl w⟩
instance : Sz Try.prog 28 1 := ⟨Try.sizeOf28⟩
instance : Zr Try.prog 28 (Value.slice none 0 0) := ⟨Try.zeroValue28⟩
instance : Und Try.prog 29 (TypeDesc.slice 3) := ⟨Try.underlying29⟩
instance : SlTy Try.prog 29 3 1 (Value.int IntKind.i64 0) := ⟨Try.underlying29, by kernel_rfl, rfl⟩
instance : Ag Try.prog 29 false := ⟨fun w => ag_of Try.underlying29 rfl w⟩
instance : Sz Try.prog 29 1 := ⟨Try.sizeOf29⟩
instance : Zr Try.prog 29 (Value.slice none 0 0) := ⟨Try.zeroValue29⟩
instance : Ag Try.prog 30 true := ⟨fun w => ag_of Try.underlying30 rfl w⟩
instance : Sz Try.prog 30 5 := ⟨Try.sizeOf30⟩
instance : Zr Try.prog 30 (Value.agg   #[Value.slice none 0 0, Value.slice none 0 0, Value.slice none 0 0, Value.slice none 0 0, Value.slice none 0 0]) := ⟨Try.zeroValue30⟩
instance : Fo Try.prog 30 0 0 := ⟨fun w b o => by simp [go_sem]⟩
instance : Fo Try.prog 30 1 1 := ⟨fun w b o => by simp [go_sem]⟩
instance : Fo Try.prog 30 2 2 := ⟨fun w b o => by simp [go_sem]⟩
instance : Fo Try.prog 30 3 3 := ⟨fun w b o => by simp [go_sem]⟩
instance : Fo Try.prog 30 4 4 := ⟨fun w b o => by simp [go_sem]⟩
instance : Bld Try.prog 30 [Value.slice none 0 0, Value.slice none 0 0, Value.slice none 0 0, Value.slice none 0 0, Value.slice none 0 0] [(0, 1), (1, 1), (2, 1), (3, 1), (4, 1)] := bld_struct Try.underlying30 Try.zeroValue30 fun w => by simp [go_sem]
instance : Ag Try.prog 31 true := ⟨fun w => ag_of Try.underlying31 rfl w⟩
instance : Sz Try.prog 31 5 := ⟨Try.sizeOf31⟩
instance : Zr Try.prog 31 (Value.agg   #[Value.slice none 0 0, Value.slice none 0 0, Value.slice none 0 0, Value.slice none 0 0, Value.slice none 0 0]) := ⟨Try.zeroValue31⟩
instance : Fo Try.prog 31 0 0 := ⟨fun w b o => by simp [go_sem]⟩
instance : Fo Try.prog 31 1 1 := ⟨fun w b o => by simp [go_sem]⟩
instance : Fo Try.prog 31 2 2 := ⟨fun w b o => by simp [go_sem]⟩
instance : Fo Try.prog 31 3 3 := ⟨fun w b o => by simp [go_sem]⟩
instance : Fo Try.prog 31 4 4 := ⟨fun w b o => by simp [go_sem]⟩
instance : Bld Try.prog 31 [Value.slice none 0 0, Value.slice none 0 0, Value.slice none 0 0, Value.slice none 0 0, Value.slice none 0 0] [(0, 1), (1, 1), (2, 1), (3, 1), (4, 1)] := bld_struct Try.underlying31 Try.zeroValue31 fun w => by simp [go_sem]
instance : Ag Try.prog 32 false := ⟨fun w => ag_of Try.underlying32 rfl w⟩
instance : Sz Try.prog 32 1 := ⟨Try.sizeOf32⟩
instance : Zr Try.prog 32 (Value.tuple   #[Value.agg       #[Value.slice none 0 0, Value.slice none 0 0, Value.slice none 0 0, Value.slice none 0 0, Value.slice none 0 0],     Value.bool false]) := ⟨Try.zeroValue32⟩
instance : Ag Try.prog 33 false := ⟨fun w => ag_of Try.underlying33 rfl w⟩
instance : Sz Try.prog 33 1 := ⟨Try.sizeOf33⟩
instance : Zr Try.prog 33 (Value.nilFunc) := ⟨Try.zeroValue33⟩
instance : Ag Try.prog 34 true := ⟨fun w => ag_of Try.underlying34 rfl w⟩
instance : Sz Try.prog 34 6 := ⟨Try.sizeOf34⟩
instance : Zr Try.prog 34 (Value.agg   #[Value.int IntKind.i64 0, Value.int IntKind.i64 0, Value.int IntKind.i64 0, Value.int IntKind.i64 0,     Value.bool false, Value.int IntKind.i64 0]) := ⟨Try.zeroValue34⟩
instance : Fo Try.prog 34 0 0 := ⟨fun w b o => by simp [go_sem]⟩
instance : Fo Try.prog 34 1 1 := ⟨fun w b o => by simp [go_sem]⟩
instance : Fo Try.prog 34 2 2 := ⟨fun w b o => by simp [go_sem]⟩
instance : Fo Try.prog 34 3 3 := ⟨fun w b o => by simp [go_sem]⟩
instance : Fo Try.prog 34 4 4 := ⟨fun w b o => by simp [go_sem]⟩
instance : Fo Try.prog 34 5 5 := ⟨fun w b o => by simp [go_sem]⟩
instance : Bld Try.prog 34 [Value.int IntKind.i64 0, Value.int IntKind.i64 0, Value.int IntKind.i64 0, Value.int IntKind.i64 0, Value.bool false, Value.int IntKind.i64 0] [(0, 1), (1, 1), (2, 1), (3, 1), (4, 1), (5, 1)] := bld_struct Try.underlying34 Try.zeroValue34 fun w => by simp [go_sem]
instance (a0 b0 : Int) (a1 b1 : Int) (a2 b2 : Int) (a3 b3 : Int) (a4 b4 : Bool) (a5 b5 : Int) : Eq_ Try.prog 34 (.agg #[.int IntKind.i64 a0, .int IntKind.i64 a1, .int IntKind.i64 a2, .int IntKind.i64 a3, .bool a4, .int IntKind.i64 a5]) (.agg #[.int IntKind.i64 b0, .int IntKind.i64 b1, .int IntKind.i64 b2, .int IntKind.i64 b3, .bool b4, .int IntKind.i64 b5]) (a0 == b0 && a1 == b1 && a2 == b2 && a3 == b3 && a4 == b4 && a5 == b5) := ⟨fun w p q => by simp [go_sem], fun w => by simp [go_sem]; (repeat' split) <;> simp_all⟩
instance (a0 b0 : Int) (a1 b1 : Int) (a2 b2 : Int) (a3 b3 : Int) (a4 b4 : Bool) (a5 b5 : Int) : Neq_ Try.prog 34 (.agg #[.int IntKind.i64 a0, .int IntKind.i64 a1, .int IntKind.i64 a2, .int IntKind.i64 a3, .bool a4, .int IntKind.i64 a5]) (.agg #[.int IntKind.i64 b0, .int IntKind.i64 b1, .int IntKind.i64 b2, .int IntKind.i64 b3, .bool b4, .int IntKind.i64 b5]) (!(a0 == b0 && a1 == b1 && a2 == b2 && a3 == b3 && a4 == b4 && a5 == b5)) := ⟨fun w p q => by simp [go_sem], fun w => by simp [go_sem]; (repeat' split) <;> simp_all⟩
instance : Ag Try.prog 35 true := ⟨fun w => ag_of Try.underlying35 rfl w⟩
instance : Sz Try.prog 35 6 := ⟨Try.sizeOf35⟩
instance : Zr Try.prog 35 (Value.agg   #[Value.int IntKind.i64 0, Value.int IntKind.i64 0, Value.int IntKind.i64 0, Value.int IntKind.i64 0,     Value.bool false, Value.int IntKind.i64 0]) := ⟨Try.zeroValue35⟩
instance : Fo Try.prog 35 0 0 := ⟨fun w b o => by simp [go_sem]⟩
instance : Fo Try.prog 35 1 1 := ⟨fun w b o => by simp [go_sem]⟩
instance : Fo Try.prog 35 2 2 := ⟨fun w b o => by simp [go_sem]⟩
instance : Fo Try.prog 35 3 3 := ⟨fun w b o => by simp [go_sem]⟩
instance : Fo Try.prog 35 4 4 := ⟨fun w b o => by simp [go_sem]⟩
instance : Fo Try.prog 35 5 5 := ⟨fun w b o => by simp [go_sem]⟩
instance : Bld Try.prog 35 [Value.int IntKind.i64 0, Value.int IntKind.i64 0, Value.int IntKind.i64 0, Value.int IntKind.i64 0, Value.bool false, Value.int IntKind.i64 0] [(0, 1), (1, 1), (2, 1), (3, 1), (4, 1), (5, 1)] := bld_struct Try.underlying35 Try.zeroValue35 fun w => by simp [go_sem]
instance (a0 b0 : Int) (a1 b1 : Int) (a2 b2 : Int) (a3 b3 : Int) (a4 b4 : Bool) (a5 b5 : Int) : Eq_ Try.prog 35 (.agg #[.int IntKind.i64 a0, .int IntKind.i64 a1, .int IntKind.i64 a2, .int IntKind.i64 a3, .bool a4, .int IntKind.i64 a5]) (.agg #[.int IntKind.i64 b0, .int IntKind.i64 b1, .int IntKind.i64 b2, .int IntKind.i64 b3, .bool b4, .int IntKind.i64 b5]) (a0 == b0 && a1 == b1 && a2 == b2 && a3 == b3 && a4 == b4 && a5 == b5) := ⟨fun w p q => by simp [go_sem], fun w => by simp [go_sem]; (repeat' split) <;> simp_all⟩
instance (a0 b0 : Int) (a1 b1 : Int) (a2 b2 : Int) (a3 b3 : Int) (a4 b4 : Bool) (a5 b5 : Int) : Neq_ Try.prog 35 (.agg #[.int IntKind.i64 a0, .int IntKind.i64 a1, .int IntKind.i64 a2, .int IntKind.i64 a3, .bool a4, .int IntKind.i64 a5]) (.agg #[.int IntKind.i64 b0, .int IntKind.i64 b1, .int IntKind.i64 b2, .int IntKind.i64 b3, .bool b4, .int IntKind.i64 b5]) (!(a0 == b0 && a1 == b1 && a2 == b2 && a3 == b3 && a4 == b4 && a5 == b5)) := ⟨fun w p q => by simp [go_sem], fun w => by simp [go_sem]; (repeat' split) <;> simp_all⟩
instance : Ag Try.prog 36 false := ⟨fun w => ag_of Try.underlying36 rfl w⟩
instance : Sz Try.prog 36 1 := ⟨Try.sizeOf36⟩
instance : Zr Try.prog 36 (Value.tuple   #[Value.agg       #[Value.slice none 0 0, Value.slice none 0 0, Value.slice none 0 0, Value.slice none 0 0, Value.slice none 0 0],     Value.int IntKind.i64 0, Value.int IntKind.i64 0]) := ⟨Try.zeroValue36⟩
instance : Ag Try.prog 37 false := ⟨fun w => ag_of Try.underlying37 rfl w⟩
instance : Sz Try.prog 37 1 := ⟨Try.sizeOf37⟩
instance : Zr Try.prog 37 (Value.nilFunc) := ⟨Try.zeroValue37⟩
instance : Ag Try.prog 38 false := ⟨fun w => ag_of Try.underlying38 rfl w⟩
instance : Sz Try.prog 38 1 := ⟨Try.sizeOf38⟩
instance : Zr Try.prog 38 (Value.nilFunc) := ⟨Try.zeroValue38⟩
instance : Ag Try.prog 39 false := ⟨fun w => ag_of Try.underlying39 rfl w⟩
instance : Sz Try.prog 39 1 := ⟨Try.sizeOf39⟩
instance : Zr Try.prog 39 (Value.nilFunc) := ⟨Try.zeroValue39⟩
instance : Ag Try.prog 40 true := ⟨fun w => ag_of Try.underlying40 rfl w⟩
instance : Sz Try.prog 40 2 := ⟨Try.sizeOf40⟩
instance : Zr Try.prog 40 (Value.agg #[Value.int IntKind.i64 0, Value.int IntKind.i64 0]) := ⟨Try.zeroValue40⟩
instance : Fo Try.prog 40 0 0 := ⟨fun w b o => by simp [go_sem]⟩
instance : Fo Try.prog 40 1 1 := ⟨fun w b o => by simp [go_sem]⟩
instance : Bld Try.prog 40 [Value.int IntKind.i64 0, Value.int IntKind.i64 0] [(0, 1), (1, 1)] := bld_struct Try.underlying40 Try.zeroValue40 fun w => by simp [go_sem]
instance (a0 b0 : Int) (a1 b1 : Int) : Eq_ Try.prog 40 (.agg #[.int IntKind.i64 a0, .int IntKind.i64 a1]) (.agg #[.int IntKind.i64 b0, .int IntKind.i64 b1]) (a0 == b0 && a1 == b1) := ⟨fun w p q => by simp [go_sem], fun w => by simp [go_sem]; (repeat' split) <;> simp_all⟩
instance (a0 b0 : Int) (a1 b1 : Int) : Neq_ Try.prog 40 (.agg #[.int IntKind.i64 a0, .int IntKind.i64 a1]) (.agg #[.int IntKind.i64 b0, .int IntKind.i64 b1]) (!(a0 == b0 && a1 == b1)) := ⟨fun w p q => by simp [go_sem], fun w => by simp [go_sem]; (repeat' split) <;> simp_all⟩
instance : Ag Try.prog 41 true := ⟨fun w => ag_of Try.underlying41 rfl w⟩
instance : Sz Try.prog 41 2 := ⟨Try.sizeOf41⟩
instance : Zr Try.prog 41 (Value.agg #[Value.int IntKind.i64 0, Value.int IntKind.i64 0]) := ⟨Try.zeroValue41⟩
instance : Fo Try.prog 41 0 0 := ⟨fun w b o => by simp [go_sem]⟩
instance : Fo Try.prog 41 1 1 := ⟨fun w b o => by simp [go_sem]⟩
instance : Bld Try.prog 41 [Value.int IntKind.i64 0, Value.int IntKind.i64 0] [(0, 1), (1, 1)] := bld_struct Try.underlying41 Try.zeroValue41 fun w => by simp [go_sem]
instance (a0 b0 : Int) (a1 b1 : Int) : Eq_ Try.prog 41 (.agg #[.int IntKind.i64 a0, .int IntKind.i64 a1]) (.agg #[.int IntKind.i64 b0, .int IntKind.i64 b1]) (a0 == b0 && a1 == b1) := ⟨fun w p q => by simp [go_sem], fun w => by simp [go_sem]; (repeat' split) <;> simp_all⟩
instance (a0 b0 : Int) (a1 b1 : Int) : Neq_ Try.prog 41 (.agg #[.int IntKind.i64 a0, .int IntKind.i64 a1]) (.agg #[.int IntKind.i64 b0, .int IntKind.i64 b1]) (!(a0 == b0 && a1 == b1)) := ⟨fun w p q => by simp [go_sem], fun w => by simp [go_sem]; (repeat' split) <;> simp_all⟩
instance : Ag Try.prog 42 false := ⟨fun w => ag_of Try.underlying42 rfl w⟩
instance : Sz Try.prog 42 1 := ⟨Try.sizeOf42⟩
instance : Zr Try.prog 42 (Value.nilFunc) := ⟨Try.zeroValue42⟩
instance : Ag Try.prog 43 false := ⟨fun w => ag_of Try.underlying43 rfl w⟩
instance : Sz Try.prog 43 1 := ⟨Try.sizeOf43⟩
instance : Zr Try.prog 43 (Value.nilFunc) := ⟨Try.zeroValue43⟩
instance : Ag Try.prog 44 false := ⟨fun w => ag_of Try.underlying44 rfl w⟩
instance : Sz Try.prog 44 1 := ⟨Try.sizeOf44⟩
instance : Zr Try.prog 44 (Value.tuple   #[Value.agg       #[Value.slice none 0 0, Value.slice none 0 0, Value.slice none 0 0, Value.slice none 0 0, Value.slice none 0 0],     Value.int IntKind.i64 0]) := ⟨Try.zeroValue44⟩
instance : Ag Try.prog 45 false := ⟨fun w => ag_of Try.underlying45 rfl w⟩
instance : Sz Try.prog 45 1 := ⟨Try.sizeOf45⟩
instance : Zr Try.prog 45 (Value.nilFunc) := ⟨Try.zeroValue45⟩
instance : Ag Try.prog 46 false := ⟨fun w => ag_of Try.underlying46 rfl w⟩
instance : Sz Try.prog 46 1 := ⟨Try.sizeOf46⟩
instance : Zr Try.prog 46 (Value.nilFunc) := ⟨Try.zeroValue46⟩
instance : Und Try.prog 47 (TypeDesc.int IntKind.u64) := ⟨Try.underlying47⟩
instance : Ag Try.prog 47 false := ⟨fun w => ag_of Try.underlying47 rfl w⟩
instance : Sz Try.prog 47 1 := ⟨Try.sizeOf47⟩
instance : Zr Try.prog 47 (Value.int IntKind.u64 0) := ⟨Try.zeroValue47⟩
instance : Ag Try.prog 48 false := ⟨fun w => ag_of Try.underlying48 rfl w⟩
instance : Sz Try.prog 48 1 := ⟨Try.sizeOf48⟩
instance : Zr Try.prog 48 (Value.tuple #[Value.int IntKind.u64 0, Value.bool false]) := ⟨Try.zeroValue48⟩
instance : Ag Try.prog 49 false := ⟨fun w => ag_of Try.underlying49 rfl w⟩
instance : Sz Try.prog 49 1 := ⟨Try.sizeOf49⟩
instance : Zr Try.prog 49 (Value.nilFunc) := ⟨Try.zeroValue49⟩
instance : Und Try.prog 50 (TypeDesc.slice 71) := ⟨Try.underlying50⟩
instance : SlTy Try.prog 50 71 3 (Value.agg #[Value.int IntKind.i64 0, Value.int IntKind.i64 0, Value.int IntKind.u64 0]) := ⟨Try.underlying50, by kernel_rfl, rfl⟩
instance : Ag Try.prog 50 false := ⟨fun w => ag_of Try.underlying50 rfl w⟩
instance : Sz Try.prog 50 1 := ⟨Try.sizeOf50⟩
instance : Zr Try.prog 50 (Value.slice none 0 0) := ⟨Try.zeroValue50⟩
instance : Ag Try.prog 51 true := ⟨fun w => ag_of Try.underlying51 rfl w⟩
instance : Sz Try.prog 51 2 := ⟨Try.sizeOf51⟩
instance : Zr Try.prog 51 (Value.agg #[Value.int IntKind.i64 0, Value.slice none 0 0]) := ⟨Try.zeroValue51⟩
instance : Fo Try.prog 51 0 0 := ⟨fun w b o => by simp [go_sem]⟩
instance : Fo Try.prog 51 1 1 := ⟨fun w b o => by simp [go_sem]⟩
instance : Bld Try.prog 51 [Value.int IntKind.i64 0, Value.slice none 0 0] [(0, 1), (1, 1)] := bld_struct Try.underlying51 Try.zeroValue51 fun w => by simp [go_sem]
instance : Ag Try.prog 52 true := ⟨fun w => ag_of Try.underlying52 rfl w⟩
instance : Sz Try.prog 52 2 := ⟨Try.sizeOf52⟩
instance : Zr Try.prog 52 (Value.agg #[Value.int IntKind.i64 0, Value.slice none 0 0]) := ⟨Try.zeroValue52⟩
instance : Fo Try.prog 52 0 0 := ⟨fun w b o => by simp [go_sem]⟩
instance : Fo Try.prog 52 1 1 := ⟨fun w b o => by simp [go_sem]⟩
instance : Bld Try.prog 52 [Value.int IntKind.i64 0, Value.slice none 0 0] [(0, 1), (1, 1)] := bld_struct Try.underlying52 Try.zeroValue52 fun w => by simp [go_sem]
instance : Ag Try.prog 53 true := ⟨fun w => ag_of Try.underlying53 rfl w⟩
instance : Sz Try.prog 53 6 := ⟨Try.sizeOf53⟩
instance : Zr Try.prog 53 (Value.agg   #[Value.int IntKind.i64 0, Value.int IntKind.i64 0, Value.bool false, Value.bool false, Value.bool false,     Value.bool false]) := ⟨Try.zeroValue53⟩
instance : Fo Try.prog 53 0 0 := ⟨fun w b o => by simp [go_sem]⟩
instance : Fo Try.prog 53 1 1 := ⟨fun w b o => by simp [go_sem]⟩
instance : Fo Try.prog 53 2 2 := ⟨fun w b o => by simp [go_sem]⟩
instance : Fo Try.prog 53 3 3 := ⟨fun w b o => by simp [go_sem]⟩
instance : Fo Try.prog 53 4 4 := ⟨fun w b o => by simp [go_sem]⟩
instance : Fo Try.prog 53 5 5 := ⟨fun w b o => by simp [go_sem]⟩
instance : Bld Try.prog 53 [Value.int IntKind.i64 0, Value.int IntKind.i64 0, Value.bool false, Value.bool false, Value.bool false, Value.bool false] [(0, 1), (1, 1), (2, 1), (3, 1), (4, 1), (5, 1)] := bld_struct Try.underlying53 Try.zeroValue53 fun w => by simp [go_sem]
instance (a0 b0 : Int) (a1 b1 : Int) (a2 b2 : Bool) (a3 b3 : Bool) (a4 b4 : Bool) (a5 b5 : Bool) : Eq_ Try.prog 53 (.agg #[.int IntKind.i64 a0, .int IntKind.i64 a1, .bool a2, .bool a3, .bool a4, .bool a5]) (.agg #[.int IntKind.i64 b0, .int IntKind.i64 b1, .bool b2, .bool b3, .bool b4, .bool b5]) (a0 == b0 && a1 == b1 && a2 == b2 && a3 == b3 && a4 == b4 && a5 == b5) := ⟨fun w p q => by simp [go_sem], fun w => by simp [go_sem]; (repeat' split) <;> simp_all⟩
instance (a0 b0 : Int) (a1 b1 : Int) (a2 b2 : Bool) (a3 b3 : Bool) (a4 b4 : Bool) (a5 b5 : Bool) : Neq_ Try.prog 53 (.agg #[.int IntKind.i64 a0, .int IntKind.i64 a1, .bool a2, .bool a3, .bool a4, .bool a5]) (.agg #[.int IntKind.i64 b0, .int IntKind.i64 b1, .bool b2, .bool b3, .bool b4, .bool b5]) (!(a0 == b0 && a1 == b1 && a2 == b2 && a3 == b3 && a4 == b4 && a5 == b5)) := ⟨fun w p q => by simp [go_sem], fun w => by simp [go_sem]; (repeat' split) <;> simp_all⟩
instance : Ag Try.prog 54 true := ⟨fun w => ag_of Try.underlying54 rfl w⟩
instance : Sz Try.prog 54 6 := ⟨Try.sizeOf54⟩
instance : Zr Try.prog 54 (Value.agg   #[Value.int IntKind.i64 0, Value.int IntKind.i64 0, Value.bool false, Value.bool false, Value.bool false,     Value.bool false]) := ⟨Try.zeroValue54⟩
instance : Fo Try.prog 54 0 0 := ⟨fun w b o => by simp [go_sem]⟩
instance : Fo Try.prog 54 1 1 := ⟨fun w b o => by simp [go_sem]⟩
instance : Fo Try.prog 54 2 2 := ⟨fun w b o => by simp [go_sem]⟩
instance : Fo Try.prog 54 3 3 := ⟨fun w b o => by simp [go_sem]⟩
instance : Fo Try.prog 54 4 4 := ⟨fun w b o => by simp [go_sem]⟩
instance : Fo Try.prog 54 5 5 := ⟨fun w b o => by simp [go_sem]⟩
instance : Bld Try.prog 54 [Value.int IntKind.i64 0, Value.int IntKind.i64 0, Value.bool false, Value.bool false, Value.bool false, Value.bool false] [(0, 1), (1, 1), (2, 1), (3, 1), (4, 1), (5, 1)] := bld_struct Try.underlying54 Try.zeroValue54 fun w => by simp [go_sem]
instance (a0 b0 : Int) (a1 b1 : Int) (a2 b2 : Bool) (a3 b3 : Bool) (a4 b4 : Bool) (a5 b5 : Bool) : Eq_ Try.prog 54 (.agg #[.int IntKind.i64 a0, .int IntKind.i64 a1, .bool a2, .bool a3, .bool a4, .bool a5]) (.agg #[.int IntKind.i64 b0, .int IntKind.i64 b1, .bool b2, .bool b3, .bool b4, .bool b5]) (a0 == b0 && a1 == b1 && a2 == b2 && a3 == b3 && a4 == b4 && a5 == b5) := ⟨fun w p q => by simp [go_sem], fun w => by simp [go_sem]; (repeat' split) <;> simp_all⟩
instance (a0 b0 : Int) (a1 b1 : Int) (a2 b2 : Bool) (a3 b3 : Bool) (a4 b4 : Bool) (a5 b5 : Bool) : Neq_ Try.prog 54 (.agg #[.int IntKind.i64 a0, .int IntKind.i64 a1, .bool a2, .bool a3, .bool a4, .bool a5]) (.agg #[.int IntKind.i64 b0, .int IntKind.i64 b1, .bool b2, .bool b3, .bool b4, .bool b5]) (!(a0 == b0 && a1 == b1 && a2 == b2 && a3 == b3 && a4 == b4 && a5 == b5)) := ⟨fun w p q => by simp [go_sem], fun w => by simp [go_sem]; (repeat' split) <;> simp_all⟩
instance : Ag Try.prog 55 false := ⟨fun w => ag_of Try.underlying55 rfl w⟩
instance : Sz Try.prog 55 1 := ⟨Try.sizeOf55⟩
instance : Zr Try.prog 55 (Value.tuple   #[Value.agg       #[Value.int IntKind.i64 0, Value.int IntKind.i64 0, Value.bool false, Value.bool false, Value.bool false,         Value.bool false],     Value.int IntKind.i64 0]) := ⟨Try.zeroValue55⟩
instance : Ag Try.prog 56 false := ⟨fun w => ag_of Try.underlying56 rfl w⟩
instance : Sz Try.prog 56 1 := ⟨Try.sizeOf56⟩
instance : Zr Try.prog 56 (Value.nilFunc) := ⟨Try.zeroValue56⟩
instance : Ag Try.prog 57 false := ⟨fun w => ag_of Try.underlying57 rfl w⟩
instance : Sz Try.prog 57 1 := ⟨Try.sizeOf57⟩
instance : Zr Try.prog 57 (Value.nilFunc) := ⟨Try.zeroValue57⟩
instance : Und Try.prog 58 (TypeDesc.map 3 3) := ⟨Try.underlying58⟩
instance : Ag Try.prog 58 false := ⟨fun w => ag_of Try.underlying58 rfl w⟩
instance : Sz Try.prog 58 1 := ⟨Try.sizeOf58⟩
instance : Zr Try.prog 58 (Value.map none) := ⟨Try.zeroValue58⟩
instance : Ag Try.prog 59 false := ⟨fun w => ag_of Try.underlying59 rfl w⟩
instance : Sz Try.prog 59 1 := ⟨Try.sizeOf59⟩
instance : Zr Try.prog 59 (Value.tuple #[Value.int IntKind.i64 0, Value.bool false]) := ⟨Try.zeroValue59⟩
instance : Und Try.prog 60 (TypeDesc.slice 62) := ⟨Try.underlying60⟩
instance : SlTy Try.prog 60 62 3 (Value.agg #[Value.int IntKind.i64 0, Value.int IntKind.i64 0, Value.bool false]) := ⟨Try.underlying60, by kernel_rfl, rfl⟩
instance : Ag Try.prog 60 false := ⟨fun w => ag_of Try.underlying60 rfl w⟩
instance : Sz Try.prog 60 1 := ⟨Try.sizeOf60⟩
instance : Zr Try.prog 60 (Value.slice none 0 0) := ⟨Try.zeroValue60⟩
instance : Ag Try.prog 61 true := ⟨fun w => ag_of Try.underlying61 rfl w⟩
instance : Sz Try.prog 61 3 := ⟨Try.sizeOf61⟩
instance : Zr Try.prog 61 (Value.agg #[Value.int IntKind.i64 0, Value.int IntKind.i64 0, Value.bool false]) := ⟨Try.zeroValue61⟩
instance : Fo Try.prog 61 0 0 := ⟨fun w b o => by simp [go_sem]⟩
instance : Fo Try.prog 61 1 1 := ⟨fun w b o => by simp [go_sem]⟩
instance : Fo Try.prog 61 2 2 := ⟨fun w b o => by simp [go_sem]⟩
instance : Bld Try.prog 61 [Value.int IntKind.i64 0, Value.int IntKind.i64 0, Value.bool false] [(0, 1), (1, 1), (2, 1)] := bld_struct Try.underlying61 Try.zeroValue61 fun w => by simp [go_sem]
instance (a0 b0 : Int) (a1 b1 : Int) (a2 b2 : Bool) : Eq_ Try.prog 61 (.agg #[.int IntKind.i64 a0, .int IntKind.i64 a1, .bool a2]) (.agg #[.int IntKind.i64 b0, .int IntKind.i64 b1, .bool b2]) (a0 == b0 && a1 == b1 && a2 == b2) := ⟨fun w p q => by simp [go_sem], fun w => by simp [go_sem]; (repeat' split) <;> simp_all⟩
instance (a0 b0 : Int) (a1 b1 : Int) (a2 b2 : Bool) : Neq_ Try.prog 61 (.agg #[.int IntKind.i64 a0, .int IntKind.i64 a1, .bool a2]) (.agg #[.int IntKind.i64 b0, .int IntKind.i64 b1, .bool b2]) (!(a0 == b0 && a1 == b1 && a2 == b2)) := ⟨fun w p q => by simp [go_sem], fun w => by simp [go_sem]; (repeat' split) <;> simp_all⟩
instance : Ag Try.prog 62 true := ⟨fun w => ag_of Try.underlying62 rfl w⟩
instance : Sz Try.prog 62 3 := ⟨Try.sizeOf62⟩
instance : Zr Try.prog 62 (Value.agg #[Value.int IntKind.i64 0, Value.int IntKind.i64 0, Value.bool false]) := ⟨Try.zeroValue62⟩
instance : Fo Try.prog 62 0 0 := ⟨fun w b o => by simp [go_sem]⟩
instance : Fo Try.prog 62 1 1 := ⟨fun w b o => by simp [go_sem]⟩
instance : Fo Try.prog 62 2 2 := ⟨fun w b o => by simp [go_sem]⟩
instance : Bld Try.prog 62 [Value.int IntKind.i64 0, Value.int IntKind.i64 0, Value.bool false] [(0, 1), (1, 1), (2, 1)] := bld_struct Try.underlying62 Try.zeroValue62 fun w => by simp [go_sem]
instance (a0 b0 : Int) (a1 b1 : Int) (a2 b2 : Bool) : Eq_ Try.prog 62 (.agg #[.int IntKind.i64 a0, .int IntKind.i64 a1, .bool a2]) (.agg #[.int IntKind.i64 b0, .int IntKind.i64 b1, .bool b2]) (a0 == b0 && a1 == b1 && a2 == b2) := ⟨fun w p q => by simp [go_sem], fun w => by simp [go_sem]; (repeat' split) <;> simp_all⟩
instance (a0 b0 : Int) (a1 b1 : Int) (a2 b2 : Bool) : Neq_ Try.prog 62 (.agg #[.int IntKind.i64 a0, .int IntKind.i64 a1, .bool a2]) (.agg #[.int IntKind.i64 b0, .int IntKind.i64 b1, .bool b2]) (!(a0 == b0 && a1 == b1 && a2 == b2)) := ⟨fun w p q => by simp [go_sem], fun w => by simp [go_sem]; (repeat' split) <;> simp_all⟩
instance : Ag Try.prog 63 false := ⟨fun w => ag_of Try.underlying63 rfl w⟩
instance : Sz Try.prog 63 1 := ⟨Try.sizeOf63⟩
instance : Zr Try.prog 63 (Value.nilFunc) := ⟨Try.zeroValue63⟩
instance : Ag Try.prog 64 false := ⟨fun w => ag_of Try.underlying64 rfl w⟩
instance : Sz Try.prog 64 1 := ⟨Try.sizeOf64⟩
instance : Zr Try.prog 64 (Value.nilFunc) := ⟨Try.zeroValue64⟩
instance : Ag Try.prog 65 false := ⟨fun w => ag_of Try.underlying65 rfl w⟩
instance : Sz Try.prog 65 1 := ⟨Try.sizeOf65⟩
instance : Zr Try.prog 65 (Value.nilFunc) := ⟨Try.zeroValue65⟩
instance : Ag Try.prog 66 false := ⟨fun w => ag_of Try.underlying66 rfl w⟩
instance : Sz Try.prog 66 1 := ⟨Try.sizeOf66⟩
instance : Zr Try.prog 66 (Value.nilFunc) := ⟨Try.zeroValue66⟩
instance : Ag Try.prog 67 false := ⟨fun w => ag_of Try.underlying67 rfl w⟩
instance : Sz Try.prog 67 1 := ⟨Try.sizeOf67⟩
instance : Zr Try.prog 67 (Value.nilFunc) := ⟨Try.zeroValue67⟩
instance : Ag Try.prog 68 false := ⟨fun w => ag_of Try.underlying68 rfl w⟩
instance : Sz Try.prog 68 1 := ⟨Try.sizeOf68⟩
instance : Zr Try.prog 68 (Value.nilFunc) := ⟨Try.zeroValue68⟩
instance : Und Try.prog 69 (TypeDesc.slice 4) := ⟨Try.underlying69⟩
instance : SlTy Try.prog 69 4 1 (Value.bool false) := ⟨Try.underlying69, by kernel_rfl, rfl⟩
instance : Ag Try.prog 69 false := ⟨fun w => ag_of Try.underlying69 rfl w⟩
instance : Sz Try.prog 69 1 := ⟨Try.sizeOf69⟩
instance : Zr Try.prog 69 (Value.slice none 0 0) := ⟨Try.zeroValue69⟩
instance : Ag Try.prog 70 true := ⟨fun w => ag_of Try.underlying70 rfl w⟩
instance : Sz Try.prog 70 3 := ⟨Try.sizeOf70⟩
instance : Zr Try.prog 70 (Value.agg #[Value.int IntKind.i64 0, Value.int IntKind.i64 0, Value.int IntKind.u64 0]) := ⟨Try.zeroValue70⟩
instance : Fo Try.prog 70 0 0 := ⟨fun w b o => by simp [go_sem]⟩
instance : Fo Try.prog 70 1 1 := ⟨fun w b o => by simp [go_sem]⟩
instance : Fo Try.prog 70 2 2 := ⟨fun w b o => by simp [go_sem]⟩
instance : Bld Try.prog 70 [Value.int IntKind.i64 0, Value.int IntKind.i64 0, Value.int IntKind.u64 0] [(0, 1), (1, 1), (2, 1)] := bld_struct Try.underlying70 Try.zeroValue70 fun w => by simp [go_sem]
instance (a0 b0 : Int) (a1 b1 : Int) (a2 b2 : Int) : Eq_ Try.prog 70 (.agg #[.int IntKind.i64 a0, .int IntKind.i64 a1, .int IntKind.u64 a2]) (.agg #[.int IntKind.i64 b0, .int IntKind.i64 b1, .int IntKind.u64 b2]) (a0 == b0 && a1 == b1 && a2 == b2) := ⟨fun w p q => by simp [go_sem], fun w => by simp [go_sem]; (repeat' split) <;> simp_all⟩
instance (a0 b0 : Int) (a1 b1 : Int) (a2 b2 : Int) : Neq_ Try.prog 70 (.agg #[.int IntKind.i64 a0, .int IntKind.i64 a1, .int IntKind.u64 a2]) (.agg #[.int IntKind.i64 b0, .int IntKind.i64 b1, .int IntKind.u64 b2]) (!(a0 == b0 && a1 == b1 && a2 == b2)) := ⟨fun w p q => by simp [go_sem], fun w => by simp [go_sem]; (repeat' split) <;> simp_all⟩
instance : Ag Try.prog 71 true := ⟨fun w => ag_of Try.underlying71 rfl w⟩
instance : Sz Try.prog 71 3 := ⟨Try.sizeOf71⟩
instance : Zr Try.prog 71 (Value.agg #[Value.int IntKind.i64 0, Value.int IntKind.i64 0, Value.int IntKind.u64 0]) := ⟨Try.zeroValue71⟩
instance : Fo Try.prog 71 0 0 := ⟨fun w b o => by simp [go_sem]⟩
instance : Fo Try.prog 71 1 1 := ⟨fun w b o => by simp [go_sem]⟩
instance : Fo Try.prog 71 2 2 := ⟨fun w b o => by simp [go_sem]⟩
instance : Bld Try.prog 71 [Value.int IntKind.i64 0, Value.int IntKind.i64 0, Value.int IntKind.u64 0] [(0, 1), (1, 1), (2, 1)] := bld_struct Try.underlying71 Try.zeroValue71 fun w => by simp [go_sem]
instance (a0 b0 : Int) (a1 b1 : Int) (a2 b2 : Int) : Eq_ Try.prog 71 (.agg #[.int IntKind.i64 a0, .int IntKind.i64 a1, .int IntKind.u64 a2]) (.agg #[.int IntKind.i64 b0, .int IntKind.i64 b1, .int IntKind.u64 b2]) (a0 == b0 && a1 == b1 && a2 == b2) := ⟨fun w p q => by simp [go_sem], fun w => by simp [go_sem]; (repeat' split) <;> simp_all⟩
instance (a0 b0 : Int) (a1 b1 : Int) (a2 b2 : Int) : Neq_ Try.prog 71 (.agg #[.int IntKind.i64 a0, .int IntKind.i64 a1, .int IntKind.u64 a2]) (.agg #[.int IntKind.i64 b0, .int IntKind.i64 b1, .int IntKind.u64 b2]) (!(a0 == b0 && a1 == b1 && a2 == b2)) := ⟨fun w p q => by simp [go_sem], fun w => by simp [go_sem]; (repeat' split) <;> simp_all⟩
instance : Ag Try.prog 72 false := ⟨fun w => ag_of Try.underlying72 rfl w⟩
instance : Sz Try.prog 72 1 := ⟨Try.sizeOf72⟩
instance : Zr Try.prog 72 (Value.nilFunc) := ⟨Try.zeroValue72⟩
instance : Ag Try.prog 73 false := ⟨fun w => ag_of Try.underlying73 rfl w⟩
instance : Sz Try.prog 73 1 := ⟨Try.sizeOf73⟩
instance : Zr Try.prog 73 (Value.nilFunc) := ⟨Try.zeroValue73⟩
instance : Ag Try.prog 74 false := ⟨fun w => ag_of Try.underlying74 rfl w⟩
instance : Sz Try.prog 74 1 := ⟨Try.sizeOf74⟩
instance : Zr Try.prog 74 (Value.tuple #[Value.agg #[Value.int IntKind.i64 0, Value.slice none 0 0], Value.int IntKind.i64 0]) := ⟨Try.zeroValue74⟩
instance : Ag Try.prog 75 false := ⟨fun w => ag_of Try.underlying75 rfl w⟩
instance : Sz Try.prog 75 1 := ⟨Try.sizeOf75⟩
instance : Zr Try.prog 75 (Value.nilFunc) := ⟨Try.zeroValue75⟩
instance : Ag Try.prog 76 false := ⟨fun w => ag_of Try.underlying76 rfl w⟩
instance : Sz Try.prog 76 1 := ⟨Try.sizeOf76⟩
instance : Zr Try.prog 76 (Value.nilFunc) := ⟨Try.zeroValue76⟩
instance : Ag Try.prog 77 false := ⟨fun w => ag_of Try.underlying77 rfl w⟩
instance : Sz Try.prog 77 1 := ⟨Try.sizeOf77⟩
instance : Zr Try.prog 77 (Value.nilFunc) := ⟨Try.zeroValue77⟩
instance : Ag Try.prog 78 false := ⟨fun w => ag_of Try.underlying78 rfl w⟩
instance : Sz Try.prog 78 1 := ⟨Try.sizeOf78⟩
instance : Zr Try.prog 78 (Value.nilFunc) := ⟨Try.zeroValue78⟩
instance : Ag Try.prog 79 false := ⟨fun w => ag_of Try.underlying79 rfl w⟩
instance : Sz Try.prog 79 1 := ⟨Try.sizeOf79⟩
instance : Zr Try.prog 79 (Value.nilFunc) := ⟨Try.zeroValue79⟩
instance : Ag Try.prog 80 false := ⟨fun w => ag_of Try.underlying80 rfl w⟩
instance : Sz Try.prog 80 1 := ⟨Try.sizeOf80⟩
instance : Zr Try.prog 80 (Value.nilFunc) := ⟨Try.zeroValue80⟩
instance : Ag Try.prog 81 false := ⟨fun w => ag_of Try.underlying81 rfl w⟩
instance : Sz Try.prog 81 1 := ⟨Try.sizeOf81⟩
instance : Zr Try.prog 81 (Value.nilFunc) := ⟨Try.zeroValue81⟩
instance : Und Try.prog 82 (TypeDesc.int IntKind.u64) := ⟨Try.underlying82⟩
instance : Ag Try.prog 82 false := ⟨fun w => ag_of Try.underlying82 rfl w⟩
instance : Sz Try.prog 82 1 := ⟨Try.sizeOf82⟩
instance : Zr Try.prog 82 (Value.int IntKind.u64 0) := ⟨Try.zeroValue82⟩
instance : Ag Try.prog 83 false := ⟨fun w => ag_of Try.underlying83 rfl w⟩
instance : Sz Try.prog 83 1 := ⟨Try.sizeOf83⟩
instance : Zr Try.prog 83 (Value.tuple #[Value.int IntKind.u64 0, Value.int IntKind.i64 0]) := ⟨Try.zeroValue83⟩
instance : Ag Try.prog 84 false := ⟨fun w => ag_of Try.underlying84 rfl w⟩
instance : Sz Try.prog 84 1 := ⟨Try.sizeOf84⟩
instance : Zr Try.prog 84 (Value.nilFunc) := ⟨Try.zeroValue84⟩
instance : Ag Try.prog 85 false := ⟨fun w => ag_of Try.underlying85 rfl w⟩
instance : Sz Try.prog 85 1 := ⟨Try.sizeOf85⟩
instance : Zr Try.prog 85 (Value.nilFunc) := ⟨Try.zeroValue85⟩
instance : Ag Try.prog 86 false := ⟨fun w => ag_of Try.underlying86 rfl w⟩
instance : Sz Try.prog 86 1 := ⟨Try.sizeOf86⟩
instance : Zr Try.prog 86 (Value.tuple   #[Value.agg       #[Value.int IntKind.i64 0, Value.int IntKind.i64 0, Value.bool false, Value.bool false, Value.bool false,         Value.bool false],     Value.bool false]) := ⟨Try.zeroValue86⟩
instance : Ag Try.prog 87 false := ⟨fun w => ag_of Try.underlying87 rfl w⟩
instance : Sz Try.prog 87 1 := ⟨Try.sizeOf87⟩
instance : Zr Try.prog 87 (Value.nilFunc) := ⟨Try.zeroValue87⟩
instance : Ag Try.prog 88 false := ⟨fun w => ag_of Try.underlying88 rfl w⟩
instance : Sz Try.prog 88 1 := ⟨Try.sizeOf88⟩
instance : Zr Try.prog 88 (Value.nilFunc) := ⟨Try.zeroValue88⟩
instance : Ag Try.prog 89 false := ⟨fun w => ag_of Try.underlying89 rfl w⟩
instance : Sz Try.prog 89 1 := ⟨Try.sizeOf89⟩
instance : Zr Try.prog 89 (Value.nilFunc) := ⟨Try.zeroValue89⟩
instance : Ag Try.prog 90 false := ⟨fun w => ag_of Try.underlying90 rfl w⟩
instance : Sz Try.prog 90 1 := ⟨Try.sizeOf90⟩
instance : Zr Try.prog 90 (Value.nilFunc) := ⟨Try.zeroValue90⟩
instance : Ag Try.prog 91 false := ⟨fun w => ag_of Try.underlying91 rfl w⟩
instance : Sz Try.prog 91 1 := ⟨Try.sizeOf91⟩
instance : Zr Try.prog 91 (Value.nilFunc) := ⟨Try.zeroValue91⟩
instance : Ag Try.prog 92 false := ⟨fun w => ag_of Try.underlying92 rfl w⟩
instance : Sz Try.prog 92 1 := ⟨Try.sizeOf92⟩
instance : Zr Try.prog 92 (Value.nilFunc) := ⟨Try.zeroValue92⟩
instance : Ag Try.prog 93 false := ⟨fun w => ag_of Try.underlying93 rfl w⟩
instance : Sz Try.prog 93 1 := ⟨Try.sizeOf93⟩
instance : Zr Try.prog 93 (Value.nilFunc) := ⟨Try.zeroValue93⟩
instance : Ag Try.prog 94 false := ⟨fun w => ag_of Try.underlying94 rfl w⟩
instance : Sz Try.prog 94 1 := ⟨Try.sizeOf94⟩
instance : Zr Try.prog 94 (Value.nilFunc) := ⟨Try.zeroValue94⟩
instance : Ag Try.prog 95 false := ⟨fun w => ag_of Try.underlying95 rfl w⟩
instance : Sz Try.prog 95 1 := ⟨Try.sizeOf95⟩
instance : Zr Try.prog 95 (Value.nilFunc) := ⟨Try.zeroValue95⟩
instance : Ag Try.prog 96 false := ⟨fun w => ag_of Try.underlying96 rfl w⟩
instance : Sz Try.prog 96 1 := ⟨Try.sizeOf96⟩
instance : Zr Try.prog 96 (Value.nilFunc) := ⟨Try.zeroValue96⟩
instance : Ag Try.prog 97 false := ⟨fun w => ag_of Try.underlying97 rfl w⟩
instance : Sz Try.prog 97 1 := ⟨Try.sizeOf97⟩
instance : Zr Try.prog 97 (Value.nilFunc) := ⟨Try.zeroValue97⟩
instance : Ag Try.prog 98 false := ⟨fun w => ag_of Try.underlying98 rfl w⟩
instance : Sz Try.prog 98 1 := ⟨Try.sizeOf98⟩
instance : Zr Try.prog 98 (Value.nilFunc) := ⟨Try.zeroValue98⟩
instance : Ag Try.prog 99 false := ⟨fun w => ag_of Try.underlying99 rfl w⟩
instance : Sz Try.prog 99 1 := ⟨Try.sizeOf99⟩
instance : Zr Try.prog 99 (Value.nilFunc) := ⟨Try.zeroValue99⟩
instance : Ag Try.prog 100 false := ⟨fun w => ag_of Try.underlying100 rfl w⟩
instance : Sz Try.prog 100 1 := ⟨Try.sizeOf100⟩
instance : Zr Try.prog 100 (Value.nilFunc) := ⟨Try.zeroValue100⟩
instance : Ag Try.prog 101 false := ⟨fun w => ag_of Try.underlying101 rfl w⟩
instance : Sz Try.prog 101 1 := ⟨Try.sizeOf101⟩
instance : Zr Try.prog 101 (Value.nilFunc) := ⟨Try.zeroValue101⟩
instance : Ag Try.prog 102 false := ⟨fun w => ag_of Try.underlying102 rfl w⟩
instance : Sz Try.prog 102 1 := ⟨Try.sizeOf102⟩
instance : Zr Try.prog 102 (Value.nilFunc) := ⟨Try.zeroValue102⟩
instance : Ag Try.prog 103 false := ⟨fun w => ag_of Try.underlying103 rfl w⟩
instance : Sz Try.prog 103 1 := ⟨Try.sizeOf103⟩
instance : Zr Try.prog 103 (Value.nilFunc) := ⟨Try.zeroValue103⟩
instance : Ag Try.prog 104 false := ⟨fun w => ag_of Try.underlying104 rfl w⟩
instance : Sz Try.prog 104 1 := ⟨Try.sizeOf104⟩
instance : Zr Try.prog 104 (Value.nilFunc) := ⟨Try.zeroValue104⟩
instance : Ag Try.prog 105 false := ⟨fun w => ag_of Try.underlying105 rfl w⟩
instance : Sz Try.prog 105 1 := ⟨Try.sizeOf105⟩
instance : Zr Try.prog 105 (Value.nilFunc) := ⟨Try.zeroValue105⟩
instance : Ag Try.prog 106 false := ⟨fun w => ag_of Try.underlying106 rfl w⟩
instance : Sz Try.prog 106 1 := ⟨Try.sizeOf106⟩
instance : Zr Try.prog 106 (Value.nilFunc) := ⟨Try.zeroValue106⟩
instance : Ag Try.prog 107 false := ⟨fun w => ag_of Try.underlying107 rfl w⟩
instance : Sz Try.prog 107 1 := ⟨Try.sizeOf107⟩
instance : Zr Try.prog 107 (Value.nilFunc) := ⟨Try.zeroValue107⟩
instance : Ag Try.prog 108 false := ⟨fun w => ag_of Try.underlying108 rfl w⟩
instance : Sz Try.prog 108 1 := ⟨Try.sizeOf108⟩
instance : Zr Try.prog 108 (Value.nilFunc) := ⟨Try.zeroValue108⟩
instance : Ag Try.prog 109 false := ⟨fun w => ag_of Try.underlying109 rfl w⟩
instance : Sz Try.prog 109 1 := ⟨Try.sizeOf109⟩
instance : Zr Try.prog 109 (Value.nilFunc) := ⟨Try.zeroValue109⟩
instance : Ag Try.prog 110 false := ⟨fun w => ag_of Try.underlying110 rfl w⟩
instance : Sz Try.prog 110 1 := ⟨Try.sizeOf110⟩
instance : Zr Try.prog 110 (Value.nilFunc) := ⟨Try.zeroValue110⟩
instance : Ag Try.prog 111 false := ⟨fun w => ag_of Try.underlying111 rfl w⟩
instance : Sz Try.prog 111 1 := ⟨Try.sizeOf111⟩
instance : Zr Try.prog 111 (Value.tuple #[Value.bool false, Value.bool false]) := ⟨Try.zeroValue111⟩
instance : Ag Try.prog 112 false := ⟨fun w => ag_of Try.underlying112 rfl w⟩
instance : Sz Try.prog 112 1 := ⟨Try.sizeOf112⟩
instance : Zr Try.prog 112 (Value.nilFunc) := ⟨Try.zeroValue112⟩
instance : Ag Try.prog 113 false := ⟨fun w => ag_of Try.underlying113 rfl w⟩
instance : Sz Try.prog 113 1 := ⟨Try.sizeOf113⟩
instance : Zr Try.prog 113 (Value.nilFunc) := ⟨Try.zeroValue113⟩
instance : Ag Try.prog 114 false := ⟨fun w => ag_of Try.underlying114 rfl w⟩
instance : Sz Try.prog 114 1 := ⟨Try.sizeOf114⟩
instance : Zr Try.prog 114 (Value.nilFunc) := ⟨Try.zeroValue114⟩
instance : Ag Try.prog 115 false := ⟨fun w => ag_of Try.underlying115 rfl w⟩
instance : Sz Try.prog 115 1 := ⟨Try.sizeOf115⟩
instance : Zr Try.prog 115 (Value.nilFunc) := ⟨Try.zeroValue115⟩
instance : Ag Try.prog 116 false := ⟨fun w => ag_of Try.underlying116 rfl w⟩
instance : Sz Try.prog 116 1 := ⟨Try.sizeOf116⟩
instance : Zr Try.prog 116 (Value.nilFunc) := ⟨Try.zeroValue116⟩
instance : Ag Try.prog 117 false := ⟨fun w => ag_of Try.underlying117 rfl w⟩
instance : Sz Try.prog 117 1 := ⟨Try.sizeOf117⟩
instance : Zr Try.prog 117 (Value.nilFunc) := ⟨Try.zeroValue117⟩
instance : Ag Try.prog 118 false := ⟨fun w => ag_of Try.underlying118 rfl w⟩
instance : Sz Try.prog 118 1 := ⟨Try.sizeOf118⟩
instance : Zr Try.prog 118 (Value.tuple #[Value.int IntKind.u64 0, Value.int IntKind.u64 0]) := ⟨Try.zeroValue118⟩
instance : Ag Try.prog 119 false := ⟨fun w => ag_of Try.underlying119 rfl w⟩
instance : Sz Try.prog 119 1 := ⟨Try.sizeOf119⟩
instance : Zr Try.prog 119 (Value.nilFunc) := ⟨Try.zeroValue119⟩
instance : Ag Try.prog 120 false := ⟨fun w => ag_of Try.underlying120 rfl w⟩
instance : Sz Try.prog 120 1 := ⟨Try.sizeOf120⟩
instance : Zr Try.prog 120 (Value.nilFunc) := ⟨Try.zeroValue120⟩
instance : Ag Try.prog 121 false := ⟨fun w => ag_of Try.underlying121 rfl w⟩
instance : Sz Try.prog 121 1 := ⟨Try.sizeOf121⟩
instance : Zr Try.prog 121 (Value.nilFunc) := ⟨Try.zeroValue121⟩
instance : Ag Try.prog 122 false := ⟨fun w => ag_of Try.underlying122 rfl w⟩
instance : Sz Try.prog 122 1 := ⟨Try.sizeOf122⟩
instance : Zr Try.prog 122 (Value.nilFunc) := ⟨Try.zeroValue122⟩
instance : Ag Try.prog 123 false := ⟨fun w => ag_of Try.underlying123 rfl w⟩
instance : Sz Try.prog 123 1 := ⟨Try.sizeOf123⟩
instance : Zr Try.prog 123 (Value.nilFunc) := ⟨Try.zeroValue123⟩
instance : Ag Try.prog 124 false := ⟨fun w => ag_of Try.underlying124 rfl w⟩
instance : Sz Try.prog 124 1 := ⟨Try.sizeOf124⟩
instance : Zr Try.prog 124 (Value.nilFunc) := ⟨Try.zeroValue124⟩
instance : Ag Try.prog 125 false := ⟨fun w => ag_of Try.underlying125 rfl w⟩
instance : Sz Try.prog 125 1 := ⟨Try.sizeOf125⟩
instance : Zr Try.prog 125 (Value.nilFunc) := ⟨Try.zeroValue125⟩
instance : Und Try.prog 126 (TypeDesc.int IntKind.u32) := ⟨Try.underlying126⟩
instance : Ag Try.prog 126 false := ⟨fun w => ag_of Try.underlying126 rfl w⟩
instance : Sz Try.prog 126 1 := ⟨Try.sizeOf126⟩
instance : Zr Try.prog 126 (Value.int IntKind.u32 0) := ⟨Try.zeroValue126⟩
instance : Ag Try.prog 127 false := ⟨fun w => ag_of Try.underlying127 rfl w⟩
instance : Sz Try.prog 127 1 := ⟨Try.sizeOf127⟩
instance : Zr Try.prog 127 (Value.tuple #[Value.int IntKind.u32 0, Value.int IntKind.u32 0]) := ⟨Try.zeroValue127⟩
instance : Ag Try.prog 128 false := ⟨fun w => ag_of Try.underlying128 rfl w⟩
instance : Sz Try.prog 128 1 := ⟨Try.sizeOf128⟩
instance : Zr Try.prog 128 (Value.nilFunc) := ⟨Try.zeroValue128⟩
instance : Ag Try.prog 129 false := ⟨fun w => ag_of Try.underlying129 rfl w⟩
instance : Sz Try.prog 129 1 := ⟨Try.sizeOf129⟩
instance : Zr Try.prog 129 (Value.tuple #[Value.int IntKind.u64 0, Value.int IntKind.u64 0]) := ⟨Try.zeroValue129⟩
instance : Ag Try.prog 130 false := ⟨fun w => ag_of Try.underlying130 rfl w⟩
instance : Sz Try.prog 130 1 := ⟨Try.sizeOf130⟩
instance : Zr Try.prog 130 (Value.nilFunc) := ⟨Try.zeroValue130⟩
instance : Ag Try.prog 131 false := ⟨fun w => ag_of Try.underlying131 rfl w⟩
instance : Sz Try.prog 131 1 := ⟨Try.sizeOf131⟩
instance : Zr Try.prog 131 (Value.nilFunc) := ⟨Try.zeroValue131⟩
instance : Ag Try.prog 132 false := ⟨fun w => ag_of Try.underlying132 rfl w⟩
instance : Sz Try.prog 132 1 := ⟨Try.sizeOf132⟩
instance : Zr Try.prog 132 (Value.nilFunc) := ⟨Try.zeroValue132⟩
instance : Ag Try.prog 133 true := ⟨fun w => ag_of Try.underlying133 rfl w⟩
instance : Sz Try.prog 133 4 := ⟨Try.sizeOf133⟩
instance : Zr Try.prog 133 (Value.agg #[Value.pointer none, Value.pointer none, Value.pointer none, Value.string { data := #[] }]) := ⟨Try.zeroValue133⟩
instance : Fo Try.prog 133 0 0 := ⟨fun w b o => by simp [go_sem]⟩
instance : Fo Try.prog 133 1 1 := ⟨fun w b o => by simp [go_sem]⟩
instance : Fo Try.prog 133 2 2 := ⟨fun w b o => by simp [go_sem]⟩
instance : Fo Try.prog 133 3 3 := ⟨fun w b o => by simp [go_sem]⟩
instance : Bld Try.prog 133 [Value.pointer none, Value.pointer none, Value.pointer none, Value.string { data := #[] }] [(0, 1), (1, 1), (2, 1), (3, 1)] := bld_struct Try.underlying133 Try.zeroValue133 fun w => by simp [go_sem]
instance : Ag Try.prog 134 true := ⟨fun w => ag_of Try.underlying134 rfl w⟩
instance : Sz Try.prog 134 4 := ⟨Try.sizeOf134⟩
instance : Zr Try.prog 134 (Value.agg #[Value.pointer none, Value.pointer none, Value.pointer none, Value.string { data := #[] }]) := ⟨Try.zeroValue134⟩
instance : Fo Try.prog 134 0 0 := ⟨fun w b o => by simp [go_sem]⟩
instance : Fo Try.prog 134 1 1 := ⟨fun w b o => by simp [go_sem]⟩
instance : Fo Try.prog 134 2 2 := ⟨fun w b o => by simp [go_sem]⟩
instance : Fo Try.prog 134 3 3 := ⟨fun w b o => by simp [go_sem]⟩
instance : Bld Try.prog 134 [Value.pointer none, Value.pointer none, Value.pointer none, Value.string { data := #[] }] [(0, 1), (1, 1), (2, 1), (3, 1)] := bld_struct Try.underlying134 Try.zeroValue134 fun w => by simp [go_sem]
instance : Und Try.prog 135 (TypeDesc.array 0 16) := ⟨Try.underlying135⟩
instance : Ag Try.prog 135 true := ⟨fun w => ag_of Try.underlying135 rfl w⟩
instance : Sz Try.prog 135 0 := ⟨Try.sizeOf135⟩
instance : Zr Try.prog 135 (Value.agg #[]) := ⟨Try.zeroValue135⟩
instance : Ag Try.prog 136 true := ⟨fun w => ag_of Try.underlying136 rfl w⟩
instance : Sz Try.prog 136 0 := ⟨Try.sizeOf136⟩
instance : Zr Try.prog 136 (Value.agg #[]) := ⟨Try.zeroValue136⟩
instance : Bld Try.prog 136 [] [(0, 0)] := bld_struct Try.underlying136 Try.zeroValue136 fun w => by simp [go_sem]
instance : Ag Try.prog 137 true := ⟨fun w => ag_of Try.underlying137 rfl w⟩
instance : Sz Try.prog 137 0 := ⟨Try.sizeOf137⟩
instance : Zr Try.prog 137 (Value.agg #[]) := ⟨Try.zeroValue137⟩
instance : Bld Try.prog 137 [] [(0, 0)] := bld_struct Try.underlying137 Try.zeroValue137 fun w => by simp [go_sem]
instance : Ag Try.prog 138 false := ⟨fun w => ag_of Try.underlying138 rfl w⟩
instance : Sz Try.prog 138 1 := ⟨Try.sizeOf138⟩
instance : Zr Try.prog 138 (Value.nilFunc) := ⟨Try.zeroValue138⟩
instance : Und Try.prog 139 (TypeDesc.int IntKind.u8) := ⟨Try.underlying139⟩
instance : Ag Try.prog 139 false := ⟨fun w => ag_of Try.underlying139 rfl w⟩
instance : Sz Try.prog 139 1 := ⟨Try.sizeOf139⟩
instance : Zr Try.prog 139 (Value.int IntKind.u8 0) := ⟨Try.zeroValue139⟩
instance : Und Try.prog 140 (TypeDesc.int IntKind.u8) := ⟨Try.underlying140⟩
instance : Ag Try.prog 140 false := ⟨fun w => ag_of Try.underlying140 rfl w⟩
instance : Sz Try.prog 140 1 := ⟨Try.sizeOf140⟩
instance : Zr Try.prog 140 (Value.int IntKind.u8 0) := ⟨Try.zeroValue140⟩
instance : Ag Try.prog 141 false := ⟨fun w => ag_of Try.underlying141 rfl w⟩
instance : Sz Try.prog 141 1 := ⟨Try.sizeOf141⟩
instance : Zr Try.prog 141 (Value.nilFunc) := ⟨Try.zeroValue141⟩
instance : Und Try.prog 142 (TypeDesc.pointer 5) := ⟨Try.underlying142⟩
instance : Ag Try.prog 142 false := ⟨fun w => ag_of Try.underlying142 rfl w⟩
instance : Sz Try.prog 142 1 := ⟨Try.sizeOf142⟩
instance : Zr Try.prog 142 (Value.pointer none) := ⟨Try.zeroValue142⟩
instance : Und Try.prog 143 (TypeDesc.int IntKind.i32) := ⟨Try.underlying143⟩
instance : Ag Try.prog 143 false := ⟨fun w => ag_of Try.underlying143 rfl w⟩
instance : Sz Try.prog 143 1 := ⟨Try.sizeOf143⟩
instance : Zr Try.prog 143 (Value.int IntKind.i32 0) := ⟨Try.zeroValue143⟩
instance : Und Try.prog 144 (TypeDesc.int IntKind.i32) := ⟨Try.underlying144⟩
instance : Ag Try.prog 144 false := ⟨fun w => ag_of Try.underlying144 rfl w⟩
instance : Sz Try.prog 144 1 := ⟨Try.sizeOf144⟩
instance : Zr Try.prog 144 (Value.int IntKind.i32 0) := ⟨Try.zeroValue144⟩
instance : Ag Try.prog 145 true := ⟨fun w => ag_of Try.underlying145 rfl w⟩
instance : Sz Try.prog 145 11 := ⟨Try.sizeOf145⟩
instance : Zr Try.prog 145 (Value.agg   #[Value.int IntKind.u64 0, Value.int IntKind.u64 0, Value.int IntKind.u32 0, Value.int IntKind.u8 0,     Value.int IntKind.u8 0, Value.int IntKind.u8 0, Value.int IntKind.u8 0, Value.nilFunc, Value.pointer none,     Value.int IntKind.i32 0, Value.int IntKind.i32 0]) := ⟨Try.zeroValue145⟩
instance : Fo Try.prog 145 0 0 := ⟨fun w b o => by simp [go_sem]⟩
instance : Fo Try.prog 145 1 1 := ⟨fun w b o => by simp [go_sem]⟩
instance : Fo Try.prog 145 2 2 := ⟨fun w b o => by simp [go_sem]⟩
instance : Fo Try.prog 145 3 3 := ⟨fun w b o => by simp [go_sem]⟩
instance : Fo Try.prog 145 4 4 := ⟨fun w b o => by simp [go_sem]⟩
instance : Fo Try.prog 145 5 5 := ⟨fun w b o => by simp [go_sem]⟩
instance : Fo Try.prog 145 6 6 := ⟨fun w b o => by simp [go_sem]⟩
instance : Fo Try.prog 145 7 7 := ⟨fun w b o => by simp [go_sem]⟩
instance : Fo Try.prog 145 8 8 := ⟨fun w b o => by simp [go_sem]⟩
instance : Fo Try.prog 145 9 9 := ⟨fun w b o => by simp [go_sem]⟩
instance : Fo Try.prog 145 10 10 := ⟨fun w b o => by simp [go_sem]⟩
instance : Bld Try.prog 145 [Value.int IntKind.u64 0, Value.int IntKind.u64 0, Value.int IntKind.u32 0, Value.int IntKind.u8 0, Value.int IntKind.u8 0, Value.int IntKind.u8 0, Value.int IntKind.u8 0, Value.nilFunc, Value.pointer none, Value.int IntKind.i32 0, Value.int IntKind.i32 0] [(0, 1), (1, 1), (2, 1), (3, 1), (4, 1), (5, 1), (6, 1), (7, 1), (8, 1), (9, 1), (10, 1)] := bld_struct Try.underlying145 Try.zeroValue145 fun w => by simp [go_sem]
instance : Ag Try.prog 146 true := ⟨fun w => ag_of Try.underlying146 rfl w⟩
instance : Sz Try.prog 146 11 := ⟨Try.sizeOf146⟩
instance : Zr Try.prog 146 (Value.agg   #[Value.int IntKind.u64 0, Value.int IntKind.u64 0, Value.int IntKind.u32 0, Value.int IntKind.u8 0,     Value.int IntKind.u8 0, Value.int IntKind.u8 0, Value.int IntKind.u8 0, Value.nilFunc, Value.pointer none,     Value.int IntKind.i32 0, Value.int IntKind.i32 0]) := ⟨Try.zeroValue146⟩
instance : Fo Try.prog 146 0 0 := ⟨fun w b o => by simp [go_sem]⟩
instance : Fo Try.prog 146 1 1 := ⟨fun w b o => by simp [go_sem]⟩
instance : Fo Try.prog 146 2 2 := ⟨fun w b o => by simp [go_sem]⟩
instance : Fo Try.prog 146 3 3 := ⟨fun w b o => by simp [go_sem]⟩
instance : Fo Try.prog 146 4 4 := ⟨fun w b o => by simp [go_sem]⟩
instance : Fo Try.prog 146 5 5 := ⟨fun w b o => by simp [go_sem]⟩
instance : Fo Try.prog 146 6 6 := ⟨fun w b o => by simp [go_sem]⟩
instance : Fo Try.prog 146 7 7 := ⟨fun w b o => by simp [go_sem]⟩
instance : Fo Try.prog 146 8 8 := ⟨fun w b o => by simp [go_sem]⟩
instance : Fo Try.prog 146 9 9 := ⟨fun w b o => by simp [go_sem]⟩
instance : Fo Try.prog 146 10 10 := ⟨fun w b o => by simp [go_sem]⟩
instance : Bld Try.prog 146 [Value.int IntKind.u64 0, Value.int IntKind.u64 0, Value.int IntKind.u32 0, Value.int IntKind.u8 0, Value.int IntKind.u8 0, Value.int IntKind.u8 0, Value.int IntKind.u8 0, Value.nilFunc, Value.pointer none, Value.int IntKind.i32 0, Value.int IntKind.i32 0] [(0, 1), (1, 1), (2, 1), (3, 1), (4, 1), (5, 1), (6, 1), (7, 1), (8, 1), (9, 1), (10, 1)] := bld_struct Try.underlying146 Try.zeroValue146 fun w => by simp [go_sem]
instance : Ag Try.prog 147 false := ⟨fun w => ag_of Try.underlying147 rfl w⟩
instance : Sz Try.prog 147 1 := ⟨Try.sizeOf147⟩
instance : Zr Try.prog 147 (Value.pointer none) := ⟨Try.zeroValue147⟩
instance : Fun_ Try.prog 2 := ⟨Try.call2⟩
instance : Fun_ Try.prog 3 := ⟨Try.call3⟩
instance : Fun_ Try.prog 4 := ⟨Try.call4⟩
instance : Fun_ Try.prog 5 := ⟨Try.call5⟩
instance : Fun_ Try.prog 6 := ⟨Try.call6⟩
instance : Fun_ Try.prog 7 := ⟨Try.call7⟩
instance : Fun_ Try.prog 8 := ⟨Try.call8⟩
instance : Fun_ Try.prog 9 := ⟨Try.call9⟩
instance : Fun_ Try.prog 10 := ⟨Try.call10⟩
instance : Fun_ Try.prog 11 := ⟨Try.call11⟩
instance : Fun_ Try.prog 12 := ⟨Try.call12⟩
instance : Fun_ Try.prog 13 := ⟨Try.call13⟩
instance : Fun_ Try.prog 14 := ⟨Try.call14⟩
instance : Fun_ Try.prog 15 := ⟨Try.call15⟩
instance : Fun_ Try.prog 16 := ⟨Try.call16⟩
instance : Fun_ Try.prog 17 := ⟨Try.call17⟩
instance : Fun_ Try.prog 18 := ⟨Try.call18⟩
instance : Fun_ Try.prog 19 := ⟨Try.call19⟩
instance : Fun_ Try.prog 20 := ⟨Try.call20⟩
instance : Fun_ Try.prog 21 := ⟨Try.call21⟩
instance : Fun_ Try.prog 22 := ⟨Try.call22⟩
instance : Fun_ Try.prog 23 := ⟨Try.call23⟩
instance : Fun_ Try.prog 24 := ⟨Try.call24⟩
instance : Fun_ Try.prog 25 := ⟨Try.call25⟩
instance : Fun_ Try.prog 26 := ⟨Try.call26⟩
instance : Fun_ Try.prog 27 := ⟨Try.call27⟩
instance : Fun_ Try.prog 28 := ⟨Try.call28⟩
instance : Fun_ Try.prog 29 := ⟨Try.call29⟩
instance : Fun_ Try.prog 30 := ⟨Try.call30⟩
instance : Fun_ Try.prog 31 := ⟨Try.call31⟩
instance : Fun_ Try.prog 32 := ⟨Try.call32⟩
instance : Fun_ Try.prog 33 := ⟨Try.call33⟩
instance : Fun_ Try.prog 34 := ⟨Try.call34⟩
instance : Fun_ Try.prog 35 := ⟨Try.call35⟩
instance : Fun_ Try.prog 36 := ⟨Try.call36⟩
instance : Fun_ Try.prog 37 := ⟨Try.call37⟩
instance : Fun_ Try.prog 38 := ⟨Try.call38⟩
instance : Fun_ Try.prog 39 := ⟨Try.call39⟩
instance : Fun_ Try.prog 40 := ⟨Try.call40⟩
instance : Fun_ Try.prog 41 := ⟨Try.call41⟩
instance : Fun_ Try.prog 42 := ⟨Try.call42⟩
instance : Fun_ Try.prog 43 := ⟨Try.call43⟩
instance : Fun_ Try.prog 44 := ⟨Try.call44⟩
instance : Fun_ Try.prog 45 := ⟨Try.call45⟩
instance : Fun_ Try.prog 46 := ⟨Try.call46⟩
instance : Fun_ Try.prog 47 := ⟨Try.call47⟩
instance : Fun_ Try.prog 48 := ⟨Try.call48⟩
instance : Fun_ Try.prog 49 := ⟨Try.call49⟩
instance : Fun_ Try.prog 50 := ⟨Try.call50⟩
instance : Fun_ Try.prog 51 := ⟨Try.call51⟩
instance : Fun_ Try.prog 52 := ⟨Try.call52⟩
instance : Fun_ Try.prog 53 := ⟨Try.call53⟩
instance : Fun_ Try.prog 54 := ⟨Try.call54⟩
instance : Fun_ Try.prog 55 := ⟨Try.call55⟩
instance : Fun_ Try.prog 56 := ⟨Try.call56⟩
instance : Fun_ Try.prog 57 := ⟨Try.call57⟩
instance : Fun_ Try.prog 58 := ⟨Try.call58⟩
instance : Fun_ Try.prog 59 := ⟨Try.call59⟩
instance : Fun_ Try.prog 60 := ⟨Try.call60⟩
instance : Fun_ Try.prog 61 := ⟨Try.call61⟩
instance : Fun_ Try.prog 62 := ⟨Try.call62⟩
instance : Fun_ Try.prog 63 := ⟨Try.call63⟩
instance : Fun_ Try.prog 64 := ⟨Try.call64⟩
instance : Fun_ Try.prog 65 := ⟨Try.call65⟩
instance : Fun_ Try.prog 66 := ⟨Try.call66⟩
instance : Fun_ Try.prog 67 := ⟨Try.call67⟩
instance : Fun_ Try.prog 68 := ⟨Try.call68⟩
instance : Fun_ Try.prog 69 := ⟨Try.call69⟩
instance : Fun_ Try.prog 70 := ⟨Try.call70⟩
instance : Fun_ Try.prog 71 := ⟨Try.call71⟩
instance : Fun_ Try.prog 72 := ⟨Try.call72⟩
instance : Fun_ Try.prog 73 := ⟨Try.call73⟩
instance : Fun_ Try.prog 74 := ⟨Try.call74⟩
instance : Fun_ Try.prog 75 := ⟨Try.call75⟩
instance : Fun_ Try.prog 76 := ⟨Try.call76⟩
instance : Fun_ Try.prog 77 := ⟨Try.call77⟩
instance : Fun_ Try.prog 78 := ⟨Try.call78⟩
instance : Fun_ Try.prog 79 := ⟨Try.call79⟩
instance : Fun_ Try.prog 80 := ⟨Try.call80⟩
instance : Fun_ Try.prog 81 := ⟨Try.call81⟩
instance : Fun_ Try.prog 82 := ⟨Try.call82⟩
end Go.Proofs.Ytojfaelafakemaa
