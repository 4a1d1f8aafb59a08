/- Texts joined: Facts. Each part's own remark says what it proves. -/
import Derived.Test.YtbgjelhefhcnpaaGreatRows
import Derived.Test.YtbgjelhefhcnpaaGreatM05
/- Facts on the types and functions of the program, by their numbers. No conditions. -/
namespace Go.Proofs.YtbgjelhefhcnpaaGreat
open Go Go.RowKit
instance : Ag Tryz.prog 0 false := ⟨fun w => ag_of Tryz.underlying0 rfl w⟩
instance : Sz Tryz.prog 0 1 := ⟨Tryz.sizeOf0⟩
instance : Zr Tryz.prog 0 (Value.tuple #[]) := ⟨Tryz.zeroValue0⟩
instance : Ag Tryz.prog 1 false := ⟨fun w => ag_of Tryz.underlying1 rfl w⟩
instance : Sz Tryz.prog 1 1 := ⟨Tryz.sizeOf1⟩
instance : Zr Tryz.prog 1 (Value.nilFunc) := ⟨Tryz.zeroValue1⟩
instance : Und Tryz.prog 2 (TypeDesc.int IntKind.i64) := ⟨Tryz.underlying2⟩
instance : ElT Tryz.prog 2 Int := ⟨trivial⟩
instance : Ag Tryz.prog 2 false := ⟨fun w => ag_of Tryz.underlying2 rfl w⟩
instance : Sz Tryz.prog 2 1 := ⟨Tryz.sizeOf2⟩
instance : Zr Tryz.prog 2 (Value.int IntKind.i64 0) := ⟨Tryz.zeroValue2⟩
instance : Und Tryz.prog 3 (TypeDesc.int IntKind.i64) := ⟨Tryz.underlying3⟩
instance : ElT Tryz.prog 3 Int := ⟨trivial⟩
instance : Ag Tryz.prog 3 false := ⟨fun w => ag_of Tryz.underlying3 rfl w⟩
instance : Sz Tryz.prog 3 1 := ⟨Tryz.sizeOf3⟩
instance : Zr Tryz.prog 3 (Value.int IntKind.i64 0) := ⟨Tryz.zeroValue3⟩
instance : Und Tryz.prog 4 (TypeDesc.bool) := ⟨Tryz.underlying4⟩
instance : ElT Tryz.prog 4 Bool := ⟨trivial⟩
instance : Ag Tryz.prog 4 false := ⟨fun w => ag_of Tryz.underlying4 rfl w⟩
instance : Sz Tryz.prog 4 1 := ⟨Tryz.sizeOf4⟩
instance : Zr Tryz.prog 4 (Value.bool false) := ⟨Tryz.zeroValue4⟩
instance : Und Tryz.prog 5 (TypeDesc.int IntKind.u8) := ⟨Tryz.underlying5⟩
instance : Ag Tryz.prog 5 false := ⟨fun w => ag_of Tryz.underlying5 rfl w⟩
instance : Sz Tryz.prog 5 1 := ⟨Tryz.sizeOf5⟩
instance : Zr Tryz.prog 5 (Value.int IntKind.u8 0) := ⟨Tryz.zeroValue5⟩
instance : Und Tryz.prog 6 (TypeDesc.int IntKind.u8) := ⟨Tryz.underlying6⟩
instance : Ag Tryz.prog 6 false := ⟨fun w => ag_of Tryz.underlying6 rfl w⟩
instance : Sz Tryz.prog 6 1 := ⟨Tryz.sizeOf6⟩
instance : Zr Tryz.prog 6 (Value.int IntKind.u8 0) := ⟨Tryz.zeroValue6⟩
instance : Ag Tryz.prog 7 true := ⟨fun w => ag_of Tryz.underlying7 rfl w⟩
instance : Sz Tryz.prog 7 4 := ⟨Tryz.sizeOf7⟩
instance : Zr Tryz.prog 7 (Value.agg #[Value.int IntKind.i64 0, Value.int IntKind.i64 0, Value.bool false, Value.int IntKind.u8 0]) := ⟨Tryz.zeroValue7⟩
instance : Fo Tryz.prog 7 0 0 := ⟨fun w b o => by simp [go_sem]⟩
instance : Fo Tryz.prog 7 1 1 := ⟨fun w b o => by simp [go_sem]⟩
instance : Fo Tryz.prog 7 2 2 := ⟨fun w b o => by simp [go_sem]⟩
instance : Fo Tryz.prog 7 3 3 := ⟨fun w b o => by simp [go_sem]⟩
instance : Bld Tryz.prog 7 [Value.int IntKind.i64 0, Value.int IntKind.i64 0, Value.bool false, Value.int IntKind.u8 0] [(0, 1), (1, 1), (2, 1), (3, 1)] := bld_struct Tryz.underlying7 Tryz.zeroValue7 fun w => by simp [go_sem]
instance (a0 b0 : Int) (a1 b1 : Int) (a2 b2 : Bool) (a3 b3 : Int) : Eq_ Tryz.prog 7 (.agg #[.int IntKind.i64 a0, .int IntKind.i64 a1, .bool a2, .int IntKind.u8 a3]) (.agg #[.int IntKind.i64 b0, .int IntKind.i64 b1, .bool b2, .int IntKind.u8 b3]) (a0 == b0 && a1 == b1 && a2 == b2 && a3 == b3) := ⟨fun w p q => by simp [go_sem], fun w => by simp [go_sem]; (repeat' split) <;> simp_all⟩
instance (a0 b0 : Int) (a1 b1 : Int) (a2 b2 : Bool) (a3 b3 : Int) : Neq_ Tryz.prog 7 (.agg #[.int IntKind.i64 a0, .int IntKind.i64 a1, .bool a2, .int IntKind.u8 a3]) (.agg #[.int IntKind.i64 b0, .int IntKind.i64 b1, .bool b2, .int IntKind.u8 b3]) (!(a0 == b0 && a1 == b1 && a2 == b2 && a3 == b3)) := ⟨fun w p q => by simp [go_sem], fun w => by simp [go_sem]; (repeat' split) <;> simp_all⟩
instance : Ag Tryz.prog 8 true := ⟨fun w => ag_of Tryz.underlying8 rfl w⟩
instance : Sz Tryz.prog 8 4 := ⟨Tryz.sizeOf8⟩
instance : Zr Tryz.prog 8 (Value.agg #[Value.int IntKind.i64 0, Value.int IntKind.i64 0, Value.bool false, Value.int IntKind.u8 0]) := ⟨Tryz.zeroValue8⟩
instance : Fo Tryz.prog 8 0 0 := ⟨fun w b o => by simp [go_sem]⟩
instance : Fo Tryz.prog 8 1 1 := ⟨fun w b o => by simp [go_sem]⟩
instance : Fo Tryz.prog 8 2 2 := ⟨fun w b o => by simp [go_sem]⟩
instance : Fo Tryz.prog 8 3 3 := ⟨fun w b o => by simp [go_sem]⟩
instance : Bld Tryz.prog 8 [Value.int IntKind.i64 0, Value.int IntKind.i64 0, Value.bool false, Value.int IntKind.u8 0] [(0, 1), (1, 1), (2, 1), (3, 1)] := bld_struct Tryz.underlying8 Tryz.zeroValue8 fun w => by simp [go_sem]
instance (a0 b0 : Int) (a1 b1 : Int) (a2 b2 : Bool) (a3 b3 : Int) : Eq_ Tryz.prog 8 (.agg #[.int IntKind.i64 a0, .int IntKind.i64 a1, .bool a2, .int IntKind.u8 a3]) (.agg #[.int IntKind.i64 b0, .int IntKind.i64 b1, .bool b2, .int IntKind.u8 b3]) (a0 == b0 && a1 == b1 && a2 == b2 && a3 == b3) := ⟨fun w p q => by simp [go_sem], fun w => by simp [go_sem]; (repeat' split) <;> simp_all⟩
instance (a0 b0 : Int) (a1 b1 : Int) (a2 b2 : Bool) (a3 b3 : Int) : Neq_ Tryz.prog 8 (.agg #[.int IntKind.i64 a0, .int IntKind.i64 a1, .bool a2, .int IntKind.u8 a3]) (.agg #[.int IntKind.i64 b0, .int IntKind.i64 b1, .bool b2, .int IntKind.u8 b3]) (!(a0 == b0 && a1 == b1 && a2 == b2 && a3 == b3)) := ⟨fun w p q => by simp [go_sem], fun w => by simp [go_sem]; (repeat' split) <;> simp_all⟩
instance : Ag Tryz.prog 9 false := ⟨fun w => ag_of Tryz.underlying9 rfl w⟩
instance : Sz Tryz.prog 9 1 := ⟨Tryz.sizeOf9⟩
instance : Zr Tryz.prog 9 (Value.string { data := #[] }) := ⟨Tryz.zeroValue9⟩
instance : Ag Tryz.prog 10 false := ⟨fun w => ag_of Tryz.underlying10 rfl w⟩
instance : Sz Tryz.prog 10 1 := ⟨Tryz.sizeOf10⟩
instance : Zr Tryz.prog 10 (Value.string { data := #[] }) := ⟨Tryz.zeroValue10⟩
instance : Ag Tryz.prog 11 false := ⟨fun w => ag_of Tryz.underlying11 rfl w⟩
instance : Sz Tryz.prog 11 1 := ⟨Tryz.sizeOf11⟩
instance : Zr Tryz.prog 11 (Value.string { data := #[] }) := ⟨Tryz.zeroValue11⟩
instance : Und Tryz.prog 12 (TypeDesc.int IntKind.u64) := ⟨Tryz.underlying12⟩
instance : Ag Tryz.prog 12 false := ⟨fun w => ag_of Tryz.underlying12 rfl w⟩
instance : Sz Tryz.prog 12 1 := ⟨Tryz.sizeOf12⟩
instance : Zr Tryz.prog 12 (Value.int IntKind.u64 0) := ⟨Tryz.zeroValue12⟩
instance : Ag Tryz.prog 13 true := ⟨fun w => ag_of Tryz.underlying13 rfl w⟩
instance : Sz Tryz.prog 13 2 := ⟨Tryz.sizeOf13⟩
instance : Zr Tryz.prog 13 (Value.agg #[Value.string { data := #[] }, Value.int IntKind.u64 0]) := ⟨Tryz.zeroValue13⟩
instance : Fo Tryz.prog 13 0 0 := ⟨fun w b o => by simp [go_sem]⟩
instance : Fo Tryz.prog 13 1 1 := ⟨fun w b o => by simp [go_sem]⟩
instance : Bld Tryz.prog 13 [Value.string { data := #[] }, Value.int IntKind.u64 0] [(0, 1), (1, 1)] := bld_struct Tryz.underlying13 Tryz.zeroValue13 fun w => by simp [go_sem]
instance : Ag Tryz.prog 14 true := ⟨fun w => ag_of Tryz.underlying14 rfl w⟩
instance : Sz Tryz.prog 14 2 := ⟨Tryz.sizeOf14⟩
instance : Zr Tryz.prog 14 (Value.agg #[Value.string { data := #[] }, Value.int IntKind.u64 0]) := ⟨Tryz.zeroValue14⟩
instance : Fo Tryz.prog 14 0 0 := ⟨fun w b o => by simp [go_sem]⟩
instance : Fo Tryz.prog 14 1 1 := ⟨fun w b o => by simp [go_sem]⟩
instance : Bld Tryz.prog 14 [Value.string { data := #[] }, Value.int IntKind.u64 0] [(0, 1), (1, 1)] := bld_struct Tryz.underlying14 Tryz.zeroValue14 fun w => by simp [go_sem]
instance : Und Tryz.prog 15 (TypeDesc.pointer 186) := ⟨Tryz.underlying15⟩
instance : Ag Tryz.prog 15 false := ⟨fun w => ag_of Tryz.underlying15 rfl w⟩
instance : Sz Tryz.prog 15 1 := ⟨Tryz.sizeOf15⟩
instance : Zr Tryz.prog 15 (Value.pointer none) := ⟨Tryz.zeroValue15⟩
instance : Und Tryz.prog 16 (TypeDesc.pointer 189) := ⟨Tryz.underlying16⟩
instance : Ag Tryz.prog 16 false := ⟨fun w => ag_of Tryz.underlying16 rfl w⟩
instance : Sz Tryz.prog 16 1 := ⟨Tryz.sizeOf16⟩
instance : Zr Tryz.prog 16 (Value.pointer none) := ⟨Tryz.zeroValue16⟩
instance : Und Tryz.prog 17 (TypeDesc.pointer 197) := ⟨Tryz.underlying17⟩
instance : Ag Tryz.prog 17 false := ⟨fun w => ag_of Tryz.underlying17 rfl w⟩
instance : Sz Tryz.prog 17 1 := ⟨Tryz.sizeOf17⟩
instance : Zr Tryz.prog 17 (Value.pointer none) := ⟨Tryz.zeroValue17⟩
instance : Ag Tryz.prog 18 true := ⟨fun w => ag_of Tryz.underlying18 rfl w⟩
instance : Sz Tryz.prog 18 1 := ⟨Tryz.sizeOf18⟩
instance : Zr Tryz.prog 18 (Value.agg #[Value.pointer none]) := ⟨Tryz.zeroValue18⟩
instance : Fo Tryz.prog 18 0 0 := ⟨fun w b o => by simp [go_sem]⟩
instance : Bld Tryz.prog 18 [Value.pointer none] [(0, 1)] := bld_struct Tryz.underlying18 Tryz.zeroValue18 fun w => by simp [go_sem]
instance : Ag Tryz.prog 19 true := ⟨fun w => ag_of Tryz.underlying19 rfl w⟩
instance : Sz Tryz.prog 19 1 := ⟨Tryz.sizeOf19⟩
instance : Zr Tryz.prog 19 (Value.agg #[Value.pointer none]) := ⟨Tryz.zeroValue19⟩
instance : Fo Tryz.prog 19 0 0 := ⟨fun w b o => by simp [go_sem]⟩
instance : Bld Tryz.prog 19 [Value.pointer none] [(0, 1)] := bld_struct Tryz.underlying19 Tryz.zeroValue19 fun w => by simp [go_sem]
instance : Ag Tryz.prog 20 false := ⟨fun w => ag_of Tryz.underlying20 rfl w⟩
instance : Sz Tryz.prog 20 1 := ⟨Tryz.sizeOf20⟩
instance : Zr Tryz.prog 20 (Value.nilIface) := ⟨Tryz.zeroValue20⟩
instance : Und Tryz.prog 21 (TypeDesc.int IntKind.i32) := ⟨Tryz.underlying21⟩
instance : Ag Tryz.prog 21 false := ⟨fun w => ag_of Tryz.underlying21 rfl w⟩
instance : Sz Tryz.prog 21 1 := ⟨Tryz.sizeOf21⟩
instance : Zr Tryz.prog 21 (Value.int IntKind.i32 0) := ⟨Tryz.zeroValue21⟩
instance : Und Tryz.prog 22 (TypeDesc.slice 29) := ⟨Tryz.underlying22⟩
instance : SlTy Tryz.prog 22 29 3 (Value.agg #[Value.int IntKind.u8 0, Value.int IntKind.u16 0, Value.int IntKind.u8 0]) := ⟨Tryz.underlying22, by kernel_rfl, rfl⟩
instance : Ag Tryz.prog 22 false := ⟨fun w => ag_of Tryz.underlying22 rfl w⟩
instance : Sz Tryz.prog 22 1 := ⟨Tryz.sizeOf22⟩
instance : Zr Tryz.prog 22 (Value.slice none 0 0) := ⟨Tryz.zeroValue22⟩
instance : Ag Tryz.prog 23 false := ⟨fun w => ag_of Tryz.underlying23 rfl w⟩
instance : Sz Tryz.prog 23 1 := ⟨Tryz.sizeOf23⟩
instance : Zr Tryz.prog 23 (Value.nilFunc) := ⟨Tryz.zeroValue23⟩
instance : Und Tryz.prog 24 (TypeDesc.pointer 44) := ⟨Tryz.underlying24⟩
instance : Ag Tryz.prog 24 false := ⟨fun w => ag_of Tryz.underlying24 rfl w⟩
instance : Sz Tryz.prog 24 1 := ⟨Tryz.sizeOf24⟩
instance : Zr Tryz.prog 24 (Value.pointer none) := ⟨Tryz.zeroValue24⟩
instance : Ag Tryz.prog 25 false := ⟨fun w => ag_of Tryz.underlying25 rfl w⟩
instance : Sz Tryz.prog 25 1 := ⟨Tryz.sizeOf25⟩
instance : Zr Tryz.prog 25 (Value.tuple #[Value.pointer none, Value.bool false]) := ⟨Tryz.zeroValue25⟩
instance : Ag Tryz.prog 26 false := ⟨fun w => ag_of Tryz.underlying26 rfl w⟩
instance : Sz Tryz.prog 26 1 := ⟨Tryz.sizeOf26⟩
instance : Zr Tryz.prog 26 (Value.nilFunc) := ⟨Tryz.zeroValue26⟩
instance : Und Tryz.prog 27 (TypeDesc.int IntKind.u16) := ⟨Tryz.underlying27⟩
instance : Ag Tryz.prog 27 false := ⟨fun w => ag_of Tryz.underlying27 rfl w⟩
instance : Sz Tryz.prog 27 1 := ⟨Tryz.sizeOf27⟩
instance : Zr Tryz.prog 27 (Value.int IntKind.u16 0) := ⟨Tryz.zeroValue27⟩
instance : Ag Tryz.prog 28 true := ⟨fun w => ag_of Tryz.underlying28 rfl w⟩
instance : Sz Tryz.prog 28 3 := ⟨Tryz.sizeOf28⟩
instance : Zr Tryz.prog 28 (Value.agg #[Value.int IntKind.u8 0, Value.int IntKind.u16 0, Value.int IntKind.u8 0]) := ⟨Tryz.zeroValue28⟩
instance : Fo Tryz.prog 28 0 0 := ⟨fun w b o => by simp [go_sem]⟩
instance : Fo Tryz.prog 28 1 1 := ⟨fun w b o => by simp [go_sem]⟩
instance : Fo Tryz.prog 28 2 2 := ⟨fun w b o => by simp [go_sem]⟩
instance : Bld Tryz.prog 28 [Value.int IntKind.u8 0, Value.int IntKind.u16 0, Value.int IntKind.u8 0] [(0, 1), (1, 1), (2, 1)] := bld_struct Tryz.underlying28 Tryz.zeroValue28 fun w => by simp [go_sem]
instance (a0 b0 : Int) (a1 b1 : Int) (a2 b2 : Int) : Eq_ Tryz.prog 28 (.agg #[.int IntKind.u8 a0, .int IntKind.u16 a1, .int IntKind.u8 a2]) (.agg #[.int IntKind.u8 b0, .int IntKind.u16 b1, .int IntKind.u8 b2]) (a0 == b0 && a1 == b1 && a2 == b2) := ⟨fun w p q => by simp [go_sem], fun w => by simp [go_sem]; (repeat' split) <;> simp_all⟩
instance (a0 b0 : Int) (a1 b1 : Int) (a2 b2 : Int) : Neq_ Tryz.prog 28 (.agg #[.int IntKind.u8 a0, .int IntKind.u16 a1, .int IntKind.u8 a2]) (.agg #[.int IntKind.u8 b0, .int IntKind.u16 b1, .int IntKind.u8 b2]) (!(a0 == b0 && a1 == b1 && a2 == b2)) := ⟨fun w p q => by simp [go_sem], fun w => by simp [go_sem]; (repeat' split) <;> simp_all⟩
instance : Ag Tryz.prog 29 true := ⟨fun w => ag_of Tryz.underlying29 rfl w⟩
instance : Sz Tryz.prog 29 3 := ⟨Tryz.sizeOf29⟩
instance : Zr Tryz.prog 29 (Value.agg #[Value.int IntKind.u8 0, Value.int IntKind.u16 0, Value.int IntKind.u8 0]) := ⟨Tryz.zeroValue29⟩
instance : Fo Tryz.prog 29 0 0 := ⟨fun w b o => by simp [go_sem]⟩
instance : Fo Tryz.prog 29 1 1 := ⟨fun w b o => by simp [go_sem]⟩
instance : Fo Tryz.prog 29 2 2 := ⟨fun w b o => by simp [go_sem]⟩
instance : Bld Tryz.prog 29 [Value.int IntKind.u8 0, Value.int IntKind.u16 0, Value.int IntKind.u8 0] [(0, 1), (1, 1), (2, 1)] := bld_struct Tryz.underlying29 Tryz.zeroValue29 fun w => by simp [go_sem]
instance (a0 b0 : Int) (a1 b1 : Int) (a2 b2 : Int) : Eq_ Tryz.prog 29 (.agg #[.int IntKind.u8 a0, .int IntKind.u16 a1, .int IntKind.u8 a2]) (.agg #[.int IntKind.u8 b0, .int IntKind.u16 b1, .int IntKind.u8 b2]) (a0 == b0 && a1 == b1 && a2 == b2) := ⟨fun w p q => by simp [go_sem], fun w => by simp [go_sem]; (repeat' split) <;> simp_all⟩
instance (a0 b0 : Int) (a1 b1 : Int) (a2 b2 : Int) : Neq_ Tryz.prog 29 (.agg #[.int IntKind.u8 a0, .int IntKind.u16 a1, .int IntKind.u8 a2]) (.agg #[.int IntKind.u8 b0, .int IntKind.u16 b1, .int IntKind.u8 b2]) (!(a0 == b0 && a1 == b1 && a2 == b2)) := ⟨fun w p q => by simp [go_sem], fun w => by simp [go_sem]; (repeat' split) <;> simp_all⟩
instance : Ag Tryz.prog 30 false := ⟨fun w => ag_of Tryz.underlying30 rfl w⟩
instance : Sz Tryz.prog 30 1 := ⟨Tryz.sizeOf30⟩
instance : Zr Tryz.prog 30 (Value.nilFunc) := ⟨Tryz.zeroValue30⟩
instance : Und Tryz.prog 31 (TypeDesc.slice 118) := ⟨Tryz.underlying31⟩
instance : SlTy Tryz.prog 31 118 3 (Value.agg #[Value.int IntKind.i64 0, Value.int IntKind.i64 0, Value.int IntKind.u64 0]) := ⟨Tryz.underlying31, by kernel_rfl, rfl⟩
instance : Ag Tryz.prog 31 false := ⟨fun w => ag_of Tryz.underlying31 rfl w⟩
instance : Sz Tryz.prog 31 1 := ⟨Tryz.sizeOf31⟩
instance : Zr Tryz.prog 31 (Value.slice none 0 0) := ⟨Tryz.zeroValue31⟩
instance : Ag Tryz.prog 32 true := ⟨fun w => ag_of Tryz.underlying32 rfl w⟩
instance : Sz Tryz.prog 32 2 := ⟨Tryz.sizeOf32⟩
instance : Zr Tryz.prog 32 (Value.agg #[Value.int IntKind.i64 0, Value.slice none 0 0]) := ⟨Tryz.zeroValue32⟩
instance : Fo Tryz.prog 32 0 0 := ⟨fun w b o => by simp [go_sem]⟩
instance : Fo Tryz.prog 32 1 1 := ⟨fun w b o => by simp [go_sem]⟩
instance : Bld Tryz.prog 32 [Value.int IntKind.i64 0, Value.slice none 0 0] [(0, 1), (1, 1)] := bld_struct Tryz.underlying32 Tryz.zeroValue32 fun w => by simp [go_sem]
instance : Ag Tryz.prog 33 true := ⟨fun w => ag_of Tryz.underlying33 rfl w⟩
instance : Sz Tryz.prog 33 2 := ⟨Tryz.sizeOf33⟩
instance : Zr Tryz.prog 33 (Value.agg #[Value.int IntKind.i64 0, Value.slice none 0 0]) := ⟨Tryz.zeroValue33⟩
instance : Fo Tryz.prog 33 0 0 := ⟨fun w b o => by simp [go_sem]⟩
instance : Fo Tryz.prog 33 1 1 := ⟨fun w b o => by simp [go_sem]⟩
instance : Bld Tryz.prog 33 [Value.int IntKind.i64 0, Value.slice none 0 0] [(0, 1), (1, 1)] := bld_struct Tryz.underlying33 Tryz.zeroValue33 fun w => by simp [go_sem]
instance : Ag Tryz.prog 34 false := ⟨fun w => ag_of Tryz.underlying34 rfl w⟩
instance : Sz Tryz.prog 34 1 := ⟨Tryz.sizeOf34⟩
instance : Zr Tryz.prog 34 (Value.tuple #[Value.agg #[Value.int IntKind.i64 0, Value.slice none 0 0], Value.int IntKind.i64 0]) := ⟨Tryz.zeroValue34⟩
instance : Ag Tryz.prog 35 false := ⟨fun w => ag_of Tryz.underlying35 rfl w⟩
instance : Sz Tryz.prog 35 1 := ⟨Tryz.sizeOf35⟩
instance : Zr Tryz.prog 35 (Value.nilFunc) := ⟨Tryz.zeroValue35⟩
instance : Und Tryz.prog 36 (TypeDesc.slice 89) := ⟨Tryz.underlying36⟩
instance : SlTy Tryz.prog 36 89 9 (Value.agg   #[Value.int IntKind.i64 0, Value.int IntKind.u64 0, Value.int IntKind.u64 0, Value.int IntKind.u64 0,     Value.int IntKind.u64 0, Value.int IntKind.u64 0, Value.int IntKind.u64 0, Value.int IntKind.u64 0,     Value.int IntKind.u64 0]) := ⟨Tryz.underlying36, by kernel_rfl, rfl⟩
instance : Ag Tryz.prog 36 false := ⟨fun w => ag_of Tryz.underlying36 rfl w⟩
instance : Sz Tryz.prog 36 1 := ⟨Tryz.sizeOf36⟩
instance : Zr Tryz.prog 36 (Value.slice none 0 0) := ⟨Tryz.zeroValue36⟩
instance : Und Tryz.prog 37 (TypeDesc.slice 116) := ⟨Tryz.underlying37⟩
instance : SlTy Tryz.prog 37 116 2 (Value.agg #[Value.int IntKind.i64 0, Value.int IntKind.i64 0]) := ⟨Tryz.underlying37, by kernel_rfl, rfl⟩
instance : Ag Tryz.prog 37 false := ⟨fun w => ag_of Tryz.underlying37 rfl w⟩
instance : Sz Tryz.prog 37 1 := ⟨Tryz.sizeOf37⟩
instance : Zr Tryz.prog 37 (Value.slice none 0 0) := ⟨Tryz.zeroValue37⟩
instance : Ag Tryz.prog 38 true := ⟨fun w => ag_of Tryz.underlying38 rfl w⟩
instance : Sz Tryz.prog 38 3 := ⟨Tryz.sizeOf38⟩
instance : Zr Tryz.prog 38 (Value.agg #[Value.int IntKind.i64 0, Value.slice none 0 0, Value.slice none 0 0]) := ⟨Tryz.zeroValue38⟩
instance : Fo Tryz.prog 38 0 0 := ⟨fun w b o => by simp [go_sem]⟩
instance : Fo Tryz.prog 38 1 1 := ⟨fun w b o => by simp [go_sem]⟩
instance : Fo Tryz.prog 38 2 2 := ⟨fun w b o => by simp [go_sem]⟩
instance : Bld Tryz.prog 38 [Value.int IntKind.i64 0, Value.slice none 0 0, Value.slice none 0 0] [(0, 1), (1, 1), (2, 1)] := bld_struct Tryz.underlying38 Tryz.zeroValue38 fun w => by simp [go_sem]
instance : Ag Tryz.prog 39 true := ⟨fun w => ag_of Tryz.underlying39 rfl w⟩
instance : Sz Tryz.prog 39 3 := ⟨Tryz.sizeOf39⟩
instance : Zr Tryz.prog 39 (Value.agg #[Value.int IntKind.i64 0, Value.slice none 0 0, Value.slice none 0 0]) := ⟨Tryz.zeroValue39⟩
instance : Fo Tryz.prog 39 0 0 := ⟨fun w b o => by simp [go_sem]⟩
instance : Fo Tryz.prog 39 1 1 := ⟨fun w b o => by simp [go_sem]⟩
instance : Fo Tryz.prog 39 2 2 := ⟨fun w b o => by simp [go_sem]⟩
instance : Bld Tryz.prog 39 [Value.int IntKind.i64 0, Value.slice none 0 0, Value.slice none 0 0] [(0, 1), (1, 1), (2, 1)] := bld_struct Tryz.underlying39 Tryz.zeroValue39 fun w => by simp [go_sem]
instance : Und Tryz.prog 40 (TypeDesc.array 2 33) := ⟨Tryz.underlying40⟩
instance : Ag Tryz.prog 40 true := ⟨fun w => ag_of Tryz.underlying40 rfl w⟩
instance : Sz Tryz.prog 40 4 := ⟨Tryz.sizeOf40⟩
instance : Zr Tryz.prog 40 (Value.agg #[Value.int IntKind.i64 0, Value.slice none 0 0, Value.int IntKind.i64 0, Value.slice none 0 0]) := ⟨Tryz.zeroValue40⟩
instance : Und Tryz.prog 41 (TypeDesc.array 512 3) := ⟨Tryz.underlying41⟩
instance : Ag Tryz.prog 41 true := ⟨fun w => ag_of Tryz.underlying41 rfl w⟩
instance : Sz Tryz.prog 41 512 := ⟨Tryz.sizeOf41⟩
instance : Zr Tryz.prog 41 (Value.agg Proofs.Tryz.zeroCells41) := ⟨Tryz.zeroValue41⟩
instance : Und Tryz.prog 42 (TypeDesc.array 512 4) := ⟨Tryz.underlying42⟩
instance : Ag Tryz.prog 42 true := ⟨fun w => ag_of Tryz.underlying42 rfl w⟩
instance : Sz Tryz.prog 42 512 := ⟨Tryz.sizeOf42⟩
instance : Zr Tryz.prog 42 (Value.agg Proofs.Tryz.zeroCells42) := ⟨Tryz.zeroValue42⟩
instance : Ag Tryz.prog 43 true := ⟨fun w => ag_of Tryz.underlying43 rfl w⟩
instance : Sz Tryz.prog 43 1032 := ⟨Tryz.sizeOf43⟩
instance : Zr Tryz.prog 43 (Value.agg Proofs.Tryz.zeroCells43) := ⟨Tryz.zeroValue43⟩
instance : Fo Tryz.prog 43 0 0 := ⟨fun w b o => by simp [go_sem]⟩
instance : Fo Tryz.prog 43 1 3 := ⟨fun w b o => by simp [go_sem]⟩
instance : Fo Tryz.prog 43 2 7 := ⟨fun w b o => by simp [go_sem]⟩
instance : Fo Tryz.prog 43 3 519 := ⟨fun w b o => by simp [go_sem]⟩
instance : Fo Tryz.prog 43 4 1031 := ⟨fun w b o => by simp [go_sem]⟩
instance : Ag Tryz.prog 44 true := ⟨fun w => ag_of Tryz.underlying44 rfl w⟩
instance : Sz Tryz.prog 44 1032 := ⟨Tryz.sizeOf44⟩
instance : Zr Tryz.prog 44 (Value.agg Proofs.Tryz.zeroCells44) := ⟨Tryz.zeroValue44⟩
instance : Fo Tryz.prog 44 0 0 := ⟨fun w b o => by simp [go_sem]⟩
instance : Fo Tryz.prog 44 1 3 := ⟨fun w b o => by simp [go_sem]⟩
instance : Fo Tryz.prog 44 2 7 := ⟨fun w b o => by simp [go_sem]⟩
instance : Fo Tryz.prog 44 3 519 := ⟨fun w b o => by simp [go_sem]⟩
instance : Fo Tryz.prog 44 4 1031 := ⟨fun w b o => by simp [go_sem]⟩
instance : Und Tryz.prog 45 (TypeDesc.slice 33) := ⟨Tryz.underlying45⟩
instance : SlTy Tryz.prog 45 33 2 (Value.agg #[Value.int IntKind.i64 0, Value.slice none 0 0]) := ⟨Tryz.underlying45, by kernel_rfl, rfl⟩
instance : Ag Tryz.prog 45 false := ⟨fun w => ag_of Tryz.underlying45 rfl w⟩
instance : Sz Tryz.prog 45 1 := ⟨Tryz.sizeOf45⟩
instance : Zr Tryz.prog 45 (Value.slice none 0 0) := ⟨Tryz.zeroValue45⟩
instance : Ag Tryz.prog 46 false := ⟨fun w => ag_of Tryz.underlying46 rfl w⟩
instance : Sz Tryz.prog 46 1 := ⟨Tryz.sizeOf46⟩
instance : Zr Tryz.prog 46 (Value.tuple   #[Value.agg #[Value.int IntKind.i64 0, Value.slice none 0 0, Value.slice none 0 0],     Value.agg #[Value.int IntKind.i64 0, Value.slice none 0 0], Value.int IntKind.i64 0, Value.int IntKind.i64 0]) := ⟨Tryz.zeroValue46⟩
instance : Ag Tryz.prog 47 false := ⟨fun w => ag_of Tryz.underlying47 rfl w⟩
instance : Sz Tryz.prog 47 1 := ⟨Tryz.sizeOf47⟩
instance : Zr Tryz.prog 47 (Value.nilFunc) := ⟨Tryz.zeroValue47⟩
instance : Ag Tryz.prog 48 false := ⟨fun w => ag_of Tryz.underlying48 rfl w⟩
instance : Sz Tryz.prog 48 1 := ⟨Tryz.sizeOf48⟩
instance : Zr Tryz.prog 48 (Value.nilFunc) := ⟨Tryz.zeroValue48⟩
instance : Ag Tryz.prog 49 false := ⟨fun w => ag_of Tryz.underlying49 rfl w⟩
instance : Sz Tryz.prog 49 1 := ⟨Tryz.sizeOf49⟩
instance : Zr Tryz.prog 49 (Value.nilFunc) := ⟨Tryz.zeroValue49⟩
instance : Ag Tryz.prog 50 false := ⟨fun w => ag_of Tryz.underlying50 rfl w⟩
instance : Sz Tryz.prog 50 1 := ⟨Tryz.sizeOf50⟩
instance : Zr Tryz.prog 50 (Value.nilFunc) := ⟨Tryz.zeroValue50⟩
instance : Ag Tryz.prog 51 false := ⟨fun w => ag_of Tryz.underlying51 rfl w⟩
instance : Sz Tryz.prog 51 1 := ⟨Tryz.sizeOf51⟩
instance : Zr Tryz.prog 51 (Value.tuple #[Value.agg #[Value.int IntKind.i64 0, Value.slice none 0 0, Value.slice none 0 0], Value.int IntKind.i64 0]) := ⟨Tryz.zeroValue51⟩
instance : Ag Tryz.prog 52 false := ⟨fun w => ag_of Tryz.underlying52 rfl w⟩
instance : Sz Tryz.prog 52 1 := ⟨Tryz.sizeOf52⟩
instance : Zr Tryz.prog 52 (Value.nilFunc) := ⟨Tryz.zeroValue52⟩
instance : Ag Tryz.prog 53 false := ⟨fun w => ag_of Tryz.underlying53 rfl w⟩
instance : Sz Tryz.prog 53 1 := ⟨Tryz.sizeOf53⟩
instance : Zr Tryz.prog 53 (Value.nilFunc) := ⟨Tryz.zeroValue53⟩
instance : Ag Tryz.prog 54 false := ⟨fun w => ag_of Tryz.underlying54 rfl w⟩
instance : Sz Tryz.prog 54 1 := ⟨Tryz.sizeOf54⟩
instance : Zr Tryz.prog 54 (Value.nilFunc) := ⟨Tryz.zeroValue54⟩
instance : Ag Tryz.prog 55 false := ⟨fun w => ag_of Tryz.underlying55 rfl w⟩
instance : Sz Tryz.prog 55 1 := ⟨Tryz.sizeOf55⟩
instance : Zr Tryz.prog 55 (Value.nilFunc) := ⟨Tryz.zeroValue55⟩
instance : Ag Tryz.prog 56 false := ⟨fun w => ag_of Tryz.underlying56 rfl w⟩
instance : Sz Tryz.prog 56 1 := ⟨Tryz.sizeOf56⟩
instance : Zr Tryz.prog 56 (Value.nilFunc) := ⟨Tryz.zeroValue56⟩
instance : Ag Tryz.prog 57 false := ⟨fun w => ag_of Tryz.underlying57 rfl w⟩
instance : Sz Tryz.prog 57 1 := ⟨Tryz.sizeOf57⟩
instance : Zr Tryz.prog 57 (Value.nilFunc) := ⟨Tryz.zeroValue57⟩
instance : Und Tryz.prog 58 (TypeDesc.int IntKind.u64) := ⟨Tryz.underlying58⟩
instance : Ag Tryz.prog 58 false := ⟨fun w => ag_of Tryz.underlying58 rfl w⟩
instance : Sz Tryz.prog 58 1 := ⟨Tryz.sizeOf58⟩
instance : Zr Tryz.prog 58 (Value.int IntKind.u64 0) := ⟨Tryz.zeroValue58⟩
instance : Ag Tryz.prog 59 false := ⟨fun w => ag_of Tryz.underlying59 rfl w⟩
instance : Sz Tryz.prog 59 1 := ⟨Tryz.sizeOf59⟩
instance : Zr Tryz.prog 59 (Value.tuple #[Value.int IntKind.u64 0, Value.bool false]) := ⟨Tryz.zeroValue59⟩
instance : Ag Tryz.prog 60 false := ⟨fun w => ag_of Tryz.underlying60 rfl w⟩
instance : Sz Tryz.prog 60 1 := ⟨Tryz.sizeOf60⟩
instance : Zr Tryz.prog 60 (Value.nilFunc) := ⟨Tryz.zeroValue60⟩
instance : Ag Tryz.prog 61 true := ⟨fun w => ag_of Tryz.underlying61 rfl w⟩
instance : Sz Tryz.prog 61 6 := ⟨Tryz.sizeOf61⟩
instance : Zr Tryz.prog 61 (Value.agg   #[Value.int IntKind.i64 0, Value.int IntKind.i64 0, Value.bool false, Value.bool false, Value.bool false,     Value.bool false]) := ⟨Tryz.zeroValue61⟩
instance : Fo Tryz.prog 61 0 0 := ⟨fun w b o => by simp [go_sem]⟩
instance : Fo Tryz.prog 61 1 1 := ⟨fun w b o => by simp [go_sem]⟩
instance : Fo Tryz.prog 61 2 2 := ⟨fun w b o => by simp [go_sem]⟩
instance : Fo Tryz.prog 61 3 3 := ⟨fun w b o => by simp [go_sem]⟩
instance : Fo Tryz.prog 61 4 4 := ⟨fun w b o => by simp [go_sem]⟩
instance : Fo Tryz.prog 61 5 5 := ⟨fun w b o => by simp [go_sem]⟩
instance : Bld Tryz.prog 61 [Value.int IntKind.i64 0, Value.int IntKind.i64 0, Value.bool false, Value.bool false, Value.bool false, Value.bool false] [(0, 1), (1, 1), (2, 1), (3, 1), (4, 1), (5, 1)] := bld_struct Tryz.underlying61 Tryz.zeroValue61 fun w => by simp [go_sem]
instance (a0 b0 : Int) (a1 b1 : Int) (a2 b2 : Bool) (a3 b3 : Bool) (a4 b4 : Bool) (a5 b5 : Bool) : Eq_ Tryz.prog 61 (.agg #[.int IntKind.i64 a0, .int IntKind.i64 a1, .bool a2, .bool a3, .bool a4, .bool a5]) (.agg #[.int IntKind.i64 b0, .int IntKind.i64 b1, .bool b2, .bool b3, .bool b4, .bool b5]) (a0 == b0 && a1 == b1 && a2 == b2 && a3 == b3 && a4 == b4 && a5 == b5) := ⟨fun w p q => by simp [go_sem], fun w => by simp [go_sem]; (repeat' split) <;> simp_all⟩
instance (a0 b0 : Int) (a1 b1 : Int) (a2 b2 : Bool) (a3 b3 : Bool) (a4 b4 : Bool) (a5 b5 : Bool) : Neq_ Tryz.prog 61 (.agg #[.int IntKind.i64 a0, .int IntKind.i64 a1, .bool a2, .bool a3, .bool a4, .bool a5]) (.agg #[.int IntKind.i64 b0, .int IntKind.i64 b1, .bool b2, .bool b3, .bool b4, .bool b5]) (!(a0 == b0 && a1 == b1 && a2 == b2 && a3 == b3 && a4 == b4 && a5 == b5)) := ⟨fun w p q => by simp [go_sem], fun w => by simp [go_sem]; (repeat' split) <;> simp_all⟩
instance : Ag Tryz.prog 62 true := ⟨fun w => ag_of Tryz.underlying62 rfl w⟩
instance : Sz Tryz.prog 62 6 := ⟨Tryz.sizeOf62⟩
instance : Zr Tryz.prog 62 (Value.agg   #[Value.int IntKind.i64 0, Value.int IntKind.i64 0, Value.bool false, Value.bool false, Value.bool false,     Value.bool false]) := ⟨Tryz.zeroValue62⟩
instance : Fo Tryz.prog 62 0 0 := ⟨fun w b o => by simp [go_sem]⟩
instance : Fo Tryz.prog 62 1 1 := ⟨fun w b o => by simp [go_sem]⟩
instance : Fo Tryz.prog 62 2 2 := ⟨fun w b o => by simp [go_sem]⟩
instance : Fo Tryz.prog 62 3 3 := ⟨fun w b o => by simp [go_sem]⟩
instance : Fo Tryz.prog 62 4 4 := ⟨fun w b o => by simp [go_sem]⟩
instance : Fo Tryz.prog 62 5 5 := ⟨fun w b o => by simp [go_sem]⟩
instance : Bld Tryz.prog 62 [Value.int IntKind.i64 0, Value.int IntKind.i64 0, Value.bool false, Value.bool false, Value.bool false, Value.bool false] [(0, 1), (1, 1), (2, 1), (3, 1), (4, 1), (5, 1)] := bld_struct Tryz.underlying62 Tryz.zeroValue62 fun w => by simp [go_sem]
instance (a0 b0 : Int) (a1 b1 : Int) (a2 b2 : Bool) (a3 b3 : Bool) (a4 b4 : Bool) (a5 b5 : Bool) : Eq_ Tryz.prog 62 (.agg #[.int IntKind.i64 a0, .int IntKind.i64 a1, .bool a2, .bool a3, .bool a4, .bool a5]) (.agg #[.int IntKind.i64 b0, .int IntKind.i64 b1, .bool b2, .bool b3, .bool b4, .bool b5]) (a0 == b0 && a1 == b1 && a2 == b2 && a3 == b3 && a4 == b4 && a5 == b5) := ⟨fun w p q => by simp [go_sem], fun w => by simp [go_sem]; (repeat' split) <;> simp_all⟩
instance (a0 b0 : Int) (a1 b1 : Int) (a2 b2 : Bool) (a3 b3 : Bool) (a4 b4 : Bool) (a5 b5 : Bool) : Neq_ Tryz.prog 62 (.agg #[.int IntKind.i64 a0, .int IntKind.i64 a1, .bool a2, .bool a3, .bool a4, .bool a5]) (.agg #[.int IntKind.i64 b0, .int IntKind.i64 b1, .bool b2, .bool b3, .bool b4, .bool b5]) (!(a0 == b0 && a1 == b1 && a2 == b2 && a3 == b3 && a4 == b4 && a5 == b5)) := ⟨fun w p q => by simp [go_sem], fun w => by simp [go_sem]; (repeat' split) <;> simp_all⟩
instance : Ag Tryz.prog 63 false := ⟨fun w => ag_of Tryz.underlying63 rfl w⟩
instance : Sz Tryz.prog 63 1 := ⟨Tryz.sizeOf63⟩
instance : Zr Tryz.prog 63 (Value.tuple   #[Value.agg       #[Value.int IntKind.i64 0, Value.int IntKind.i64 0, Value.bool false, Value.bool false, Value.bool false,         Value.bool false],     Value.int IntKind.i64 0]) := ⟨Tryz.zeroValue63⟩
instance : Ag Tryz.prog 64 false := ⟨fun w => ag_of Tryz.underlying64 rfl w⟩
instance : Sz Tryz.prog 64 1 := ⟨Tryz.sizeOf64⟩
instance : Zr Tryz.prog 64 (Value.nilFunc) := ⟨Tryz.zeroValue64⟩
instance : Ag Tryz.prog 65 false := ⟨fun w => ag_of Tryz.underlying65 rfl w⟩
instance : Sz Tryz.prog 65 1 := ⟨Tryz.sizeOf65⟩
instance : Zr Tryz.prog 65 (Value.nilFunc) := ⟨Tryz.zeroValue65⟩
instance : Ag Tryz.prog 66 false := ⟨fun w => ag_of Tryz.underlying66 rfl w⟩
instance : Sz Tryz.prog 66 1 := ⟨Tryz.sizeOf66⟩
instance : Zr Tryz.prog 66 (Value.nilFunc) := ⟨Tryz.zeroValue66⟩
instance : Ag Tryz.prog 67 false := ⟨fun w => ag_of Tryz.underlying67 rfl w⟩
instance : Sz Tryz.prog 67 1 := ⟨Tryz.sizeOf67⟩
instance : Zr Tryz.prog 67 (Value.nilFunc) := ⟨Tryz.zeroValue67⟩
instance : Ag Tryz.prog 68 false := ⟨fun w => ag_of Tryz.underlying68 rfl w⟩
instance : Sz Tryz.prog 68 1 := ⟨Tryz.sizeOf68⟩
instance : Zr Tryz.prog 68 (Value.tuple #[Value.int IntKind.u64 0, Value.int IntKind.i64 0, Value.int IntKind.i64 0]) := ⟨Tryz.zeroValue68⟩
instance : Ag Tryz.prog 69 false := ⟨fun w => ag_of Tryz.underlying69 rfl w⟩
instance : Sz Tryz.prog 69 1 := ⟨Tryz.sizeOf69⟩
instance : Zr Tryz.prog 69 (Value.nilFunc) := ⟨Tryz.zeroValue69⟩
instance : Ag Tryz.prog 70 false := ⟨fun w => ag_of Tryz.underlying70 rfl w⟩
instance : Sz Tryz.prog 70 1 := ⟨Tryz.sizeOf70⟩
instance : Zr Tryz.prog 70 (Value.nilFunc) := ⟨Tryz.zeroValue70⟩
instance : Ag Tryz.prog 71 false := ⟨fun w => ag_of Tryz.underlying71 rfl w⟩
instance : Sz Tryz.prog 71 1 := ⟨Tryz.sizeOf71⟩
instance : Zr Tryz.prog 71 (Value.nilFunc) := ⟨Tryz.zeroValue71⟩
instance : Ag Tryz.prog 72 false := ⟨fun w => ag_of Tryz.underlying72 rfl w⟩
instance : Sz Tryz.prog 72 1 := ⟨Tryz.sizeOf72⟩
instance : Zr Tryz.prog 72 (Value.tuple #[Value.int IntKind.u64 0, Value.int IntKind.i64 0]) := ⟨Tryz.zeroValue72⟩
instance : Ag Tryz.prog 73 false := ⟨fun w => ag_of Tryz.underlying73 rfl w⟩
instance : Sz Tryz.prog 73 1 := ⟨Tryz.sizeOf73⟩
instance : Zr Tryz.prog 73 (Value.nilFunc) := ⟨Tryz.zeroValue73⟩
instance : Ag Tryz.prog 74 false := ⟨fun w => ag_of Tryz.underlying74 rfl w⟩
instance : Sz Tryz.prog 74 1 := ⟨Tryz.sizeOf74⟩
instance : Zr Tryz.prog 74 (Value.tuple   #[Value.agg #[Value.int IntKind.i64 0, Value.slice none 0 0, Value.slice none 0 0], Value.int IntKind.u64 0,     Value.int IntKind.i64 0]) := ⟨Tryz.zeroValue74⟩
instance : Ag Tryz.prog 75 false := ⟨fun w => ag_of Tryz.underlying75 rfl w⟩
instance : Sz Tryz.prog 75 1 := ⟨Tryz.sizeOf75⟩
instance : Zr Tryz.prog 75 (Value.nilFunc) := ⟨Tryz.zeroValue75⟩
instance : Ag Tryz.prog 76 false := ⟨fun w => ag_of Tryz.underlying76 rfl w⟩
instance : Sz Tryz.prog 76 1 := ⟨Tryz.sizeOf76⟩
instance : Zr Tryz.prog 76 (Value.nilFunc) := ⟨Tryz.zeroValue76⟩
instance : Ag Tryz.prog 77 false := ⟨fun w => ag_of Tryz.underlying77 rfl w⟩
instance : Sz Tryz.prog 77 1 := ⟨Tryz.sizeOf77⟩
instance : Zr Tryz.prog 77 (Value.nilFunc) := ⟨Tryz.zeroValue77⟩
instance : Ag Tryz.prog 78 false := ⟨fun w => ag_of Tryz.underlying78 rfl w⟩
instance : Sz Tryz.prog 78 1 := ⟨Tryz.sizeOf78⟩
instance : Zr Tryz.prog 78 (Value.nilFunc) := ⟨Tryz.zeroValue78⟩
instance : Ag Tryz.prog 79 true := ⟨fun w => ag_of Tryz.underlying79 rfl w⟩
instance : Sz Tryz.prog 79 3 := ⟨Tryz.sizeOf79⟩
instance : Zr Tryz.prog 79 (Value.agg #[Value.int IntKind.i64 0, Value.int IntKind.i64 0, Value.int IntKind.u64 0]) := ⟨Tryz.zeroValue79⟩
instance : Fo Tryz.prog 79 0 0 := ⟨fun w b o => by simp [go_sem]⟩
instance : Fo Tryz.prog 79 1 1 := ⟨fun w b o => by simp [go_sem]⟩
instance : Fo Tryz.prog 79 2 2 := ⟨fun w b o => by simp [go_sem]⟩
instance : Bld Tryz.prog 79 [Value.int IntKind.i64 0, Value.int IntKind.i64 0, Value.int IntKind.u64 0] [(0, 1), (1, 1), (2, 1)] := bld_struct Tryz.underlying79 Tryz.zeroValue79 fun w => by simp [go_sem]
instance (a0 b0 : Int) (a1 b1 : Int) (a2 b2 : Int) : Eq_ Tryz.prog 79 (.agg #[.int IntKind.i64 a0, .int IntKind.i64 a1, .int IntKind.u64 a2]) (.agg #[.int IntKind.i64 b0, .int IntKind.i64 b1, .int IntKind.u64 b2]) (a0 == b0 && a1 == b1 && a2 == b2) := ⟨fun w p q => by simp [go_sem], fun w => by simp [go_sem]; (repeat' split) <;> simp_all⟩
instance (a0 b0 : Int) (a1 b1 : Int) (a2 b2 : Int) : Neq_ Tryz.prog 79 (.agg #[.int IntKind.i64 a0, .int IntKind.i64 a1, .int IntKind.u64 a2]) (.agg #[.int IntKind.i64 b0, .int IntKind.i64 b1, .int IntKind.u64 b2]) (!(a0 == b0 && a1 == b1 && a2 == b2)) := ⟨fun w p q => by simp [go_sem], fun w => by simp [go_sem]; (repeat' split) <;> simp_all⟩
instance : Ag Tryz.prog 80 true := ⟨fun w => ag_of Tryz.underlying80 rfl w⟩
instance : Sz Tryz.prog 80 3 := ⟨Tryz.sizeOf80⟩
instance : Zr Tryz.prog 80 (Value.agg #[Value.int IntKind.i64 0, Value.int IntKind.i64 0, Value.int IntKind.u64 0]) := ⟨Tryz.zeroValue80⟩
instance : Fo Tryz.prog 80 0 0 := ⟨fun w b o => by simp [go_sem]⟩
instance : Fo Tryz.prog 80 1 1 := ⟨fun w b o => by simp [go_sem]⟩
instance : Fo Tryz.prog 80 2 2 := ⟨fun w b o => by simp [go_sem]⟩
instance : Bld Tryz.prog 80 [Value.int IntKind.i64 0, Value.int IntKind.i64 0, Value.int IntKind.u64 0] [(0, 1), (1, 1), (2, 1)] := bld_struct Tryz.underlying80 Tryz.zeroValue80 fun w => by simp [go_sem]
instance (a0 b0 : Int) (a1 b1 : Int) (a2 b2 : Int) : Eq_ Tryz.prog 80 (.agg #[.int IntKind.i64 a0, .int IntKind.i64 a1, .int IntKind.u64 a2]) (.agg #[.int IntKind.i64 b0, .int IntKind.i64 b1, .int IntKind.u64 b2]) (a0 == b0 && a1 == b1 && a2 == b2) := ⟨fun w p q => by simp [go_sem], fun w => by simp [go_sem]; (repeat' split) <;> simp_all⟩
instance (a0 b0 : Int) (a1 b1 : Int) (a2 b2 : Int) : Neq_ Tryz.prog 80 (.agg #[.int IntKind.i64 a0, .int IntKind.i64 a1, .int IntKind.u64 a2]) (.agg #[.int IntKind.i64 b0, .int IntKind.i64 b1, .int IntKind.u64 b2]) (!(a0 == b0 && a1 == b1 && a2 == b2)) := ⟨fun w p q => by simp [go_sem], fun w => by simp [go_sem]; (repeat' split) <;> simp_all⟩
instance : Ag Tryz.prog 81 false := ⟨fun w => ag_of Tryz.underlying81 rfl w⟩
instance : Sz Tryz.prog 81 1 := ⟨Tryz.sizeOf81⟩
instance : Zr Tryz.prog 81 (Value.nilFunc) := ⟨Tryz.zeroValue81⟩
instance : Ag Tryz.prog 82 false := ⟨fun w => ag_of Tryz.underlying82 rfl w⟩
instance : Sz Tryz.prog 82 1 := ⟨Tryz.sizeOf82⟩
instance : Zr Tryz.prog 82 (Value.nilFunc) := ⟨Tryz.zeroValue82⟩
instance : Ag Tryz.prog 83 false := ⟨fun w => ag_of Tryz.underlying83 rfl w⟩
instance : Sz Tryz.prog 83 1 := ⟨Tryz.sizeOf83⟩
instance : Zr Tryz.prog 83 (Value.nilFunc) := ⟨Tryz.zeroValue83⟩
instance : Und Tryz.prog 84 (TypeDesc.slice 4) := ⟨Tryz.underlying84⟩
instance : SlTy Tryz.prog 84 4 1 (Value.bool false) := ⟨Tryz.underlying84, by kernel_rfl, rfl⟩
instance : Ag Tryz.prog 84 false := ⟨fun w => ag_of Tryz.underlying84 rfl w⟩
instance : Sz Tryz.prog 84 1 := ⟨Tryz.sizeOf84⟩
instance : Zr Tryz.prog 84 (Value.slice none 0 0) := ⟨Tryz.zeroValue84⟩
instance : Ag Tryz.prog 85 false := ⟨fun w => ag_of Tryz.underlying85 rfl w⟩
instance : Sz Tryz.prog 85 1 := ⟨Tryz.sizeOf85⟩
instance : Zr Tryz.prog 85 (Value.nilFunc) := ⟨Tryz.zeroValue85⟩
instance : Und Tryz.prog 86 (TypeDesc.pointer 3) := ⟨Tryz.underlying86⟩
instance : Ag Tryz.prog 86 false := ⟨fun w => ag_of Tryz.underlying86 rfl w⟩
instance : Sz Tryz.prog 86 1 := ⟨Tryz.sizeOf86⟩
instance : Zr Tryz.prog 86 (Value.pointer none) := ⟨Tryz.zeroValue86⟩
instance : Und Tryz.prog 87 (TypeDesc.array 8 58) := ⟨Tryz.underlying87⟩
instance : Ag Tryz.prog 87 true := ⟨fun w => ag_of Tryz.underlying87 rfl w⟩
instance : Sz Tryz.prog 87 8 := ⟨Tryz.sizeOf87⟩
instance : Zr Tryz.prog 87 (Value.agg   #[Value.int IntKind.u64 0, Value.int IntKind.u64 0, Value.int IntKind.u64 0, Value.int IntKind.u64 0,     Value.int IntKind.u64 0, Value.int IntKind.u64 0, Value.int IntKind.u64 0, Value.int IntKind.u64 0]) := ⟨Tryz.zeroValue87⟩
instance : Ag Tryz.prog 88 true := ⟨fun w => ag_of Tryz.underlying88 rfl w⟩
instance : Sz Tryz.prog 88 9 := ⟨Tryz.sizeOf88⟩
instance : Zr Tryz.prog 88 (Value.agg   #[Value.int IntKind.i64 0, Value.int IntKind.u64 0, Value.int IntKind.u64 0, Value.int IntKind.u64 0,     Value.int IntKind.u64 0, Value.int IntKind.u64 0, Value.int IntKind.u64 0, Value.int IntKind.u64 0,     Value.int IntKind.u64 0]) := ⟨Tryz.zeroValue88⟩
instance : Fo Tryz.prog 88 0 0 := ⟨fun w b o => by simp [go_sem]⟩
instance : Fo Tryz.prog 88 1 1 := ⟨fun w b o => by simp [go_sem]⟩
instance : Bld Tryz.prog 88 [Value.int IntKind.i64 0, Value.int IntKind.u64 0, Value.int IntKind.u64 0, Value.int IntKind.u64 0, Value.int IntKind.u64 0, Value.int IntKind.u64 0, Value.int IntKind.u64 0, Value.int IntKind.u64 0, Value.int IntKind.u64 0] [(0, 1), (1, 8)] := bld_struct Tryz.underlying88 Tryz.zeroValue88 fun w => by simp [go_sem]
instance : Ag Tryz.prog 89 true := ⟨fun w => ag_of Tryz.underlying89 rfl w⟩
instance : Sz Tryz.prog 89 9 := ⟨Tryz.sizeOf89⟩
instance : Zr Tryz.prog 89 (Value.agg   #[Value.int IntKind.i64 0, Value.int IntKind.u64 0, Value.int IntKind.u64 0, Value.int IntKind.u64 0,     Value.int IntKind.u64 0, Value.int IntKind.u64 0, Value.int IntKind.u64 0, Value.int IntKind.u64 0,     Value.int IntKind.u64 0]) := ⟨Tryz.zeroValue89⟩
instance : Fo Tryz.prog 89 0 0 := ⟨fun w b o => by simp [go_sem]⟩
instance : Fo Tryz.prog 89 1 1 := ⟨fun w b o => by simp [go_sem]⟩
instance : Bld Tryz.prog 89 [Value.int IntKind.i64 0, Value.int IntKind.u64 0, Value.int IntKind.u64 0, Value.int IntKind.u64 0, Value.int IntKind.u64 0, Value.int IntKind.u64 0, Value.int IntKind.u64 0, Value.int IntKind.u64 0, Value.int IntKind.u64 0] [(0, 1), (1, 8)] := bld_struct Tryz.underlying89 Tryz.zeroValue89 fun w => by simp [go_sem]
instance : Ag Tryz.prog 90 false := ⟨fun w => ag_of Tryz.underlying90 rfl w⟩
instance : Sz Tryz.prog 90 1 := ⟨Tryz.sizeOf90⟩
instance : Zr Tryz.prog 90 (Value.tuple #[Value.int IntKind.i64 0, Value.int IntKind.i64 0]) := ⟨Tryz.zeroValue90⟩
instance : Ag Tryz.prog 91 false := ⟨fun w => ag_of Tryz.underlying91 rfl w⟩
instance : Sz Tryz.prog 91 1 := ⟨Tryz.sizeOf91⟩
instance : Zr Tryz.prog 91 (Value.nilFunc) := ⟨Tryz.zeroValue91⟩
instance : Und Tryz.prog 92 (TypeDesc.slice 3) := ⟨Tryz.underlying92⟩
instance : SlTy Tryz.prog 92 3 1 (Value.int IntKind.i64 0) := ⟨Tryz.underlying92, by kernel_rfl, rfl⟩
instance : Ag Tryz.prog 92 false := ⟨fun w => ag_of Tryz.underlying92 rfl w⟩
instance : Sz Tryz.prog 92 1 := ⟨Tryz.sizeOf92⟩
instance : Zr Tryz.prog 92 (Value.slice none 0 0) := ⟨Tryz.zeroValue92⟩
instance : Ag Tryz.prog 93 false := ⟨fun w => ag_of Tryz.underlying93 rfl w⟩
instance : Sz Tryz.prog 93 1 := ⟨Tryz.sizeOf93⟩
instance : Zr Tryz.prog 93 (Value.nilFunc) := ⟨Tryz.zeroValue93⟩
instance : Ag Tryz.prog 94 false := ⟨fun w => ag_of Tryz.underlying94 rfl w⟩
instance : Sz Tryz.prog 94 1 := ⟨Tryz.sizeOf94⟩
instance : Zr Tryz.prog 94 (Value.nilFunc) := ⟨Tryz.zeroValue94⟩
instance : Ag Tryz.prog 95 false := ⟨fun w => ag_of Tryz.underlying95 rfl w⟩
instance : Sz Tryz.prog 95 1 := ⟨Tryz.sizeOf95⟩
instance : Zr Tryz.prog 95 (Value.tuple   #[Value.agg #[Value.int IntKind.i64 0, Value.slice none 0 0, Value.slice none 0 0], Value.int IntKind.u64 0,     Value.slice none 0 0, Value.int IntKind.i64 0]) := ⟨Tryz.zeroValue95⟩
instance : Ag Tryz.prog 96 false := ⟨fun w => ag_of Tryz.underlying96 rfl w⟩
instance : Sz Tryz.prog 96 1 := ⟨Tryz.sizeOf96⟩
instance : Zr Tryz.prog 96 (Value.nilFunc) := ⟨Tryz.zeroValue96⟩
instance : Ag Tryz.prog 97 false := ⟨fun w => ag_of Tryz.underlying97 rfl w⟩
instance : Sz Tryz.prog 97 1 := ⟨Tryz.sizeOf97⟩
instance : Zr Tryz.prog 97 (Value.nilFunc) := ⟨Tryz.zeroValue97⟩
instance : Ag Tryz.prog 98 false := ⟨fun w => ag_of Tryz.underlying98 rfl w⟩
instance : Sz Tryz.prog 98 1 := ⟨Tryz.sizeOf98⟩
instance : Zr Tryz.prog 98 (Value.nilFunc) := ⟨Tryz.zeroValue98⟩
instance : Und Tryz.prog 99 (TypeDesc.pointer 39) := ⟨Tryz.underlying99⟩
instance : Ag Tryz.prog 99 false := ⟨fun w => ag_of Tryz.underlying99 rfl w⟩
instance : Sz Tryz.prog 99 1 := ⟨Tryz.sizeOf99⟩
instance : Zr Tryz.prog 99 (Value.pointer none) := ⟨Tryz.zeroValue99⟩
instance : Ag Tryz.prog 100 false := ⟨fun w => ag_of Tryz.underlying100 rfl w⟩
instance : Sz Tryz.prog 100 1 := ⟨Tryz.sizeOf100⟩
instance : Zr Tryz.prog 100 (Value.nilFunc) := ⟨Tryz.zeroValue100⟩
instance : Ag Tryz.prog 101 false := ⟨fun w => ag_of Tryz.underlying101 rfl w⟩
instance : Sz Tryz.prog 101 1 := ⟨Tryz.sizeOf101⟩
instance : Zr Tryz.prog 101 (Value.nilFunc) := ⟨Tryz.zeroValue101⟩
instance : Ag Tryz.prog 102 false := ⟨fun w => ag_of Tryz.underlying102 rfl w⟩
instance : Sz Tryz.prog 102 1 := ⟨Tryz.sizeOf102⟩
instance : Zr Tryz.prog 102 (Value.nilFunc) := ⟨Tryz.zeroValue102⟩
instance : Und Tryz.prog 103 (TypeDesc.slice 80) := ⟨Tryz.underlying103⟩
instance : SlTy Tryz.prog 103 80 3 (Value.agg #[Value.int IntKind.i64 0, Value.int IntKind.i64 0, Value.int IntKind.u64 0]) := ⟨Tryz.underlying103, by kernel_rfl, rfl⟩
instance : Ag Tryz.prog 103 false := ⟨fun w => ag_of Tryz.underlying103 rfl w⟩
instance : Sz Tryz.prog 103 1 := ⟨Tryz.sizeOf103⟩
instance : Zr Tryz.prog 103 (Value.slice none 0 0) := ⟨Tryz.zeroValue103⟩
instance : Ag Tryz.prog 104 false := ⟨fun w => ag_of Tryz.underlying104 rfl w⟩
instance : Sz Tryz.prog 104 1 := ⟨Tryz.sizeOf104⟩
instance : Zr Tryz.prog 104 (Value.nilFunc) := ⟨Tryz.zeroValue104⟩
instance : Ag Tryz.prog 105 false := ⟨fun w => ag_of Tryz.underlying105 rfl w⟩
instance : Sz Tryz.prog 105 1 := ⟨Tryz.sizeOf105⟩
instance : Zr Tryz.prog 105 (Value.nilFunc) := ⟨Tryz.zeroValue105⟩
instance : Ag Tryz.prog 106 false := ⟨fun w => ag_of Tryz.underlying106 rfl w⟩
instance : Sz Tryz.prog 106 1 := ⟨Tryz.sizeOf106⟩
instance : Zr Tryz.prog 106 (Value.nilFunc) := ⟨Tryz.zeroValue106⟩
instance : Ag Tryz.prog 107 false := ⟨fun w => ag_of Tryz.underlying107 rfl w⟩
instance : Sz Tryz.prog 107 1 := ⟨Tryz.sizeOf107⟩
instance : Zr Tryz.prog 107 (Value.nilFunc) := ⟨Tryz.zeroValue107⟩
instance : Ag Tryz.prog 108 false := ⟨fun w => ag_of Tryz.underlying108 rfl w⟩
instance : Sz Tryz.prog 108 1 := ⟨Tryz.sizeOf108⟩
instance : Zr Tryz.prog 108 (Value.nilFunc) := ⟨Tryz.zeroValue108⟩
instance : Und Tryz.prog 109 (TypeDesc.map 3 3) := ⟨Tryz.underlying109⟩
instance : Ag Tryz.prog 109 false := ⟨fun w => ag_of Tryz.underlying109 rfl w⟩
instance : Sz Tryz.prog 109 1 := ⟨Tryz.sizeOf109⟩
instance : Zr Tryz.prog 109 (Value.map none) := ⟨Tryz.zeroValue109⟩
instance : Ag Tryz.prog 110 false := ⟨fun w => ag_of Tryz.underlying110 rfl w⟩
instance : Sz Tryz.prog 110 1 := ⟨Tryz.sizeOf110⟩
instance : Zr Tryz.prog 110 (Value.nilFunc) := ⟨Tryz.zeroValue110⟩
instance : Ag Tryz.prog 111 false := ⟨fun w => ag_of Tryz.underlying111 rfl w⟩
instance : Sz Tryz.prog 111 1 := ⟨Tryz.sizeOf111⟩
instance : Zr Tryz.prog 111 (Value.nilFunc) := ⟨Tryz.zeroValue111⟩
instance : Ag Tryz.prog 112 false := ⟨fun w => ag_of Tryz.underlying112 rfl w⟩
instance : Sz Tryz.prog 112 1 := ⟨Tryz.sizeOf112⟩
instance : Zr Tryz.prog 112 (Value.nilFunc) := ⟨Tryz.zeroValue112⟩
instance : Ag Tryz.prog 113 false := ⟨fun w => ag_of Tryz.underlying113 rfl w⟩
instance : Sz Tryz.prog 113 1 := ⟨Tryz.sizeOf113⟩
instance : Zr Tryz.prog 113 (Value.tuple #[Value.int IntKind.i64 0, Value.bool false]) := ⟨Tryz.zeroValue113⟩
instance : Ag Tryz.prog 114 false := ⟨fun w => ag_of Tryz.underlying114 rfl w⟩
instance : Sz Tryz.prog 114 1 := ⟨Tryz.sizeOf114⟩
instance : Zr Tryz.prog 114 (Value.nilFunc) := ⟨Tryz.zeroValue114⟩
instance : Ag Tryz.prog 115 true := ⟨fun w => ag_of Tryz.underlying115 rfl w⟩
instance : Sz Tryz.prog 115 2 := ⟨Tryz.sizeOf115⟩
instance : Zr Tryz.prog 115 (Value.agg #[Value.int IntKind.i64 0, Value.int IntKind.i64 0]) := ⟨Tryz.zeroValue115⟩
instance : Fo Tryz.prog 115 0 0 := ⟨fun w b o => by simp [go_sem]⟩
instance : Fo Tryz.prog 115 1 1 := ⟨fun w b o => by simp [go_sem]⟩
instance : Bld Tryz.prog 115 [Value.int IntKind.i64 0, Value.int IntKind.i64 0] [(0, 1), (1, 1)] := bld_struct Tryz.underlying115 Tryz.zeroValue115 fun w => by simp [go_sem]
instance (a0 b0 : Int) (a1 b1 : Int) : Eq_ Tryz.prog 115 (.agg #[.int IntKind.i64 a0, .int IntKind.i64 a1]) (.agg #[.int IntKind.i64 b0, .int IntKind.i64 b1]) (a0 == b0 && a1 == b1) := ⟨fun w p q => by simp [go_sem], fun w => by simp [go_sem]; (repeat' split) <;> simp_all⟩
instance (a0 b0 : Int) (a1 b1 : Int) : Neq_ Tryz.prog 115 (.agg #[.int IntKind.i64 a0, .int IntKind.i64 a1]) (.agg #[.int IntKind.i64 b0, .int IntKind.i64 b1]) (!(a0 == b0 && a1 == b1)) := ⟨fun w p q => by simp [go_sem], fun w => by simp [go_sem]; (repeat' split) <;> simp_all⟩
instance : Ag Tryz.prog 116 true := ⟨fun w => ag_of Tryz.underlying116 rfl w⟩
instance : Sz Tryz.prog 116 2 := ⟨Tryz.sizeOf116⟩
instance : Zr Tryz.prog 116 (Value.agg #[Value.int IntKind.i64 0, Value.int IntKind.i64 0]) := ⟨Tryz.zeroValue116⟩
instance : Fo Tryz.prog 116 0 0 := ⟨fun w b o => by simp [go_sem]⟩
instance : Fo Tryz.prog 116 1 1 := ⟨fun w b o => by simp [go_sem]⟩
instance : Bld Tryz.prog 116 [Value.int IntKind.i64 0, Value.int IntKind.i64 0] [(0, 1), (1, 1)] := bld_struct Tryz.underlying116 Tryz.zeroValue116 fun w => by simp [go_sem]
instance (a0 b0 : Int) (a1 b1 : Int) : Eq_ Tryz.prog 116 (.agg #[.int IntKind.i64 a0, .int IntKind.i64 a1]) (.agg #[.int IntKind.i64 b0, .int IntKind.i64 b1]) (a0 == b0 && a1 == b1) := ⟨fun w p q => by simp [go_sem], fun w => by simp [go_sem]; (repeat' split) <;> simp_all⟩
instance (a0 b0 : Int) (a1 b1 : Int) : Neq_ Tryz.prog 116 (.agg #[.int IntKind.i64 a0, .int IntKind.i64 a1]) (.agg #[.int IntKind.i64 b0, .int IntKind.i64 b1]) (!(a0 == b0 && a1 == b1)) := ⟨fun w p q => by simp [go_sem], fun w => by simp [go_sem]; (repeat' split) <;> simp_all⟩
instance : Ag Tryz.prog 117 true := ⟨fun w => ag_of Tryz.underlying117 rfl w⟩
instance : Sz Tryz.prog 117 3 := ⟨Tryz.sizeOf117⟩
instance : Zr Tryz.prog 117 (Value.agg #[Value.int IntKind.i64 0, Value.int IntKind.i64 0, Value.int IntKind.u64 0]) := ⟨Tryz.zeroValue117⟩
instance : Fo Tryz.prog 117 0 0 := ⟨fun w b o => by simp [go_sem]⟩
instance : Fo Tryz.prog 117 1 1 := ⟨fun w b o => by simp [go_sem]⟩
instance : Fo Tryz.prog 117 2 2 := ⟨fun w b o => by simp [go_sem]⟩
instance : Bld Tryz.prog 117 [Value.int IntKind.i64 0, Value.int IntKind.i64 0, Value.int IntKind.u64 0] [(0, 1), (1, 1), (2, 1)] := bld_struct Tryz.underlying117 Tryz.zeroValue117 fun w => by simp [go_sem]
instance (a0 b0 : Int) (a1 b1 : Int) (a2 b2 : Int) : Eq_ Tryz.prog 117 (.agg #[.int IntKind.i64 a0, .int IntKind.i64 a1, .int IntKind.u64 a2]) (.agg #[.int IntKind.i64 b0, .int IntKind.i64 b1, .int IntKind.u64 b2]) (a0 == b0 && a1 == b1 && a2 == b2) := ⟨fun w p q => by simp [go_sem], fun w => by simp [go_sem]; (repeat' split) <;> simp_all⟩
instance (a0 b0 : Int) (a1 b1 : Int) (a2 b2 : Int) : Neq_ Tryz.prog 117 (.agg #[.int IntKind.i64 a0, .int IntKind.i64 a1, .int IntKind.u64 a2]) (.agg #[.int IntKind.i64 b0, .int IntKind.i64 b1, .int IntKind.u64 b2]) (!(a0 == b0 && a1 == b1 && a2 == b2)) := ⟨fun w p q => by simp [go_sem], fun w => by simp [go_sem]; (repeat' split) <;> simp_all⟩
instance : Ag Tryz.prog 118 true := ⟨fun w => ag_of Tryz.underlying118 rfl w⟩
instance : Sz Tryz.prog 118 3 := ⟨Tryz.sizeOf118⟩
instance : Zr Tryz.prog 118 (Value.agg #[Value.int IntKind.i64 0, Value.int IntKind.i64 0, Value.int IntKind.u64 0]) := ⟨Tryz.zeroValue118⟩
instance : Fo Tryz.prog 118 0 0 := ⟨fun w b o => by simp [go_sem]⟩
instance : Fo Tryz.prog 118 1 1 := ⟨fun w b o => by simp [go_sem]⟩
instance : Fo Tryz.prog 118 2 2 := ⟨fun w b o => by simp [go_sem]⟩
instance : Bld Tryz.prog 118 [Value.int IntKind.i64 0, Value.int IntKind.i64 0, Value.int IntKind.u64 0] [(0, 1), (1, 1), (2, 1)] := bld_struct Tryz.underlying118 Tryz.zeroValue118 fun w => by simp [go_sem]
instance (a0 b0 : Int) (a1 b1 : Int) (a2 b2 : Int) : Eq_ Tryz.prog 118 (.agg #[.int IntKind.i64 a0, .int IntKind.i64 a1, .int IntKind.u64 a2]) (.agg #[.int IntKind.i64 b0, .int IntKind.i64 b1, .int IntKind.u64 b2]) (a0 == b0 && a1 == b1 && a2 == b2) := ⟨fun w p q => by simp [go_sem], fun w => by simp [go_sem]; (repeat' split) <;> simp_all⟩
instance (a0 b0 : Int) (a1 b1 : Int) (a2 b2 : Int) : Neq_ Tryz.prog 118 (.agg #[.int IntKind.i64 a0, .int IntKind.i64 a1, .int IntKind.u64 a2]) (.agg #[.int IntKind.i64 b0, .int IntKind.i64 b1, .int IntKind.u64 b2]) (!(a0 == b0 && a1 == b1 && a2 == b2)) := ⟨fun w p q => by simp [go_sem], fun w => by simp [go_sem]; (repeat' split) <;> simp_all⟩
instance : Ag Tryz.prog 119 false := ⟨fun w => ag_of Tryz.underlying119 rfl w⟩
instance : Sz Tryz.prog 119 1 := ⟨Tryz.sizeOf119⟩
instance : Zr Tryz.prog 119 (Value.tuple #[Value.bool false, Value.bool false]) := ⟨Tryz.zeroValue119⟩
instance : Ag Tryz.prog 120 false := ⟨fun w => ag_of Tryz.underlying120 rfl w⟩
instance : Sz Tryz.prog 120 1 := ⟨Tryz.sizeOf120⟩
instance : Zr Tryz.prog 120 (Value.nilFunc) := ⟨Tryz.zeroValue120⟩
instance : Ag Tryz.prog 121 false := ⟨fun w => ag_of Tryz.underlying121 rfl w⟩
instance : Sz Tryz.prog 121 1 := ⟨Tryz.sizeOf121⟩
instance : Zr Tryz.prog 121 (Value.nilFunc) := ⟨Tryz.zeroValue121⟩
instance : Ag Tryz.prog 122 false := ⟨fun w => ag_of Tryz.underlying122 rfl w⟩
instance : Sz Tryz.prog 122 1 := ⟨Tryz.sizeOf122⟩
instance : Zr Tryz.prog 122 (Value.nilFunc) := ⟨Tryz.zeroValue122⟩
instance : Ag Tryz.prog 123 false := ⟨fun w => ag_of Tryz.underlying123 rfl w⟩
instance : Sz Tryz.prog 123 1 := ⟨Tryz.sizeOf123⟩
instance : Zr Tryz.prog 123 (Value.nilFunc) := ⟨Tryz.zeroValue123⟩
instance : Ag Tryz.prog 124 false := ⟨fun w => ag_of Tryz.underlying124 rfl w⟩
instance : Sz Tryz.prog 124 1 := ⟨Tryz.sizeOf124⟩
instance : Zr Tryz.prog 124 (Value.nilFunc) := ⟨Tryz.zeroValue124⟩
instance : Und Tryz.prog 125 (TypeDesc.int IntKind.u64) := ⟨Tryz.underlying125⟩
instance : Ag Tryz.prog 125 false := ⟨fun w => ag_of Tryz.underlying125 rfl w⟩
instance : Sz Tryz.prog 125 1 := ⟨Tryz.sizeOf125⟩
instance : Zr Tryz.prog 125 (Value.int IntKind.u64 0) := ⟨Tryz.zeroValue125⟩
instance : Ag Tryz.prog 126 false := ⟨fun w => ag_of Tryz.underlying126 rfl w⟩
instance : Sz Tryz.prog 126 1 := ⟨Tryz.sizeOf126⟩
instance : Zr Tryz.prog 126 (Value.nilFunc) := ⟨Tryz.zeroValue126⟩
instance : Ag Tryz.prog 127 false := ⟨fun w => ag_of Tryz.underlying127 rfl w⟩
instance : Sz Tryz.prog 127 1 := ⟨Tryz.sizeOf127⟩
instance : Zr Tryz.prog 127 (Value.nilFunc) := ⟨Tryz.zeroValue127⟩
instance : Ag Tryz.prog 128 false := ⟨fun w => ag_of Tryz.underlying128 rfl w⟩
instance : Sz Tryz.prog 128 1 := ⟨Tryz.sizeOf128⟩
instance : Zr Tryz.prog 128 (Value.nilFunc) := ⟨Tryz.zeroValue128⟩
instance : Ag Tryz.prog 129 false := ⟨fun w => ag_of Tryz.underlying129 rfl w⟩
instance : Sz Tryz.prog 129 1 := ⟨Tryz.sizeOf129⟩
instance : Zr Tryz.prog 129 (Value.nilFunc) := ⟨Tryz.zeroValue129⟩
instance : Und Tryz.prog 130 (TypeDesc.pointer 89) := ⟨Tryz.underlying130⟩
instance : Ag Tryz.prog 130 false := ⟨fun w => ag_of Tryz.underlying130 rfl w⟩
instance : Sz Tryz.prog 130 1 := ⟨Tryz.sizeOf130⟩
instance : Zr Tryz.prog 130 (Value.pointer none) := ⟨Tryz.zeroValue130⟩
instance : Ag Tryz.prog 131 false := ⟨fun w => ag_of Tryz.underlying131 rfl w⟩
instance : Sz Tryz.prog 131 1 := ⟨Tryz.sizeOf131⟩
instance : Zr Tryz.prog 131 (Value.nilFunc) := ⟨Tryz.zeroValue131⟩
instance : Ag Tryz.prog 132 false := ⟨fun w => ag_of Tryz.underlying132 rfl w⟩
instance : Sz Tryz.prog 132 1 := ⟨Tryz.sizeOf132⟩
instance : Zr Tryz.prog 132 (Value.nilFunc) := ⟨Tryz.zeroValue132⟩
instance : Ag Tryz.prog 133 false := ⟨fun w => ag_of Tryz.underlying133 rfl w⟩
instance : Sz Tryz.prog 133 1 := ⟨Tryz.sizeOf133⟩
instance : Zr Tryz.prog 133 (Value.nilFunc) := ⟨Tryz.zeroValue133⟩
instance : Ag Tryz.prog 134 false := ⟨fun w => ag_of Tryz.underlying134 rfl w⟩
instance : Sz Tryz.prog 134 1 := ⟨Tryz.sizeOf134⟩
instance : Zr Tryz.prog 134 (Value.nilFunc) := ⟨Tryz.zeroValue134⟩
instance : Ag Tryz.prog 135 false := ⟨fun w => ag_of Tryz.underlying135 rfl w⟩
instance : Sz Tryz.prog 135 1 := ⟨Tryz.sizeOf135⟩
instance : Zr Tryz.prog 135 (Value.nilFunc) := ⟨Tryz.zeroValue135⟩
instance : Ag Tryz.prog 136 false := ⟨fun w => ag_of Tryz.underlying136 rfl w⟩
instance : Sz Tryz.prog 136 1 := ⟨Tryz.sizeOf136⟩
instance : Zr Tryz.prog 136 (Value.nilFunc) := ⟨Tryz.zeroValue136⟩
instance : Ag Tryz.prog 137 false := ⟨fun w => ag_of Tryz.underlying137 rfl w⟩
instance : Sz Tryz.prog 137 1 := ⟨Tryz.sizeOf137⟩
instance : Zr Tryz.prog 137 (Value.nilFunc) := ⟨Tryz.zeroValue137⟩
instance : Ag Tryz.prog 138 false := ⟨fun w => ag_of Tryz.underlying138 rfl w⟩
instance : Sz Tryz.prog 138 1 := ⟨Tryz.sizeOf138⟩
instance : Zr Tryz.prog 138 (Value.nilFunc) := ⟨Tryz.zeroValue138⟩
instance : Und Tryz.prog 139 (TypeDesc.array 8 62) := ⟨Tryz.underlying139⟩
instance : Ag Tryz.prog 139 true := ⟨fun w => ag_of Tryz.underlying139 rfl w⟩
instance : Sz Tryz.prog 139 48 := ⟨Tryz.sizeOf139⟩
instance : Zr Tryz.prog 139 (Value.agg   #[Value.int IntKind.i64 0, Value.int IntKind.i64 0, Value.bool false, Value.bool false, Value.bool false,     Value.bool false, Value.int IntKind.i64 0, Value.int IntKind.i64 0, Value.bool false, Value.bool false,     Value.bool false, Value.bool false, Value.int IntKind.i64 0, Value.int IntKind.i64 0, Value.bool false,     Value.bool false, Value.bool false, Value.bool false, Value.int IntKind.i64 0, Value.int IntKind.i64 0,     Value.bool false, Value.bool false, Value.bool false, Value.bool false, Value.int IntKind.i64 0,     Value.int IntKind.i64 0, Value.bool false, Value.bool false, Value.bool false, Value.bool false,     Value.int IntKind.i64 0, Value.int IntKind.i64 0, Value.bool false, Value.bool false, Value.bool false,     Value.bool false, Value.int IntKind.i64 0, Value.int IntKind.i64 0, Value.bool false, Value.bool false,     Value.bool false, Value.bool false, Value.int IntKind.i64 0, Value.int IntKind.i64 0, Value.bool false,     Value.bool false, Value.bool false, Value.bool false]) := ⟨Tryz.zeroValue139⟩
instance : Ag Tryz.prog 140 false := ⟨fun w => ag_of Tryz.underlying140 rfl w⟩
instance : Sz Tryz.prog 140 1 := ⟨Tryz.sizeOf140⟩
instance : Zr Tryz.prog 140 (Value.nilFunc) := ⟨Tryz.zeroValue140⟩
instance : Ag Tryz.prog 141 false := ⟨fun w => ag_of Tryz.underlying141 rfl w⟩
instance : Sz Tryz.prog 141 1 := ⟨Tryz.sizeOf141⟩
instance : Zr Tryz.prog 141 (Value.nilFunc) := ⟨Tryz.zeroValue141⟩
instance : Ag Tryz.prog 142 false := ⟨fun w => ag_of Tryz.underlying142 rfl w⟩
instance : Sz Tryz.prog 142 1 := ⟨Tryz.sizeOf142⟩
instance : Zr Tryz.prog 142 (Value.nilFunc) := ⟨Tryz.zeroValue142⟩
instance : Ag Tryz.prog 143 false := ⟨fun w => ag_of Tryz.underlying143 rfl w⟩
instance : Sz Tryz.prog 143 1 := ⟨Tryz.sizeOf143⟩
instance : Zr Tryz.prog 143 (Value.nilFunc) := ⟨Tryz.zeroValue143⟩
instance : Ag Tryz.prog 144 false := ⟨fun w => ag_of Tryz.underlying144 rfl w⟩
instance : Sz Tryz.prog 144 1 := ⟨Tryz.sizeOf144⟩
instance : Zr Tryz.prog 144 (Value.nilFunc) := ⟨Tryz.zeroValue144⟩
instance : Ag Tryz.prog 145 false := ⟨fun w => ag_of Tryz.underlying145 rfl w⟩
instance : Sz Tryz.prog 145 1 := ⟨Tryz.sizeOf145⟩
instance : Zr Tryz.prog 145 (Value.nilFunc) := ⟨Tryz.zeroValue145⟩
instance : Ag Tryz.prog 146 false := ⟨fun w => ag_of Tryz.underlying146 rfl w⟩
instance : Sz Tryz.prog 146 1 := ⟨Tryz.sizeOf146⟩
instance : Zr Tryz.prog 146 (Value.nilFunc) := ⟨Tryz.zeroValue146⟩
instance : Ag Tryz.prog 147 false := ⟨fun w => ag_of Tryz.underlying147 rfl w⟩
instance : Sz Tryz.prog 147 1 := ⟨Tryz.sizeOf147⟩
instance : Zr Tryz.prog 147 (Value.nilFunc) := ⟨Tryz.zeroValue147⟩
instance : Ag Tryz.prog 148 false := ⟨fun w => ag_of Tryz.underlying148 rfl w⟩
instance : Sz Tryz.prog 148 1 := ⟨Tryz.sizeOf148⟩
instance : Zr Tryz.prog 148 (Value.nilFunc) := ⟨Tryz.zeroValue148⟩
instance : Ag Tryz.prog 149 false := ⟨fun w => ag_of Tryz.underlying149 rfl w⟩
instance : Sz Tryz.prog 149 1 := ⟨Tryz.sizeOf149⟩
instance : Zr Tryz.prog 149 (Value.nilFunc) := ⟨Tryz.zeroValue149⟩
instance : Ag Tryz.prog 150 false := ⟨fun w => ag_of Tryz.underlying150 rfl w⟩
instance : Sz Tryz.prog 150 1 := ⟨Tryz.sizeOf150⟩
instance : Zr Tryz.prog 150 (Value.nilFunc) := ⟨Tryz.zeroValue150⟩
instance : Ag Tryz.prog 151 false := ⟨fun w => ag_of Tryz.underlying151 rfl w⟩
instance : Sz Tryz.prog 151 1 := ⟨Tryz.sizeOf151⟩
instance : Zr Tryz.prog 151 (Value.nilFunc) := ⟨Tryz.zeroValue151⟩
instance : Ag Tryz.prog 152 false := ⟨fun w => ag_of Tryz.underlying152 rfl w⟩
instance : Sz Tryz.prog 152 1 := ⟨Tryz.sizeOf152⟩
instance : Zr Tryz.prog 152 (Value.pointer none) := ⟨Tryz.zeroValue152⟩
instance : Und Tryz.prog 153 (TypeDesc.int IntKind.u64) := ⟨Tryz.underlying153⟩
instance : Ag Tryz.prog 153 false := ⟨fun w => ag_of Tryz.underlying153 rfl w⟩
instance : Sz Tryz.prog 153 1 := ⟨Tryz.sizeOf153⟩
instance : Zr Tryz.prog 153 (Value.int IntKind.u64 0) := ⟨Tryz.zeroValue153⟩
instance : Ag Tryz.prog 154 true := ⟨fun w => ag_of Tryz.underlying154 rfl w⟩
instance : Sz Tryz.prog 154 3 := ⟨Tryz.sizeOf154⟩
instance : Zr Tryz.prog 154 (Value.agg #[Value.pointer none, Value.pointer none, Value.int IntKind.u64 0]) := ⟨Tryz.zeroValue154⟩
instance : Fo Tryz.prog 154 0 0 := ⟨fun w b o => by simp [go_sem]⟩
instance : Fo Tryz.prog 154 1 1 := ⟨fun w b o => by simp [go_sem]⟩
instance : Fo Tryz.prog 154 2 2 := ⟨fun w b o => by simp [go_sem]⟩
instance : Bld Tryz.prog 154 [Value.pointer none, Value.pointer none, Value.int IntKind.u64 0] [(0, 1), (1, 1), (2, 1)] := bld_struct Tryz.underlying154 Tryz.zeroValue154 fun w => by simp [go_sem]
instance : Ag Tryz.prog 155 true := ⟨fun w => ag_of Tryz.underlying155 rfl w⟩
instance : Sz Tryz.prog 155 3 := ⟨Tryz.sizeOf155⟩
instance : Zr Tryz.prog 155 (Value.agg #[Value.pointer none, Value.pointer none, Value.int IntKind.u64 0]) := ⟨Tryz.zeroValue155⟩
instance : Fo Tryz.prog 155 0 0 := ⟨fun w b o => by simp [go_sem]⟩
instance : Fo Tryz.prog 155 1 1 := ⟨fun w b o => by simp [go_sem]⟩
instance : Fo Tryz.prog 155 2 2 := ⟨fun w b o => by simp [go_sem]⟩
instance : Bld Tryz.prog 155 [Value.pointer none, Value.pointer none, Value.int IntKind.u64 0] [(0, 1), (1, 1), (2, 1)] := bld_struct Tryz.underlying155 Tryz.zeroValue155 fun w => by simp [go_sem]
instance : Ag Tryz.prog 156 false := ⟨fun w => ag_of Tryz.underlying156 rfl w⟩
instance : Sz Tryz.prog 156 1 := ⟨Tryz.sizeOf156⟩
instance : Zr Tryz.prog 156 (Value.nilFunc) := ⟨Tryz.zeroValue156⟩
instance : Ag Tryz.prog 157 false := ⟨fun w => ag_of Tryz.underlying157 rfl w⟩
instance : Sz Tryz.prog 157 1 := ⟨Tryz.sizeOf157⟩
instance : Zr Tryz.prog 157 (Value.nilFunc) := ⟨Tryz.zeroValue157⟩
instance : Ag Tryz.prog 158 false := ⟨fun w => ag_of Tryz.underlying158 rfl w⟩
instance : Sz Tryz.prog 158 1 := ⟨Tryz.sizeOf158⟩
instance : Zr Tryz.prog 158 (Value.nilFunc) := ⟨Tryz.zeroValue158⟩
instance : Ag Tryz.prog 159 false := ⟨fun w => ag_of Tryz.underlying159 rfl w⟩
instance : Sz Tryz.prog 159 1 := ⟨Tryz.sizeOf159⟩
instance : Zr Tryz.prog 159 (Value.nilFunc) := ⟨Tryz.zeroValue159⟩
instance : Ag Tryz.prog 160 false := ⟨fun w => ag_of Tryz.underlying160 rfl w⟩
instance : Sz Tryz.prog 160 1 := ⟨Tryz.sizeOf160⟩
instance : Zr Tryz.prog 160 (Value.nilFunc) := ⟨Tryz.zeroValue160⟩
instance : Ag Tryz.prog 161 false := ⟨fun w => ag_of Tryz.underlying161 rfl w⟩
instance : Sz Tryz.prog 161 1 := ⟨Tryz.sizeOf161⟩
instance : Zr Tryz.prog 161 (Value.nilFunc) := ⟨Tryz.zeroValue161⟩
instance : Ag Tryz.prog 162 true := ⟨fun w => ag_of Tryz.underlying162 rfl w⟩
instance : Sz Tryz.prog 162 2 := ⟨Tryz.sizeOf162⟩
instance : Zr Tryz.prog 162 (Value.agg #[Value.nilFunc, Value.nilFunc]) := ⟨Tryz.zeroValue162⟩
instance : Fo Tryz.prog 162 0 0 := ⟨fun w b o => by simp [go_sem]⟩
instance : Fo Tryz.prog 162 1 1 := ⟨fun w b o => by simp [go_sem]⟩
instance : Bld Tryz.prog 162 [Value.nilFunc, Value.nilFunc] [(0, 1), (1, 1)] := bld_struct Tryz.underlying162 Tryz.zeroValue162 fun w => by simp [go_sem]
instance : Ag Tryz.prog 163 true := ⟨fun w => ag_of Tryz.underlying163 rfl w⟩
instance : Sz Tryz.prog 163 2 := ⟨Tryz.sizeOf163⟩
instance : Zr Tryz.prog 163 (Value.agg #[Value.nilFunc, Value.nilFunc]) := ⟨Tryz.zeroValue163⟩
instance : Fo Tryz.prog 163 0 0 := ⟨fun w b o => by simp [go_sem]⟩
instance : Fo Tryz.prog 163 1 1 := ⟨fun w b o => by simp [go_sem]⟩
instance : Bld Tryz.prog 163 [Value.nilFunc, Value.nilFunc] [(0, 1), (1, 1)] := bld_struct Tryz.underlying163 Tryz.zeroValue163 fun w => by simp [go_sem]
instance : Ag Tryz.prog 164 true := ⟨fun w => ag_of Tryz.underlying164 rfl w⟩
instance : Sz Tryz.prog 164 1 := ⟨Tryz.sizeOf164⟩
instance : Zr Tryz.prog 164 (Value.agg #[Value.pointer none]) := ⟨Tryz.zeroValue164⟩
instance : Fo Tryz.prog 164 0 0 := ⟨fun w b o => by simp [go_sem]⟩
instance : Bld Tryz.prog 164 [Value.pointer none] [(0, 1)] := bld_struct Tryz.underlying164 Tryz.zeroValue164 fun w => by simp [go_sem]
instance : Ag Tryz.prog 165 true := ⟨fun w => ag_of Tryz.underlying165 rfl w⟩
instance : Sz Tryz.prog 165 1 := ⟨Tryz.sizeOf165⟩
instance : Zr Tryz.prog 165 (Value.agg #[Value.pointer none]) := ⟨Tryz.zeroValue165⟩
instance : Fo Tryz.prog 165 0 0 := ⟨fun w b o => by simp [go_sem]⟩
instance : Bld Tryz.prog 165 [Value.pointer none] [(0, 1)] := bld_struct Tryz.underlying165 Tryz.zeroValue165 fun w => by simp [go_sem]
instance : Und Tryz.prog 166 (TypeDesc.pointer 199) := ⟨Tryz.underlying166⟩
instance : Ag Tryz.prog 166 false := ⟨fun w => ag_of Tryz.underlying166 rfl w⟩
instance : Sz Tryz.prog 166 1 := ⟨Tryz.sizeOf166⟩
instance : Zr Tryz.prog 166 (Value.pointer none) := ⟨Tryz.zeroValue166⟩
instance : Ag Tryz.prog 167 false := ⟨fun w => ag_of Tryz.underlying167 rfl w⟩
instance : Sz Tryz.prog 167 1 := ⟨Tryz.sizeOf167⟩
instance : Zr Tryz.prog 167 (Value.nilFunc) := ⟨Tryz.zeroValue167⟩
instance : Und Tryz.prog 168 (TypeDesc.int IntKind.u32) := ⟨Tryz.underlying168⟩
instance : Ag Tryz.prog 168 false := ⟨fun w => ag_of Tryz.underlying168 rfl w⟩
instance : Sz Tryz.prog 168 1 := ⟨Tryz.sizeOf168⟩
instance : Zr Tryz.prog 168 (Value.int IntKind.u32 0) := ⟨Tryz.zeroValue168⟩
instance : Ag Tryz.prog 169 false := ⟨fun w => ag_of Tryz.underlying169 rfl w⟩
instance : Sz Tryz.prog 169 1 := ⟨Tryz.sizeOf169⟩
instance : Zr Tryz.prog 169 (Value.nilFunc) := ⟨Tryz.zeroValue169⟩
instance : Und Tryz.prog 170 (TypeDesc.int IntKind.i64) := ⟨Tryz.underlying170⟩
instance : ElT Tryz.prog 170 Int := ⟨trivial⟩
instance : Ag Tryz.prog 170 false := ⟨fun w => ag_of Tryz.underlying170 rfl w⟩
instance : Sz Tryz.prog 170 1 := ⟨Tryz.sizeOf170⟩
instance : Zr Tryz.prog 170 (Value.int IntKind.i64 0) := ⟨Tryz.zeroValue170⟩
instance : Ag Tryz.prog 171 false := ⟨fun w => ag_of Tryz.underlying171 rfl w⟩
instance : Sz Tryz.prog 171 1 := ⟨Tryz.sizeOf171⟩
instance : Zr Tryz.prog 171 (Value.tuple #[Value.int IntKind.i64 0, Value.int IntKind.i64 0]) := ⟨Tryz.zeroValue171⟩
instance : Ag Tryz.prog 172 false := ⟨fun w => ag_of Tryz.underlying172 rfl w⟩
instance : Sz Tryz.prog 172 1 := ⟨Tryz.sizeOf172⟩
instance : Zr Tryz.prog 172 (Value.nilFunc) := ⟨Tryz.zeroValue172⟩
instance : Ag Tryz.prog 173 false := ⟨fun w => ag_of Tryz.underlying173 rfl w⟩
instance : Sz Tryz.prog 173 1 := ⟨Tryz.sizeOf173⟩
instance : Zr Tryz.prog 173 (Value.nilFunc) := ⟨Tryz.zeroValue173⟩
instance : Ag Tryz.prog 174 false := ⟨fun w => ag_of Tryz.underlying174 rfl w⟩
instance : Sz Tryz.prog 174 1 := ⟨Tryz.sizeOf174⟩
instance : Zr Tryz.prog 174 (Value.nilFunc) := ⟨Tryz.zeroValue174⟩
instance : Ag Tryz.prog 175 false := ⟨fun w => ag_of Tryz.underlying175 rfl w⟩
instance : Sz Tryz.prog 175 1 := ⟨Tryz.sizeOf175⟩
instance : Zr Tryz.prog 175 (Value.nilFunc) := ⟨Tryz.zeroValue175⟩
instance : Ag Tryz.prog 176 false := ⟨fun w => ag_of Tryz.underlying176 rfl w⟩
instance : Sz Tryz.prog 176 1 := ⟨Tryz.sizeOf176⟩
instance : Zr Tryz.prog 176 (Value.nilFunc) := ⟨Tryz.zeroValue176⟩
instance : Und Tryz.prog 177 (TypeDesc.int IntKind.u64) := ⟨Tryz.underlying177⟩
instance : Ag Tryz.prog 177 false := ⟨fun w => ag_of Tryz.underlying177 rfl w⟩
instance : Sz Tryz.prog 177 1 := ⟨Tryz.sizeOf177⟩
instance : Zr Tryz.prog 177 (Value.int IntKind.u64 0) := ⟨Tryz.zeroValue177⟩
instance : Ag Tryz.prog 178 false := ⟨fun w => ag_of Tryz.underlying178 rfl w⟩
instance : Sz Tryz.prog 178 1 := ⟨Tryz.sizeOf178⟩
instance : Zr Tryz.prog 178 (Value.nilFunc) := ⟨Tryz.zeroValue178⟩
instance : Ag Tryz.prog 179 false := ⟨fun w => ag_of Tryz.underlying179 rfl w⟩
instance : Sz Tryz.prog 179 1 := ⟨Tryz.sizeOf179⟩
instance : Zr Tryz.prog 179 (Value.nilFunc) := ⟨Tryz.zeroValue179⟩
instance : Ag Tryz.prog 180 false := ⟨fun w => ag_of Tryz.underlying180 rfl w⟩
instance : Sz Tryz.prog 180 1 := ⟨Tryz.sizeOf180⟩
instance : Zr Tryz.prog 180 (Value.nilFunc) := ⟨Tryz.zeroValue180⟩
instance : Ag Tryz.prog 181 false := ⟨fun w => ag_of Tryz.underlying181 rfl w⟩
instance : Sz Tryz.prog 181 1 := ⟨Tryz.sizeOf181⟩
instance : Zr Tryz.prog 181 (Value.nilFunc) := ⟨Tryz.zeroValue181⟩
instance : Und Tryz.prog 182 (TypeDesc.pointer 177) := ⟨Tryz.underlying182⟩
instance : Ag Tryz.prog 182 false := ⟨fun w => ag_of Tryz.underlying182 rfl w⟩
instance : Sz Tryz.prog 182 1 := ⟨Tryz.sizeOf182⟩
instance : Zr Tryz.prog 182 (Value.pointer none) := ⟨Tryz.zeroValue182⟩
instance : Ag Tryz.prog 183 false := ⟨fun w => ag_of Tryz.underlying183 rfl w⟩
instance : Sz Tryz.prog 183 1 := ⟨Tryz.sizeOf183⟩
instance : Zr Tryz.prog 183 (Value.nilFunc) := ⟨Tryz.zeroValue183⟩
instance : Ag Tryz.prog 184 false := ⟨fun w => ag_of Tryz.underlying184 rfl w⟩
instance : Sz Tryz.prog 184 1 := ⟨Tryz.sizeOf184⟩
instance : Zr Tryz.prog 184 (Value.nilFunc) := ⟨Tryz.zeroValue184⟩
instance : Ag Tryz.prog 185 true := ⟨fun w => ag_of Tryz.underlying185 rfl w⟩
instance : Sz Tryz.prog 185 4 := ⟨Tryz.sizeOf185⟩
instance : Zr Tryz.prog 185 (Value.agg #[Value.pointer none, Value.pointer none, Value.pointer none, Value.string { data := #[] }]) := ⟨Tryz.zeroValue185⟩
instance : Fo Tryz.prog 185 0 0 := ⟨fun w b o => by simp [go_sem]⟩
instance : Fo Tryz.prog 185 1 1 := ⟨fun w b o => by simp [go_sem]⟩
instance : Fo Tryz.prog 185 2 2 := ⟨fun w b o => by simp [go_sem]⟩
instance : Fo Tryz.prog 185 3 3 := ⟨fun w b o => by simp [go_sem]⟩
instance : Bld Tryz.prog 185 [Value.pointer none, Value.pointer none, Value.pointer none, Value.string { data := #[] }] [(0, 1), (1, 1), (2, 1), (3, 1)] := bld_struct Tryz.underlying185 Tryz.zeroValue185 fun w => by simp [go_sem]
instance : Ag Tryz.prog 186 true := ⟨fun w => ag_of Tryz.underlying186 rfl w⟩
instance : Sz Tryz.prog 186 4 := ⟨Tryz.sizeOf186⟩
instance : Zr Tryz.prog 186 (Value.agg #[Value.pointer none, Value.pointer none, Value.pointer none, Value.string { data := #[] }]) := ⟨Tryz.zeroValue186⟩
instance : Fo Tryz.prog 186 0 0 := ⟨fun w b o => by simp [go_sem]⟩
instance : Fo Tryz.prog 186 1 1 := ⟨fun w b o => by simp [go_sem]⟩
instance : Fo Tryz.prog 186 2 2 := ⟨fun w b o => by simp [go_sem]⟩
instance : Fo Tryz.prog 186 3 3 := ⟨fun w b o => by simp [go_sem]⟩
instance : Bld Tryz.prog 186 [Value.pointer none, Value.pointer none, Value.pointer none, Value.string { data := #[] }] [(0, 1), (1, 1), (2, 1), (3, 1)] := bld_struct Tryz.underlying186 Tryz.zeroValue186 fun w => by simp [go_sem]
instance : Und Tryz.prog 187 (TypeDesc.array 0 16) := ⟨Tryz.underlying187⟩
instance : Ag Tryz.prog 187 true := ⟨fun w => ag_of Tryz.underlying187 rfl w⟩
instance : Sz Tryz.prog 187 0 := ⟨Tryz.sizeOf187⟩
instance : Zr Tryz.prog 187 (Value.agg #[]) := ⟨Tryz.zeroValue187⟩
instance : Ag Tryz.prog 188 true := ⟨fun w => ag_of Tryz.underlying188 rfl w⟩
instance : Sz Tryz.prog 188 0 := ⟨Tryz.sizeOf188⟩
instance : Zr Tryz.prog 188 (Value.agg #[]) := ⟨Tryz.zeroValue188⟩
instance : Ag Tryz.prog 189 true := ⟨fun w => ag_of Tryz.underlying189 rfl w⟩
instance : Sz Tryz.prog 189 0 := ⟨Tryz.sizeOf189⟩
instance : Zr Tryz.prog 189 (Value.agg #[]) := ⟨Tryz.zeroValue189⟩
instance : Und Tryz.prog 190 (TypeDesc.int IntKind.u8) := ⟨Tryz.underlying190⟩
instance : Ag Tryz.prog 190 false := ⟨fun w => ag_of Tryz.underlying190 rfl w⟩
instance : Sz Tryz.prog 190 1 := ⟨Tryz.sizeOf190⟩
instance : Zr Tryz.prog 190 (Value.int IntKind.u8 0) := ⟨Tryz.zeroValue190⟩
instance : Und Tryz.prog 191 (TypeDesc.int IntKind.u8) := ⟨Tryz.underlying191⟩
instance : Ag Tryz.prog 191 false := ⟨fun w => ag_of Tryz.underlying191 rfl w⟩
instance : Sz Tryz.prog 191 1 := ⟨Tryz.sizeOf191⟩
instance : Zr Tryz.prog 191 (Value.int IntKind.u8 0) := ⟨Tryz.zeroValue191⟩
instance : Ag Tryz.prog 192 false := ⟨fun w => ag_of Tryz.underlying192 rfl w⟩
instance : Sz Tryz.prog 192 1 := ⟨Tryz.sizeOf192⟩
instance : Zr Tryz.prog 192 (Value.nilFunc) := ⟨Tryz.zeroValue192⟩
instance : Und Tryz.prog 193 (TypeDesc.pointer 5) := ⟨Tryz.underlying193⟩
instance : Ag Tryz.prog 193 false := ⟨fun w => ag_of Tryz.underlying193 rfl w⟩
instance : Sz Tryz.prog 193 1 := ⟨Tryz.sizeOf193⟩
instance : Zr Tryz.prog 193 (Value.pointer none) := ⟨Tryz.zeroValue193⟩
instance : Und Tryz.prog 194 (TypeDesc.int IntKind.i32) := ⟨Tryz.underlying194⟩
instance : Ag Tryz.prog 194 false := ⟨fun w => ag_of Tryz.underlying194 rfl w⟩
instance : Sz Tryz.prog 194 1 := ⟨Tryz.sizeOf194⟩
instance : Zr Tryz.prog 194 (Value.int IntKind.i32 0) := ⟨Tryz.zeroValue194⟩
instance : Und Tryz.prog 195 (TypeDesc.int IntKind.i32) := ⟨Tryz.underlying195⟩
instance : Ag Tryz.prog 195 false := ⟨fun w => ag_of Tryz.underlying195 rfl w⟩
instance : Sz Tryz.prog 195 1 := ⟨Tryz.sizeOf195⟩
instance : Zr Tryz.prog 195 (Value.int IntKind.i32 0) := ⟨Tryz.zeroValue195⟩
instance : Ag Tryz.prog 196 true := ⟨fun w => ag_of Tryz.underlying196 rfl w⟩
instance : Sz Tryz.prog 196 11 := ⟨Tryz.sizeOf196⟩
instance : Zr Tryz.prog 196 (Value.agg   #[Value.int IntKind.u64 0, Value.int IntKind.u64 0, Value.int IntKind.u32 0, Value.int IntKind.u8 0,     Value.int IntKind.u8 0, Value.int IntKind.u8 0, Value.int IntKind.u8 0, Value.nilFunc, Value.pointer none,     Value.int IntKind.i32 0, Value.int IntKind.i32 0]) := ⟨Tryz.zeroValue196⟩
instance : Fo Tryz.prog 196 0 0 := ⟨fun w b o => by simp [go_sem]⟩
instance : Fo Tryz.prog 196 1 1 := ⟨fun w b o => by simp [go_sem]⟩
instance : Fo Tryz.prog 196 2 2 := ⟨fun w b o => by simp [go_sem]⟩
instance : Fo Tryz.prog 196 3 3 := ⟨fun w b o => by simp [go_sem]⟩
instance : Fo Tryz.prog 196 4 4 := ⟨fun w b o => by simp [go_sem]⟩
instance : Fo Tryz.prog 196 5 5 := ⟨fun w b o => by simp [go_sem]⟩
instance : Fo Tryz.prog 196 6 6 := ⟨fun w b o => by simp [go_sem]⟩
instance : Fo Tryz.prog 196 7 7 := ⟨fun w b o => by simp [go_sem]⟩
instance : Fo Tryz.prog 196 8 8 := ⟨fun w b o => by simp [go_sem]⟩
instance : Fo Tryz.prog 196 9 9 := ⟨fun w b o => by simp [go_sem]⟩
instance : Fo Tryz.prog 196 10 10 := ⟨fun w b o => by simp [go_sem]⟩
instance : Bld Tryz.prog 196 [Value.int IntKind.u64 0, Value.int IntKind.u64 0, Value.int IntKind.u32 0, Value.int IntKind.u8 0, Value.int IntKind.u8 0, Value.int IntKind.u8 0, Value.int IntKind.u8 0, Value.nilFunc, Value.pointer none, Value.int IntKind.i32 0, Value.int IntKind.i32 0] [(0, 1), (1, 1), (2, 1), (3, 1), (4, 1), (5, 1), (6, 1), (7, 1), (8, 1), (9, 1), (10, 1)] := bld_struct Tryz.underlying196 Tryz.zeroValue196 fun w => by simp [go_sem]
instance : Ag Tryz.prog 197 true := ⟨fun w => ag_of Tryz.underlying197 rfl w⟩
instance : Sz Tryz.prog 197 11 := ⟨Tryz.sizeOf197⟩
instance : Zr Tryz.prog 197 (Value.agg   #[Value.int IntKind.u64 0, Value.int IntKind.u64 0, Value.int IntKind.u32 0, Value.int IntKind.u8 0,     Value.int IntKind.u8 0, Value.int IntKind.u8 0, Value.int IntKind.u8 0, Value.nilFunc, Value.pointer none,     Value.int IntKind.i32 0, Value.int IntKind.i32 0]) := ⟨Tryz.zeroValue197⟩
instance : Fo Tryz.prog 197 0 0 := ⟨fun w b o => by simp [go_sem]⟩
instance : Fo Tryz.prog 197 1 1 := ⟨fun w b o => by simp [go_sem]⟩
instance : Fo Tryz.prog 197 2 2 := ⟨fun w b o => by simp [go_sem]⟩
instance : Fo Tryz.prog 197 3 3 := ⟨fun w b o => by simp [go_sem]⟩
instance : Fo Tryz.prog 197 4 4 := ⟨fun w b o => by simp [go_sem]⟩
instance : Fo Tryz.prog 197 5 5 := ⟨fun w b o => by simp [go_sem]⟩
instance : Fo Tryz.prog 197 6 6 := ⟨fun w b o => by simp [go_sem]⟩
instance : Fo Tryz.prog 197 7 7 := ⟨fun w b o => by simp [go_sem]⟩
instance : Fo Tryz.prog 197 8 8 := ⟨fun w b o => by simp [go_sem]⟩
instance : Fo Tryz.prog 197 9 9 := ⟨fun w b o => by simp [go_sem]⟩
instance : Fo Tryz.prog 197 10 10 := ⟨fun w b o => by simp [go_sem]⟩
instance : Bld Tryz.prog 197 [Value.int IntKind.u64 0, Value.int IntKind.u64 0, Value.int IntKind.u32 0, Value.int IntKind.u8 0, Value.int IntKind.u8 0, Value.int IntKind.u8 0, Value.int IntKind.u8 0, Value.nilFunc, Value.pointer none, Value.int IntKind.i32 0, Value.int IntKind.i32 0] [(0, 1), (1, 1), (2, 1), (3, 1), (4, 1), (5, 1), (6, 1), (7, 1), (8, 1), (9, 1), (10, 1)] := bld_struct Tryz.underlying197 Tryz.zeroValue197 fun w => by simp [go_sem]
instance : Ag Tryz.prog 198 true := ⟨fun w => ag_of Tryz.underlying198 rfl w⟩
instance : Sz Tryz.prog 198 2 := ⟨Tryz.sizeOf198⟩
instance : Zr Tryz.prog 198 (Value.agg #[Value.string { data := #[] }, Value.int IntKind.u8 0]) := ⟨Tryz.zeroValue198⟩
instance : Fo Tryz.prog 198 0 0 := ⟨fun w b o => by simp [go_sem]⟩
instance : Fo Tryz.prog 198 1 1 := ⟨fun w b o => by simp [go_sem]⟩
instance : Bld Tryz.prog 198 [Value.string { data := #[] }, Value.int IntKind.u8 0] [(0, 1), (1, 1)] := bld_struct Tryz.underlying198 Tryz.zeroValue198 fun w => by simp [go_sem]
instance : Ag Tryz.prog 199 true := ⟨fun w => ag_of Tryz.underlying199 rfl w⟩
instance : Sz Tryz.prog 199 2 := ⟨Tryz.sizeOf199⟩
instance : Zr Tryz.prog 199 (Value.agg #[Value.string { data := #[] }, Value.int IntKind.u8 0]) := ⟨Tryz.zeroValue199⟩
instance : Fo Tryz.prog 199 0 0 := ⟨fun w b o => by simp [go_sem]⟩
instance : Fo Tryz.prog 199 1 1 := ⟨fun w b o => by simp [go_sem]⟩
instance : Bld Tryz.prog 199 [Value.string { data := #[] }, Value.int IntKind.u8 0] [(0, 1), (1, 1)] := bld_struct Tryz.underlying199 Tryz.zeroValue199 fun w => by simp [go_sem]
instance : Fun_ Tryz.prog 2 := ⟨Tryz.call2⟩
instance : Fun_ Tryz.prog 3 := ⟨Tryz.call3⟩
instance : Fun_ Tryz.prog 4 := ⟨Tryz.call4⟩
instance : Fun_ Tryz.prog 5 := ⟨Tryz.call5⟩
instance : Fun_ Tryz.prog 6 := ⟨Tryz.call6⟩
instance : Fun_ Tryz.prog 7 := ⟨Tryz.call7⟩
instance : Fun_ Tryz.prog 8 := ⟨Tryz.call8⟩
instance : Fun_ Tryz.prog 9 := ⟨Tryz.call9⟩
instance : Fun_ Tryz.prog 10 := ⟨Tryz.call10⟩
instance : Fun_ Tryz.prog 11 := ⟨Tryz.call11⟩
instance : Fun_ Tryz.prog 12 := ⟨Tryz.call12⟩
instance : Fun_ Tryz.prog 13 := ⟨Tryz.call13⟩
instance : Fun_ Tryz.prog 14 := ⟨Tryz.call14⟩
instance : Fun_ Tryz.prog 15 := ⟨Tryz.call15⟩
instance : Fun_ Tryz.prog 16 := ⟨Tryz.call16⟩
instance : Fun_ Tryz.prog 17 := ⟨Tryz.call17⟩
instance : Fun_ Tryz.prog 18 := ⟨Tryz.call18⟩
instance : Fun_ Tryz.prog 19 := ⟨Tryz.call19⟩
instance : Fun_ Tryz.prog 20 := ⟨Tryz.call20⟩
instance : Fun_ Tryz.prog 21 := ⟨Tryz.call21⟩
instance : Fun_ Tryz.prog 22 := ⟨Tryz.call22⟩
instance : Fun_ Tryz.prog 23 := ⟨Tryz.call23⟩
instance : Fun_ Tryz.prog 24 := ⟨Tryz.call24⟩
instance : Fun_ Tryz.prog 25 := ⟨Tryz.call25⟩
instance : Fun_ Tryz.prog 26 := ⟨Tryz.call26⟩
instance : Fun_ Tryz.prog 27 := ⟨Tryz.call27⟩
instance : Fun_ Tryz.prog 28 := ⟨Tryz.call28⟩
instance : Fun_ Tryz.prog 29 := ⟨Tryz.call29⟩
instance : Fun_ Tryz.prog 30 := ⟨Tryz.call30⟩
instance : Fun_ Tryz.prog 31 := ⟨Tryz.call31⟩
instance : Fun_ Tryz.prog 32 := ⟨Tryz.call32⟩
instance : Fun_ Tryz.prog 33 := ⟨Tryz.call33⟩
instance : Fun_ Tryz.prog 34 := ⟨Tryz.call34⟩
instance : Fun_ Tryz.prog 35 := ⟨Tryz.call35⟩
instance : Fun_ Tryz.prog 36 := ⟨Tryz.call36⟩
instance : Fun_ Tryz.prog 37 := ⟨Tryz.call37⟩
instance : Fun_ Tryz.prog 38 := ⟨Tryz.call38⟩
instance : Fun_ Tryz.prog 39 := ⟨Tryz.call39⟩
instance : Fun_ Tryz.prog 40 := ⟨Tryz.call40⟩
instance : Fun_ Tryz.prog 41 := ⟨Tryz.call41⟩
instance : Fun_ Tryz.prog 42 := ⟨Tryz.call42⟩
instance : Fun_ Tryz.prog 43 := ⟨Tryz.call43⟩
instance : Fun_ Tryz.prog 44 := ⟨Tryz.call44⟩
instance : Fun_ Tryz.prog 45 := ⟨Tryz.call45⟩
instance : Fun_ Tryz.prog 46 := ⟨Tryz.call46⟩
instance : Fun_ Tryz.prog 47 := ⟨Tryz.call47⟩
instance : Fun_ Tryz.prog 48 := ⟨Tryz.call48⟩
instance : Fun_ Tryz.prog 49 := ⟨Tryz.call49⟩
instance : Fun_ Tryz.prog 50 := ⟨Tryz.call50⟩
instance : Fun_ Tryz.prog 51 := ⟨Tryz.call51⟩
instance : Fun_ Tryz.prog 52 := ⟨Tryz.call52⟩
instance : Fun_ Tryz.prog 53 := ⟨Tryz.call53⟩
instance : Fun_ Tryz.prog 54 := ⟨Tryz.call54⟩
instance : Fun_ Tryz.prog 55 := ⟨Tryz.call55⟩
instance : Fun_ Tryz.prog 56 := ⟨Tryz.call56⟩
instance : Fun_ Tryz.prog 57 := ⟨Tryz.call57⟩
instance : Fun_ Tryz.prog 58 := ⟨Tryz.call58⟩
instance : Fun_ Tryz.prog 59 := ⟨Tryz.call59⟩
instance : Fun_ Tryz.prog 60 := ⟨Tryz.call60⟩
instance : Fun_ Tryz.prog 61 := ⟨Tryz.call61⟩
instance : Fun_ Tryz.prog 62 := ⟨Tryz.call62⟩
instance : Fun_ Tryz.prog 63 := ⟨Tryz.call63⟩
instance : Fun_ Tryz.prog 64 := ⟨Tryz.call64⟩
instance : Fun_ Tryz.prog 65 := ⟨Tryz.call65⟩
instance : Fun_ Tryz.prog 66 := ⟨Tryz.call66⟩
instance : Fun_ Tryz.prog 67 := ⟨Tryz.call67⟩
instance : Fun_ Tryz.prog 68 := ⟨Tryz.call68⟩
instance : Fun_ Tryz.prog 69 := ⟨Tryz.call69⟩
instance : Fun_ Tryz.prog 70 := ⟨Tryz.call70⟩
instance : Fun_ Tryz.prog 71 := ⟨Tryz.call71⟩
instance : Fun_ Tryz.prog 72 := ⟨Tryz.call72⟩
instance : Fun_ Tryz.prog 73 := ⟨Tryz.call73⟩
instance : Fun_ Tryz.prog 74 := ⟨Tryz.call74⟩
instance : Fun_ Tryz.prog 75 := ⟨Tryz.call75⟩
instance : Fun_ Tryz.prog 76 := ⟨Tryz.call76⟩
instance : Fun_ Tryz.prog 77 := ⟨Tryz.call77⟩
instance : Fun_ Tryz.prog 78 := ⟨Tryz.call78⟩
instance : Fun_ Tryz.prog 79 := ⟨Tryz.call79⟩
instance : Fun_ Tryz.prog 80 := ⟨Tryz.call80⟩
instance : Fun_ Tryz.prog 81 := ⟨Tryz.call81⟩
instance : Fun_ Tryz.prog 82 := ⟨Tryz.call82⟩
instance : Fun_ Tryz.prog 83 := ⟨Tryz.call83⟩
instance : Fun_ Tryz.prog 84 := ⟨Tryz.call84⟩
instance : Fun_ Tryz.prog 85 := ⟨Tryz.call85⟩
instance : Fun_ Tryz.prog 86 := ⟨Tryz.call86⟩
instance : Fun_ Tryz.prog 87 := ⟨Tryz.call87⟩
instance : Fun_ Tryz.prog 88 := ⟨Tryz.call88⟩
instance : Fun_ Tryz.prog 89 := ⟨Tryz.call89⟩
instance : Fun_ Tryz.prog 90 := ⟨Tryz.call90⟩
instance : Fun_ Tryz.prog 91 := ⟨Tryz.call91⟩
instance : Fun_ Tryz.prog 92 := ⟨Tryz.call92⟩
instance : Fun_ Tryz.prog 93 := ⟨Tryz.call93⟩
instance : Fun_ Tryz.prog 94 := ⟨Tryz.call94⟩
instance : Fun_ Tryz.prog 95 := ⟨Tryz.call95⟩
instance : Fun_ Tryz.prog 96 := ⟨Tryz.call96⟩
instance : Fun_ Tryz.prog 98 := ⟨Tryz.call98⟩
instance : Fun_ Tryz.prog 99 := ⟨Tryz.call99⟩
instance : Fun_ Tryz.prog 100 := ⟨Tryz.call100⟩
instance : Fun_ Tryz.prog 104 := ⟨Tryz.call104⟩
instance : Fun_ Tryz.prog 105 := ⟨Tryz.call105⟩
instance : Fun_ Tryz.prog 106 := ⟨Tryz.call106⟩
instance : Fun_ Tryz.prog 116 := ⟨Tryz.call116⟩
instance : Fun_ Tryz.prog 117 := ⟨Tryz.call117⟩
instance : Fun_ Tryz.prog 118 := ⟨Tryz.call118⟩
instance : Fun_ Tryz.prog 119 := ⟨Tryz.call119⟩
instance : Fun_ Tryz.prog 120 := ⟨Tryz.call120⟩
instance : Fun_ Tryz.prog 121 := ⟨Tryz.call121⟩
instance : Fun_ Tryz.prog 122 := ⟨Tryz.call122⟩
instance : Fun_ Tryz.prog 123 := ⟨Tryz.call123⟩
instance : Fun_ Tryz.prog 124 := ⟨Tryz.call124⟩
instance : Fun_ Tryz.prog 125 := ⟨Tryz.call125⟩
instance : Fun_ Tryz.prog 126 := ⟨Tryz.call126⟩
instance : Fun_ Tryz.prog 127 := ⟨Tryz.call127⟩
instance : Fun_ Tryz.prog 128 := ⟨Tryz.call128⟩
instance : Fun_ Tryz.prog 129 := ⟨Tryz.call129⟩
instance : Fun_ Tryz.prog 130 := ⟨Tryz.call130⟩
instance : Fun_ Tryz.prog 131 := ⟨Tryz.call131⟩
instance : Fun_ Tryz.prog 132 := ⟨Tryz.call132⟩
end Go.Proofs.YtbgjelhefhcnpaaGreat
