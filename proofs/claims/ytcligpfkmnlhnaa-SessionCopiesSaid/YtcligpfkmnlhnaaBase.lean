/- The numbers of this seat's functions and types, by name; that the program's calls go where they say.
   Conditions: none. -/
import Derived.Test.YtcligpfkmnlhnaaCore
import Derived.Test.YtcligpfkmnlhnaaProg
namespace Go.Sh
open Go
set_option linter.unusedSimpArgs false
noncomputable abbrev PP : Program := Go.Proofs.Try.prog
abbrev n_gosem_cut_init : Nat := 2
abbrev n_cellplanelaw26_SessionReplies : Nat := 3
abbrev n_cellplanelaw26_SessionOnce : Nat := 4
abbrev n_cellplanelaw26_SessionApart : Nat := 5
abbrev n_cellplanelaw26_SessionApplies : Nat := 6
abbrev n_cellplanelaw26_SessionFolds : Nat := 7
abbrev n_cellplanelaw26_SessionCopies : Nat := 8
abbrev n_cellplanelaw26_awake : Nat := 9
abbrev n_cellplanemill_Light : Nat := 10
abbrev n_cellplanemill_History : Nat := 11
abbrev n_session_New : Nat := 12
abbrev n_session_Table_Find : Nat := 13
abbrev n_session_Table_Apply : Nat := 14
abbrev n_cellplanemill_Few : Nat := 15
abbrev n_session_Fold : Nat := 16
abbrev n_session_Table_Last : Nat := 17
abbrev n_cellplanemill_Short : Nat := 18
abbrev n_session_Same : Nat := 19
abbrev n_cellplaneref26_Fold : Nat := 20
abbrev n_cellplaneref26_Table_Apply : Nat := 21
abbrev n_cellplanelaw26_same : Nat := 22
abbrev n_cellplanemill_Mod : Nat := 23
abbrev n_cellplaneref26_Same : Nat := 24
abbrev n_session_Table_Copy : Nat := 25
abbrev n_cellplaneref28_New : Nat := 26
abbrev n_cellplanemill_Grow : Nat := 27
abbrev n_cellplanemill_New : Nat := 28
abbrev n_store_Valid : Nat := 29
abbrev n_cellplaneref24_Valid : Nat := 30
abbrev n_cellplaneref26_Table_Find : Nat := 31
abbrev n_cellplaneref26_Table_Last : Nat := 32
abbrev n_cellplaneref24_SameInts : Nat := 33
abbrev n_session_Table_Lasts : Nat := 34
abbrev n_cellplaneref26_Table_Lasts : Nat := 35
abbrev n_cellplanemill_Tape_More : Nat := 36
abbrev n_cellplanemill_Tape_Next : Nat := 37
abbrev n_cellplaneref28_Copy_Apply : Nat := 38
abbrev n_cellplanemill_Change : Nat := 39
abbrev n_store_isKey : Nat := 40
abbrev n_store_isValue : Nat := 41
abbrev n_cellplaneref24_in : Nat := 42
abbrev n_cellplaneref24_Key : Nat := 43
abbrev n_cellplaneref24_Value : Nat := 44
abbrev n_cellplaneref28_Copy_Epoch : Nat := 45
abbrev n_cellplaneref25_Queue_Copy : Nat := 46
abbrev n_cellplaneref24_Store_Apply : Nat := 47
abbrev n_cellplaneref25_Queue_Apply : Nat := 48
abbrev n_cellplanemill_Tape_Range : Nat := 49
abbrev n_cellplanemill_Tape_Text : Nat := 50
abbrev n_cellplaneref24_Store_find : Nat := 51
abbrev n_cellplaneref25_Queue_at : Nat := 52
abbrev n_cellplaneref25_Queue_drop : Nat := 53
abbrev t_tuple : Nat := 0
abbrev t_func : Nat := 1
abbrev t_i64 : Nat := 2
abbrev t_i64_2 : Nat := 3
abbrev t_bool : Nat := 4
abbrev t_u8 : Nat := 5
abbrev t_internal_abi_BoundsErrorCode : Nat := 6
abbrev t_struct : Nat := 7
abbrev t_runtime_boundsError : Nat := 8
abbrev t_string : Nat := 9
abbrev t_runtime_errorString : Nat := 10
abbrev t_runtime_plainError : Nat := 11
abbrev t_u64 : Nat := 12
abbrev t_struct_2 : Nat := 13
abbrev t_runtime_errorAddressString : Nat := 14
abbrev t_p_runtime_TypeAssertionError : Nat := 15
abbrev t_p_runtime_PanicNilError : Nat := 16
abbrev t_p_internal_abi_Type : Nat := 17
abbrev t_struct_3 : Nat := 18
abbrev t_internal_runtime_maps_unhashableTypeError : Nat := 19
abbrev t_interface : Nat := 20
abbrev t_i32 : Nat := 21
abbrev t_sl_i64 : Nat := 22
abbrev t_func_2 : Nat := 23
abbrev t_func_3 : Nat := 24
abbrev t_sl_api_Change : Nat := 25
abbrev t_func_4 : Nat := 26
abbrev t_p_session_Table : Nat := 27
abbrev t_func_5 : Nat := 28
abbrev t_struct_4 : Nat := 29
abbrev t_api_Change : Nat := 30
abbrev t_api_Errno : Nat := 31
abbrev t_struct_5 : Nat := 32
abbrev t_api_Reply : Nat := 33
abbrev t_tuple_2 : Nat := 34
abbrev t_func_6 : Nat := 35
abbrev t_func_7 : Nat := 36
abbrev t_func_8 : Nat := 37
abbrev t_sl_sl_api_Change : Nat := 38
abbrev t_tuple_3 : Nat := 39
abbrev t_func_9 : Nat := 40
abbrev t_ar9_i64 : Nat := 41
abbrev t_func_10 : Nat := 42
abbrev t_func_11 : Nat := 43
abbrev t_func_12 : Nat := 44
abbrev t_func_13 : Nat := 45
abbrev t_func_14 : Nat := 46
abbrev t_p_cellplaneref26_Table : Nat := 47
abbrev t_tuple_4 : Nat := 48
abbrev t_func_15 : Nat := 49
abbrev t_func_16 : Nat := 50
abbrev t_func_17 : Nat := 51
abbrev t_func_18 : Nat := 52
abbrev t_func_19 : Nat := 53
abbrev t_func_20 : Nat := 54
abbrev t_ar8_i64 : Nat := 55
abbrev t_ar8_api_Reply : Nat := 56
abbrev t_struct_6 : Nat := 57
abbrev t_cellplaneref26_Table : Nat := 58
abbrev t_func_21 : Nat := 59
abbrev t_p_cellplaneref28_Copy : Nat := 60
abbrev t_func_22 : Nat := 61
abbrev t_func_23 : Nat := 62
abbrev t_p_cellplanemill_Tape : Nat := 63
abbrev t_func_24 : Nat := 64
abbrev t_p_cellplaneref24_Store : Nat := 65
abbrev t_p_cellplaneref25_Queue : Nat := 66
abbrev t_p_cellplaneref27_Gate : Nat := 67
abbrev t_struct_7 : Nat := 68
abbrev t_cellplaneref28_Copy : Nat := 69
abbrev t_struct_8 : Nat := 70
abbrev t_session_record : Nat := 71
abbrev t_ar8_session_record : Nat := 72
abbrev t_struct_9 : Nat := 73
abbrev t_session_Table : Nat := 74
abbrev t_p_session_record : Nat := 75
abbrev t_func_25 : Nat := 76
abbrev t_func_26 : Nat := 77
abbrev t_sl_cellplaneref24_Cell : Nat := 78
abbrev t_struct_10 : Nat := 79
abbrev t_cellplaneref24_Store : Nat := 80
abbrev t_sl_api_Item : Nat := 81
abbrev t_sl_api_Lease : Nat := 82
abbrev t_struct_11 : Nat := 83
abbrev t_cellplaneref25_Queue : Nat := 84
abbrev t_sl_api_Window : Nat := 85
abbrev t_struct_12 : Nat := 86
abbrev t_cellplaneref27_Gate : Nat := 87
abbrev t_func_27 : Nat := 88
abbrev t_struct_13 : Nat := 89
abbrev t_cellplanemill_Tape : Nat := 90
abbrev t_func_28 : Nat := 91
abbrev t_func_29 : Nat := 92
abbrev t_func_30 : Nat := 93
abbrev t_func_31 : Nat := 94
abbrev t_sl_api_Errno : Nat := 95
abbrev t_func_32 : Nat := 96
abbrev t_struct_14 : Nat := 97
abbrev t_cellplaneref24_Cell : Nat := 98
abbrev t_struct_15 : Nat := 99
abbrev t_api_Item : Nat := 100
abbrev t_tuple_5 : Nat := 101
abbrev t_func_33 : Nat := 102
abbrev t_func_34 : Nat := 103
abbrev t_sl_u8 : Nat := 104
abbrev t_struct_16 : Nat := 105
abbrev t_api_Lease : Nat := 106
abbrev t_func_35 : Nat := 107
abbrev t_struct_17 : Nat := 108
abbrev t_runtime_TypeAssertionError : Nat := 109
abbrev t_ar0_p_runtime_PanicNilError : Nat := 110
abbrev t_struct_18 : Nat := 111
abbrev t_runtime_PanicNilError : Nat := 112
abbrev t_u32 : Nat := 113
abbrev t_internal_abi_TFlag : Nat := 114
abbrev t_internal_abi_Kind : Nat := 115
abbrev t_func_36 : Nat := 116
abbrev t_p_u8 : Nat := 117
abbrev t_internal_abi_NameOff : Nat := 118
abbrev t_internal_abi_TypeOff : Nat := 119
abbrev t_struct_19 : Nat := 120
abbrev t_internal_abi_Type : Nat := 121
abbrev t_struct_20 : Nat := 122
abbrev t_api_Window : Nat := 123
abbrev t_unsafePointer : Nat := 124
theorem strEq_iff {x y : ByteArray} : strEq x y = true ↔ x = y := by
  unfold strEq
  constructor
  · intro h
    have h1 := eq_of_beq h
    rw [ByteArray.toList_eq, ByteArray.toList_eq] at h1
    obtain ⟨⟨x⟩⟩ := x
    obtain ⟨⟨y⟩⟩ := y
    simpa using h1
  · rintro rfl; simp
structure G_struct where
  x : Int
  y : Int
  signed : Bool
  code : Int
def G_struct.cells (x : G_struct) : List Value := [.int .i64 x.x, .int .i64 x.y, .bool x.signed, .int .u8 x.code]
def G_struct.decL (l : List Value) (k : G_struct → Prop) : Prop := match l with
  | [.int .i64 vx, .int .i64 vy, .bool vsigned, .int .u8 vcode] => k ⟨vx, vy, vsigned, vcode⟩
  | _ => False
theorem G_struct.decL_spec {l : List Value} {k : G_struct → Prop} (h : G_struct.decL l k) : ∃ x : G_struct, l = x.cells ∧ k x := by
  unfold G_struct.decL at h
  split at h
  · exact ⟨_, rfl, h⟩
  · exact h.elim
def G_struct.decA (a : Array Value) (k : G_struct → Prop) : Prop := G_struct.decL a.toList k
theorem G_struct.decA_spec {a : Array Value} {k : G_struct → Prop} (h : G_struct.decA a k) : ∃ x : G_struct, a = List.toArray x.cells ∧ k x := by
  obtain ⟨x, e, h⟩ := G_struct.decL_spec h
  exact ⟨x, by rw [← e], h⟩
def G_struct.eqb (x y : G_struct) : Bool := (decide (x.x = y.x) && (decide (x.y = y.y) && ((x.signed == y.signed) && (decide (x.code = y.code) && true))))
theorem G_struct.eqb_iff {x y : G_struct} : G_struct.eqb x y = true ↔ x = y := by
  cases x; cases y; simp [G_struct.eqb, strEq_iff]
structure G_runtime_boundsError where
  x : Int
  y : Int
  signed : Bool
  code : Int
def G_runtime_boundsError.cells (x : G_runtime_boundsError) : List Value := [.int .i64 x.x, .int .i64 x.y, .bool x.signed, .int .u8 x.code]
def G_runtime_boundsError.decL (l : List Value) (k : G_runtime_boundsError → Prop) : Prop := match l with
  | [.int .i64 vx, .int .i64 vy, .bool vsigned, .int .u8 vcode] => k ⟨vx, vy, vsigned, vcode⟩
  | _ => False
theorem G_runtime_boundsError.decL_spec {l : List Value} {k : G_runtime_boundsError → Prop} (h : G_runtime_boundsError.decL l k) : ∃ x : G_runtime_boundsError, l = x.cells ∧ k x := by
  unfold G_runtime_boundsError.decL at h
  split at h
  · exact ⟨_, rfl, h⟩
  · exact h.elim
def G_runtime_boundsError.decA (a : Array Value) (k : G_runtime_boundsError → Prop) : Prop := G_runtime_boundsError.decL a.toList k
theorem G_runtime_boundsError.decA_spec {a : Array Value} {k : G_runtime_boundsError → Prop} (h : G_runtime_boundsError.decA a k) : ∃ x : G_runtime_boundsError, a = List.toArray x.cells ∧ k x := by
  obtain ⟨x, e, h⟩ := G_runtime_boundsError.decL_spec h
  exact ⟨x, by rw [← e], h⟩
def G_runtime_boundsError.eqb (x y : G_runtime_boundsError) : Bool := (decide (x.x = y.x) && (decide (x.y = y.y) && ((x.signed == y.signed) && (decide (x.code = y.code) && true))))
theorem G_runtime_boundsError.eqb_iff {x y : G_runtime_boundsError} : G_runtime_boundsError.eqb x y = true ↔ x = y := by
  cases x; cases y; simp [G_runtime_boundsError.eqb, strEq_iff]
structure G_struct_2 where
  msg : ByteArray
  addr : Int
def G_struct_2.cells (x : G_struct_2) : List Value := [.string x.msg, .int .u64 x.addr]
def G_struct_2.decL (l : List Value) (k : G_struct_2 → Prop) : Prop := match l with
  | [.string vmsg, .int .u64 vaddr] => k ⟨vmsg, vaddr⟩
  | _ => False
theorem G_struct_2.decL_spec {l : List Value} {k : G_struct_2 → Prop} (h : G_struct_2.decL l k) : ∃ x : G_struct_2, l = x.cells ∧ k x := by
  unfold G_struct_2.decL at h
  split at h
  · exact ⟨_, rfl, h⟩
  · exact h.elim
def G_struct_2.decA (a : Array Value) (k : G_struct_2 → Prop) : Prop := G_struct_2.decL a.toList k
theorem G_struct_2.decA_spec {a : Array Value} {k : G_struct_2 → Prop} (h : G_struct_2.decA a k) : ∃ x : G_struct_2, a = List.toArray x.cells ∧ k x := by
  obtain ⟨x, e, h⟩ := G_struct_2.decL_spec h
  exact ⟨x, by rw [← e], h⟩
def G_struct_2.eqb (x y : G_struct_2) : Bool := (strEq x.msg y.msg && (decide (x.addr = y.addr) && true))
theorem G_struct_2.eqb_iff {x y : G_struct_2} : G_struct_2.eqb x y = true ↔ x = y := by
  cases x; cases y; simp [G_struct_2.eqb, strEq_iff]
structure G_runtime_errorAddressString where
  msg : ByteArray
  addr : Int
def G_runtime_errorAddressString.cells (x : G_runtime_errorAddressString) : List Value := [.string x.msg, .int .u64 x.addr]
def G_runtime_errorAddressString.decL (l : List Value) (k : G_runtime_errorAddressString → Prop) : Prop := match l with
  | [.string vmsg, .int .u64 vaddr] => k ⟨vmsg, vaddr⟩
  | _ => False
theorem G_runtime_errorAddressString.decL_spec {l : List Value} {k : G_runtime_errorAddressString → Prop} (h : G_runtime_errorAddressString.decL l k) : ∃ x : G_runtime_errorAddressString, l = x.cells ∧ k x := by
  unfold G_runtime_errorAddressString.decL at h
  split at h
  · exact ⟨_, rfl, h⟩
  · exact h.elim
def G_runtime_errorAddressString.decA (a : Array Value) (k : G_runtime_errorAddressString → Prop) : Prop := G_runtime_errorAddressString.decL a.toList k
theorem G_runtime_errorAddressString.decA_spec {a : Array Value} {k : G_runtime_errorAddressString → Prop} (h : G_runtime_errorAddressString.decA a k) : ∃ x : G_runtime_errorAddressString, a = List.toArray x.cells ∧ k x := by
  obtain ⟨x, e, h⟩ := G_runtime_errorAddressString.decL_spec h
  exact ⟨x, by rw [← e], h⟩
def G_runtime_errorAddressString.eqb (x y : G_runtime_errorAddressString) : Bool := (strEq x.msg y.msg && (decide (x.addr = y.addr) && true))
theorem G_runtime_errorAddressString.eqb_iff {x y : G_runtime_errorAddressString} : G_runtime_errorAddressString.eqb x y = true ↔ x = y := by
  cases x; cases y; simp [G_runtime_errorAddressString.eqb, strEq_iff]
structure G_struct_3 where
  typ : Option Addr
def G_struct_3.cells (x : G_struct_3) : List Value := [.pointer x.typ]
def G_struct_3.decL (l : List Value) (k : G_struct_3 → Prop) : Prop := match l with
  | [.pointer vtyp] => k ⟨vtyp⟩
  | _ => False
theorem G_struct_3.decL_spec {l : List Value} {k : G_struct_3 → Prop} (h : G_struct_3.decL l k) : ∃ x : G_struct_3, l = x.cells ∧ k x := by
  unfold G_struct_3.decL at h
  split at h
  · exact ⟨_, rfl, h⟩
  · exact h.elim
def G_struct_3.decA (a : Array Value) (k : G_struct_3 → Prop) : Prop := G_struct_3.decL a.toList k
theorem G_struct_3.decA_spec {a : Array Value} {k : G_struct_3 → Prop} (h : G_struct_3.decA a k) : ∃ x : G_struct_3, a = List.toArray x.cells ∧ k x := by
  obtain ⟨x, e, h⟩ := G_struct_3.decL_spec h
  exact ⟨x, by rw [← e], h⟩
structure G_internal_runtime_maps_unhashableTypeError where
  typ : Option Addr
def G_internal_runtime_maps_unhashableTypeError.cells (x : G_internal_runtime_maps_unhashableTypeError) : List Value := [.pointer x.typ]
def G_internal_runtime_maps_unhashableTypeError.decL (l : List Value) (k : G_internal_runtime_maps_unhashableTypeError → Prop) : Prop := match l with
  | [.pointer vtyp] => k ⟨vtyp⟩
  | _ => False
theorem G_internal_runtime_maps_unhashableTypeError.decL_spec {l : List Value} {k : G_internal_runtime_maps_unhashableTypeError → Prop} (h : G_internal_runtime_maps_unhashableTypeError.decL l k) : ∃ x : G_internal_runtime_maps_unhashableTypeError, l = x.cells ∧ k x := by
  unfold G_internal_runtime_maps_unhashableTypeError.decL at h
  split at h
  · exact ⟨_, rfl, h⟩
  · exact h.elim
def G_internal_runtime_maps_unhashableTypeError.decA (a : Array Value) (k : G_internal_runtime_maps_unhashableTypeError → Prop) : Prop := G_internal_runtime_maps_unhashableTypeError.decL a.toList k
theorem G_internal_runtime_maps_unhashableTypeError.decA_spec {a : Array Value} {k : G_internal_runtime_maps_unhashableTypeError → Prop} (h : G_internal_runtime_maps_unhashableTypeError.decA a k) : ∃ x : G_internal_runtime_maps_unhashableTypeError, a = List.toArray x.cells ∧ k x := by
  obtain ⟨x, e, h⟩ := G_internal_runtime_maps_unhashableTypeError.decL_spec h
  exact ⟨x, by rw [← e], h⟩
structure G_struct_4 where
  Epoch : Int
  Seq : Int
  Kind : Int
  Client : Int
  Number : Int
  Item : Int
  Key : ByteArray
  Value_ : ByteArray
def G_struct_4.cells (x : G_struct_4) : List Value := [.int .i64 x.Epoch, .int .i64 x.Seq, .int .i64 x.Kind, .int .i64 x.Client, .int .i64 x.Number, .int .i64 x.Item, .string x.Key, .string x.Value_]
def G_struct_4.decL (l : List Value) (k : G_struct_4 → Prop) : Prop := match l with
  | [.int .i64 vEpoch, .int .i64 vSeq, .int .i64 vKind, .int .i64 vClient, .int .i64 vNumber, .int .i64 vItem, .string vKey, .string vValue_] => k ⟨vEpoch, vSeq, vKind, vClient, vNumber, vItem, vKey, vValue_⟩
  | _ => False
theorem G_struct_4.decL_spec {l : List Value} {k : G_struct_4 → Prop} (h : G_struct_4.decL l k) : ∃ x : G_struct_4, l = x.cells ∧ k x := by
  unfold G_struct_4.decL at h
  split at h
  · exact ⟨_, rfl, h⟩
  · exact h.elim
def G_struct_4.decA (a : Array Value) (k : G_struct_4 → Prop) : Prop := G_struct_4.decL a.toList k
theorem G_struct_4.decA_spec {a : Array Value} {k : G_struct_4 → Prop} (h : G_struct_4.decA a k) : ∃ x : G_struct_4, a = List.toArray x.cells ∧ k x := by
  obtain ⟨x, e, h⟩ := G_struct_4.decL_spec h
  exact ⟨x, by rw [← e], h⟩
def G_struct_4.eqb (x y : G_struct_4) : Bool := (decide (x.Epoch = y.Epoch) && (decide (x.Seq = y.Seq) && (decide (x.Kind = y.Kind) && (decide (x.Client = y.Client) && (decide (x.Number = y.Number) && (decide (x.Item = y.Item) && (strEq x.Key y.Key && (strEq x.Value_ y.Value_ && true))))))))
theorem G_struct_4.eqb_iff {x y : G_struct_4} : G_struct_4.eqb x y = true ↔ x = y := by
  cases x; cases y; simp [G_struct_4.eqb, strEq_iff]
structure G_api_Change where
  Epoch : Int
  Seq : Int
  Kind : Int
  Client : Int
  Number : Int
  Item : Int
  Key : ByteArray
  Value_ : ByteArray
def G_api_Change.cells (x : G_api_Change) : List Value := [.int .i64 x.Epoch, .int .i64 x.Seq, .int .i64 x.Kind, .int .i64 x.Client, .int .i64 x.Number, .int .i64 x.Item, .string x.Key, .string x.Value_]
def G_api_Change.decL (l : List Value) (k : G_api_Change → Prop) : Prop := match l with
  | [.int .i64 vEpoch, .int .i64 vSeq, .int .i64 vKind, .int .i64 vClient, .int .i64 vNumber, .int .i64 vItem, .string vKey, .string vValue_] => k ⟨vEpoch, vSeq, vKind, vClient, vNumber, vItem, vKey, vValue_⟩
  | _ => False
theorem G_api_Change.decL_spec {l : List Value} {k : G_api_Change → Prop} (h : G_api_Change.decL l k) : ∃ x : G_api_Change, l = x.cells ∧ k x := by
  unfold G_api_Change.decL at h
  split at h
  · exact ⟨_, rfl, h⟩
  · exact h.elim
def G_api_Change.decA (a : Array Value) (k : G_api_Change → Prop) : Prop := G_api_Change.decL a.toList k
theorem G_api_Change.decA_spec {a : Array Value} {k : G_api_Change → Prop} (h : G_api_Change.decA a k) : ∃ x : G_api_Change, a = List.toArray x.cells ∧ k x := by
  obtain ⟨x, e, h⟩ := G_api_Change.decL_spec h
  exact ⟨x, by rw [← e], h⟩
def G_api_Change.eqb (x y : G_api_Change) : Bool := (decide (x.Epoch = y.Epoch) && (decide (x.Seq = y.Seq) && (decide (x.Kind = y.Kind) && (decide (x.Client = y.Client) && (decide (x.Number = y.Number) && (decide (x.Item = y.Item) && (strEq x.Key y.Key && (strEq x.Value_ y.Value_ && true))))))))
theorem G_api_Change.eqb_iff {x y : G_api_Change} : G_api_Change.eqb x y = true ↔ x = y := by
  cases x; cases y; simp [G_api_Change.eqb, strEq_iff]
structure G_struct_5 where
  Err : Int
  Seq : Int
  Item : Int
  Value_ : ByteArray
def G_struct_5.cells (x : G_struct_5) : List Value := [.int .i64 x.Err, .int .i64 x.Seq, .int .i64 x.Item, .string x.Value_]
def G_struct_5.decL (l : List Value) (k : G_struct_5 → Prop) : Prop := match l with
  | [.int .i64 vErr, .int .i64 vSeq, .int .i64 vItem, .string vValue_] => k ⟨vErr, vSeq, vItem, vValue_⟩
  | _ => False
theorem G_struct_5.decL_spec {l : List Value} {k : G_struct_5 → Prop} (h : G_struct_5.decL l k) : ∃ x : G_struct_5, l = x.cells ∧ k x := by
  unfold G_struct_5.decL at h
  split at h
  · exact ⟨_, rfl, h⟩
  · exact h.elim
def G_struct_5.decA (a : Array Value) (k : G_struct_5 → Prop) : Prop := G_struct_5.decL a.toList k
theorem G_struct_5.decA_spec {a : Array Value} {k : G_struct_5 → Prop} (h : G_struct_5.decA a k) : ∃ x : G_struct_5, a = List.toArray x.cells ∧ k x := by
  obtain ⟨x, e, h⟩ := G_struct_5.decL_spec h
  exact ⟨x, by rw [← e], h⟩
def G_struct_5.eqb (x y : G_struct_5) : Bool := (decide (x.Err = y.Err) && (decide (x.Seq = y.Seq) && (decide (x.Item = y.Item) && (strEq x.Value_ y.Value_ && true))))
theorem G_struct_5.eqb_iff {x y : G_struct_5} : G_struct_5.eqb x y = true ↔ x = y := by
  cases x; cases y; simp [G_struct_5.eqb, strEq_iff]
structure G_api_Reply where
  Err : Int
  Seq : Int
  Item : Int
  Value_ : ByteArray
def G_api_Reply.cells (x : G_api_Reply) : List Value := [.int .i64 x.Err, .int .i64 x.Seq, .int .i64 x.Item, .string x.Value_]
def G_api_Reply.decL (l : List Value) (k : G_api_Reply → Prop) : Prop := match l with
  | [.int .i64 vErr, .int .i64 vSeq, .int .i64 vItem, .string vValue_] => k ⟨vErr, vSeq, vItem, vValue_⟩
  | _ => False
theorem G_api_Reply.decL_spec {l : List Value} {k : G_api_Reply → Prop} (h : G_api_Reply.decL l k) : ∃ x : G_api_Reply, l = x.cells ∧ k x := by
  unfold G_api_Reply.decL at h
  split at h
  · exact ⟨_, rfl, h⟩
  · exact h.elim
def G_api_Reply.decA (a : Array Value) (k : G_api_Reply → Prop) : Prop := G_api_Reply.decL a.toList k
theorem G_api_Reply.decA_spec {a : Array Value} {k : G_api_Reply → Prop} (h : G_api_Reply.decA a k) : ∃ x : G_api_Reply, a = List.toArray x.cells ∧ k x := by
  obtain ⟨x, e, h⟩ := G_api_Reply.decL_spec h
  exact ⟨x, by rw [← e], h⟩
def G_api_Reply.eqb (x y : G_api_Reply) : Bool := (decide (x.Err = y.Err) && (decide (x.Seq = y.Seq) && (decide (x.Item = y.Item) && (strEq x.Value_ y.Value_ && true))))
theorem G_api_Reply.eqb_iff {x y : G_api_Reply} : G_api_Reply.eqb x y = true ↔ x = y := by
  cases x; cases y; simp [G_api_Reply.eqb, strEq_iff]
structure G_ar9_i64 where
  a0 : Int
  a1 : Int
  a2 : Int
  a3 : Int
  a4 : Int
  a5 : Int
  a6 : Int
  a7 : Int
  a8 : Int
def G_ar9_i64.cells (x : G_ar9_i64) : List Value := [.int .i64 x.a0, .int .i64 x.a1, .int .i64 x.a2, .int .i64 x.a3, .int .i64 x.a4, .int .i64 x.a5, .int .i64 x.a6, .int .i64 x.a7, .int .i64 x.a8]
def G_ar9_i64.decL (l : List Value) (k : G_ar9_i64 → Prop) : Prop := match l with
  | [.int .i64 va0, .int .i64 va1, .int .i64 va2, .int .i64 va3, .int .i64 va4, .int .i64 va5, .int .i64 va6, .int .i64 va7, .int .i64 va8] => k ⟨va0, va1, va2, va3, va4, va5, va6, va7, va8⟩
  | _ => False
theorem G_ar9_i64.decL_spec {l : List Value} {k : G_ar9_i64 → Prop} (h : G_ar9_i64.decL l k) : ∃ x : G_ar9_i64, l = x.cells ∧ k x := by
  unfold G_ar9_i64.decL at h
  split at h
  · exact ⟨_, rfl, h⟩
  · exact h.elim
def G_ar9_i64.decA (a : Array Value) (k : G_ar9_i64 → Prop) : Prop := G_ar9_i64.decL a.toList k
theorem G_ar9_i64.decA_spec {a : Array Value} {k : G_ar9_i64 → Prop} (h : G_ar9_i64.decA a k) : ∃ x : G_ar9_i64, a = List.toArray x.cells ∧ k x := by
  obtain ⟨x, e, h⟩ := G_ar9_i64.decL_spec h
  exact ⟨x, by rw [← e], h⟩
structure G_ar8_i64 where
  a0 : Int
  a1 : Int
  a2 : Int
  a3 : Int
  a4 : Int
  a5 : Int
  a6 : Int
  a7 : Int
def G_ar8_i64.cells (x : G_ar8_i64) : List Value := [.int .i64 x.a0, .int .i64 x.a1, .int .i64 x.a2, .int .i64 x.a3, .int .i64 x.a4, .int .i64 x.a5, .int .i64 x.a6, .int .i64 x.a7]
def G_ar8_i64.decL (l : List Value) (k : G_ar8_i64 → Prop) : Prop := match l with
  | [.int .i64 va0, .int .i64 va1, .int .i64 va2, .int .i64 va3, .int .i64 va4, .int .i64 va5, .int .i64 va6, .int .i64 va7] => k ⟨va0, va1, va2, va3, va4, va5, va6, va7⟩
  | _ => False
theorem G_ar8_i64.decL_spec {l : List Value} {k : G_ar8_i64 → Prop} (h : G_ar8_i64.decL l k) : ∃ x : G_ar8_i64, l = x.cells ∧ k x := by
  unfold G_ar8_i64.decL at h
  split at h
  · exact ⟨_, rfl, h⟩
  · exact h.elim
def G_ar8_i64.decA (a : Array Value) (k : G_ar8_i64 → Prop) : Prop := G_ar8_i64.decL a.toList k
theorem G_ar8_i64.decA_spec {a : Array Value} {k : G_ar8_i64 → Prop} (h : G_ar8_i64.decA a k) : ∃ x : G_ar8_i64, a = List.toArray x.cells ∧ k x := by
  obtain ⟨x, e, h⟩ := G_ar8_i64.decL_spec h
  exact ⟨x, by rw [← e], h⟩
structure G_struct_7 where
  Cell : Int
  Tenant : Int
  H : Sl
  S : Option Addr
  Q : Option Addr
  T : Option Addr
  G : Option Addr
def G_struct_7.cells (x : G_struct_7) : List Value := [.int .i64 x.Cell, .int .i64 x.Tenant, .slice x.H.a x.H.n x.H.c, .pointer x.S, .pointer x.Q, .pointer x.T, .pointer x.G]
def G_struct_7.decL (l : List Value) (k : G_struct_7 → Prop) : Prop := match l with
  | [.int .i64 vCell, .int .i64 vTenant, .slice vH vHn vHc, .pointer vS, .pointer vQ, .pointer vT, .pointer vG] => k ⟨vCell, vTenant, ⟨vH, vHn, vHc⟩, vS, vQ, vT, vG⟩
  | _ => False
theorem G_struct_7.decL_spec {l : List Value} {k : G_struct_7 → Prop} (h : G_struct_7.decL l k) : ∃ x : G_struct_7, l = x.cells ∧ k x := by
  unfold G_struct_7.decL at h
  split at h
  · exact ⟨_, rfl, h⟩
  · exact h.elim
def G_struct_7.decA (a : Array Value) (k : G_struct_7 → Prop) : Prop := G_struct_7.decL a.toList k
theorem G_struct_7.decA_spec {a : Array Value} {k : G_struct_7 → Prop} (h : G_struct_7.decA a k) : ∃ x : G_struct_7, a = List.toArray x.cells ∧ k x := by
  obtain ⟨x, e, h⟩ := G_struct_7.decL_spec h
  exact ⟨x, by rw [← e], h⟩
structure G_cellplaneref28_Copy where
  Cell : Int
  Tenant : Int
  H : Sl
  S : Option Addr
  Q : Option Addr
  T : Option Addr
  G : Option Addr
def G_cellplaneref28_Copy.cells (x : G_cellplaneref28_Copy) : List Value := [.int .i64 x.Cell, .int .i64 x.Tenant, .slice x.H.a x.H.n x.H.c, .pointer x.S, .pointer x.Q, .pointer x.T, .pointer x.G]
def G_cellplaneref28_Copy.decL (l : List Value) (k : G_cellplaneref28_Copy → Prop) : Prop := match l with
  | [.int .i64 vCell, .int .i64 vTenant, .slice vH vHn vHc, .pointer vS, .pointer vQ, .pointer vT, .pointer vG] => k ⟨vCell, vTenant, ⟨vH, vHn, vHc⟩, vS, vQ, vT, vG⟩
  | _ => False
theorem G_cellplaneref28_Copy.decL_spec {l : List Value} {k : G_cellplaneref28_Copy → Prop} (h : G_cellplaneref28_Copy.decL l k) : ∃ x : G_cellplaneref28_Copy, l = x.cells ∧ k x := by
  unfold G_cellplaneref28_Copy.decL at h
  split at h
  · exact ⟨_, rfl, h⟩
  · exact h.elim
def G_cellplaneref28_Copy.decA (a : Array Value) (k : G_cellplaneref28_Copy → Prop) : Prop := G_cellplaneref28_Copy.decL a.toList k
theorem G_cellplaneref28_Copy.decA_spec {a : Array Value} {k : G_cellplaneref28_Copy → Prop} (h : G_cellplaneref28_Copy.decA a k) : ∃ x : G_cellplaneref28_Copy, a = List.toArray x.cells ∧ k x := by
  obtain ⟨x, e, h⟩ := G_cellplaneref28_Copy.decL_spec h
  exact ⟨x, by rw [← e], h⟩
structure G_struct_8 where
  number : Int
  reply : G_api_Reply
def G_struct_8.cells (x : G_struct_8) : List Value := [.int .i64 x.number, .int .i64 x.reply.Err, .int .i64 x.reply.Seq, .int .i64 x.reply.Item, .string x.reply.Value_]
def G_struct_8.decL (l : List Value) (k : G_struct_8 → Prop) : Prop := match l with
  | [.int .i64 vnumber, .int .i64 vreply_Err, .int .i64 vreply_Seq, .int .i64 vreply_Item, .string vreply_Value_] => k ⟨vnumber, ⟨vreply_Err, vreply_Seq, vreply_Item, vreply_Value_⟩⟩
  | _ => False
theorem G_struct_8.decL_spec {l : List Value} {k : G_struct_8 → Prop} (h : G_struct_8.decL l k) : ∃ x : G_struct_8, l = x.cells ∧ k x := by
  unfold G_struct_8.decL at h
  split at h
  · exact ⟨_, rfl, h⟩
  · exact h.elim
def G_struct_8.decA (a : Array Value) (k : G_struct_8 → Prop) : Prop := G_struct_8.decL a.toList k
theorem G_struct_8.decA_spec {a : Array Value} {k : G_struct_8 → Prop} (h : G_struct_8.decA a k) : ∃ x : G_struct_8, a = List.toArray x.cells ∧ k x := by
  obtain ⟨x, e, h⟩ := G_struct_8.decL_spec h
  exact ⟨x, by rw [← e], h⟩
def G_struct_8.eqb (x y : G_struct_8) : Bool := (decide (x.number = y.number) && (G_api_Reply.eqb x.reply y.reply && true))
theorem G_struct_8.eqb_iff {x y : G_struct_8} : G_struct_8.eqb x y = true ↔ x = y := by
  cases x; cases y; simp [G_struct_8.eqb, strEq_iff, G_api_Reply.eqb_iff]
structure G_session_record where
  number : Int
  reply : G_api_Reply
def G_session_record.cells (x : G_session_record) : List Value := [.int .i64 x.number, .int .i64 x.reply.Err, .int .i64 x.reply.Seq, .int .i64 x.reply.Item, .string x.reply.Value_]
def G_session_record.decL (l : List Value) (k : G_session_record → Prop) : Prop := match l with
  | [.int .i64 vnumber, .int .i64 vreply_Err, .int .i64 vreply_Seq, .int .i64 vreply_Item, .string vreply_Value_] => k ⟨vnumber, ⟨vreply_Err, vreply_Seq, vreply_Item, vreply_Value_⟩⟩
  | _ => False
theorem G_session_record.decL_spec {l : List Value} {k : G_session_record → Prop} (h : G_session_record.decL l k) : ∃ x : G_session_record, l = x.cells ∧ k x := by
  unfold G_session_record.decL at h
  split at h
  · exact ⟨_, rfl, h⟩
  · exact h.elim
def G_session_record.decA (a : Array Value) (k : G_session_record → Prop) : Prop := G_session_record.decL a.toList k
theorem G_session_record.decA_spec {a : Array Value} {k : G_session_record → Prop} (h : G_session_record.decA a k) : ∃ x : G_session_record, a = List.toArray x.cells ∧ k x := by
  obtain ⟨x, e, h⟩ := G_session_record.decL_spec h
  exact ⟨x, by rw [← e], h⟩
def G_session_record.eqb (x y : G_session_record) : Bool := (decide (x.number = y.number) && (G_api_Reply.eqb x.reply y.reply && true))
theorem G_session_record.eqb_iff {x y : G_session_record} : G_session_record.eqb x y = true ↔ x = y := by
  cases x; cases y; simp [G_session_record.eqb, strEq_iff, G_api_Reply.eqb_iff]
structure G_struct_10 where
  L : Sl
def G_struct_10.cells (x : G_struct_10) : List Value := [.slice x.L.a x.L.n x.L.c]
def G_struct_10.decL (l : List Value) (k : G_struct_10 → Prop) : Prop := match l with
  | [.slice vL vLn vLc] => k ⟨⟨vL, vLn, vLc⟩⟩
  | _ => False
theorem G_struct_10.decL_spec {l : List Value} {k : G_struct_10 → Prop} (h : G_struct_10.decL l k) : ∃ x : G_struct_10, l = x.cells ∧ k x := by
  unfold G_struct_10.decL at h
  split at h
  · exact ⟨_, rfl, h⟩
  · exact h.elim
def G_struct_10.decA (a : Array Value) (k : G_struct_10 → Prop) : Prop := G_struct_10.decL a.toList k
theorem G_struct_10.decA_spec {a : Array Value} {k : G_struct_10 → Prop} (h : G_struct_10.decA a k) : ∃ x : G_struct_10, a = List.toArray x.cells ∧ k x := by
  obtain ⟨x, e, h⟩ := G_struct_10.decL_spec h
  exact ⟨x, by rw [← e], h⟩
structure G_cellplaneref24_Store where
  L : Sl
def G_cellplaneref24_Store.cells (x : G_cellplaneref24_Store) : List Value := [.slice x.L.a x.L.n x.L.c]
def G_cellplaneref24_Store.decL (l : List Value) (k : G_cellplaneref24_Store → Prop) : Prop := match l with
  | [.slice vL vLn vLc] => k ⟨⟨vL, vLn, vLc⟩⟩
  | _ => False
theorem G_cellplaneref24_Store.decL_spec {l : List Value} {k : G_cellplaneref24_Store → Prop} (h : G_cellplaneref24_Store.decL l k) : ∃ x : G_cellplaneref24_Store, l = x.cells ∧ k x := by
  unfold G_cellplaneref24_Store.decL at h
  split at h
  · exact ⟨_, rfl, h⟩
  · exact h.elim
def G_cellplaneref24_Store.decA (a : Array Value) (k : G_cellplaneref24_Store → Prop) : Prop := G_cellplaneref24_Store.decL a.toList k
theorem G_cellplaneref24_Store.decA_spec {a : Array Value} {k : G_cellplaneref24_Store → Prop} (h : G_cellplaneref24_Store.decA a k) : ∃ x : G_cellplaneref24_Store, a = List.toArray x.cells ∧ k x := by
  obtain ⟨x, e, h⟩ := G_cellplaneref24_Store.decL_spec h
  exact ⟨x, by rw [← e], h⟩
structure G_struct_11 where
  L : Sl
  R : Sl
  Most : Int
def G_struct_11.cells (x : G_struct_11) : List Value := [.slice x.L.a x.L.n x.L.c, .slice x.R.a x.R.n x.R.c, .int .i64 x.Most]
def G_struct_11.decL (l : List Value) (k : G_struct_11 → Prop) : Prop := match l with
  | [.slice vL vLn vLc, .slice vR vRn vRc, .int .i64 vMost] => k ⟨⟨vL, vLn, vLc⟩, ⟨vR, vRn, vRc⟩, vMost⟩
  | _ => False
theorem G_struct_11.decL_spec {l : List Value} {k : G_struct_11 → Prop} (h : G_struct_11.decL l k) : ∃ x : G_struct_11, l = x.cells ∧ k x := by
  unfold G_struct_11.decL at h
  split at h
  · exact ⟨_, rfl, h⟩
  · exact h.elim
def G_struct_11.decA (a : Array Value) (k : G_struct_11 → Prop) : Prop := G_struct_11.decL a.toList k
theorem G_struct_11.decA_spec {a : Array Value} {k : G_struct_11 → Prop} (h : G_struct_11.decA a k) : ∃ x : G_struct_11, a = List.toArray x.cells ∧ k x := by
  obtain ⟨x, e, h⟩ := G_struct_11.decL_spec h
  exact ⟨x, by rw [← e], h⟩
structure G_cellplaneref25_Queue where
  L : Sl
  R : Sl
  Most : Int
def G_cellplaneref25_Queue.cells (x : G_cellplaneref25_Queue) : List Value := [.slice x.L.a x.L.n x.L.c, .slice x.R.a x.R.n x.R.c, .int .i64 x.Most]
def G_cellplaneref25_Queue.decL (l : List Value) (k : G_cellplaneref25_Queue → Prop) : Prop := match l with
  | [.slice vL vLn vLc, .slice vR vRn vRc, .int .i64 vMost] => k ⟨⟨vL, vLn, vLc⟩, ⟨vR, vRn, vRc⟩, vMost⟩
  | _ => False
theorem G_cellplaneref25_Queue.decL_spec {l : List Value} {k : G_cellplaneref25_Queue → Prop} (h : G_cellplaneref25_Queue.decL l k) : ∃ x : G_cellplaneref25_Queue, l = x.cells ∧ k x := by
  unfold G_cellplaneref25_Queue.decL at h
  split at h
  · exact ⟨_, rfl, h⟩
  · exact h.elim
def G_cellplaneref25_Queue.decA (a : Array Value) (k : G_cellplaneref25_Queue → Prop) : Prop := G_cellplaneref25_Queue.decL a.toList k
theorem G_cellplaneref25_Queue.decA_spec {a : Array Value} {k : G_cellplaneref25_Queue → Prop} (h : G_cellplaneref25_Queue.decA a k) : ∃ x : G_cellplaneref25_Queue, a = List.toArray x.cells ∧ k x := by
  obtain ⟨x, e, h⟩ := G_cellplaneref25_Queue.decL_spec h
  exact ⟨x, by rw [← e], h⟩
structure G_struct_12 where
  Cell : Int
  Closed : Int
  L : Sl
def G_struct_12.cells (x : G_struct_12) : List Value := [.int .i64 x.Cell, .int .i64 x.Closed, .slice x.L.a x.L.n x.L.c]
def G_struct_12.decL (l : List Value) (k : G_struct_12 → Prop) : Prop := match l with
  | [.int .i64 vCell, .int .i64 vClosed, .slice vL vLn vLc] => k ⟨vCell, vClosed, ⟨vL, vLn, vLc⟩⟩
  | _ => False
theorem G_struct_12.decL_spec {l : List Value} {k : G_struct_12 → Prop} (h : G_struct_12.decL l k) : ∃ x : G_struct_12, l = x.cells ∧ k x := by
  unfold G_struct_12.decL at h
  split at h
  · exact ⟨_, rfl, h⟩
  · exact h.elim
def G_struct_12.decA (a : Array Value) (k : G_struct_12 → Prop) : Prop := G_struct_12.decL a.toList k
theorem G_struct_12.decA_spec {a : Array Value} {k : G_struct_12 → Prop} (h : G_struct_12.decA a k) : ∃ x : G_struct_12, a = List.toArray x.cells ∧ k x := by
  obtain ⟨x, e, h⟩ := G_struct_12.decL_spec h
  exact ⟨x, by rw [← e], h⟩
structure G_cellplaneref27_Gate where
  Cell : Int
  Closed : Int
  L : Sl
def G_cellplaneref27_Gate.cells (x : G_cellplaneref27_Gate) : List Value := [.int .i64 x.Cell, .int .i64 x.Closed, .slice x.L.a x.L.n x.L.c]
def G_cellplaneref27_Gate.decL (l : List Value) (k : G_cellplaneref27_Gate → Prop) : Prop := match l with
  | [.int .i64 vCell, .int .i64 vClosed, .slice vL vLn vLc] => k ⟨vCell, vClosed, ⟨vL, vLn, vLc⟩⟩
  | _ => False
theorem G_cellplaneref27_Gate.decL_spec {l : List Value} {k : G_cellplaneref27_Gate → Prop} (h : G_cellplaneref27_Gate.decL l k) : ∃ x : G_cellplaneref27_Gate, l = x.cells ∧ k x := by
  unfold G_cellplaneref27_Gate.decL at h
  split at h
  · exact ⟨_, rfl, h⟩
  · exact h.elim
def G_cellplaneref27_Gate.decA (a : Array Value) (k : G_cellplaneref27_Gate → Prop) : Prop := G_cellplaneref27_Gate.decL a.toList k
theorem G_cellplaneref27_Gate.decA_spec {a : Array Value} {k : G_cellplaneref27_Gate → Prop} (h : G_cellplaneref27_Gate.decA a k) : ∃ x : G_cellplaneref27_Gate, a = List.toArray x.cells ∧ k x := by
  obtain ⟨x, e, h⟩ := G_cellplaneref27_Gate.decL_spec h
  exact ⟨x, by rw [← e], h⟩
structure G_struct_13 where
  L : Sl
  At_ : Int
def G_struct_13.cells (x : G_struct_13) : List Value := [.slice x.L.a x.L.n x.L.c, .int .i64 x.At_]
def G_struct_13.decL (l : List Value) (k : G_struct_13 → Prop) : Prop := match l with
  | [.slice vL vLn vLc, .int .i64 vAt_] => k ⟨⟨vL, vLn, vLc⟩, vAt_⟩
  | _ => False
theorem G_struct_13.decL_spec {l : List Value} {k : G_struct_13 → Prop} (h : G_struct_13.decL l k) : ∃ x : G_struct_13, l = x.cells ∧ k x := by
  unfold G_struct_13.decL at h
  split at h
  · exact ⟨_, rfl, h⟩
  · exact h.elim
def G_struct_13.decA (a : Array Value) (k : G_struct_13 → Prop) : Prop := G_struct_13.decL a.toList k
theorem G_struct_13.decA_spec {a : Array Value} {k : G_struct_13 → Prop} (h : G_struct_13.decA a k) : ∃ x : G_struct_13, a = List.toArray x.cells ∧ k x := by
  obtain ⟨x, e, h⟩ := G_struct_13.decL_spec h
  exact ⟨x, by rw [← e], h⟩
structure G_cellplanemill_Tape where
  L : Sl
  At_ : Int
def G_cellplanemill_Tape.cells (x : G_cellplanemill_Tape) : List Value := [.slice x.L.a x.L.n x.L.c, .int .i64 x.At_]
def G_cellplanemill_Tape.decL (l : List Value) (k : G_cellplanemill_Tape → Prop) : Prop := match l with
  | [.slice vL vLn vLc, .int .i64 vAt_] => k ⟨⟨vL, vLn, vLc⟩, vAt_⟩
  | _ => False
theorem G_cellplanemill_Tape.decL_spec {l : List Value} {k : G_cellplanemill_Tape → Prop} (h : G_cellplanemill_Tape.decL l k) : ∃ x : G_cellplanemill_Tape, l = x.cells ∧ k x := by
  unfold G_cellplanemill_Tape.decL at h
  split at h
  · exact ⟨_, rfl, h⟩
  · exact h.elim
def G_cellplanemill_Tape.decA (a : Array Value) (k : G_cellplanemill_Tape → Prop) : Prop := G_cellplanemill_Tape.decL a.toList k
theorem G_cellplanemill_Tape.decA_spec {a : Array Value} {k : G_cellplanemill_Tape → Prop} (h : G_cellplanemill_Tape.decA a k) : ∃ x : G_cellplanemill_Tape, a = List.toArray x.cells ∧ k x := by
  obtain ⟨x, e, h⟩ := G_cellplanemill_Tape.decL_spec h
  exact ⟨x, by rw [← e], h⟩
structure G_struct_14 where
  Key : ByteArray
  Value_ : ByteArray
  Seq : Int
def G_struct_14.cells (x : G_struct_14) : List Value := [.string x.Key, .string x.Value_, .int .i64 x.Seq]
def G_struct_14.decL (l : List Value) (k : G_struct_14 → Prop) : Prop := match l with
  | [.string vKey, .string vValue_, .int .i64 vSeq] => k ⟨vKey, vValue_, vSeq⟩
  | _ => False
theorem G_struct_14.decL_spec {l : List Value} {k : G_struct_14 → Prop} (h : G_struct_14.decL l k) : ∃ x : G_struct_14, l = x.cells ∧ k x := by
  unfold G_struct_14.decL at h
  split at h
  · exact ⟨_, rfl, h⟩
  · exact h.elim
def G_struct_14.decA (a : Array Value) (k : G_struct_14 → Prop) : Prop := G_struct_14.decL a.toList k
theorem G_struct_14.decA_spec {a : Array Value} {k : G_struct_14 → Prop} (h : G_struct_14.decA a k) : ∃ x : G_struct_14, a = List.toArray x.cells ∧ k x := by
  obtain ⟨x, e, h⟩ := G_struct_14.decL_spec h
  exact ⟨x, by rw [← e], h⟩
def G_struct_14.eqb (x y : G_struct_14) : Bool := (strEq x.Key y.Key && (strEq x.Value_ y.Value_ && (decide (x.Seq = y.Seq) && true)))
theorem G_struct_14.eqb_iff {x y : G_struct_14} : G_struct_14.eqb x y = true ↔ x = y := by
  cases x; cases y; simp [G_struct_14.eqb, strEq_iff]
structure G_cellplaneref24_Cell where
  Key : ByteArray
  Value_ : ByteArray
  Seq : Int
def G_cellplaneref24_Cell.cells (x : G_cellplaneref24_Cell) : List Value := [.string x.Key, .string x.Value_, .int .i64 x.Seq]
def G_cellplaneref24_Cell.decL (l : List Value) (k : G_cellplaneref24_Cell → Prop) : Prop := match l with
  | [.string vKey, .string vValue_, .int .i64 vSeq] => k ⟨vKey, vValue_, vSeq⟩
  | _ => False
theorem G_cellplaneref24_Cell.decL_spec {l : List Value} {k : G_cellplaneref24_Cell → Prop} (h : G_cellplaneref24_Cell.decL l k) : ∃ x : G_cellplaneref24_Cell, l = x.cells ∧ k x := by
  unfold G_cellplaneref24_Cell.decL at h
  split at h
  · exact ⟨_, rfl, h⟩
  · exact h.elim
def G_cellplaneref24_Cell.decA (a : Array Value) (k : G_cellplaneref24_Cell → Prop) : Prop := G_cellplaneref24_Cell.decL a.toList k
theorem G_cellplaneref24_Cell.decA_spec {a : Array Value} {k : G_cellplaneref24_Cell → Prop} (h : G_cellplaneref24_Cell.decA a k) : ∃ x : G_cellplaneref24_Cell, a = List.toArray x.cells ∧ k x := by
  obtain ⟨x, e, h⟩ := G_cellplaneref24_Cell.decL_spec h
  exact ⟨x, by rw [← e], h⟩
def G_cellplaneref24_Cell.eqb (x y : G_cellplaneref24_Cell) : Bool := (strEq x.Key y.Key && (strEq x.Value_ y.Value_ && (decide (x.Seq = y.Seq) && true)))
theorem G_cellplaneref24_Cell.eqb_iff {x y : G_cellplaneref24_Cell} : G_cellplaneref24_Cell.eqb x y = true ↔ x = y := by
  cases x; cases y; simp [G_cellplaneref24_Cell.eqb, strEq_iff]
structure G_struct_15 where
  Number : Int
  Value_ : ByteArray
def G_struct_15.cells (x : G_struct_15) : List Value := [.int .i64 x.Number, .string x.Value_]
def G_struct_15.decL (l : List Value) (k : G_struct_15 → Prop) : Prop := match l with
  | [.int .i64 vNumber, .string vValue_] => k ⟨vNumber, vValue_⟩
  | _ => False
theorem G_struct_15.decL_spec {l : List Value} {k : G_struct_15 → Prop} (h : G_struct_15.decL l k) : ∃ x : G_struct_15, l = x.cells ∧ k x := by
  unfold G_struct_15.decL at h
  split at h
  · exact ⟨_, rfl, h⟩
  · exact h.elim
def G_struct_15.decA (a : Array Value) (k : G_struct_15 → Prop) : Prop := G_struct_15.decL a.toList k
theorem G_struct_15.decA_spec {a : Array Value} {k : G_struct_15 → Prop} (h : G_struct_15.decA a k) : ∃ x : G_struct_15, a = List.toArray x.cells ∧ k x := by
  obtain ⟨x, e, h⟩ := G_struct_15.decL_spec h
  exact ⟨x, by rw [← e], h⟩
def G_struct_15.eqb (x y : G_struct_15) : Bool := (decide (x.Number = y.Number) && (strEq x.Value_ y.Value_ && true))
theorem G_struct_15.eqb_iff {x y : G_struct_15} : G_struct_15.eqb x y = true ↔ x = y := by
  cases x; cases y; simp [G_struct_15.eqb, strEq_iff]
structure G_api_Item where
  Number : Int
  Value_ : ByteArray
def G_api_Item.cells (x : G_api_Item) : List Value := [.int .i64 x.Number, .string x.Value_]
def G_api_Item.decL (l : List Value) (k : G_api_Item → Prop) : Prop := match l with
  | [.int .i64 vNumber, .string vValue_] => k ⟨vNumber, vValue_⟩
  | _ => False
theorem G_api_Item.decL_spec {l : List Value} {k : G_api_Item → Prop} (h : G_api_Item.decL l k) : ∃ x : G_api_Item, l = x.cells ∧ k x := by
  unfold G_api_Item.decL at h
  split at h
  · exact ⟨_, rfl, h⟩
  · exact h.elim
def G_api_Item.decA (a : Array Value) (k : G_api_Item → Prop) : Prop := G_api_Item.decL a.toList k
theorem G_api_Item.decA_spec {a : Array Value} {k : G_api_Item → Prop} (h : G_api_Item.decA a k) : ∃ x : G_api_Item, a = List.toArray x.cells ∧ k x := by
  obtain ⟨x, e, h⟩ := G_api_Item.decL_spec h
  exact ⟨x, by rw [← e], h⟩
def G_api_Item.eqb (x y : G_api_Item) : Bool := (decide (x.Number = y.Number) && (strEq x.Value_ y.Value_ && true))
theorem G_api_Item.eqb_iff {x y : G_api_Item} : G_api_Item.eqb x y = true ↔ x = y := by
  cases x; cases y; simp [G_api_Item.eqb, strEq_iff]
structure G_struct_16 where
  Item : Int
  Client : Int
  Epoch : Int
  Until : Int
def G_struct_16.cells (x : G_struct_16) : List Value := [.int .i64 x.Item, .int .i64 x.Client, .int .i64 x.Epoch, .int .i64 x.Until]
def G_struct_16.decL (l : List Value) (k : G_struct_16 → Prop) : Prop := match l with
  | [.int .i64 vItem, .int .i64 vClient, .int .i64 vEpoch, .int .i64 vUntil] => k ⟨vItem, vClient, vEpoch, vUntil⟩
  | _ => False
theorem G_struct_16.decL_spec {l : List Value} {k : G_struct_16 → Prop} (h : G_struct_16.decL l k) : ∃ x : G_struct_16, l = x.cells ∧ k x := by
  unfold G_struct_16.decL at h
  split at h
  · exact ⟨_, rfl, h⟩
  · exact h.elim
def G_struct_16.decA (a : Array Value) (k : G_struct_16 → Prop) : Prop := G_struct_16.decL a.toList k
theorem G_struct_16.decA_spec {a : Array Value} {k : G_struct_16 → Prop} (h : G_struct_16.decA a k) : ∃ x : G_struct_16, a = List.toArray x.cells ∧ k x := by
  obtain ⟨x, e, h⟩ := G_struct_16.decL_spec h
  exact ⟨x, by rw [← e], h⟩
def G_struct_16.eqb (x y : G_struct_16) : Bool := (decide (x.Item = y.Item) && (decide (x.Client = y.Client) && (decide (x.Epoch = y.Epoch) && (decide (x.Until = y.Until) && true))))
theorem G_struct_16.eqb_iff {x y : G_struct_16} : G_struct_16.eqb x y = true ↔ x = y := by
  cases x; cases y; simp [G_struct_16.eqb, strEq_iff]
structure G_api_Lease where
  Item : Int
  Client : Int
  Epoch : Int
  Until : Int
def G_api_Lease.cells (x : G_api_Lease) : List Value := [.int .i64 x.Item, .int .i64 x.Client, .int .i64 x.Epoch, .int .i64 x.Until]
def G_api_Lease.decL (l : List Value) (k : G_api_Lease → Prop) : Prop := match l with
  | [.int .i64 vItem, .int .i64 vClient, .int .i64 vEpoch, .int .i64 vUntil] => k ⟨vItem, vClient, vEpoch, vUntil⟩
  | _ => False
theorem G_api_Lease.decL_spec {l : List Value} {k : G_api_Lease → Prop} (h : G_api_Lease.decL l k) : ∃ x : G_api_Lease, l = x.cells ∧ k x := by
  unfold G_api_Lease.decL at h
  split at h
  · exact ⟨_, rfl, h⟩
  · exact h.elim
def G_api_Lease.decA (a : Array Value) (k : G_api_Lease → Prop) : Prop := G_api_Lease.decL a.toList k
theorem G_api_Lease.decA_spec {a : Array Value} {k : G_api_Lease → Prop} (h : G_api_Lease.decA a k) : ∃ x : G_api_Lease, a = List.toArray x.cells ∧ k x := by
  obtain ⟨x, e, h⟩ := G_api_Lease.decL_spec h
  exact ⟨x, by rw [← e], h⟩
def G_api_Lease.eqb (x y : G_api_Lease) : Bool := (decide (x.Item = y.Item) && (decide (x.Client = y.Client) && (decide (x.Epoch = y.Epoch) && (decide (x.Until = y.Until) && true))))
theorem G_api_Lease.eqb_iff {x y : G_api_Lease} : G_api_Lease.eqb x y = true ↔ x = y := by
  cases x; cases y; simp [G_api_Lease.eqb, strEq_iff]
structure G_struct_17 where
  interface : Option Addr
  concrete : Option Addr
  asserted : Option Addr
  missingMethod : ByteArray
def G_struct_17.cells (x : G_struct_17) : List Value := [.pointer x.interface, .pointer x.concrete, .pointer x.asserted, .string x.missingMethod]
def G_struct_17.decL (l : List Value) (k : G_struct_17 → Prop) : Prop := match l with
  | [.pointer vinterface, .pointer vconcrete, .pointer vasserted, .string vmissingMethod] => k ⟨vinterface, vconcrete, vasserted, vmissingMethod⟩
  | _ => False
theorem G_struct_17.decL_spec {l : List Value} {k : G_struct_17 → Prop} (h : G_struct_17.decL l k) : ∃ x : G_struct_17, l = x.cells ∧ k x := by
  unfold G_struct_17.decL at h
  split at h
  · exact ⟨_, rfl, h⟩
  · exact h.elim
def G_struct_17.decA (a : Array Value) (k : G_struct_17 → Prop) : Prop := G_struct_17.decL a.toList k
theorem G_struct_17.decA_spec {a : Array Value} {k : G_struct_17 → Prop} (h : G_struct_17.decA a k) : ∃ x : G_struct_17, a = List.toArray x.cells ∧ k x := by
  obtain ⟨x, e, h⟩ := G_struct_17.decL_spec h
  exact ⟨x, by rw [← e], h⟩
structure G_runtime_TypeAssertionError where
  interface : Option Addr
  concrete : Option Addr
  asserted : Option Addr
  missingMethod : ByteArray
def G_runtime_TypeAssertionError.cells (x : G_runtime_TypeAssertionError) : List Value := [.pointer x.interface, .pointer x.concrete, .pointer x.asserted, .string x.missingMethod]
def G_runtime_TypeAssertionError.decL (l : List Value) (k : G_runtime_TypeAssertionError → Prop) : Prop := match l with
  | [.pointer vinterface, .pointer vconcrete, .pointer vasserted, .string vmissingMethod] => k ⟨vinterface, vconcrete, vasserted, vmissingMethod⟩
  | _ => False
theorem G_runtime_TypeAssertionError.decL_spec {l : List Value} {k : G_runtime_TypeAssertionError → Prop} (h : G_runtime_TypeAssertionError.decL l k) : ∃ x : G_runtime_TypeAssertionError, l = x.cells ∧ k x := by
  unfold G_runtime_TypeAssertionError.decL at h
  split at h
  · exact ⟨_, rfl, h⟩
  · exact h.elim
def G_runtime_TypeAssertionError.decA (a : Array Value) (k : G_runtime_TypeAssertionError → Prop) : Prop := G_runtime_TypeAssertionError.decL a.toList k
theorem G_runtime_TypeAssertionError.decA_spec {a : Array Value} {k : G_runtime_TypeAssertionError → Prop} (h : G_runtime_TypeAssertionError.decA a k) : ∃ x : G_runtime_TypeAssertionError, a = List.toArray x.cells ∧ k x := by
  obtain ⟨x, e, h⟩ := G_runtime_TypeAssertionError.decL_spec h
  exact ⟨x, by rw [← e], h⟩
structure G_struct_20 where
  Cell : Int
  Epoch : Int
  Version : Int
  From : Int
  Until : Int
def G_struct_20.cells (x : G_struct_20) : List Value := [.int .i64 x.Cell, .int .i64 x.Epoch, .int .i64 x.Version, .int .i64 x.From, .int .i64 x.Until]
def G_struct_20.decL (l : List Value) (k : G_struct_20 → Prop) : Prop := match l with
  | [.int .i64 vCell, .int .i64 vEpoch, .int .i64 vVersion, .int .i64 vFrom, .int .i64 vUntil] => k ⟨vCell, vEpoch, vVersion, vFrom, vUntil⟩
  | _ => False
theorem G_struct_20.decL_spec {l : List Value} {k : G_struct_20 → Prop} (h : G_struct_20.decL l k) : ∃ x : G_struct_20, l = x.cells ∧ k x := by
  unfold G_struct_20.decL at h
  split at h
  · exact ⟨_, rfl, h⟩
  · exact h.elim
def G_struct_20.decA (a : Array Value) (k : G_struct_20 → Prop) : Prop := G_struct_20.decL a.toList k
theorem G_struct_20.decA_spec {a : Array Value} {k : G_struct_20 → Prop} (h : G_struct_20.decA a k) : ∃ x : G_struct_20, a = List.toArray x.cells ∧ k x := by
  obtain ⟨x, e, h⟩ := G_struct_20.decL_spec h
  exact ⟨x, by rw [← e], h⟩
def G_struct_20.eqb (x y : G_struct_20) : Bool := (decide (x.Cell = y.Cell) && (decide (x.Epoch = y.Epoch) && (decide (x.Version = y.Version) && (decide (x.From = y.From) && (decide (x.Until = y.Until) && true)))))
theorem G_struct_20.eqb_iff {x y : G_struct_20} : G_struct_20.eqb x y = true ↔ x = y := by
  cases x; cases y; simp [G_struct_20.eqb, strEq_iff]
structure G_api_Window where
  Cell : Int
  Epoch : Int
  Version : Int
  From : Int
  Until : Int
def G_api_Window.cells (x : G_api_Window) : List Value := [.int .i64 x.Cell, .int .i64 x.Epoch, .int .i64 x.Version, .int .i64 x.From, .int .i64 x.Until]
def G_api_Window.decL (l : List Value) (k : G_api_Window → Prop) : Prop := match l with
  | [.int .i64 vCell, .int .i64 vEpoch, .int .i64 vVersion, .int .i64 vFrom, .int .i64 vUntil] => k ⟨vCell, vEpoch, vVersion, vFrom, vUntil⟩
  | _ => False
theorem G_api_Window.decL_spec {l : List Value} {k : G_api_Window → Prop} (h : G_api_Window.decL l k) : ∃ x : G_api_Window, l = x.cells ∧ k x := by
  unfold G_api_Window.decL at h
  split at h
  · exact ⟨_, rfl, h⟩
  · exact h.elim
def G_api_Window.decA (a : Array Value) (k : G_api_Window → Prop) : Prop := G_api_Window.decL a.toList k
theorem G_api_Window.decA_spec {a : Array Value} {k : G_api_Window → Prop} (h : G_api_Window.decA a k) : ∃ x : G_api_Window, a = List.toArray x.cells ∧ k x := by
  obtain ⟨x, e, h⟩ := G_api_Window.decL_spec h
  exact ⟨x, by rw [← e], h⟩
def G_api_Window.eqb (x y : G_api_Window) : Bool := (decide (x.Cell = y.Cell) && (decide (x.Epoch = y.Epoch) && (decide (x.Version = y.Version) && (decide (x.From = y.From) && (decide (x.Until = y.Until) && true)))))
theorem G_api_Window.eqb_iff {x y : G_api_Window} : G_api_Window.eqb x y = true ↔ x = y := by
  cases x; cases y; simp [G_api_Window.eqb, strEq_iff]
def Z_ar8_api_Reply : List Value := (List.replicate 8 [(.int .i64 0), (.int .i64 0), (.int .i64 0), (.string ByteArray.empty)]).flatten
def Z_struct_6 : List Value := [(.int .i64 0), (.int .i64 0), (.int .i64 0), (.int .i64 0), (.int .i64 0), (.int .i64 0), (.int .i64 0), (.int .i64 0), (.int .i64 0), (.int .i64 0), (.int .i64 0), (.string ByteArray.empty), (.int .i64 0), (.int .i64 0), (.int .i64 0), (.string ByteArray.empty), (.int .i64 0), (.int .i64 0), (.int .i64 0), (.string ByteArray.empty), (.int .i64 0), (.int .i64 0), (.int .i64 0), (.string ByteArray.empty), (.int .i64 0), (.int .i64 0), (.int .i64 0), (.string ByteArray.empty), (.int .i64 0), (.int .i64 0), (.int .i64 0), (.string ByteArray.empty), (.int .i64 0), (.int .i64 0), (.int .i64 0), (.string ByteArray.empty), (.int .i64 0), (.int .i64 0), (.int .i64 0), (.string ByteArray.empty)]
def Z_cellplaneref26_Table : List Value := [(.int .i64 0), (.int .i64 0), (.int .i64 0), (.int .i64 0), (.int .i64 0), (.int .i64 0), (.int .i64 0), (.int .i64 0), (.int .i64 0), (.int .i64 0), (.int .i64 0), (.string ByteArray.empty), (.int .i64 0), (.int .i64 0), (.int .i64 0), (.string ByteArray.empty), (.int .i64 0), (.int .i64 0), (.int .i64 0), (.string ByteArray.empty), (.int .i64 0), (.int .i64 0), (.int .i64 0), (.string ByteArray.empty), (.int .i64 0), (.int .i64 0), (.int .i64 0), (.string ByteArray.empty), (.int .i64 0), (.int .i64 0), (.int .i64 0), (.string ByteArray.empty), (.int .i64 0), (.int .i64 0), (.int .i64 0), (.string ByteArray.empty), (.int .i64 0), (.int .i64 0), (.int .i64 0), (.string ByteArray.empty)]
def Z_ar8_session_record : List Value := (List.replicate 8 [(.int .i64 0), (.int .i64 0), (.int .i64 0), (.int .i64 0), (.string ByteArray.empty)]).flatten
def Z_struct_9 : List Value := [(.int .i64 0), (.int .i64 0), (.int .i64 0), (.int .i64 0), (.string ByteArray.empty), (.int .i64 0), (.int .i64 0), (.int .i64 0), (.int .i64 0), (.string ByteArray.empty), (.int .i64 0), (.int .i64 0), (.int .i64 0), (.int .i64 0), (.string ByteArray.empty), (.int .i64 0), (.int .i64 0), (.int .i64 0), (.int .i64 0), (.string ByteArray.empty), (.int .i64 0), (.int .i64 0), (.int .i64 0), (.int .i64 0), (.string ByteArray.empty), (.int .i64 0), (.int .i64 0), (.int .i64 0), (.int .i64 0), (.string ByteArray.empty), (.int .i64 0), (.int .i64 0), (.int .i64 0), (.int .i64 0), (.string ByteArray.empty), (.int .i64 0), (.int .i64 0), (.int .i64 0), (.int .i64 0), (.string ByteArray.empty)]
def Z_session_Table : List Value := [(.int .i64 0), (.int .i64 0), (.int .i64 0), (.int .i64 0), (.string ByteArray.empty), (.int .i64 0), (.int .i64 0), (.int .i64 0), (.int .i64 0), (.string ByteArray.empty), (.int .i64 0), (.int .i64 0), (.int .i64 0), (.int .i64 0), (.string ByteArray.empty), (.int .i64 0), (.int .i64 0), (.int .i64 0), (.int .i64 0), (.string ByteArray.empty), (.int .i64 0), (.int .i64 0), (.int .i64 0), (.int .i64 0), (.string ByteArray.empty), (.int .i64 0), (.int .i64 0), (.int .i64 0), (.int .i64 0), (.string ByteArray.empty), (.int .i64 0), (.int .i64 0), (.int .i64 0), (.int .i64 0), (.string ByteArray.empty), (.int .i64 0), (.int .i64 0), (.int .i64 0), (.int .i64 0), (.string ByteArray.empty)]
def repAt : List (Nat × Rep) → Nat → Option Rep
  | [], _ => none
  | x :: r, t => match Nat.beq x.1 t with | true => some x.2 | false => repAt r t
def repS : Nat → Option Rep := repAt [(7, ⟨G_struct, G_struct.cells⟩), (8, ⟨G_runtime_boundsError, G_runtime_boundsError.cells⟩), (13, ⟨G_struct_2, G_struct_2.cells⟩), (14, ⟨G_runtime_errorAddressString, G_runtime_errorAddressString.cells⟩), (18, ⟨G_struct_3, G_struct_3.cells⟩), (19, ⟨G_internal_runtime_maps_unhashableTypeError, G_internal_runtime_maps_unhashableTypeError.cells⟩), (29, ⟨G_struct_4, G_struct_4.cells⟩), (30, ⟨G_api_Change, G_api_Change.cells⟩), (32, ⟨G_struct_5, G_struct_5.cells⟩), (33, ⟨G_api_Reply, G_api_Reply.cells⟩), (41, ⟨G_ar9_i64, G_ar9_i64.cells⟩), (55, ⟨G_ar8_i64, G_ar8_i64.cells⟩), (68, ⟨G_struct_7, G_struct_7.cells⟩), (69, ⟨G_cellplaneref28_Copy, G_cellplaneref28_Copy.cells⟩), (70, ⟨G_struct_8, G_struct_8.cells⟩), (71, ⟨G_session_record, G_session_record.cells⟩), (79, ⟨G_struct_10, G_struct_10.cells⟩), (80, ⟨G_cellplaneref24_Store, G_cellplaneref24_Store.cells⟩), (83, ⟨G_struct_11, G_struct_11.cells⟩), (84, ⟨G_cellplaneref25_Queue, G_cellplaneref25_Queue.cells⟩), (86, ⟨G_struct_12, G_struct_12.cells⟩), (87, ⟨G_cellplaneref27_Gate, G_cellplaneref27_Gate.cells⟩), (89, ⟨G_struct_13, G_struct_13.cells⟩), (90, ⟨G_cellplanemill_Tape, G_cellplanemill_Tape.cells⟩), (97, ⟨G_struct_14, G_struct_14.cells⟩), (98, ⟨G_cellplaneref24_Cell, G_cellplaneref24_Cell.cells⟩), (99, ⟨G_struct_15, G_struct_15.cells⟩), (100, ⟨G_api_Item, G_api_Item.cells⟩), (105, ⟨G_struct_16, G_struct_16.cells⟩), (106, ⟨G_api_Lease, G_api_Lease.cells⟩), (108, ⟨G_struct_17, G_struct_17.cells⟩), (109, ⟨G_runtime_TypeAssertionError, G_runtime_TypeAssertionError.cells⟩), (122, ⟨G_struct_20, G_struct_20.cells⟩), (123, ⟨G_api_Window, G_api_Window.cells⟩)]
theorem ok2 : okFn PP 2 := ⟨Go.Proofs.Try.f2, by kernel_rfl, by kernel_rfl, by kernel_rfl⟩
theorem ok3 : okFn PP 3 := ⟨Go.Proofs.Try.f3, by kernel_rfl, by kernel_rfl, by kernel_rfl⟩
theorem ok4 : okFn PP 4 := ⟨Go.Proofs.Try.f4, by kernel_rfl, by kernel_rfl, by kernel_rfl⟩
theorem ok5 : okFn PP 5 := ⟨Go.Proofs.Try.f5, by kernel_rfl, by kernel_rfl, by kernel_rfl⟩
theorem ok6 : okFn PP 6 := ⟨Go.Proofs.Try.f6, by kernel_rfl, by kernel_rfl, by kernel_rfl⟩
theorem ok7 : okFn PP 7 := ⟨Go.Proofs.Try.f7, by kernel_rfl, by kernel_rfl, by kernel_rfl⟩
theorem ok8 : okFn PP 8 := ⟨Go.Proofs.Try.f8, by kernel_rfl, by kernel_rfl, by kernel_rfl⟩
theorem ok9 : okFn PP 9 := ⟨Go.Proofs.Try.f9, by kernel_rfl, by kernel_rfl, by kernel_rfl⟩
theorem ok10 : okFn PP 10 := ⟨Go.Proofs.Try.f10, by kernel_rfl, by kernel_rfl, by kernel_rfl⟩
theorem ok11 : okFn PP 11 := ⟨Go.Proofs.Try.f11, by kernel_rfl, by kernel_rfl, by kernel_rfl⟩
theorem ok12 : okFn PP 12 := ⟨Go.Proofs.Try.f12, by kernel_rfl, by kernel_rfl, by kernel_rfl⟩
theorem ok13 : okFn PP 13 := ⟨Go.Proofs.Try.f13, by kernel_rfl, by kernel_rfl, by kernel_rfl⟩
theorem ok14 : okFn PP 14 := ⟨Go.Proofs.Try.f14, by kernel_rfl, by kernel_rfl, by kernel_rfl⟩
theorem ok15 : okFn PP 15 := ⟨Go.Proofs.Try.f15, by kernel_rfl, by kernel_rfl, by kernel_rfl⟩
theorem ok16 : okFn PP 16 := ⟨Go.Proofs.Try.f16, by kernel_rfl, by kernel_rfl, by kernel_rfl⟩
theorem ok17 : okFn PP 17 := ⟨Go.Proofs.Try.f17, by kernel_rfl, by kernel_rfl, by kernel_rfl⟩
theorem ok18 : okFn PP 18 := ⟨Go.Proofs.Try.f18, by kernel_rfl, by kernel_rfl, by kernel_rfl⟩
theorem ok19 : okFn PP 19 := ⟨Go.Proofs.Try.f19, by kernel_rfl, by kernel_rfl, by kernel_rfl⟩
theorem ok20 : okFn PP 20 := ⟨Go.Proofs.Try.f20, by kernel_rfl, by kernel_rfl, by kernel_rfl⟩
theorem ok21 : okFn PP 21 := ⟨Go.Proofs.Try.f21, by kernel_rfl, by kernel_rfl, by kernel_rfl⟩
theorem ok22 : okFn PP 22 := ⟨Go.Proofs.Try.f22, by kernel_rfl, by kernel_rfl, by kernel_rfl⟩
theorem ok23 : okFn PP 23 := ⟨Go.Proofs.Try.f23, by kernel_rfl, by kernel_rfl, by kernel_rfl⟩
theorem ok24 : okFn PP 24 := ⟨Go.Proofs.Try.f24, by kernel_rfl, by kernel_rfl, by kernel_rfl⟩
theorem ok25 : okFn PP 25 := ⟨Go.Proofs.Try.f25, by kernel_rfl, by kernel_rfl, by kernel_rfl⟩
theorem ok26 : okFn PP 26 := ⟨Go.Proofs.Try.f26, by kernel_rfl, by kernel_rfl, by kernel_rfl⟩
theorem ok27 : okFn PP 27 := ⟨Go.Proofs.Try.f27, by kernel_rfl, by kernel_rfl, by kernel_rfl⟩
theorem ok28 : okFn PP 28 := ⟨Go.Proofs.Try.f28, by kernel_rfl, by kernel_rfl, by kernel_rfl⟩
theorem ok29 : okFn PP 29 := ⟨Go.Proofs.Try.f29, by kernel_rfl, by kernel_rfl, by kernel_rfl⟩
theorem ok30 : okFn PP 30 := ⟨Go.Proofs.Try.f30, by kernel_rfl, by kernel_rfl, by kernel_rfl⟩
theorem ok31 : okFn PP 31 := ⟨Go.Proofs.Try.f31, by kernel_rfl, by kernel_rfl, by kernel_rfl⟩
theorem ok32 : okFn PP 32 := ⟨Go.Proofs.Try.f32, by kernel_rfl, by kernel_rfl, by kernel_rfl⟩
theorem ok33 : okFn PP 33 := ⟨Go.Proofs.Try.f33, by kernel_rfl, by kernel_rfl, by kernel_rfl⟩
theorem ok34 : okFn PP 34 := ⟨Go.Proofs.Try.f34, by kernel_rfl, by kernel_rfl, by kernel_rfl⟩
theorem ok35 : okFn PP 35 := ⟨Go.Proofs.Try.f35, by kernel_rfl, by kernel_rfl, by kernel_rfl⟩
theorem ok36 : okFn PP 36 := ⟨Go.Proofs.Try.f36, by kernel_rfl, by kernel_rfl, by kernel_rfl⟩
theorem ok37 : okFn PP 37 := ⟨Go.Proofs.Try.f37, by kernel_rfl, by kernel_rfl, by kernel_rfl⟩
theorem ok38 : okFn PP 38 := ⟨Go.Proofs.Try.f38, by kernel_rfl, by kernel_rfl, by kernel_rfl⟩
theorem ok39 : okFn PP 39 := ⟨Go.Proofs.Try.f39, by kernel_rfl, by kernel_rfl, by kernel_rfl⟩
theorem ok40 : okFn PP 40 := ⟨Go.Proofs.Try.f40, by kernel_rfl, by kernel_rfl, by kernel_rfl⟩
theorem ok41 : okFn PP 41 := ⟨Go.Proofs.Try.f41, by kernel_rfl, by kernel_rfl, by kernel_rfl⟩
theorem ok42 : okFn PP 42 := ⟨Go.Proofs.Try.f42, by kernel_rfl, by kernel_rfl, by kernel_rfl⟩
theorem ok43 : okFn PP 43 := ⟨Go.Proofs.Try.f43, by kernel_rfl, by kernel_rfl, by kernel_rfl⟩
theorem ok44 : okFn PP 44 := ⟨Go.Proofs.Try.f44, by kernel_rfl, by kernel_rfl, by kernel_rfl⟩
theorem ok45 : okFn PP 45 := ⟨Go.Proofs.Try.f45, by kernel_rfl, by kernel_rfl, by kernel_rfl⟩
theorem ok46 : okFn PP 46 := ⟨Go.Proofs.Try.f46, by kernel_rfl, by kernel_rfl, by kernel_rfl⟩
theorem ok47 : okFn PP 47 := ⟨Go.Proofs.Try.f47, by kernel_rfl, by kernel_rfl, by kernel_rfl⟩
theorem ok48 : okFn PP 48 := ⟨Go.Proofs.Try.f48, by kernel_rfl, by kernel_rfl, by kernel_rfl⟩
theorem ok49 : okFn PP 49 := ⟨Go.Proofs.Try.f49, by kernel_rfl, by kernel_rfl, by kernel_rfl⟩
theorem ok50 : okFn PP 50 := ⟨Go.Proofs.Try.f50, by kernel_rfl, by kernel_rfl, by kernel_rfl⟩
theorem ok51 : okFn PP 51 := ⟨Go.Proofs.Try.f51, by kernel_rfl, by kernel_rfl, by kernel_rfl⟩
theorem ok52 : okFn PP 52 := ⟨Go.Proofs.Try.f52, by kernel_rfl, by kernel_rfl, by kernel_rfl⟩
theorem ok53 : okFn PP 53 := ⟨Go.Proofs.Try.f53, by kernel_rfl, by kernel_rfl, by kernel_rfl⟩
theorem okAll : ∀ g ∈ [2, 3, 4, 5, 6, 7, 8, 9, 10, 11, 12, 13, 14, 15, 16, 17, 18, 19, 20, 21, 22, 23, 24, 25, 26, 27, 28, 29, 30, 31, 32, 33, 34, 35, 36, 37, 38, 39, 40, 41, 42, 43, 44, 45, 46, 47, 48, 49, 50, 51, 52, 53], okFn PP g :=
  List.forall_mem_cons.2 ⟨ok2, List.forall_mem_cons.2 ⟨ok3, List.forall_mem_cons.2 ⟨ok4, List.forall_mem_cons.2 ⟨ok5, List.forall_mem_cons.2 ⟨ok6, List.forall_mem_cons.2 ⟨ok7, List.forall_mem_cons.2 ⟨ok8, List.forall_mem_cons.2 ⟨ok9, List.forall_mem_cons.2 ⟨ok10, List.forall_mem_cons.2 ⟨ok11, List.forall_mem_cons.2 ⟨ok12, List.forall_mem_cons.2 ⟨ok13, List.forall_mem_cons.2 ⟨ok14, List.forall_mem_cons.2 ⟨ok15, List.forall_mem_cons.2 ⟨ok16, List.forall_mem_cons.2 ⟨ok17, List.forall_mem_cons.2 ⟨ok18, List.forall_mem_cons.2 ⟨ok19, List.forall_mem_cons.2 ⟨ok20, List.forall_mem_cons.2 ⟨ok21, List.forall_mem_cons.2 ⟨ok22, List.forall_mem_cons.2 ⟨ok23, List.forall_mem_cons.2 ⟨ok24, List.forall_mem_cons.2 ⟨ok25, List.forall_mem_cons.2 ⟨ok26, List.forall_mem_cons.2 ⟨ok27, List.forall_mem_cons.2 ⟨ok28, List.forall_mem_cons.2 ⟨ok29, List.forall_mem_cons.2 ⟨ok30, List.forall_mem_cons.2 ⟨ok31, List.forall_mem_cons.2 ⟨ok32, List.forall_mem_cons.2 ⟨ok33, List.forall_mem_cons.2 ⟨ok34, List.forall_mem_cons.2 ⟨ok35, List.forall_mem_cons.2 ⟨ok36, List.forall_mem_cons.2 ⟨ok37, List.forall_mem_cons.2 ⟨ok38, List.forall_mem_cons.2 ⟨ok39, List.forall_mem_cons.2 ⟨ok40, List.forall_mem_cons.2 ⟨ok41, List.forall_mem_cons.2 ⟨ok42, List.forall_mem_cons.2 ⟨ok43, List.forall_mem_cons.2 ⟨ok44, List.forall_mem_cons.2 ⟨ok45, List.forall_mem_cons.2 ⟨ok46, List.forall_mem_cons.2 ⟨ok47, List.forall_mem_cons.2 ⟨ok48, List.forall_mem_cons.2 ⟨ok49, List.forall_mem_cons.2 ⟨ok50, List.forall_mem_cons.2 ⟨ok51, List.forall_mem_cons.2 ⟨ok52, List.forall_mem_cons.2 ⟨ok53, by simp⟩⟩⟩⟩⟩⟩⟩⟩⟩⟩⟩⟩⟩⟩⟩⟩⟩⟩⟩⟩⟩⟩⟩⟩⟩⟩⟩⟩⟩⟩⟩⟩⟩⟩⟩⟩⟩⟩⟩⟩⟩⟩⟩⟩⟩⟩⟩⟩⟩⟩⟩⟩
def callB (g : Nat) : Bool := memN g [2, 3, 4, 5, 6, 7, 8, 9, 10, 11, 12, 13, 14, 15, 16, 17, 18, 19, 20, 21, 22, 23, 24, 25, 26, 27, 28, 29, 30, 31, 32, 33, 34, 35, 36, 37, 38, 39, 40, 41, 42, 43, 44, 45, 46, 47, 48, 49, 50, 51, 52, 53]
noncomputable def cx (N : Nat) (prom : Nat → Bool) : Ctx := { P := PP, N := N, prom := prom, call := callB, rep := repS }
theorem okc {N : Nat} {prom : Nat → Bool} : ∀ g, (cx N prom).call g = true → okFn (cx N prom).P g := fun g hg => okAll g (memN_iff.1 hg)
theorem mixed {N : Nat} {prom : Nat → Bool} : (cx N prom).P.follows .mixedOrders = true := by kernel_rfl
end Go.Sh
