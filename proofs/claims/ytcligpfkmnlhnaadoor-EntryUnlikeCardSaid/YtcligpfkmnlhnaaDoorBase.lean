/- The numbers of this seat's functions and types, by name; that the program's calls go where they say.
   Conditions: none. -/
import Derived.Test.YtcligpfkmnlhnaaDoorCore
import Derived.Test.YtcligpfkmnlhnaaDoorProg
namespace Go.Sh
open Go
set_option linter.unusedSimpArgs false
noncomputable abbrev PP : Program := Go.Proofs.Tryd.prog
abbrev n_gosem_cut_init : Nat := 2
abbrev n_cellplanelaw06_EntryShape : Nat := 3
abbrev n_cellplanelaw06_EntryKinds : Nat := 4
abbrev n_cellplanelaw06_EntryName : Nat := 5
abbrev n_cellplanelaw06_EntryValid : Nat := 6
abbrev n_cellplanelaw06_EntryValidShape : Nat := 7
abbrev n_cellplanelaw06_EntryUnlike : Nat := 8
abbrev n_cellplanemake_Light : Nat := 9
abbrev n_cellplanelaw06_awake : Nat := 10
abbrev n_cellplanelaw06_made : Nat := 11
abbrev n_cellplanemake_Spoilt : Nat := 12
abbrev n_cellplanemake_Between : Nat := 13
abbrev n_entry_Shape : Nat := 14
abbrev n_cellplaneref06_Shape : Nat := 15
abbrev n_entry_Name : Nat := 16
abbrev n_cellplaneref06_Name : Nat := 17
abbrev n_entry_Valid : Nat := 18
abbrev n_cellplaneref06_Valid : Nat := 19
abbrev n_cellplaneref01_SameBytes : Nat := 20
abbrev n_entry_Bytes : Nat := 21
abbrev n_cellplanemake_Config : Nat := 22
abbrev n_cellplanemake_Entry : Nat := 23
abbrev n_cellplanemake_New : Nat := 24
abbrev n_cellplanemake_State : Nat := 25
abbrev n_cellplanemake_Mod : Nat := 26
abbrev n_entry_fits : Nat := 27
abbrev n_cellplaneref06_right : Nat := 28
abbrev n_entry_index : Nat := 29
abbrev n_entry_places : Nat := 30
abbrev n_wire_Int : Nat := 31
abbrev n_cellplanemake_Tape_Next : Nat := 32
abbrev n_cellplanemake_Tape_Range : Nat := 33
abbrev n_cellplanemake_Tape_Yes : Nat := 34
abbrev n_cellplanemake_platform : Nat := 35
abbrev n_cellplanemake_none : Nat := 36
abbrev n_cellplanemake_pick : Nat := 37
abbrev n_cellplaneref05_Homes : Nat := 38
abbrev n_cellplaneref05_Standbys : Nat := 39
abbrev n_cellplanemake_grant : Nat := 40
abbrev n_cellplaneref12_Fold : Nat := 41
abbrev n_cellplanemake_Log : Nat := 42
abbrev n_entry_between : Nat := 43
abbrev n_entry_fits_1 : Nat := 44
abbrev n_entry_fits_2 : Nat := 45
abbrev n_entry_fits_3 : Nat := 46
abbrev n_entry_fits_4 : Nat := 47
abbrev n_cellplaneref06_in : Nat := 48
abbrev n_cellplaneref06_places : Nat := 49
abbrev n_cellplaneref06_numbers : Nat := 50
abbrev n_wire_put : Nat := 51
abbrev n_wire_copied : Nat := 52
abbrev n_cellplaneref04_Has : Nat := 53
abbrev n_cellplaneref05_May : Nat := 54
abbrev n_cellplaneref05_Apart : Nat := 55
abbrev n_cellplaneref12_New : Nat := 56
abbrev n_cellplaneref12_Apply : Nat := 57
abbrev n_cellplanemake_Tape_More : Nat := 58
abbrev n_cellplaneref06_has : Nat := 59
abbrev n_cellplaneref04_RegionOf : Nat := 60
abbrev n_cellplaneref12_no : Nat := 61
abbrev n_cellplaneref12_Copied : Nat := 62
abbrev n_cellplaneref12_place : Nat := 63
abbrev n_cellplaneref12_grant : Nat := 64
abbrev n_cellplaneref12_cut : Nat := 65
abbrev n_cellplaneref12_standby : Nat := 66
abbrev n_cellplaneref12_ready : Nat := 67
abbrev n_cellplaneref12_migrate : Nat := 68
abbrev n_cellplaneref12_abandon : Nat := 69
abbrev n_cellplaneref12_shed : Nat := 70
abbrev n_cellplaneref12_want : Nat := 71
abbrev n_cellplaneref12_runs : Nat := 72
abbrev n_cellplaneref12_prove : Nat := 73
abbrev n_cellplaneref12_expand : Nat := 74
abbrev n_cellplaneref06_uses : Nat := 75
abbrev n_cellplaneref04_ZoneOf : Nat := 76
abbrev n_cellplaneref12_frozen : Nat := 77
abbrev n_cellplaneref12_together : Nat := 78
abbrev n_cellplaneref12_fit : Nat := 79
abbrev n_cellplaneref12_granted : Nat := 80
abbrev n_cellplaneref12_Cut : Nat := 81
abbrev n_cellplaneref12_open : Nat := 82
abbrev n_cellplaneref12_proven : Nat := 83
abbrev n_cellplaneref11_Over : Nat := 84
abbrev n_cellplaneref11_Booked : Nat := 85
abbrev n_cellplaneref11_add : Nat := 86
abbrev n_gosem_cut_vars : Nat := 106
abbrev t_tuple : Nat := 0
abbrev t_func : Nat := 1
abbrev t_i64 : Nat := 2
abbrev t_i64_2 : Nat := 3
abbrev t_bool : Nat := 4
abbrev t_u8 : Nat := 5
abbrev t_internal_abi_BoundsErrorCode : Nat := 6
abbrev t_struct : Nat := 7
abbrev t_runtime_boundsError : Nat := 8
abbrev t_string : Nat := 9
abbrev t_runtime_errorString : Nat := 10
abbrev t_runtime_plainError : Nat := 11
abbrev t_u64 : Nat := 12
abbrev t_struct_2 : Nat := 13
abbrev t_runtime_errorAddressString : Nat := 14
abbrev t_p_runtime_TypeAssertionError : Nat := 15
abbrev t_p_runtime_PanicNilError : Nat := 16
abbrev t_p_internal_abi_Type : Nat := 17
abbrev t_struct_3 : Nat := 18
abbrev t_internal_runtime_maps_unhashableTypeError : Nat := 19
abbrev t_interface : Nat := 20
abbrev t_i32 : Nat := 21
abbrev t_sl_i64 : Nat := 22
abbrev t_struct_4 : Nat := 23
abbrev t_api_Entry : Nat := 24
abbrev t_func_2 : Nat := 25
abbrev t_func_3 : Nat := 26
abbrev t_sl_api_Zone : Nat := 27
abbrev t_sl_api_Cell : Nat := 28
abbrev t_sl_api_Tenant : Nat := 29
abbrev t_sl_api_Version : Nat := 30
abbrev t_struct_5 : Nat := 31
abbrev t_api_Config : Nat := 32
abbrev t_tuple_2 : Nat := 33
abbrev t_func_4 : Nat := 34
abbrev t_func_5 : Nat := 35
abbrev t_func_6 : Nat := 36
abbrev t_func_7 : Nat := 37
abbrev t_func_8 : Nat := 38
abbrev t_func_9 : Nat := 39
abbrev t_func_10 : Nat := 40
abbrev t_func_11 : Nat := 41
abbrev t_func_12 : Nat := 42
abbrev t_func_13 : Nat := 43
abbrev t_sl_u8 : Nat := 44
abbrev t_func_14 : Nat := 45
abbrev t_func_15 : Nat := 46
abbrev t_func_16 : Nat := 47
abbrev t_func_17 : Nat := 48
abbrev t_p_cellplanemake_Tape : Nat := 49
abbrev t_func_18 : Nat := 50
abbrev t_sl_api_TenantState : Nat := 51
abbrev t_sl_api_CellState : Nat := 52
abbrev t_struct_6 : Nat := 53
abbrev t_api_State : Nat := 54
abbrev t_func_19 : Nat := 55
abbrev t_func_20 : Nat := 56
abbrev t_func_21 : Nat := 57
abbrev t_struct_7 : Nat := 58
abbrev t_entry_sizes : Nat := 59
abbrev t_func_22 : Nat := 60
abbrev t_func_23 : Nat := 61
abbrev t_ar16_string : Nat := 62
abbrev t_sl_string : Nat := 63
abbrev t_p_i64 : Nat := 64
abbrev t_ar9_p_i64 : Nat := 65
abbrev t_func_24 : Nat := 66
abbrev t_p_api_Entry : Nat := 67
abbrev t_func_25 : Nat := 68
abbrev t_func_26 : Nat := 69
abbrev t_struct_8 : Nat := 70
abbrev t_api_Zone : Nat := 71
abbrev t_struct_9 : Nat := 72
abbrev t_api_Cell : Nat := 73
abbrev t_u64_2 : Nat := 74
abbrev t_struct_10 : Nat := 75
abbrev t_api_Tenant : Nat := 76
abbrev t_struct_11 : Nat := 77
abbrev t_api_Version : Nat := 78
abbrev t_func_27 : Nat := 79
abbrev t_struct_12 : Nat := 80
abbrev t_api_Window : Nat := 81
abbrev t_struct_13 : Nat := 82
abbrev t_api_TenantState : Nat := 83
abbrev t_func_28 : Nat := 84
abbrev t_func_29 : Nat := 85
abbrev t_func_30 : Nat := 86
abbrev t_func_31 : Nat := 87
abbrev t_func_32 : Nat := 88
abbrev t_struct_14 : Nat := 89
abbrev t_cellplanemake_Tape : Nat := 90
abbrev t_api_Errno : Nat := 91
abbrev t_tuple_3 : Nat := 92
abbrev t_func_33 : Nat := 93
abbrev t_sl_api_Entry : Nat := 94
abbrev t_func_34 : Nat := 95
abbrev t_func_35 : Nat := 96
abbrev t_func_36 : Nat := 97
abbrev t_func_37 : Nat := 98
abbrev t_func_38 : Nat := 99
abbrev t_func_39 : Nat := 100
abbrev t_struct_15 : Nat := 101
abbrev t_api_CellState : Nat := 102
abbrev t_func_40 : Nat := 103
abbrev t_func_41 : Nat := 104
abbrev t_tuple_4 : Nat := 105
abbrev t_func_42 : Nat := 106
abbrev t_func_43 : Nat := 107
abbrev t_u64_3 : Nat := 108
abbrev t_func_44 : Nat := 109
abbrev t_func_45 : Nat := 110
abbrev t_func_46 : Nat := 111
abbrev t_func_47 : Nat := 112
abbrev t_func_48 : Nat := 113
abbrev t_p_api_TenantState : Nat := 114
abbrev t_func_49 : Nat := 115
abbrev t_func_50 : Nat := 116
abbrev t_func_51 : Nat := 117
abbrev t_p_api_CellState : Nat := 118
abbrev t_func_52 : Nat := 119
abbrev t_func_53 : Nat := 120
abbrev t_func_54 : Nat := 121
abbrev t_func_55 : Nat := 122
abbrev t_struct_16 : Nat := 123
abbrev t_runtime_TypeAssertionError : Nat := 124
abbrev t_ar0_p_runtime_PanicNilError : Nat := 125
abbrev t_struct_17 : Nat := 126
abbrev t_runtime_PanicNilError : Nat := 127
abbrev t_func_56 : Nat := 128
abbrev t_u32 : Nat := 129
abbrev t_internal_abi_TFlag : Nat := 130
abbrev t_internal_abi_Kind : Nat := 131
abbrev t_func_57 : Nat := 132
abbrev t_p_u8 : Nat := 133
abbrev t_internal_abi_NameOff : Nat := 134
abbrev t_internal_abi_TypeOff : Nat := 135
abbrev t_struct_18 : Nat := 136
abbrev t_internal_abi_Type : Nat := 137
abbrev t_unsafePointer : Nat := 138
theorem strEq_iff {x y : ByteArray} : strEq x y = true ↔ x = y := by
  unfold strEq
  constructor
  · intro h
    have h1 := eq_of_beq h
    rw [ByteArray.toList_eq, ByteArray.toList_eq] at h1
    obtain ⟨⟨x⟩⟩ := x
    obtain ⟨⟨y⟩⟩ := y
    simpa using h1
  · rintro rfl; simp
structure G_struct where
  x : Int
  y : Int
  signed : Bool
  code : Int
def G_struct.cells (x : G_struct) : List Value := [.int .i64 x.x, .int .i64 x.y, .bool x.signed, .int .u8 x.code]
def G_struct.decL (l : List Value) (k : G_struct → Prop) : Prop := match l with
  | [.int .i64 vx, .int .i64 vy, .bool vsigned, .int .u8 vcode] => k ⟨vx, vy, vsigned, vcode⟩
  | _ => False
theorem G_struct.decL_spec {l : List Value} {k : G_struct → Prop} (h : G_struct.decL l k) : ∃ x : G_struct, l = x.cells ∧ k x := by
  unfold G_struct.decL at h
  split at h
  · exact ⟨_, rfl, h⟩
  · exact h.elim
def G_struct.decA (a : Array Value) (k : G_struct → Prop) : Prop := G_struct.decL a.toList k
theorem G_struct.decA_spec {a : Array Value} {k : G_struct → Prop} (h : G_struct.decA a k) : ∃ x : G_struct, a = List.toArray x.cells ∧ k x := by
  obtain ⟨x, e, h⟩ := G_struct.decL_spec h
  exact ⟨x, by rw [← e], h⟩
def G_struct.eqb (x y : G_struct) : Bool := (decide (x.x = y.x) && (decide (x.y = y.y) && ((x.signed == y.signed) && (decide (x.code = y.code) && true))))
theorem G_struct.eqb_iff {x y : G_struct} : G_struct.eqb x y = true ↔ x = y := by
  cases x; cases y; simp [G_struct.eqb, strEq_iff]
structure G_runtime_boundsError where
  x : Int
  y : Int
  signed : Bool
  code : Int
def G_runtime_boundsError.cells (x : G_runtime_boundsError) : List Value := [.int .i64 x.x, .int .i64 x.y, .bool x.signed, .int .u8 x.code]
def G_runtime_boundsError.decL (l : List Value) (k : G_runtime_boundsError → Prop) : Prop := match l with
  | [.int .i64 vx, .int .i64 vy, .bool vsigned, .int .u8 vcode] => k ⟨vx, vy, vsigned, vcode⟩
  | _ => False
theorem G_runtime_boundsError.decL_spec {l : List Value} {k : G_runtime_boundsError → Prop} (h : G_runtime_boundsError.decL l k) : ∃ x : G_runtime_boundsError, l = x.cells ∧ k x := by
  unfold G_runtime_boundsError.decL at h
  split at h
  · exact ⟨_, rfl, h⟩
  · exact h.elim
def G_runtime_boundsError.decA (a : Array Value) (k : G_runtime_boundsError → Prop) : Prop := G_runtime_boundsError.decL a.toList k
theorem G_runtime_boundsError.decA_spec {a : Array Value} {k : G_runtime_boundsError → Prop} (h : G_runtime_boundsError.decA a k) : ∃ x : G_runtime_boundsError, a = List.toArray x.cells ∧ k x := by
  obtain ⟨x, e, h⟩ := G_runtime_boundsError.decL_spec h
  exact ⟨x, by rw [← e], h⟩
def G_runtime_boundsError.eqb (x y : G_runtime_boundsError) : Bool := (decide (x.x = y.x) && (decide (x.y = y.y) && ((x.signed == y.signed) && (decide (x.code = y.code) && true))))
theorem G_runtime_boundsError.eqb_iff {x y : G_runtime_boundsError} : G_runtime_boundsError.eqb x y = true ↔ x = y := by
  cases x; cases y; simp [G_runtime_boundsError.eqb, strEq_iff]
structure G_struct_2 where
  msg : ByteArray
  addr : Int
def G_struct_2.cells (x : G_struct_2) : List Value := [.string x.msg, .int .u64 x.addr]
def G_struct_2.decL (l : List Value) (k : G_struct_2 → Prop) : Prop := match l with
  | [.string vmsg, .int .u64 vaddr] => k ⟨vmsg, vaddr⟩
  | _ => False
theorem G_struct_2.decL_spec {l : List Value} {k : G_struct_2 → Prop} (h : G_struct_2.decL l k) : ∃ x : G_struct_2, l = x.cells ∧ k x := by
  unfold G_struct_2.decL at h
  split at h
  · exact ⟨_, rfl, h⟩
  · exact h.elim
def G_struct_2.decA (a : Array Value) (k : G_struct_2 → Prop) : Prop := G_struct_2.decL a.toList k
theorem G_struct_2.decA_spec {a : Array Value} {k : G_struct_2 → Prop} (h : G_struct_2.decA a k) : ∃ x : G_struct_2, a = List.toArray x.cells ∧ k x := by
  obtain ⟨x, e, h⟩ := G_struct_2.decL_spec h
  exact ⟨x, by rw [← e], h⟩
def G_struct_2.eqb (x y : G_struct_2) : Bool := (strEq x.msg y.msg && (decide (x.addr = y.addr) && true))
theorem G_struct_2.eqb_iff {x y : G_struct_2} : G_struct_2.eqb x y = true ↔ x = y := by
  cases x; cases y; simp [G_struct_2.eqb, strEq_iff]
structure G_runtime_errorAddressString where
  msg : ByteArray
  addr : Int
def G_runtime_errorAddressString.cells (x : G_runtime_errorAddressString) : List Value := [.string x.msg, .int .u64 x.addr]
def G_runtime_errorAddressString.decL (l : List Value) (k : G_runtime_errorAddressString → Prop) : Prop := match l with
  | [.string vmsg, .int .u64 vaddr] => k ⟨vmsg, vaddr⟩
  | _ => False
theorem G_runtime_errorAddressString.decL_spec {l : List Value} {k : G_runtime_errorAddressString → Prop} (h : G_runtime_errorAddressString.decL l k) : ∃ x : G_runtime_errorAddressString, l = x.cells ∧ k x := by
  unfold G_runtime_errorAddressString.decL at h
  split at h
  · exact ⟨_, rfl, h⟩
  · exact h.elim
def G_runtime_errorAddressString.decA (a : Array Value) (k : G_runtime_errorAddressString → Prop) : Prop := G_runtime_errorAddressString.decL a.toList k
theorem G_runtime_errorAddressString.decA_spec {a : Array Value} {k : G_runtime_errorAddressString → Prop} (h : G_runtime_errorAddressString.decA a k) : ∃ x : G_runtime_errorAddressString, a = List.toArray x.cells ∧ k x := by
  obtain ⟨x, e, h⟩ := G_runtime_errorAddressString.decL_spec h
  exact ⟨x, by rw [← e], h⟩
def G_runtime_errorAddressString.eqb (x y : G_runtime_errorAddressString) : Bool := (strEq x.msg y.msg && (decide (x.addr = y.addr) && true))
theorem G_runtime_errorAddressString.eqb_iff {x y : G_runtime_errorAddressString} : G_runtime_errorAddressString.eqb x y = true ↔ x = y := by
  cases x; cases y; simp [G_runtime_errorAddressString.eqb, strEq_iff]
structure G_struct_3 where
  typ : Option Addr
def G_struct_3.cells (x : G_struct_3) : List Value := [.pointer x.typ]
def G_struct_3.decL (l : List Value) (k : G_struct_3 → Prop) : Prop := match l with
  | [.pointer vtyp] => k ⟨vtyp⟩
  | _ => False
theorem G_struct_3.decL_spec {l : List Value} {k : G_struct_3 → Prop} (h : G_struct_3.decL l k) : ∃ x : G_struct_3, l = x.cells ∧ k x := by
  unfold G_struct_3.decL at h
  split at h
  · exact ⟨_, rfl, h⟩
  · exact h.elim
def G_struct_3.decA (a : Array Value) (k : G_struct_3 → Prop) : Prop := G_struct_3.decL a.toList k
theorem G_struct_3.decA_spec {a : Array Value} {k : G_struct_3 → Prop} (h : G_struct_3.decA a k) : ∃ x : G_struct_3, a = List.toArray x.cells ∧ k x := by
  obtain ⟨x, e, h⟩ := G_struct_3.decL_spec h
  exact ⟨x, by rw [← e], h⟩
structure G_internal_runtime_maps_unhashableTypeError where
  typ : Option Addr
def G_internal_runtime_maps_unhashableTypeError.cells (x : G_internal_runtime_maps_unhashableTypeError) : List Value := [.pointer x.typ]
def G_internal_runtime_maps_unhashableTypeError.decL (l : List Value) (k : G_internal_runtime_maps_unhashableTypeError → Prop) : Prop := match l with
  | [.pointer vtyp] => k ⟨vtyp⟩
  | _ => False
theorem G_internal_runtime_maps_unhashableTypeError.decL_spec {l : List Value} {k : G_internal_runtime_maps_unhashableTypeError → Prop} (h : G_internal_runtime_maps_unhashableTypeError.decL l k) : ∃ x : G_internal_runtime_maps_unhashableTypeError, l = x.cells ∧ k x := by
  unfold G_internal_runtime_maps_unhashableTypeError.decL at h
  split at h
  · exact ⟨_, rfl, h⟩
  · exact h.elim
def G_internal_runtime_maps_unhashableTypeError.decA (a : Array Value) (k : G_internal_runtime_maps_unhashableTypeError → Prop) : Prop := G_internal_runtime_maps_unhashableTypeError.decL a.toList k
theorem G_internal_runtime_maps_unhashableTypeError.decA_spec {a : Array Value} {k : G_internal_runtime_maps_unhashableTypeError → Prop} (h : G_internal_runtime_maps_unhashableTypeError.decA a k) : ∃ x : G_internal_runtime_maps_unhashableTypeError, a = List.toArray x.cells ∧ k x := by
  obtain ⟨x, e, h⟩ := G_internal_runtime_maps_unhashableTypeError.decL_spec h
  exact ⟨x, by rw [← e], h⟩
structure G_struct_4 where
  Kind : Int
  Tick : Int
  Tenant : Int
  Cell : Int
  Other : Int
  Epoch : Int
  From : Int
  Until : Int
  N : Int
def G_struct_4.cells (x : G_struct_4) : List Value := [.int .i64 x.Kind, .int .i64 x.Tick, .int .i64 x.Tenant, .int .i64 x.Cell, .int .i64 x.Other, .int .i64 x.Epoch, .int .i64 x.From, .int .i64 x.Until, .int .i64 x.N]
def G_struct_4.decL (l : List Value) (k : G_struct_4 → Prop) : Prop := match l with
  | [.int .i64 vKind, .int .i64 vTick, .int .i64 vTenant, .int .i64 vCell, .int .i64 vOther, .int .i64 vEpoch, .int .i64 vFrom, .int .i64 vUntil, .int .i64 vN] => k ⟨vKind, vTick, vTenant, vCell, vOther, vEpoch, vFrom, vUntil, vN⟩
  | _ => False
theorem G_struct_4.decL_spec {l : List Value} {k : G_struct_4 → Prop} (h : G_struct_4.decL l k) : ∃ x : G_struct_4, l = x.cells ∧ k x := by
  unfold G_struct_4.decL at h
  split at h
  · exact ⟨_, rfl, h⟩
  · exact h.elim
def G_struct_4.decA (a : Array Value) (k : G_struct_4 → Prop) : Prop := G_struct_4.decL a.toList k
theorem G_struct_4.decA_spec {a : Array Value} {k : G_struct_4 → Prop} (h : G_struct_4.decA a k) : ∃ x : G_struct_4, a = List.toArray x.cells ∧ k x := by
  obtain ⟨x, e, h⟩ := G_struct_4.decL_spec h
  exact ⟨x, by rw [← e], h⟩
def G_struct_4.eqb (x y : G_struct_4) : Bool := (decide (x.Kind = y.Kind) && (decide (x.Tick = y.Tick) && (decide (x.Tenant = y.Tenant) && (decide (x.Cell = y.Cell) && (decide (x.Other = y.Other) && (decide (x.Epoch = y.Epoch) && (decide (x.From = y.From) && (decide (x.Until = y.Until) && (decide (x.N = y.N) && true)))))))))
theorem G_struct_4.eqb_iff {x y : G_struct_4} : G_struct_4.eqb x y = true ↔ x = y := by
  cases x; cases y; simp [G_struct_4.eqb, strEq_iff]
structure G_api_Entry where
  Kind : Int
  Tick : Int
  Tenant : Int
  Cell : Int
  Other : Int
  Epoch : Int
  From : Int
  Until : Int
  N : Int
def G_api_Entry.cells (x : G_api_Entry) : List Value := [.int .i64 x.Kind, .int .i64 x.Tick, .int .i64 x.Tenant, .int .i64 x.Cell, .int .i64 x.Other, .int .i64 x.Epoch, .int .i64 x.From, .int .i64 x.Until, .int .i64 x.N]
def G_api_Entry.decL (l : List Value) (k : G_api_Entry → Prop) : Prop := match l with
  | [.int .i64 vKind, .int .i64 vTick, .int .i64 vTenant, .int .i64 vCell, .int .i64 vOther, .int .i64 vEpoch, .int .i64 vFrom, .int .i64 vUntil, .int .i64 vN] => k ⟨vKind, vTick, vTenant, vCell, vOther, vEpoch, vFrom, vUntil, vN⟩
  | _ => False
theorem G_api_Entry.decL_spec {l : List Value} {k : G_api_Entry → Prop} (h : G_api_Entry.decL l k) : ∃ x : G_api_Entry, l = x.cells ∧ k x := by
  unfold G_api_Entry.decL at h
  split at h
  · exact ⟨_, rfl, h⟩
  · exact h.elim
def G_api_Entry.decA (a : Array Value) (k : G_api_Entry → Prop) : Prop := G_api_Entry.decL a.toList k
theorem G_api_Entry.decA_spec {a : Array Value} {k : G_api_Entry → Prop} (h : G_api_Entry.decA a k) : ∃ x : G_api_Entry, a = List.toArray x.cells ∧ k x := by
  obtain ⟨x, e, h⟩ := G_api_Entry.decL_spec h
  exact ⟨x, by rw [← e], h⟩
def G_api_Entry.eqb (x y : G_api_Entry) : Bool := (decide (x.Kind = y.Kind) && (decide (x.Tick = y.Tick) && (decide (x.Tenant = y.Tenant) && (decide (x.Cell = y.Cell) && (decide (x.Other = y.Other) && (decide (x.Epoch = y.Epoch) && (decide (x.From = y.From) && (decide (x.Until = y.Until) && (decide (x.N = y.N) && true)))))))))
theorem G_api_Entry.eqb_iff {x y : G_api_Entry} : G_api_Entry.eqb x y = true ↔ x = y := by
  cases x; cases y; simp [G_api_Entry.eqb, strEq_iff]
structure G_struct_5 where
  Regions : Int
  Zones : Sl
  Cells : Sl
  Tenants : Sl
  Versions : Sl
  Replicas : Sl
  Observers : Sl
  Blast : Int
  Lease : Int
  Bake : Int
def G_struct_5.cells (x : G_struct_5) : List Value := [.int .i64 x.Regions, .slice x.Zones.a x.Zones.n x.Zones.c, .slice x.Cells.a x.Cells.n x.Cells.c, .slice x.Tenants.a x.Tenants.n x.Tenants.c, .slice x.Versions.a x.Versions.n x.Versions.c, .slice x.Replicas.a x.Replicas.n x.Replicas.c, .slice x.Observers.a x.Observers.n x.Observers.c, .int .i64 x.Blast, .int .i64 x.Lease, .int .i64 x.Bake]
def G_struct_5.decL (l : List Value) (k : G_struct_5 → Prop) : Prop := match l with
  | [.int .i64 vRegions, .slice vZones vZonesn vZonesc, .slice vCells vCellsn vCellsc, .slice vTenants vTenantsn vTenantsc, .slice vVersions vVersionsn vVersionsc, .slice vReplicas vReplicasn vReplicasc, .slice vObservers vObserversn vObserversc, .int .i64 vBlast, .int .i64 vLease, .int .i64 vBake] => k ⟨vRegions, ⟨vZones, vZonesn, vZonesc⟩, ⟨vCells, vCellsn, vCellsc⟩, ⟨vTenants, vTenantsn, vTenantsc⟩, ⟨vVersions, vVersionsn, vVersionsc⟩, ⟨vReplicas, vReplicasn, vReplicasc⟩, ⟨vObservers, vObserversn, vObserversc⟩, vBlast, vLease, vBake⟩
  | _ => False
theorem G_struct_5.decL_spec {l : List Value} {k : G_struct_5 → Prop} (h : G_struct_5.decL l k) : ∃ x : G_struct_5, l = x.cells ∧ k x := by
  unfold G_struct_5.decL at h
  split at h
  · exact ⟨_, rfl, h⟩
  · exact h.elim
def G_struct_5.decA (a : Array Value) (k : G_struct_5 → Prop) : Prop := G_struct_5.decL a.toList k
theorem G_struct_5.decA_spec {a : Array Value} {k : G_struct_5 → Prop} (h : G_struct_5.decA a k) : ∃ x : G_struct_5, a = List.toArray x.cells ∧ k x := by
  obtain ⟨x, e, h⟩ := G_struct_5.decL_spec h
  exact ⟨x, by rw [← e], h⟩
structure G_api_Config where
  Regions : Int
  Zones : Sl
  Cells : Sl
  Tenants : Sl
  Versions : Sl
  Replicas : Sl
  Observers : Sl
  Blast : Int
  Lease : Int
  Bake : Int
def G_api_Config.cells (x : G_api_Config) : List Value := [.int .i64 x.Regions, .slice x.Zones.a x.Zones.n x.Zones.c, .slice x.Cells.a x.Cells.n x.Cells.c, .slice x.Tenants.a x.Tenants.n x.Tenants.c, .slice x.Versions.a x.Versions.n x.Versions.c, .slice x.Replicas.a x.Replicas.n x.Replicas.c, .slice x.Observers.a x.Observers.n x.Observers.c, .int .i64 x.Blast, .int .i64 x.Lease, .int .i64 x.Bake]
def G_api_Config.decL (l : List Value) (k : G_api_Config → Prop) : Prop := match l with
  | [.int .i64 vRegions, .slice vZones vZonesn vZonesc, .slice vCells vCellsn vCellsc, .slice vTenants vTenantsn vTenantsc, .slice vVersions vVersionsn vVersionsc, .slice vReplicas vReplicasn vReplicasc, .slice vObservers vObserversn vObserversc, .int .i64 vBlast, .int .i64 vLease, .int .i64 vBake] => k ⟨vRegions, ⟨vZones, vZonesn, vZonesc⟩, ⟨vCells, vCellsn, vCellsc⟩, ⟨vTenants, vTenantsn, vTenantsc⟩, ⟨vVersions, vVersionsn, vVersionsc⟩, ⟨vReplicas, vReplicasn, vReplicasc⟩, ⟨vObservers, vObserversn, vObserversc⟩, vBlast, vLease, vBake⟩
  | _ => False
theorem G_api_Config.decL_spec {l : List Value} {k : G_api_Config → Prop} (h : G_api_Config.decL l k) : ∃ x : G_api_Config, l = x.cells ∧ k x := by
  unfold G_api_Config.decL at h
  split at h
  · exact ⟨_, rfl, h⟩
  · exact h.elim
def G_api_Config.decA (a : Array Value) (k : G_api_Config → Prop) : Prop := G_api_Config.decL a.toList k
theorem G_api_Config.decA_spec {a : Array Value} {k : G_api_Config → Prop} (h : G_api_Config.decA a k) : ∃ x : G_api_Config, a = List.toArray x.cells ∧ k x := by
  obtain ⟨x, e, h⟩ := G_api_Config.decL_spec h
  exact ⟨x, by rw [← e], h⟩
structure G_struct_6 where
  Tick : Int
  Count : Int
  Tenants : Sl
  Cells : Sl
  Proven : Int
  Evacuating : Int
  Low : Int
  High : Int
def G_struct_6.cells (x : G_struct_6) : List Value := [.int .i64 x.Tick, .int .i64 x.Count, .slice x.Tenants.a x.Tenants.n x.Tenants.c, .slice x.Cells.a x.Cells.n x.Cells.c, .int .i64 x.Proven, .int .i64 x.Evacuating, .int .i64 x.Low, .int .i64 x.High]
def G_struct_6.decL (l : List Value) (k : G_struct_6 → Prop) : Prop := match l with
  | [.int .i64 vTick, .int .i64 vCount, .slice vTenants vTenantsn vTenantsc, .slice vCells vCellsn vCellsc, .int .i64 vProven, .int .i64 vEvacuating, .int .i64 vLow, .int .i64 vHigh] => k ⟨vTick, vCount, ⟨vTenants, vTenantsn, vTenantsc⟩, ⟨vCells, vCellsn, vCellsc⟩, vProven, vEvacuating, vLow, vHigh⟩
  | _ => False
theorem G_struct_6.decL_spec {l : List Value} {k : G_struct_6 → Prop} (h : G_struct_6.decL l k) : ∃ x : G_struct_6, l = x.cells ∧ k x := by
  unfold G_struct_6.decL at h
  split at h
  · exact ⟨_, rfl, h⟩
  · exact h.elim
def G_struct_6.decA (a : Array Value) (k : G_struct_6 → Prop) : Prop := G_struct_6.decL a.toList k
theorem G_struct_6.decA_spec {a : Array Value} {k : G_struct_6 → Prop} (h : G_struct_6.decA a k) : ∃ x : G_struct_6, a = List.toArray x.cells ∧ k x := by
  obtain ⟨x, e, h⟩ := G_struct_6.decL_spec h
  exact ⟨x, by rw [← e], h⟩
structure G_api_State where
  Tick : Int
  Count : Int
  Tenants : Sl
  Cells : Sl
  Proven : Int
  Evacuating : Int
  Low : Int
  High : Int
def G_api_State.cells (x : G_api_State) : List Value := [.int .i64 x.Tick, .int .i64 x.Count, .slice x.Tenants.a x.Tenants.n x.Tenants.c, .slice x.Cells.a x.Cells.n x.Cells.c, .int .i64 x.Proven, .int .i64 x.Evacuating, .int .i64 x.Low, .int .i64 x.High]
def G_api_State.decL (l : List Value) (k : G_api_State → Prop) : Prop := match l with
  | [.int .i64 vTick, .int .i64 vCount, .slice vTenants vTenantsn vTenantsc, .slice vCells vCellsn vCellsc, .int .i64 vProven, .int .i64 vEvacuating, .int .i64 vLow, .int .i64 vHigh] => k ⟨vTick, vCount, ⟨vTenants, vTenantsn, vTenantsc⟩, ⟨vCells, vCellsn, vCellsc⟩, vProven, vEvacuating, vLow, vHigh⟩
  | _ => False
theorem G_api_State.decL_spec {l : List Value} {k : G_api_State → Prop} (h : G_api_State.decL l k) : ∃ x : G_api_State, l = x.cells ∧ k x := by
  unfold G_api_State.decL at h
  split at h
  · exact ⟨_, rfl, h⟩
  · exact h.elim
def G_api_State.decA (a : Array Value) (k : G_api_State → Prop) : Prop := G_api_State.decL a.toList k
theorem G_api_State.decA_spec {a : Array Value} {k : G_api_State → Prop} (h : G_api_State.decA a k) : ∃ x : G_api_State, a = List.toArray x.cells ∧ k x := by
  obtain ⟨x, e, h⟩ := G_api_State.decL_spec h
  exact ⟨x, by rw [← e], h⟩
structure G_struct_7 where
  tenants : Int
  cells_ : Int
  regions : Int
  versions : Int
def G_struct_7.cells (x : G_struct_7) : List Value := [.int .i64 x.tenants, .int .i64 x.cells_, .int .i64 x.regions, .int .i64 x.versions]
def G_struct_7.decL (l : List Value) (k : G_struct_7 → Prop) : Prop := match l with
  | [.int .i64 vtenants, .int .i64 vcells_, .int .i64 vregions, .int .i64 vversions] => k ⟨vtenants, vcells_, vregions, vversions⟩
  | _ => False
theorem G_struct_7.decL_spec {l : List Value} {k : G_struct_7 → Prop} (h : G_struct_7.decL l k) : ∃ x : G_struct_7, l = x.cells ∧ k x := by
  unfold G_struct_7.decL at h
  split at h
  · exact ⟨_, rfl, h⟩
  · exact h.elim
def G_struct_7.decA (a : Array Value) (k : G_struct_7 → Prop) : Prop := G_struct_7.decL a.toList k
theorem G_struct_7.decA_spec {a : Array Value} {k : G_struct_7 → Prop} (h : G_struct_7.decA a k) : ∃ x : G_struct_7, a = List.toArray x.cells ∧ k x := by
  obtain ⟨x, e, h⟩ := G_struct_7.decL_spec h
  exact ⟨x, by rw [← e], h⟩
def G_struct_7.eqb (x y : G_struct_7) : Bool := (decide (x.tenants = y.tenants) && (decide (x.cells_ = y.cells_) && (decide (x.regions = y.regions) && (decide (x.versions = y.versions) && true))))
theorem G_struct_7.eqb_iff {x y : G_struct_7} : G_struct_7.eqb x y = true ↔ x = y := by
  cases x; cases y; simp [G_struct_7.eqb, strEq_iff]
structure G_entry_sizes where
  tenants : Int
  cells_ : Int
  regions : Int
  versions : Int
def G_entry_sizes.cells (x : G_entry_sizes) : List Value := [.int .i64 x.tenants, .int .i64 x.cells_, .int .i64 x.regions, .int .i64 x.versions]
def G_entry_sizes.decL (l : List Value) (k : G_entry_sizes → Prop) : Prop := match l with
  | [.int .i64 vtenants, .int .i64 vcells_, .int .i64 vregions, .int .i64 vversions] => k ⟨vtenants, vcells_, vregions, vversions⟩
  | _ => False
theorem G_entry_sizes.decL_spec {l : List Value} {k : G_entry_sizes → Prop} (h : G_entry_sizes.decL l k) : ∃ x : G_entry_sizes, l = x.cells ∧ k x := by
  unfold G_entry_sizes.decL at h
  split at h
  · exact ⟨_, rfl, h⟩
  · exact h.elim
def G_entry_sizes.decA (a : Array Value) (k : G_entry_sizes → Prop) : Prop := G_entry_sizes.decL a.toList k
theorem G_entry_sizes.decA_spec {a : Array Value} {k : G_entry_sizes → Prop} (h : G_entry_sizes.decA a k) : ∃ x : G_entry_sizes, a = List.toArray x.cells ∧ k x := by
  obtain ⟨x, e, h⟩ := G_entry_sizes.decL_spec h
  exact ⟨x, by rw [← e], h⟩
def G_entry_sizes.eqb (x y : G_entry_sizes) : Bool := (decide (x.tenants = y.tenants) && (decide (x.cells_ = y.cells_) && (decide (x.regions = y.regions) && (decide (x.versions = y.versions) && true))))
theorem G_entry_sizes.eqb_iff {x y : G_entry_sizes} : G_entry_sizes.eqb x y = true ↔ x = y := by
  cases x; cases y; simp [G_entry_sizes.eqb, strEq_iff]
structure G_ar16_string where
  a0 : ByteArray
  a1 : ByteArray
  a2 : ByteArray
  a3 : ByteArray
  a4 : ByteArray
  a5 : ByteArray
  a6 : ByteArray
  a7 : ByteArray
  a8 : ByteArray
  a9 : ByteArray
  a10 : ByteArray
  a11 : ByteArray
  a12 : ByteArray
  a13 : ByteArray
  a14 : ByteArray
  a15 : ByteArray
def G_ar16_string.cells (x : G_ar16_string) : List Value := [.string x.a0, .string x.a1, .string x.a2, .string x.a3, .string x.a4, .string x.a5, .string x.a6, .string x.a7, .string x.a8, .string x.a9, .string x.a10, .string x.a11, .string x.a12, .string x.a13, .string x.a14, .string x.a15]
def G_ar16_string.decL (l : List Value) (k : G_ar16_string → Prop) : Prop := match l with
  | [.string va0, .string va1, .string va2, .string va3, .string va4, .string va5, .string va6, .string va7, .string va8, .string va9, .string va10, .string va11, .string va12, .string va13, .string va14, .string va15] => k ⟨va0, va1, va2, va3, va4, va5, va6, va7, va8, va9, va10, va11, va12, va13, va14, va15⟩
  | _ => False
theorem G_ar16_string.decL_spec {l : List Value} {k : G_ar16_string → Prop} (h : G_ar16_string.decL l k) : ∃ x : G_ar16_string, l = x.cells ∧ k x := by
  unfold G_ar16_string.decL at h
  split at h
  · exact ⟨_, rfl, h⟩
  · exact h.elim
def G_ar16_string.decA (a : Array Value) (k : G_ar16_string → Prop) : Prop := G_ar16_string.decL a.toList k
theorem G_ar16_string.decA_spec {a : Array Value} {k : G_ar16_string → Prop} (h : G_ar16_string.decA a k) : ∃ x : G_ar16_string, a = List.toArray x.cells ∧ k x := by
  obtain ⟨x, e, h⟩ := G_ar16_string.decL_spec h
  exact ⟨x, by rw [← e], h⟩
structure G_ar9_p_i64 where
  a0 : Option Addr
  a1 : Option Addr
  a2 : Option Addr
  a3 : Option Addr
  a4 : Option Addr
  a5 : Option Addr
  a6 : Option Addr
  a7 : Option Addr
  a8 : Option Addr
def G_ar9_p_i64.cells (x : G_ar9_p_i64) : List Value := [.pointer x.a0, .pointer x.a1, .pointer x.a2, .pointer x.a3, .pointer x.a4, .pointer x.a5, .pointer x.a6, .pointer x.a7, .pointer x.a8]
def G_ar9_p_i64.decL (l : List Value) (k : G_ar9_p_i64 → Prop) : Prop := match l with
  | [.pointer va0, .pointer va1, .pointer va2, .pointer va3, .pointer va4, .pointer va5, .pointer va6, .pointer va7, .pointer va8] => k ⟨va0, va1, va2, va3, va4, va5, va6, va7, va8⟩
  | _ => False
theorem G_ar9_p_i64.decL_spec {l : List Value} {k : G_ar9_p_i64 → Prop} (h : G_ar9_p_i64.decL l k) : ∃ x : G_ar9_p_i64, l = x.cells ∧ k x := by
  unfold G_ar9_p_i64.decL at h
  split at h
  · exact ⟨_, rfl, h⟩
  · exact h.elim
def G_ar9_p_i64.decA (a : Array Value) (k : G_ar9_p_i64 → Prop) : Prop := G_ar9_p_i64.decL a.toList k
theorem G_ar9_p_i64.decA_spec {a : Array Value} {k : G_ar9_p_i64 → Prop} (h : G_ar9_p_i64.decA a k) : ∃ x : G_ar9_p_i64, a = List.toArray x.cells ∧ k x := by
  obtain ⟨x, e, h⟩ := G_ar9_p_i64.decL_spec h
  exact ⟨x, by rw [← e], h⟩
structure G_struct_8 where
  Region : Int
def G_struct_8.cells (x : G_struct_8) : List Value := [.int .i64 x.Region]
def G_struct_8.decL (l : List Value) (k : G_struct_8 → Prop) : Prop := match l with
  | [.int .i64 vRegion] => k ⟨vRegion⟩
  | _ => False
theorem G_struct_8.decL_spec {l : List Value} {k : G_struct_8 → Prop} (h : G_struct_8.decL l k) : ∃ x : G_struct_8, l = x.cells ∧ k x := by
  unfold G_struct_8.decL at h
  split at h
  · exact ⟨_, rfl, h⟩
  · exact h.elim
def G_struct_8.decA (a : Array Value) (k : G_struct_8 → Prop) : Prop := G_struct_8.decL a.toList k
theorem G_struct_8.decA_spec {a : Array Value} {k : G_struct_8 → Prop} (h : G_struct_8.decA a k) : ∃ x : G_struct_8, a = List.toArray x.cells ∧ k x := by
  obtain ⟨x, e, h⟩ := G_struct_8.decL_spec h
  exact ⟨x, by rw [← e], h⟩
def G_struct_8.eqb (x y : G_struct_8) : Bool := (decide (x.Region = y.Region) && true)
theorem G_struct_8.eqb_iff {x y : G_struct_8} : G_struct_8.eqb x y = true ↔ x = y := by
  cases x; cases y; simp [G_struct_8.eqb, strEq_iff]
structure G_api_Zone where
  Region : Int
def G_api_Zone.cells (x : G_api_Zone) : List Value := [.int .i64 x.Region]
def G_api_Zone.decL (l : List Value) (k : G_api_Zone → Prop) : Prop := match l with
  | [.int .i64 vRegion] => k ⟨vRegion⟩
  | _ => False
theorem G_api_Zone.decL_spec {l : List Value} {k : G_api_Zone → Prop} (h : G_api_Zone.decL l k) : ∃ x : G_api_Zone, l = x.cells ∧ k x := by
  unfold G_api_Zone.decL at h
  split at h
  · exact ⟨_, rfl, h⟩
  · exact h.elim
def G_api_Zone.decA (a : Array Value) (k : G_api_Zone → Prop) : Prop := G_api_Zone.decL a.toList k
theorem G_api_Zone.decA_spec {a : Array Value} {k : G_api_Zone → Prop} (h : G_api_Zone.decA a k) : ∃ x : G_api_Zone, a = List.toArray x.cells ∧ k x := by
  obtain ⟨x, e, h⟩ := G_api_Zone.decL_spec h
  exact ⟨x, by rw [← e], h⟩
def G_api_Zone.eqb (x y : G_api_Zone) : Bool := (decide (x.Region = y.Region) && true)
theorem G_api_Zone.eqb_iff {x y : G_api_Zone} : G_api_Zone.eqb x y = true ↔ x = y := by
  cases x; cases y; simp [G_api_Zone.eqb, strEq_iff]
structure G_struct_9 where
  Zone : Int
  Capacity : Int
def G_struct_9.cells (x : G_struct_9) : List Value := [.int .i64 x.Zone, .int .i64 x.Capacity]
def G_struct_9.decL (l : List Value) (k : G_struct_9 → Prop) : Prop := match l with
  | [.int .i64 vZone, .int .i64 vCapacity] => k ⟨vZone, vCapacity⟩
  | _ => False
theorem G_struct_9.decL_spec {l : List Value} {k : G_struct_9 → Prop} (h : G_struct_9.decL l k) : ∃ x : G_struct_9, l = x.cells ∧ k x := by
  unfold G_struct_9.decL at h
  split at h
  · exact ⟨_, rfl, h⟩
  · exact h.elim
def G_struct_9.decA (a : Array Value) (k : G_struct_9 → Prop) : Prop := G_struct_9.decL a.toList k
theorem G_struct_9.decA_spec {a : Array Value} {k : G_struct_9 → Prop} (h : G_struct_9.decA a k) : ∃ x : G_struct_9, a = List.toArray x.cells ∧ k x := by
  obtain ⟨x, e, h⟩ := G_struct_9.decL_spec h
  exact ⟨x, by rw [← e], h⟩
def G_struct_9.eqb (x y : G_struct_9) : Bool := (decide (x.Zone = y.Zone) && (decide (x.Capacity = y.Capacity) && true))
theorem G_struct_9.eqb_iff {x y : G_struct_9} : G_struct_9.eqb x y = true ↔ x = y := by
  cases x; cases y; simp [G_struct_9.eqb, strEq_iff]
structure G_api_Cell where
  Zone : Int
  Capacity : Int
def G_api_Cell.cells (x : G_api_Cell) : List Value := [.int .i64 x.Zone, .int .i64 x.Capacity]
def G_api_Cell.decL (l : List Value) (k : G_api_Cell → Prop) : Prop := match l with
  | [.int .i64 vZone, .int .i64 vCapacity] => k ⟨vZone, vCapacity⟩
  | _ => False
theorem G_api_Cell.decL_spec {l : List Value} {k : G_api_Cell → Prop} (h : G_api_Cell.decL l k) : ∃ x : G_api_Cell, l = x.cells ∧ k x := by
  unfold G_api_Cell.decL at h
  split at h
  · exact ⟨_, rfl, h⟩
  · exact h.elim
def G_api_Cell.decA (a : Array Value) (k : G_api_Cell → Prop) : Prop := G_api_Cell.decL a.toList k
theorem G_api_Cell.decA_spec {a : Array Value} {k : G_api_Cell → Prop} (h : G_api_Cell.decA a k) : ∃ x : G_api_Cell, a = List.toArray x.cells ∧ k x := by
  obtain ⟨x, e, h⟩ := G_api_Cell.decL_spec h
  exact ⟨x, by rw [← e], h⟩
def G_api_Cell.eqb (x y : G_api_Cell) : Bool := (decide (x.Zone = y.Zone) && (decide (x.Capacity = y.Capacity) && true))
theorem G_api_Cell.eqb_iff {x y : G_api_Cell} : G_api_Cell.eqb x y = true ↔ x = y := by
  cases x; cases y; simp [G_api_Cell.eqb, strEq_iff]
structure G_struct_10 where
  Load : Int
  Shadow : Int
  Priority : Int
  Lag : Int
  Allowed : Int
  Group : Int
  Noisy : Bool
def G_struct_10.cells (x : G_struct_10) : List Value := [.int .i64 x.Load, .int .i64 x.Shadow, .int .i64 x.Priority, .int .i64 x.Lag, .int .i64 x.Allowed, .int .i64 x.Group, .bool x.Noisy]
def G_struct_10.decL (l : List Value) (k : G_struct_10 → Prop) : Prop := match l with
  | [.int .i64 vLoad, .int .i64 vShadow, .int .i64 vPriority, .int .i64 vLag, .int .i64 vAllowed, .int .i64 vGroup, .bool vNoisy] => k ⟨vLoad, vShadow, vPriority, vLag, vAllowed, vGroup, vNoisy⟩
  | _ => False
theorem G_struct_10.decL_spec {l : List Value} {k : G_struct_10 → Prop} (h : G_struct_10.decL l k) : ∃ x : G_struct_10, l = x.cells ∧ k x := by
  unfold G_struct_10.decL at h
  split at h
  · exact ⟨_, rfl, h⟩
  · exact h.elim
def G_struct_10.decA (a : Array Value) (k : G_struct_10 → Prop) : Prop := G_struct_10.decL a.toList k
theorem G_struct_10.decA_spec {a : Array Value} {k : G_struct_10 → Prop} (h : G_struct_10.decA a k) : ∃ x : G_struct_10, a = List.toArray x.cells ∧ k x := by
  obtain ⟨x, e, h⟩ := G_struct_10.decL_spec h
  exact ⟨x, by rw [← e], h⟩
def G_struct_10.eqb (x y : G_struct_10) : Bool := (decide (x.Load = y.Load) && (decide (x.Shadow = y.Shadow) && (decide (x.Priority = y.Priority) && (decide (x.Lag = y.Lag) && (decide (x.Allowed = y.Allowed) && (decide (x.Group = y.Group) && ((x.Noisy == y.Noisy) && true)))))))
theorem G_struct_10.eqb_iff {x y : G_struct_10} : G_struct_10.eqb x y = true ↔ x = y := by
  cases x; cases y; simp [G_struct_10.eqb, strEq_iff]
structure G_api_Tenant where
  Load : Int
  Shadow : Int
  Priority : Int
  Lag : Int
  Allowed : Int
  Group : Int
  Noisy : Bool
def G_api_Tenant.cells (x : G_api_Tenant) : List Value := [.int .i64 x.Load, .int .i64 x.Shadow, .int .i64 x.Priority, .int .i64 x.Lag, .int .i64 x.Allowed, .int .i64 x.Group, .bool x.Noisy]
def G_api_Tenant.decL (l : List Value) (k : G_api_Tenant → Prop) : Prop := match l with
  | [.int .i64 vLoad, .int .i64 vShadow, .int .i64 vPriority, .int .i64 vLag, .int .i64 vAllowed, .int .i64 vGroup, .bool vNoisy] => k ⟨vLoad, vShadow, vPriority, vLag, vAllowed, vGroup, vNoisy⟩
  | _ => False
theorem G_api_Tenant.decL_spec {l : List Value} {k : G_api_Tenant → Prop} (h : G_api_Tenant.decL l k) : ∃ x : G_api_Tenant, l = x.cells ∧ k x := by
  unfold G_api_Tenant.decL at h
  split at h
  · exact ⟨_, rfl, h⟩
  · exact h.elim
def G_api_Tenant.decA (a : Array Value) (k : G_api_Tenant → Prop) : Prop := G_api_Tenant.decL a.toList k
theorem G_api_Tenant.decA_spec {a : Array Value} {k : G_api_Tenant → Prop} (h : G_api_Tenant.decA a k) : ∃ x : G_api_Tenant, a = List.toArray x.cells ∧ k x := by
  obtain ⟨x, e, h⟩ := G_api_Tenant.decL_spec h
  exact ⟨x, by rw [← e], h⟩
def G_api_Tenant.eqb (x y : G_api_Tenant) : Bool := (decide (x.Load = y.Load) && (decide (x.Shadow = y.Shadow) && (decide (x.Priority = y.Priority) && (decide (x.Lag = y.Lag) && (decide (x.Allowed = y.Allowed) && (decide (x.Group = y.Group) && ((x.Noisy == y.Noisy) && true)))))))
theorem G_api_Tenant.eqb_iff {x y : G_api_Tenant} : G_api_Tenant.eqb x y = true ↔ x = y := by
  cases x; cases y; simp [G_api_Tenant.eqb, strEq_iff]
structure G_struct_11 where
  Low : Int
  High : Int
def G_struct_11.cells (x : G_struct_11) : List Value := [.int .i64 x.Low, .int .i64 x.High]
def G_struct_11.decL (l : List Value) (k : G_struct_11 → Prop) : Prop := match l with
  | [.int .i64 vLow, .int .i64 vHigh] => k ⟨vLow, vHigh⟩
  | _ => False
theorem G_struct_11.decL_spec {l : List Value} {k : G_struct_11 → Prop} (h : G_struct_11.decL l k) : ∃ x : G_struct_11, l = x.cells ∧ k x := by
  unfold G_struct_11.decL at h
  split at h
  · exact ⟨_, rfl, h⟩
  · exact h.elim
def G_struct_11.decA (a : Array Value) (k : G_struct_11 → Prop) : Prop := G_struct_11.decL a.toList k
theorem G_struct_11.decA_spec {a : Array Value} {k : G_struct_11 → Prop} (h : G_struct_11.decA a k) : ∃ x : G_struct_11, a = List.toArray x.cells ∧ k x := by
  obtain ⟨x, e, h⟩ := G_struct_11.decL_spec h
  exact ⟨x, by rw [← e], h⟩
def G_struct_11.eqb (x y : G_struct_11) : Bool := (decide (x.Low = y.Low) && (decide (x.High = y.High) && true))
theorem G_struct_11.eqb_iff {x y : G_struct_11} : G_struct_11.eqb x y = true ↔ x = y := by
  cases x; cases y; simp [G_struct_11.eqb, strEq_iff]
structure G_api_Version where
  Low : Int
  High : Int
def G_api_Version.cells (x : G_api_Version) : List Value := [.int .i64 x.Low, .int .i64 x.High]
def G_api_Version.decL (l : List Value) (k : G_api_Version → Prop) : Prop := match l with
  | [.int .i64 vLow, .int .i64 vHigh] => k ⟨vLow, vHigh⟩
  | _ => False
theorem G_api_Version.decL_spec {l : List Value} {k : G_api_Version → Prop} (h : G_api_Version.decL l k) : ∃ x : G_api_Version, l = x.cells ∧ k x := by
  unfold G_api_Version.decL at h
  split at h
  · exact ⟨_, rfl, h⟩
  · exact h.elim
def G_api_Version.decA (a : Array Value) (k : G_api_Version → Prop) : Prop := G_api_Version.decL a.toList k
theorem G_api_Version.decA_spec {a : Array Value} {k : G_api_Version → Prop} (h : G_api_Version.decA a k) : ∃ x : G_api_Version, a = List.toArray x.cells ∧ k x := by
  obtain ⟨x, e, h⟩ := G_api_Version.decL_spec h
  exact ⟨x, by rw [← e], h⟩
def G_api_Version.eqb (x y : G_api_Version) : Bool := (decide (x.Low = y.Low) && (decide (x.High = y.High) && true))
theorem G_api_Version.eqb_iff {x y : G_api_Version} : G_api_Version.eqb x y = true ↔ x = y := by
  cases x; cases y; simp [G_api_Version.eqb, strEq_iff]
structure G_struct_12 where
  Cell : Int
  Epoch : Int
  Version : Int
  From : Int
  Until : Int
def G_struct_12.cells (x : G_struct_12) : List Value := [.int .i64 x.Cell, .int .i64 x.Epoch, .int .i64 x.Version, .int .i64 x.From, .int .i64 x.Until]
def G_struct_12.decL (l : List Value) (k : G_struct_12 → Prop) : Prop := match l with
  | [.int .i64 vCell, .int .i64 vEpoch, .int .i64 vVersion, .int .i64 vFrom, .int .i64 vUntil] => k ⟨vCell, vEpoch, vVersion, vFrom, vUntil⟩
  | _ => False
theorem G_struct_12.decL_spec {l : List Value} {k : G_struct_12 → Prop} (h : G_struct_12.decL l k) : ∃ x : G_struct_12, l = x.cells ∧ k x := by
  unfold G_struct_12.decL at h
  split at h
  · exact ⟨_, rfl, h⟩
  · exact h.elim
def G_struct_12.decA (a : Array Value) (k : G_struct_12 → Prop) : Prop := G_struct_12.decL a.toList k
theorem G_struct_12.decA_spec {a : Array Value} {k : G_struct_12 → Prop} (h : G_struct_12.decA a k) : ∃ x : G_struct_12, a = List.toArray x.cells ∧ k x := by
  obtain ⟨x, e, h⟩ := G_struct_12.decL_spec h
  exact ⟨x, by rw [← e], h⟩
def G_struct_12.eqb (x y : G_struct_12) : Bool := (decide (x.Cell = y.Cell) && (decide (x.Epoch = y.Epoch) && (decide (x.Version = y.Version) && (decide (x.From = y.From) && (decide (x.Until = y.Until) && true)))))
theorem G_struct_12.eqb_iff {x y : G_struct_12} : G_struct_12.eqb x y = true ↔ x = y := by
  cases x; cases y; simp [G_struct_12.eqb, strEq_iff]
structure G_api_Window where
  Cell : Int
  Epoch : Int
  Version : Int
  From : Int
  Until : Int
def G_api_Window.cells (x : G_api_Window) : List Value := [.int .i64 x.Cell, .int .i64 x.Epoch, .int .i64 x.Version, .int .i64 x.From, .int .i64 x.Until]
def G_api_Window.decL (l : List Value) (k : G_api_Window → Prop) : Prop := match l with
  | [.int .i64 vCell, .int .i64 vEpoch, .int .i64 vVersion, .int .i64 vFrom, .int .i64 vUntil] => k ⟨vCell, vEpoch, vVersion, vFrom, vUntil⟩
  | _ => False
theorem G_api_Window.decL_spec {l : List Value} {k : G_api_Window → Prop} (h : G_api_Window.decL l k) : ∃ x : G_api_Window, l = x.cells ∧ k x := by
  unfold G_api_Window.decL at h
  split at h
  · exact ⟨_, rfl, h⟩
  · exact h.elim
def G_api_Window.decA (a : Array Value) (k : G_api_Window → Prop) : Prop := G_api_Window.decL a.toList k
theorem G_api_Window.decA_spec {a : Array Value} {k : G_api_Window → Prop} (h : G_api_Window.decA a k) : ∃ x : G_api_Window, a = List.toArray x.cells ∧ k x := by
  obtain ⟨x, e, h⟩ := G_api_Window.decL_spec h
  exact ⟨x, by rw [← e], h⟩
def G_api_Window.eqb (x y : G_api_Window) : Bool := (decide (x.Cell = y.Cell) && (decide (x.Epoch = y.Epoch) && (decide (x.Version = y.Version) && (decide (x.From = y.From) && (decide (x.Until = y.Until) && true)))))
theorem G_api_Window.eqb_iff {x y : G_api_Window} : G_api_Window.eqb x y = true ↔ x = y := by
  cases x; cases y; simp [G_api_Window.eqb, strEq_iff]
structure G_struct_13 where
  Placed : Bool
  Shed : Bool
  Home : Int
  Standby : Int
  Next : Int
  Target : Int
  Epoch : Int
  Window : G_api_Window
def G_struct_13.cells (x : G_struct_13) : List Value := [.bool x.Placed, .bool x.Shed, .int .i64 x.Home, .int .i64 x.Standby, .int .i64 x.Next, .int .i64 x.Target, .int .i64 x.Epoch, .int .i64 x.Window.Cell, .int .i64 x.Window.Epoch, .int .i64 x.Window.Version, .int .i64 x.Window.From, .int .i64 x.Window.Until]
def G_struct_13.decL (l : List Value) (k : G_struct_13 → Prop) : Prop := match l with
  | [.bool vPlaced, .bool vShed, .int .i64 vHome, .int .i64 vStandby, .int .i64 vNext, .int .i64 vTarget, .int .i64 vEpoch, .int .i64 vWindow_Cell, .int .i64 vWindow_Epoch, .int .i64 vWindow_Version, .int .i64 vWindow_From, .int .i64 vWindow_Until] => k ⟨vPlaced, vShed, vHome, vStandby, vNext, vTarget, vEpoch, ⟨vWindow_Cell, vWindow_Epoch, vWindow_Version, vWindow_From, vWindow_Until⟩⟩
  | _ => False
theorem G_struct_13.decL_spec {l : List Value} {k : G_struct_13 → Prop} (h : G_struct_13.decL l k) : ∃ x : G_struct_13, l = x.cells ∧ k x := by
  unfold G_struct_13.decL at h
  split at h
  · exact ⟨_, rfl, h⟩
  · exact h.elim
def G_struct_13.decA (a : Array Value) (k : G_struct_13 → Prop) : Prop := G_struct_13.decL a.toList k
theorem G_struct_13.decA_spec {a : Array Value} {k : G_struct_13 → Prop} (h : G_struct_13.decA a k) : ∃ x : G_struct_13, a = List.toArray x.cells ∧ k x := by
  obtain ⟨x, e, h⟩ := G_struct_13.decL_spec h
  exact ⟨x, by rw [← e], h⟩
def G_struct_13.eqb (x y : G_struct_13) : Bool := ((x.Placed == y.Placed) && ((x.Shed == y.Shed) && (decide (x.Home = y.Home) && (decide (x.Standby = y.Standby) && (decide (x.Next = y.Next) && (decide (x.Target = y.Target) && (decide (x.Epoch = y.Epoch) && (G_api_Window.eqb x.Window y.Window && true))))))))
theorem G_struct_13.eqb_iff {x y : G_struct_13} : G_struct_13.eqb x y = true ↔ x = y := by
  cases x; cases y; simp [G_struct_13.eqb, strEq_iff, G_api_Window.eqb_iff]
structure G_api_TenantState where
  Placed : Bool
  Shed : Bool
  Home : Int
  Standby : Int
  Next : Int
  Target : Int
  Epoch : Int
  Window : G_api_Window
def G_api_TenantState.cells (x : G_api_TenantState) : List Value := [.bool x.Placed, .bool x.Shed, .int .i64 x.Home, .int .i64 x.Standby, .int .i64 x.Next, .int .i64 x.Target, .int .i64 x.Epoch, .int .i64 x.Window.Cell, .int .i64 x.Window.Epoch, .int .i64 x.Window.Version, .int .i64 x.Window.From, .int .i64 x.Window.Until]
def G_api_TenantState.decL (l : List Value) (k : G_api_TenantState → Prop) : Prop := match l with
  | [.bool vPlaced, .bool vShed, .int .i64 vHome, .int .i64 vStandby, .int .i64 vNext, .int .i64 vTarget, .int .i64 vEpoch, .int .i64 vWindow_Cell, .int .i64 vWindow_Epoch, .int .i64 vWindow_Version, .int .i64 vWindow_From, .int .i64 vWindow_Until] => k ⟨vPlaced, vShed, vHome, vStandby, vNext, vTarget, vEpoch, ⟨vWindow_Cell, vWindow_Epoch, vWindow_Version, vWindow_From, vWindow_Until⟩⟩
  | _ => False
theorem G_api_TenantState.decL_spec {l : List Value} {k : G_api_TenantState → Prop} (h : G_api_TenantState.decL l k) : ∃ x : G_api_TenantState, l = x.cells ∧ k x := by
  unfold G_api_TenantState.decL at h
  split at h
  · exact ⟨_, rfl, h⟩
  · exact h.elim
def G_api_TenantState.decA (a : Array Value) (k : G_api_TenantState → Prop) : Prop := G_api_TenantState.decL a.toList k
theorem G_api_TenantState.decA_spec {a : Array Value} {k : G_api_TenantState → Prop} (h : G_api_TenantState.decA a k) : ∃ x : G_api_TenantState, a = List.toArray x.cells ∧ k x := by
  obtain ⟨x, e, h⟩ := G_api_TenantState.decL_spec h
  exact ⟨x, by rw [← e], h⟩
def G_api_TenantState.eqb (x y : G_api_TenantState) : Bool := ((x.Placed == y.Placed) && ((x.Shed == y.Shed) && (decide (x.Home = y.Home) && (decide (x.Standby = y.Standby) && (decide (x.Next = y.Next) && (decide (x.Target = y.Target) && (decide (x.Epoch = y.Epoch) && (G_api_Window.eqb x.Window y.Window && true))))))))
theorem G_api_TenantState.eqb_iff {x y : G_api_TenantState} : G_api_TenantState.eqb x y = true ↔ x = y := by
  cases x; cases y; simp [G_api_TenantState.eqb, strEq_iff, G_api_Window.eqb_iff]
structure G_struct_14 where
  L : Sl
  At_ : Int
def G_struct_14.cells (x : G_struct_14) : List Value := [.slice x.L.a x.L.n x.L.c, .int .i64 x.At_]
def G_struct_14.decL (l : List Value) (k : G_struct_14 → Prop) : Prop := match l with
  | [.slice vL vLn vLc, .int .i64 vAt_] => k ⟨⟨vL, vLn, vLc⟩, vAt_⟩
  | _ => False
theorem G_struct_14.decL_spec {l : List Value} {k : G_struct_14 → Prop} (h : G_struct_14.decL l k) : ∃ x : G_struct_14, l = x.cells ∧ k x := by
  unfold G_struct_14.decL at h
  split at h
  · exact ⟨_, rfl, h⟩
  · exact h.elim
def G_struct_14.decA (a : Array Value) (k : G_struct_14 → Prop) : Prop := G_struct_14.decL a.toList k
theorem G_struct_14.decA_spec {a : Array Value} {k : G_struct_14 → Prop} (h : G_struct_14.decA a k) : ∃ x : G_struct_14, a = List.toArray x.cells ∧ k x := by
  obtain ⟨x, e, h⟩ := G_struct_14.decL_spec h
  exact ⟨x, by rw [← e], h⟩
structure G_cellplanemake_Tape where
  L : Sl
  At_ : Int
def G_cellplanemake_Tape.cells (x : G_cellplanemake_Tape) : List Value := [.slice x.L.a x.L.n x.L.c, .int .i64 x.At_]
def G_cellplanemake_Tape.decL (l : List Value) (k : G_cellplanemake_Tape → Prop) : Prop := match l with
  | [.slice vL vLn vLc, .int .i64 vAt_] => k ⟨⟨vL, vLn, vLc⟩, vAt_⟩
  | _ => False
theorem G_cellplanemake_Tape.decL_spec {l : List Value} {k : G_cellplanemake_Tape → Prop} (h : G_cellplanemake_Tape.decL l k) : ∃ x : G_cellplanemake_Tape, l = x.cells ∧ k x := by
  unfold G_cellplanemake_Tape.decL at h
  split at h
  · exact ⟨_, rfl, h⟩
  · exact h.elim
def G_cellplanemake_Tape.decA (a : Array Value) (k : G_cellplanemake_Tape → Prop) : Prop := G_cellplanemake_Tape.decL a.toList k
theorem G_cellplanemake_Tape.decA_spec {a : Array Value} {k : G_cellplanemake_Tape → Prop} (h : G_cellplanemake_Tape.decA a k) : ∃ x : G_cellplanemake_Tape, a = List.toArray x.cells ∧ k x := by
  obtain ⟨x, e, h⟩ := G_cellplanemake_Tape.decL_spec h
  exact ⟨x, by rw [← e], h⟩
structure G_struct_15 where
  Mode : Int
  Running : Int
  Wanted : Int
  Since : Int
def G_struct_15.cells (x : G_struct_15) : List Value := [.int .i64 x.Mode, .int .i64 x.Running, .int .i64 x.Wanted, .int .i64 x.Since]
def G_struct_15.decL (l : List Value) (k : G_struct_15 → Prop) : Prop := match l with
  | [.int .i64 vMode, .int .i64 vRunning, .int .i64 vWanted, .int .i64 vSince] => k ⟨vMode, vRunning, vWanted, vSince⟩
  | _ => False
theorem G_struct_15.decL_spec {l : List Value} {k : G_struct_15 → Prop} (h : G_struct_15.decL l k) : ∃ x : G_struct_15, l = x.cells ∧ k x := by
  unfold G_struct_15.decL at h
  split at h
  · exact ⟨_, rfl, h⟩
  · exact h.elim
def G_struct_15.decA (a : Array Value) (k : G_struct_15 → Prop) : Prop := G_struct_15.decL a.toList k
theorem G_struct_15.decA_spec {a : Array Value} {k : G_struct_15 → Prop} (h : G_struct_15.decA a k) : ∃ x : G_struct_15, a = List.toArray x.cells ∧ k x := by
  obtain ⟨x, e, h⟩ := G_struct_15.decL_spec h
  exact ⟨x, by rw [← e], h⟩
def G_struct_15.eqb (x y : G_struct_15) : Bool := (decide (x.Mode = y.Mode) && (decide (x.Running = y.Running) && (decide (x.Wanted = y.Wanted) && (decide (x.Since = y.Since) && true))))
theorem G_struct_15.eqb_iff {x y : G_struct_15} : G_struct_15.eqb x y = true ↔ x = y := by
  cases x; cases y; simp [G_struct_15.eqb, strEq_iff]
structure G_api_CellState where
  Mode : Int
  Running : Int
  Wanted : Int
  Since : Int
def G_api_CellState.cells (x : G_api_CellState) : List Value := [.int .i64 x.Mode, .int .i64 x.Running, .int .i64 x.Wanted, .int .i64 x.Since]
def G_api_CellState.decL (l : List Value) (k : G_api_CellState → Prop) : Prop := match l with
  | [.int .i64 vMode, .int .i64 vRunning, .int .i64 vWanted, .int .i64 vSince] => k ⟨vMode, vRunning, vWanted, vSince⟩
  | _ => False
theorem G_api_CellState.decL_spec {l : List Value} {k : G_api_CellState → Prop} (h : G_api_CellState.decL l k) : ∃ x : G_api_CellState, l = x.cells ∧ k x := by
  unfold G_api_CellState.decL at h
  split at h
  · exact ⟨_, rfl, h⟩
  · exact h.elim
def G_api_CellState.decA (a : Array Value) (k : G_api_CellState → Prop) : Prop := G_api_CellState.decL a.toList k
theorem G_api_CellState.decA_spec {a : Array Value} {k : G_api_CellState → Prop} (h : G_api_CellState.decA a k) : ∃ x : G_api_CellState, a = List.toArray x.cells ∧ k x := by
  obtain ⟨x, e, h⟩ := G_api_CellState.decL_spec h
  exact ⟨x, by rw [← e], h⟩
def G_api_CellState.eqb (x y : G_api_CellState) : Bool := (decide (x.Mode = y.Mode) && (decide (x.Running = y.Running) && (decide (x.Wanted = y.Wanted) && (decide (x.Since = y.Since) && true))))
theorem G_api_CellState.eqb_iff {x y : G_api_CellState} : G_api_CellState.eqb x y = true ↔ x = y := by
  cases x; cases y; simp [G_api_CellState.eqb, strEq_iff]
structure G_struct_16 where
  interface : Option Addr
  concrete : Option Addr
  asserted : Option Addr
  missingMethod : ByteArray
def G_struct_16.cells (x : G_struct_16) : List Value := [.pointer x.interface, .pointer x.concrete, .pointer x.asserted, .string x.missingMethod]
def G_struct_16.decL (l : List Value) (k : G_struct_16 → Prop) : Prop := match l with
  | [.pointer vinterface, .pointer vconcrete, .pointer vasserted, .string vmissingMethod] => k ⟨vinterface, vconcrete, vasserted, vmissingMethod⟩
  | _ => False
theorem G_struct_16.decL_spec {l : List Value} {k : G_struct_16 → Prop} (h : G_struct_16.decL l k) : ∃ x : G_struct_16, l = x.cells ∧ k x := by
  unfold G_struct_16.decL at h
  split at h
  · exact ⟨_, rfl, h⟩
  · exact h.elim
def G_struct_16.decA (a : Array Value) (k : G_struct_16 → Prop) : Prop := G_struct_16.decL a.toList k
theorem G_struct_16.decA_spec {a : Array Value} {k : G_struct_16 → Prop} (h : G_struct_16.decA a k) : ∃ x : G_struct_16, a = List.toArray x.cells ∧ k x := by
  obtain ⟨x, e, h⟩ := G_struct_16.decL_spec h
  exact ⟨x, by rw [← e], h⟩
structure G_runtime_TypeAssertionError where
  interface : Option Addr
  concrete : Option Addr
  asserted : Option Addr
  missingMethod : ByteArray
def G_runtime_TypeAssertionError.cells (x : G_runtime_TypeAssertionError) : List Value := [.pointer x.interface, .pointer x.concrete, .pointer x.asserted, .string x.missingMethod]
def G_runtime_TypeAssertionError.decL (l : List Value) (k : G_runtime_TypeAssertionError → Prop) : Prop := match l with
  | [.pointer vinterface, .pointer vconcrete, .pointer vasserted, .string vmissingMethod] => k ⟨vinterface, vconcrete, vasserted, vmissingMethod⟩
  | _ => False
theorem G_runtime_TypeAssertionError.decL_spec {l : List Value} {k : G_runtime_TypeAssertionError → Prop} (h : G_runtime_TypeAssertionError.decL l k) : ∃ x : G_runtime_TypeAssertionError, l = x.cells ∧ k x := by
  unfold G_runtime_TypeAssertionError.decL at h
  split at h
  · exact ⟨_, rfl, h⟩
  · exact h.elim
def G_runtime_TypeAssertionError.decA (a : Array Value) (k : G_runtime_TypeAssertionError → Prop) : Prop := G_runtime_TypeAssertionError.decL a.toList k
theorem G_runtime_TypeAssertionError.decA_spec {a : Array Value} {k : G_runtime_TypeAssertionError → Prop} (h : G_runtime_TypeAssertionError.decA a k) : ∃ x : G_runtime_TypeAssertionError, a = List.toArray x.cells ∧ k x := by
  obtain ⟨x, e, h⟩ := G_runtime_TypeAssertionError.decL_spec h
  exact ⟨x, by rw [← e], h⟩
def repAt : List (Nat × Rep) → Nat → Option Rep
  | [], _ => none
  | x :: r, t => match Nat.beq x.1 t with | true => some x.2 | false => repAt r t
def repS : Nat → Option Rep := repAt [(7, ⟨G_struct, G_struct.cells⟩), (8, ⟨G_runtime_boundsError, G_runtime_boundsError.cells⟩), (13, ⟨G_struct_2, G_struct_2.cells⟩), (14, ⟨G_runtime_errorAddressString, G_runtime_errorAddressString.cells⟩), (18, ⟨G_struct_3, G_struct_3.cells⟩), (19, ⟨G_internal_runtime_maps_unhashableTypeError, G_internal_runtime_maps_unhashableTypeError.cells⟩), (23, ⟨G_struct_4, G_struct_4.cells⟩), (24, ⟨G_api_Entry, G_api_Entry.cells⟩), (31, ⟨G_struct_5, G_struct_5.cells⟩), (32, ⟨G_api_Config, G_api_Config.cells⟩), (53, ⟨G_struct_6, G_struct_6.cells⟩), (54, ⟨G_api_State, G_api_State.cells⟩), (58, ⟨G_struct_7, G_struct_7.cells⟩), (59, ⟨G_entry_sizes, G_entry_sizes.cells⟩), (62, ⟨G_ar16_string, G_ar16_string.cells⟩), (65, ⟨G_ar9_p_i64, G_ar9_p_i64.cells⟩), (70, ⟨G_struct_8, G_struct_8.cells⟩), (71, ⟨G_api_Zone, G_api_Zone.cells⟩), (72, ⟨G_struct_9, G_struct_9.cells⟩), (73, ⟨G_api_Cell, G_api_Cell.cells⟩), (75, ⟨G_struct_10, G_struct_10.cells⟩), (76, ⟨G_api_Tenant, G_api_Tenant.cells⟩), (77, ⟨G_struct_11, G_struct_11.cells⟩), (78, ⟨G_api_Version, G_api_Version.cells⟩), (80, ⟨G_struct_12, G_struct_12.cells⟩), (81, ⟨G_api_Window, G_api_Window.cells⟩), (82, ⟨G_struct_13, G_struct_13.cells⟩), (83, ⟨G_api_TenantState, G_api_TenantState.cells⟩), (89, ⟨G_struct_14, G_struct_14.cells⟩), (90, ⟨G_cellplanemake_Tape, G_cellplanemake_Tape.cells⟩), (101, ⟨G_struct_15, G_struct_15.cells⟩), (102, ⟨G_api_CellState, G_api_CellState.cells⟩), (123, ⟨G_struct_16, G_struct_16.cells⟩), (124, ⟨G_runtime_TypeAssertionError, G_runtime_TypeAssertionError.cells⟩)]
theorem ok2 : okFn PP 2 := ⟨Go.Proofs.Tryd.f2, by kernel_rfl, by kernel_rfl, by kernel_rfl⟩
theorem ok3 : okFn PP 3 := ⟨Go.Proofs.Tryd.f3, by kernel_rfl, by kernel_rfl, by kernel_rfl⟩
theorem ok4 : okFn PP 4 := ⟨Go.Proofs.Tryd.f4, by kernel_rfl, by kernel_rfl, by kernel_rfl⟩
theorem ok5 : okFn PP 5 := ⟨Go.Proofs.Tryd.f5, by kernel_rfl, by kernel_rfl, by kernel_rfl⟩
theorem ok6 : okFn PP 6 := ⟨Go.Proofs.Tryd.f6, by kernel_rfl, by kernel_rfl, by kernel_rfl⟩
theorem ok7 : okFn PP 7 := ⟨Go.Proofs.Tryd.f7, by kernel_rfl, by kernel_rfl, by kernel_rfl⟩
theorem ok8 : okFn PP 8 := ⟨Go.Proofs.Tryd.f8, by kernel_rfl, by kernel_rfl, by kernel_rfl⟩
theorem ok9 : okFn PP 9 := ⟨Go.Proofs.Tryd.f9, by kernel_rfl, by kernel_rfl, by kernel_rfl⟩
theorem ok10 : okFn PP 10 := ⟨Go.Proofs.Tryd.f10, by kernel_rfl, by kernel_rfl, by kernel_rfl⟩
theorem ok11 : okFn PP 11 := ⟨Go.Proofs.Tryd.f11, by kernel_rfl, by kernel_rfl, by kernel_rfl⟩
theorem ok12 : okFn PP 12 := ⟨Go.Proofs.Tryd.f12, by kernel_rfl, by kernel_rfl, by kernel_rfl⟩
theorem ok13 : okFn PP 13 := ⟨Go.Proofs.Tryd.f13, by kernel_rfl, by kernel_rfl, by kernel_rfl⟩
theorem ok14 : okFn PP 14 := ⟨Go.Proofs.Tryd.f14, by kernel_rfl, by kernel_rfl, by kernel_rfl⟩
theorem ok15 : okFn PP 15 := ⟨Go.Proofs.Tryd.f15, by kernel_rfl, by kernel_rfl, by kernel_rfl⟩
theorem ok16 : okFn PP 16 := ⟨Go.Proofs.Tryd.f16, by kernel_rfl, by kernel_rfl, by kernel_rfl⟩
theorem ok17 : okFn PP 17 := ⟨Go.Proofs.Tryd.f17, by kernel_rfl, by kernel_rfl, by kernel_rfl⟩
theorem ok18 : okFn PP 18 := ⟨Go.Proofs.Tryd.f18, by kernel_rfl, by kernel_rfl, by kernel_rfl⟩
theorem ok19 : okFn PP 19 := ⟨Go.Proofs.Tryd.f19, by kernel_rfl, by kernel_rfl, by kernel_rfl⟩
theorem ok20 : okFn PP 20 := ⟨Go.Proofs.Tryd.f20, by kernel_rfl, by kernel_rfl, by kernel_rfl⟩
theorem ok21 : okFn PP 21 := ⟨Go.Proofs.Tryd.f21, by kernel_rfl, by kernel_rfl, by kernel_rfl⟩
theorem ok22 : okFn PP 22 := ⟨Go.Proofs.Tryd.f22, by kernel_rfl, by kernel_rfl, by kernel_rfl⟩
theorem ok23 : okFn PP 23 := ⟨Go.Proofs.Tryd.f23, by kernel_rfl, by kernel_rfl, by kernel_rfl⟩
theorem ok24 : okFn PP 24 := ⟨Go.Proofs.Tryd.f24, by kernel_rfl, by kernel_rfl, by kernel_rfl⟩
theorem ok25 : okFn PP 25 := ⟨Go.Proofs.Tryd.f25, by kernel_rfl, by kernel_rfl, by kernel_rfl⟩
theorem ok26 : okFn PP 26 := ⟨Go.Proofs.Tryd.f26, by kernel_rfl, by kernel_rfl, by kernel_rfl⟩
theorem ok27 : okFn PP 27 := ⟨Go.Proofs.Tryd.f27, by kernel_rfl, by kernel_rfl, by kernel_rfl⟩
theorem ok28 : okFn PP 28 := ⟨Go.Proofs.Tryd.f28, by kernel_rfl, by kernel_rfl, by kernel_rfl⟩
theorem ok29 : okFn PP 29 := ⟨Go.Proofs.Tryd.f29, by kernel_rfl, by kernel_rfl, by kernel_rfl⟩
theorem ok30 : okFn PP 30 := ⟨Go.Proofs.Tryd.f30, by kernel_rfl, by kernel_rfl, by kernel_rfl⟩
theorem ok31 : okFn PP 31 := ⟨Go.Proofs.Tryd.f31, by kernel_rfl, by kernel_rfl, by kernel_rfl⟩
theorem ok32 : okFn PP 32 := ⟨Go.Proofs.Tryd.f32, by kernel_rfl, by kernel_rfl, by kernel_rfl⟩
theorem ok33 : okFn PP 33 := ⟨Go.Proofs.Tryd.f33, by kernel_rfl, by kernel_rfl, by kernel_rfl⟩
theorem ok34 : okFn PP 34 := ⟨Go.Proofs.Tryd.f34, by kernel_rfl, by kernel_rfl, by kernel_rfl⟩
theorem ok35 : okFn PP 35 := ⟨Go.Proofs.Tryd.f35, by kernel_rfl, by kernel_rfl, by kernel_rfl⟩
theorem ok36 : okFn PP 36 := ⟨Go.Proofs.Tryd.f36, by kernel_rfl, by kernel_rfl, by kernel_rfl⟩
theorem ok37 : okFn PP 37 := ⟨Go.Proofs.Tryd.f37, by kernel_rfl, by kernel_rfl, by kernel_rfl⟩
theorem ok38 : okFn PP 38 := ⟨Go.Proofs.Tryd.f38, by kernel_rfl, by kernel_rfl, by kernel_rfl⟩
theorem ok39 : okFn PP 39 := ⟨Go.Proofs.Tryd.f39, by kernel_rfl, by kernel_rfl, by kernel_rfl⟩
theorem ok40 : okFn PP 40 := ⟨Go.Proofs.Tryd.f40, by kernel_rfl, by kernel_rfl, by kernel_rfl⟩
theorem ok41 : okFn PP 41 := ⟨Go.Proofs.Tryd.f41, by kernel_rfl, by kernel_rfl, by kernel_rfl⟩
theorem ok42 : okFn PP 42 := ⟨Go.Proofs.Tryd.f42, by kernel_rfl, by kernel_rfl, by kernel_rfl⟩
theorem ok43 : okFn PP 43 := ⟨Go.Proofs.Tryd.f43, by kernel_rfl, by kernel_rfl, by kernel_rfl⟩
theorem ok44 : okFn PP 44 := ⟨Go.Proofs.Tryd.f44, by kernel_rfl, by kernel_rfl, by kernel_rfl⟩
theorem ok45 : okFn PP 45 := ⟨Go.Proofs.Tryd.f45, by kernel_rfl, by kernel_rfl, by kernel_rfl⟩
theorem ok46 : okFn PP 46 := ⟨Go.Proofs.Tryd.f46, by kernel_rfl, by kernel_rfl, by kernel_rfl⟩
theorem ok47 : okFn PP 47 := ⟨Go.Proofs.Tryd.f47, by kernel_rfl, by kernel_rfl, by kernel_rfl⟩
theorem ok48 : okFn PP 48 := ⟨Go.Proofs.Tryd.f48, by kernel_rfl, by kernel_rfl, by kernel_rfl⟩
theorem ok49 : okFn PP 49 := ⟨Go.Proofs.Tryd.f49, by kernel_rfl, by kernel_rfl, by kernel_rfl⟩
theorem ok50 : okFn PP 50 := ⟨Go.Proofs.Tryd.f50, by kernel_rfl, by kernel_rfl, by kernel_rfl⟩
theorem ok51 : okFn PP 51 := ⟨Go.Proofs.Tryd.f51, by kernel_rfl, by kernel_rfl, by kernel_rfl⟩
theorem ok52 : okFn PP 52 := ⟨Go.Proofs.Tryd.f52, by kernel_rfl, by kernel_rfl, by kernel_rfl⟩
theorem ok53 : okFn PP 53 := ⟨Go.Proofs.Tryd.f53, by kernel_rfl, by kernel_rfl, by kernel_rfl⟩
theorem ok54 : okFn PP 54 := ⟨Go.Proofs.Tryd.f54, by kernel_rfl, by kernel_rfl, by kernel_rfl⟩
theorem ok55 : okFn PP 55 := ⟨Go.Proofs.Tryd.f55, by kernel_rfl, by kernel_rfl, by kernel_rfl⟩
theorem ok56 : okFn PP 56 := ⟨Go.Proofs.Tryd.f56, by kernel_rfl, by kernel_rfl, by kernel_rfl⟩
theorem ok57 : okFn PP 57 := ⟨Go.Proofs.Tryd.f57, by kernel_rfl, by kernel_rfl, by kernel_rfl⟩
theorem ok58 : okFn PP 58 := ⟨Go.Proofs.Tryd.f58, by kernel_rfl, by kernel_rfl, by kernel_rfl⟩
theorem ok59 : okFn PP 59 := ⟨Go.Proofs.Tryd.f59, by kernel_rfl, by kernel_rfl, by kernel_rfl⟩
theorem ok60 : okFn PP 60 := ⟨Go.Proofs.Tryd.f60, by kernel_rfl, by kernel_rfl, by kernel_rfl⟩
theorem ok61 : okFn PP 61 := ⟨Go.Proofs.Tryd.f61, by kernel_rfl, by kernel_rfl, by kernel_rfl⟩
theorem ok62 : okFn PP 62 := ⟨Go.Proofs.Tryd.f62, by kernel_rfl, by kernel_rfl, by kernel_rfl⟩
theorem ok63 : okFn PP 63 := ⟨Go.Proofs.Tryd.f63, by kernel_rfl, by kernel_rfl, by kernel_rfl⟩
theorem ok64 : okFn PP 64 := ⟨Go.Proofs.Tryd.f64, by kernel_rfl, by kernel_rfl, by kernel_rfl⟩
theorem ok65 : okFn PP 65 := ⟨Go.Proofs.Tryd.f65, by kernel_rfl, by kernel_rfl, by kernel_rfl⟩
theorem ok66 : okFn PP 66 := ⟨Go.Proofs.Tryd.f66, by kernel_rfl, by kernel_rfl, by kernel_rfl⟩
theorem ok67 : okFn PP 67 := ⟨Go.Proofs.Tryd.f67, by kernel_rfl, by kernel_rfl, by kernel_rfl⟩
theorem ok68 : okFn PP 68 := ⟨Go.Proofs.Tryd.f68, by kernel_rfl, by kernel_rfl, by kernel_rfl⟩
theorem ok69 : okFn PP 69 := ⟨Go.Proofs.Tryd.f69, by kernel_rfl, by kernel_rfl, by kernel_rfl⟩
theorem ok70 : okFn PP 70 := ⟨Go.Proofs.Tryd.f70, by kernel_rfl, by kernel_rfl, by kernel_rfl⟩
theorem ok71 : okFn PP 71 := ⟨Go.Proofs.Tryd.f71, by kernel_rfl, by kernel_rfl, by kernel_rfl⟩
theorem ok72 : okFn PP 72 := ⟨Go.Proofs.Tryd.f72, by kernel_rfl, by kernel_rfl, by kernel_rfl⟩
theorem ok73 : okFn PP 73 := ⟨Go.Proofs.Tryd.f73, by kernel_rfl, by kernel_rfl, by kernel_rfl⟩
theorem ok74 : okFn PP 74 := ⟨Go.Proofs.Tryd.f74, by kernel_rfl, by kernel_rfl, by kernel_rfl⟩
theorem ok75 : okFn PP 75 := ⟨Go.Proofs.Tryd.f75, by kernel_rfl, by kernel_rfl, by kernel_rfl⟩
theorem ok76 : okFn PP 76 := ⟨Go.Proofs.Tryd.f76, by kernel_rfl, by kernel_rfl, by kernel_rfl⟩
theorem ok77 : okFn PP 77 := ⟨Go.Proofs.Tryd.f77, by kernel_rfl, by kernel_rfl, by kernel_rfl⟩
theorem ok78 : okFn PP 78 := ⟨Go.Proofs.Tryd.f78, by kernel_rfl, by kernel_rfl, by kernel_rfl⟩
theorem ok79 : okFn PP 79 := ⟨Go.Proofs.Tryd.f79, by kernel_rfl, by kernel_rfl, by kernel_rfl⟩
theorem ok80 : okFn PP 80 := ⟨Go.Proofs.Tryd.f80, by kernel_rfl, by kernel_rfl, by kernel_rfl⟩
theorem ok81 : okFn PP 81 := ⟨Go.Proofs.Tryd.f81, by kernel_rfl, by kernel_rfl, by kernel_rfl⟩
theorem ok82 : okFn PP 82 := ⟨Go.Proofs.Tryd.f82, by kernel_rfl, by kernel_rfl, by kernel_rfl⟩
theorem ok83 : okFn PP 83 := ⟨Go.Proofs.Tryd.f83, by kernel_rfl, by kernel_rfl, by kernel_rfl⟩
theorem ok84 : okFn PP 84 := ⟨Go.Proofs.Tryd.f84, by kernel_rfl, by kernel_rfl, by kernel_rfl⟩
theorem ok85 : okFn PP 85 := ⟨Go.Proofs.Tryd.f85, by kernel_rfl, by kernel_rfl, by kernel_rfl⟩
theorem ok86 : okFn PP 86 := ⟨Go.Proofs.Tryd.f86, by kernel_rfl, by kernel_rfl, by kernel_rfl⟩
theorem ok106 : okFn PP 106 := ⟨Go.Proofs.Tryd.f106, by kernel_rfl, by kernel_rfl, by kernel_rfl⟩
theorem okAll : ∀ g ∈ [2, 3, 4, 5, 6, 7, 8, 9, 10, 11, 12, 13, 14, 15, 16, 17, 18, 19, 20, 21, 22, 23, 24, 25, 26, 27, 28, 29, 30, 31, 32, 33, 34, 35, 36, 37, 38, 39, 40, 41, 42, 43, 44, 45, 46, 47, 48, 49, 50, 51, 52, 53, 54, 55, 56, 57, 58, 59, 60, 61, 62, 63, 64, 65, 66, 67, 68, 69, 70, 71, 72, 73, 74, 75, 76, 77, 78, 79, 80, 81, 82, 83, 84, 85, 86, 106], okFn PP g :=
  List.forall_mem_cons.2 ⟨ok2, List.forall_mem_cons.2 ⟨ok3, List.forall_mem_cons.2 ⟨ok4, List.forall_mem_cons.2 ⟨ok5, List.forall_mem_cons.2 ⟨ok6, List.forall_mem_cons.2 ⟨ok7, List.forall_mem_cons.2 ⟨ok8, List.forall_mem_cons.2 ⟨ok9, List.forall_mem_cons.2 ⟨ok10, List.forall_mem_cons.2 ⟨ok11, List.forall_mem_cons.2 ⟨ok12, List.forall_mem_cons.2 ⟨ok13, List.forall_mem_cons.2 ⟨ok14, List.forall_mem_cons.2 ⟨ok15, List.forall_mem_cons.2 ⟨ok16, List.forall_mem_cons.2 ⟨ok17, List.forall_mem_cons.2 ⟨ok18, List.forall_mem_cons.2 ⟨ok19, List.forall_mem_cons.2 ⟨ok20, List.forall_mem_cons.2 ⟨ok21, List.forall_mem_cons.2 ⟨ok22, List.forall_mem_cons.2 ⟨ok23, List.forall_mem_cons.2 ⟨ok24, List.forall_mem_cons.2 ⟨ok25, List.forall_mem_cons.2 ⟨ok26, List.forall_mem_cons.2 ⟨ok27, List.forall_mem_cons.2 ⟨ok28, List.forall_mem_cons.2 ⟨ok29, List.forall_mem_cons.2 ⟨ok30, List.forall_mem_cons.2 ⟨ok31, List.forall_mem_cons.2 ⟨ok32, List.forall_mem_cons.2 ⟨ok33, List.forall_mem_cons.2 ⟨ok34, List.forall_mem_cons.2 ⟨ok35, List.forall_mem_cons.2 ⟨ok36, List.forall_mem_cons.2 ⟨ok37, List.forall_mem_cons.2 ⟨ok38, List.forall_mem_cons.2 ⟨ok39, List.forall_mem_cons.2 ⟨ok40, List.forall_mem_cons.2 ⟨ok41, List.forall_mem_cons.2 ⟨ok42, List.forall_mem_cons.2 ⟨ok43, List.forall_mem_cons.2 ⟨ok44, List.forall_mem_cons.2 ⟨ok45, List.forall_mem_cons.2 ⟨ok46, List.forall_mem_cons.2 ⟨ok47, List.forall_mem_cons.2 ⟨ok48, List.forall_mem_cons.2 ⟨ok49, List.forall_mem_cons.2 ⟨ok50, List.forall_mem_cons.2 ⟨ok51, List.forall_mem_cons.2 ⟨ok52, List.forall_mem_cons.2 ⟨ok53, List.forall_mem_cons.2 ⟨ok54, List.forall_mem_cons.2 ⟨ok55, List.forall_mem_cons.2 ⟨ok56, List.forall_mem_cons.2 ⟨ok57, List.forall_mem_cons.2 ⟨ok58, List.forall_mem_cons.2 ⟨ok59, List.forall_mem_cons.2 ⟨ok60, List.forall_mem_cons.2 ⟨ok61, List.forall_mem_cons.2 ⟨ok62, List.forall_mem_cons.2 ⟨ok63, List.forall_mem_cons.2 ⟨ok64, List.forall_mem_cons.2 ⟨ok65, List.forall_mem_cons.2 ⟨ok66, List.forall_mem_cons.2 ⟨ok67, List.forall_mem_cons.2 ⟨ok68, List.forall_mem_cons.2 ⟨ok69, List.forall_mem_cons.2 ⟨ok70, List.forall_mem_cons.2 ⟨ok71, List.forall_mem_cons.2 ⟨ok72, List.forall_mem_cons.2 ⟨ok73, List.forall_mem_cons.2 ⟨ok74, List.forall_mem_cons.2 ⟨ok75, List.forall_mem_cons.2 ⟨ok76, List.forall_mem_cons.2 ⟨ok77, List.forall_mem_cons.2 ⟨ok78, List.forall_mem_cons.2 ⟨ok79, List.forall_mem_cons.2 ⟨ok80, List.forall_mem_cons.2 ⟨ok81, List.forall_mem_cons.2 ⟨ok82, List.forall_mem_cons.2 ⟨ok83, List.forall_mem_cons.2 ⟨ok84, List.forall_mem_cons.2 ⟨ok85, List.forall_mem_cons.2 ⟨ok86, List.forall_mem_cons.2 ⟨ok106, by simp⟩⟩⟩⟩⟩⟩⟩⟩⟩⟩⟩⟩⟩⟩⟩⟩⟩⟩⟩⟩⟩⟩⟩⟩⟩⟩⟩⟩⟩⟩⟩⟩⟩⟩⟩⟩⟩⟩⟩⟩⟩⟩⟩⟩⟩⟩⟩⟩⟩⟩⟩⟩⟩⟩⟩⟩⟩⟩⟩⟩⟩⟩⟩⟩⟩⟩⟩⟩⟩⟩⟩⟩⟩⟩⟩⟩⟩⟩⟩⟩⟩⟩⟩⟩⟩⟩
def callB (g : Nat) : Bool := memN g [2, 3, 4, 5, 6, 7, 8, 9, 10, 11, 12, 13, 14, 15, 16, 17, 18, 19, 20, 21, 22, 23, 24, 25, 26, 27, 28, 29, 30, 31, 32, 33, 34, 35, 36, 37, 38, 39, 40, 41, 42, 43, 44, 45, 46, 47, 48, 49, 50, 51, 52, 53, 54, 55, 56, 57, 58, 59, 60, 61, 62, 63, 64, 65, 66, 67, 68, 69, 70, 71, 72, 73, 74, 75, 76, 77, 78, 79, 80, 81, 82, 83, 84, 85, 86, 106]
noncomputable def cx (N : Nat) (prom : Nat → Bool) : Ctx := { P := PP, N := N, prom := prom, call := callB, rep := repS }
theorem okc {N : Nat} {prom : Nat → Bool} : ∀ g, (cx N prom).call g = true → okFn (cx N prom).P g := fun g hg => okAll g (memN_iff.1 hg)
theorem mixed {N : Nat} {prom : Nat → Bool} : (cx N prom).P.follows .mixedOrders = true := by kernel_rfl
end Go.Sh
