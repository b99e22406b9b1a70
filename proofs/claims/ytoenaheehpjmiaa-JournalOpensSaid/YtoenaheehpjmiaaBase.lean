/- The numbers of this seat's functions and types, by name; that the program's calls go where they say.
   Conditions: none. -/
import Derived.Test.YtoenaheehpjmiaaCore
import Derived.Test.YtoenaheehpjmiaaProg
namespace Go.Sh
open Go
set_option linter.unusedSimpArgs false
set_option maxRecDepth 100000
noncomputable abbrev PP : Program := Go.Proofs.Try.prog
abbrev n_gosem_cut_init : Nat := 2
abbrev n_cellplanelaw09_ReplicaNew : Nat := 3
abbrev n_cellplanelaw08_JournalKeeps : Nat := 4
abbrev n_cellplanelaw08_JournalVotes : Nat := 5
abbrev n_cellplanelaw08_JournalOrder : Nat := 6
abbrev n_cellplanelaw08_JournalPlays : Nat := 7
abbrev n_cellplanelaw08_JournalOpens : Nat := 8
abbrev n_cellplanelaw08_JournalReopens : Nat := 9
abbrev n_cellplanelaw08_JournalCopies : Nat := 10
abbrev n_cellplanelaw09_ReplicaElected : Nat := 11
abbrev n_cellplanelaw09_ReplicaStores : Nat := 12
abbrev n_cellplanelaw10_QuorumNew : Nat := 13
abbrev n_cellplanelaw10_QuorumMatches : Nat := 14
abbrev n_cellplanelaw10_QuorumLeads : Nat := 15
abbrev n_cellplanelaw10_QuorumAgrees : Nat := 16
abbrev n_cellplanelaw10_QuorumCommits : Nat := 17
abbrev n_replica_New : Nat := 18
abbrev n_cellplaneref09_New : Nat := 19
abbrev n_cellplanelaw09_same : Nat := 20
abbrev n_cellplanemake_Between : Nat := 21
abbrev n_cellplanelaw09_awake : Nat := 22
abbrev n_cellplanelaw08_grown : Nat := 23
abbrev n_journal_Journal_Crash : Nat := 24
abbrev n_cellplanelaw08_awake : Nat := 25
abbrev n_journal_Journal_Term : Nat := 26
abbrev n_journal_Journal_Vote : Nat := 27
abbrev n_journal_Journal_Len : Nat := 28
abbrev n_journal_Journal_At : Nat := 29
abbrev n_journal_New : Nat := 30
abbrev n_journal_Journal_SetTerm : Nat := 31
abbrev n_disk_Disk_Sync : Nat := 32
abbrev n_journal_Journal_Append : Nat := 33
abbrev n_cellplanelaw08_note : Nat := 34
abbrev n_journal_Journal_TermAt : Nat := 35
abbrev n_cellplaneref06_Shape : Nat := 36
abbrev n_cellplaneref08_New : Nat := 37
abbrev n_cellplanelaw08_both : Nat := 38
abbrev n_cellplanemake_Mod : Nat := 39
abbrev n_cellplaneref08_Journal_SetTerm : Nat := 40
abbrev n_cellplaneref08_Journal_Append : Nat := 41
abbrev n_cellplaneref08_Journal_Cut : Nat := 42
abbrev n_journal_Open : Nat := 43
abbrev n_cellplanelaw08_same : Nat := 44
abbrev n_cellplaneref08_Open : Nat := 45
abbrev n_journal_Journal_Cut : Nat := 46
abbrev n_disk_Disk_Bytes : Nat := 47
abbrev n_cellplaneref01_SameBytes : Nat := 48
abbrev n_journal_Journal_Copy : Nat := 49
abbrev n_replica_Replica_Campaign : Nat := 50
abbrev n_replica_Replica_Role : Nat := 51
abbrev n_replica_Replica_Handle : Nat := 52
abbrev n_cellplanelaw09_note : Nat := 53
abbrev n_cellplaneref06_SameLogged : Nat := 54
abbrev n_replica_Replica_Log : Nat := 55
abbrev n_replica_Replica_Commit : Nat := 56
abbrev n_quorum_New : Nat := 57
abbrev n_cellplaneref10_New : Nat := 58
abbrev n_cellplanelaw10_awake : Nat := 59
abbrev n_cellplanelaw10_odd : Nat := 60
abbrev n_cellplanelaw10_play : Nat := 61
abbrev n_cellplanelaw10_matches : Nat := 62
abbrev n_quorum_Quorum_Log : Nat := 63
abbrev n_quorum_Quorum_Role : Nat := 64
abbrev n_quorum_Quorum_Term : Nat := 65
abbrev n_quorum_Quorum_Committed : Nat := 66
abbrev n_cellplanelaw10_begins : Nat := 67
abbrev n_quorum_Quorum_Commit : Nat := 68
abbrev n_quorum_Quorum_Flush : Nat := 69
abbrev n_cellplanelaw10_best : Nat := 70
abbrev n_quorum_Quorum_Do : Nat := 71
abbrev n_cellplanelaw10_note : Nat := 72
abbrev n_cellplaneref08_Journal_At : Nat := 73
abbrev n_replica_Replica_Propose : Nat := 74
abbrev n_disk_Disk_Crash : Nat := 75
abbrev n_frame_Take : Nat := 76
abbrev n_journal_Journal_read : Nat := 77
abbrev n_disk_Disk_Truncate : Nat := 78
abbrev n_disk_New : Nat := 79
abbrev n_journal_Journal_write : Nat := 80
abbrev n_journal_Journal_setTerm : Nat := 81
abbrev n_journal_Journal_add : Nat := 82
abbrev n_entry_Bytes : Nat := 83
abbrev n_cellplaneref06_right : Nat := 84
abbrev n_cellplaneref07_New : Nat := 85
abbrev n_cellplanemake_Spoilt : Nat := 86
abbrev n_cellplaneref08_Journal_Sync : Nat := 87
abbrev n_cellplaneref08_Journal_Crash : Nat := 88
abbrev n_cellplaneref08_Journal_setTerm : Nat := 89
abbrev n_cellplaneref08_Journal_put : Nat := 90
abbrev n_cellplaneref01_Int : Nat := 91
abbrev n_cellplaneref08_Journal_add : Nat := 92
abbrev n_cellplaneref06_Bytes : Nat := 93
abbrev n_cellplaneref08_Journal_cut : Nat := 94
abbrev n_disk_Disk_Append : Nat := 95
abbrev n_cellplaneref07_Disk_Append : Nat := 96
abbrev n_cellplaneref07_Disk_Sync : Nat := 97
abbrev n_journal_Journal_cut : Nat := 98
abbrev n_disk_Disk_Copy : Nat := 99
abbrev n_slices_Clone_api_Logged_api_Logged : Nat := 100
abbrev n_replica_Replica_remember : Nat := 101
abbrev n_replica_Replica_lead : Nat := 102
abbrev n_replica_Replica_others : Nat := 103
abbrev n_replica_Replica_message : Nat := 104
abbrev n_replica_Replica_lastTerm : Nat := 105
abbrev n_replica_Replica_proper : Nat := 106
abbrev n_replica_Replica_vote : Nat := 107
abbrev n_replica_Replica_voted : Nat := 108
abbrev n_replica_Replica_store : Nat := 109
abbrev n_replica_Replica_stored : Nat := 110
abbrev n_replica_Replica_from : Nat := 111
abbrev n_quorum_Quorum_Leader : Nat := 112
abbrev n_cellplanelaw10_act : Nat := 113
abbrev n_quorum_Quorum_Net : Nat := 114
abbrev n_quorum_Quorum_replica : Nat := 115
abbrev n_slices_Clone_api_Entry_api_Entry : Nat := 116
abbrev n_cellplaneref06_Same : Nat := 117
abbrev n_quorum_belongs : Nat := 118
abbrev n_quorum_Quorum_deliver : Nat := 119
abbrev n_quorum_Quorum_permitted : Nat := 120
abbrev n_quorum_Quorum_send : Nat := 121
abbrev n_replica_Replica_Beat : Nat := 122
abbrev n_quorum_Quorum_remove : Nat := 123
abbrev n_replica_Replica_Crash : Nat := 124
abbrev n_quorum_Quorum_watch : Nat := 125
abbrev n_replica_Replica_advance : Nat := 126
abbrev n_replica_Replica_appends : Nat := 127
abbrev n_wire_TakeInt : Nat := 128
abbrev n_frame_number : Nat := 129
abbrev n_digest_Sum : Nat := 130
abbrev n_journal_integers : Nat := 131
abbrev n_entry_Read : Nat := 132
abbrev n_wire_Int : Nat := 133
abbrev n_frame_Put : Nat := 134
abbrev n_entry_Shape : Nat := 135
abbrev n_entry_places : Nat := 136
abbrev n_cellplaneref06_in : Nat := 137
abbrev n_cellplaneref06_places : Nat := 138
abbrev n_cellplaneref06_numbers : Nat := 139
abbrev n_cellplaneref07_Disk_Crash : Nat := 140
abbrev n_cellplaneref03_All : Nat := 141
abbrev n_cellplaneref08_Journal_record : Nat := 142
abbrev n_cellplaneref03_Put : Nat := 143
abbrev n_cellplaneref07_Disk_Truncate : Nat := 144
abbrev n_cellplaneref01_code : Nat := 145
abbrev n_cellplaneref08_Journal_Last : Nat := 146
abbrev n_replica_between : Nat := 147
abbrev n_replica_properAppend : Nat := 148
abbrev n_replica_Replica_answer : Nat := 149
abbrev n_replica_Replica_appendTo : Nat := 150
abbrev n_quorum_copied : Nat := 151
abbrev n_slices_Clone_api_Message_api_Message : Nat := 152
abbrev n_digest_bytes : Nat := 153
abbrev n_digest_Mix : Nat := 154
abbrev n_wire_put : Nat := 155
abbrev n_wire_copied : Nat := 156
abbrev n_entry_fits : Nat := 157
abbrev n_cellplaneref06_has : Nat := 158
abbrev n_cellplaneref03_Take : Nat := 159
abbrev n_cellplaneref01_TakeInt : Nat := 160
abbrev n_cellplaneref06_Read : Nat := 161
abbrev n_cellplaneref02_Eight : Nat := 162
abbrev n_cellplaneref02_Sum : Nat := 163
abbrev n_cellplaneref08_Journal_TermAt : Nat := 164
abbrev n_entry_between : Nat := 165
abbrev n_entry_fits_1 : Nat := 166
abbrev n_entry_index : Nat := 167
abbrev n_entry_fits_2 : Nat := 168
abbrev n_entry_fits_3 : Nat := 169
abbrev n_entry_fits_4 : Nat := 170
abbrev n_cellplaneref06_uses : Nat := 171
abbrev n_cellplaneref02_Back : Nat := 172
abbrev n_cellplaneref02_all : Nat := 173
abbrev n_cellplaneref02_Mix : Nat := 174
abbrev t_tuple : Nat := 0
abbrev t_func : Nat := 1
abbrev t_i64 : Nat := 2
abbrev t_i64_2 : Nat := 3
abbrev t_bool : Nat := 4
abbrev t_u8 : Nat := 5
abbrev t_internal_abi_BoundsErrorCode : Nat := 6
abbrev t_struct : Nat := 7
abbrev t_runtime_boundsError : Nat := 8
abbrev t_string : Nat := 9
abbrev t_runtime_errorString : Nat := 10
abbrev t_runtime_plainError : Nat := 11
abbrev t_u64 : Nat := 12
abbrev t_struct_2 : Nat := 13
abbrev t_runtime_errorAddressString : Nat := 14
abbrev t_p_runtime_TypeAssertionError : Nat := 15
abbrev t_p_runtime_PanicNilError : Nat := 16
abbrev t_p_internal_abi_Type : Nat := 17
abbrev t_struct_3 : Nat := 18
abbrev t_internal_runtime_maps_unhashableTypeError : Nat := 19
abbrev t_interface : Nat := 20
abbrev t_i32 : Nat := 21
abbrev t_p_replica_Replica : Nat := 22
abbrev t_api_Errno : Nat := 23
abbrev t_tuple_2 : Nat := 24
abbrev t_func_2 : Nat := 25
abbrev t_p_cellplaneref09_Replica : Nat := 26
abbrev t_tuple_3 : Nat := 27
abbrev t_func_3 : Nat := 28
abbrev t_func_4 : Nat := 29
abbrev t_func_5 : Nat := 30
abbrev t_func_6 : Nat := 31
abbrev t_func_7 : Nat := 32
abbrev t_sl_i64 : Nat := 33
abbrev t_p_journal_Journal : Nat := 34
abbrev t_sl_api_Logged : Nat := 35
abbrev t_tuple_4 : Nat := 36
abbrev t_func_8 : Nat := 37
abbrev t_func_9 : Nat := 38
abbrev t_func_10 : Nat := 39
abbrev t_struct_4 : Nat := 40
abbrev t_api_Entry : Nat := 41
abbrev t_struct_5 : Nat := 42
abbrev t_api_Logged : Nat := 43
abbrev t_tuple_5 : Nat := 44
abbrev t_func_11 : Nat := 45
abbrev t_func_12 : Nat := 46
abbrev t_sl_cellplanelaw08_Act : Nat := 47
abbrev t_func_13 : Nat := 48
abbrev t_func_14 : Nat := 49
abbrev t_struct_6 : Nat := 50
abbrev t_cellplanelaw08_Act : Nat := 51
abbrev t_p_disk_Disk : Nat := 52
abbrev t_struct_7 : Nat := 53
abbrev t_journal_Journal : Nat := 54
abbrev t_func_15 : Nat := 55
abbrev t_func_16 : Nat := 56
abbrev t_func_17 : Nat := 57
abbrev t_func_18 : Nat := 58
abbrev t_func_19 : Nat := 59
abbrev t_p_cellplaneref08_Journal : Nat := 60
abbrev t_func_20 : Nat := 61
abbrev t_func_21 : Nat := 62
abbrev t_sl_u8 : Nat := 63
abbrev t_func_22 : Nat := 64
abbrev t_p_cellplaneref07_Disk : Nat := 65
abbrev t_struct_8 : Nat := 66
abbrev t_cellplaneref08_Journal : Nat := 67
abbrev t_func_23 : Nat := 68
abbrev t_struct_9 : Nat := 69
abbrev t_cellplaneref07_Disk : Nat := 70
abbrev t_sl_sl_u8 : Nat := 71
abbrev t_func_24 : Nat := 72
abbrev t_func_25 : Nat := 73
abbrev t_func_26 : Nat := 74
abbrev t_func_27 : Nat := 75
abbrev t_func_28 : Nat := 76
abbrev t_func_29 : Nat := 77
abbrev t_func_30 : Nat := 78
abbrev t_func_31 : Nat := 79
abbrev t_sl_api_Message : Nat := 80
abbrev t_func_32 : Nat := 81
abbrev t_func_33 : Nat := 82
abbrev t_struct_10 : Nat := 83
abbrev t_api_Message : Nat := 84
abbrev t_u64_2 : Nat := 85
abbrev t_func_34 : Nat := 86
abbrev t_func_35 : Nat := 87
abbrev t_func_36 : Nat := 88
abbrev t_map_i64_bool : Nat := 89
abbrev t_struct_11 : Nat := 90
abbrev t_replica_Replica : Nat := 91
abbrev t_func_37 : Nat := 92
abbrev t_p_quorum_Quorum : Nat := 93
abbrev t_tuple_6 : Nat := 94
abbrev t_func_38 : Nat := 95
abbrev t_p_cellplaneref10_Quorum : Nat := 96
abbrev t_tuple_7 : Nat := 97
abbrev t_func_39 : Nat := 98
abbrev t_func_40 : Nat := 99
abbrev t_sl_cellplanelaw10_Step : Nat := 100
abbrev t_func_41 : Nat := 101
abbrev t_func_42 : Nat := 102
abbrev t_func_43 : Nat := 103
abbrev t_sl_api_Entry : Nat := 104
abbrev t_func_44 : Nat := 105
abbrev t_func_45 : Nat := 106
abbrev t_func_46 : Nat := 107
abbrev t_func_47 : Nat := 108
abbrev t_struct_12 : Nat := 109
abbrev t_api_NetAct : Nat := 110
abbrev t_func_48 : Nat := 111
abbrev t_sl_bool : Nat := 112
abbrev t_struct_13 : Nat := 113
abbrev t_cellplaneref09_Replica : Nat := 114
abbrev t_tuple_8 : Nat := 115
abbrev t_func_49 : Nat := 116
abbrev t_tuple_9 : Nat := 117
abbrev t_func_50 : Nat := 118
abbrev t_func_51 : Nat := 119
abbrev t_func_52 : Nat := 120
abbrev t_func_53 : Nat := 121
abbrev t_struct_14 : Nat := 122
abbrev t_disk_Disk : Nat := 123
abbrev t_func_54 : Nat := 124
abbrev t_func_55 : Nat := 125
abbrev t_func_56 : Nat := 126
abbrev t_func_57 : Nat := 127
abbrev t_func_58 : Nat := 128
abbrev t_func_59 : Nat := 129
abbrev t_func_60 : Nat := 130
abbrev t_func_61 : Nat := 131
abbrev t_func_62 : Nat := 132
abbrev t_func_63 : Nat := 133
abbrev t_func_64 : Nat := 134
abbrev t_func_65 : Nat := 135
abbrev t_sl_p_replica_Replica : Nat := 136
abbrev t_struct_15 : Nat := 137
abbrev t_quorum_Quorum : Nat := 138
abbrev t_sl_p_cellplaneref09_Replica : Nat := 139
abbrev t_struct_16 : Nat := 140
abbrev t_cellplaneref10_Quorum : Nat := 141
abbrev t_func_66 : Nat := 142
abbrev t_struct_17 : Nat := 143
abbrev t_cellplanelaw10_Step : Nat := 144
abbrev t_func_67 : Nat := 145
abbrev t_func_68 : Nat := 146
abbrev t_func_69 : Nat := 147
abbrev t_func_70 : Nat := 148
abbrev t_func_71 : Nat := 149
abbrev t_func_72 : Nat := 150
abbrev t_tuple_10 : Nat := 151
abbrev t_func_73 : Nat := 152
abbrev t_u64_3 : Nat := 153
abbrev t_func_74 : Nat := 154
abbrev t_func_75 : Nat := 155
abbrev t_tuple_11 : Nat := 156
abbrev t_func_76 : Nat := 157
abbrev t_tuple_12 : Nat := 158
abbrev t_func_77 : Nat := 159
abbrev t_func_78 : Nat := 160
abbrev t_p_i64 : Nat := 161
abbrev t_ar9_p_i64 : Nat := 162
abbrev t_func_79 : Nat := 163
abbrev t_p_api_Entry : Nat := 164
abbrev t_func_80 : Nat := 165
abbrev t_func_81 : Nat := 166
abbrev t_func_82 : Nat := 167
abbrev t_tuple_13 : Nat := 168
abbrev t_func_83 : Nat := 169
abbrev t_func_84 : Nat := 170
abbrev t_func_85 : Nat := 171
abbrev t_func_86 : Nat := 172
abbrev t_func_87 : Nat := 173
abbrev t_func_88 : Nat := 174
abbrev t_func_89 : Nat := 175
abbrev t_func_90 : Nat := 176
abbrev t_struct_18 : Nat := 177
abbrev t_entry_sizes : Nat := 178
abbrev t_func_91 : Nat := 179
abbrev t_func_92 : Nat := 180
abbrev t_func_93 : Nat := 181
abbrev t_ar9_i64 : Nat := 182
abbrev t_sl_string : Nat := 183
abbrev t_func_94 : Nat := 184
abbrev t_struct_19 : Nat := 185
abbrev t_runtime_TypeAssertionError : Nat := 186
abbrev t_ar0_p_runtime_PanicNilError : Nat := 187
abbrev t_struct_20 : Nat := 188
abbrev t_runtime_PanicNilError : Nat := 189
abbrev t_u32 : Nat := 190
abbrev t_internal_abi_TFlag : Nat := 191
abbrev t_internal_abi_Kind : Nat := 192
abbrev t_func_95 : Nat := 193
abbrev t_p_u8 : Nat := 194
abbrev t_internal_abi_NameOff : Nat := 195
abbrev t_internal_abi_TypeOff : Nat := 196
abbrev t_struct_21 : Nat := 197
abbrev t_internal_abi_Type : Nat := 198
abbrev t_unsafePointer : Nat := 199
theorem strEq_iff {x y : ByteArray} : strEq x y = true ↔ x = y := by
  unfold strEq
  constructor
  · intro h
    have h1 := eq_of_beq h
    rw [ByteArray.toList_eq, ByteArray.toList_eq] at h1
    obtain ⟨⟨x⟩⟩ := x
    obtain ⟨⟨y⟩⟩ := y
    simpa using h1
  · rintro rfl; simp
structure G_struct where
  x : Int
  y : Int
  signed : Bool
  code : Int
def G_struct.cells (x : G_struct) : List Value := [.int .i64 x.x, .int .i64 x.y, .bool x.signed, .int .u8 x.code]
def G_struct.decL (l : List Value) (k : G_struct → Prop) : Prop := match l with
  | [.int .i64 vx, .int .i64 vy, .bool vsigned, .int .u8 vcode] => k ⟨vx, vy, vsigned, vcode⟩
  | _ => False
theorem G_struct.decL_spec {l : List Value} {k : G_struct → Prop} (h : G_struct.decL l k) : ∃ x : G_struct, l = x.cells ∧ k x := by
  unfold G_struct.decL at h
  split at h
  · exact ⟨_, rfl, h⟩
  · exact h.elim
def G_struct.decA (a : Array Value) (k : G_struct → Prop) : Prop := G_struct.decL a.toList k
theorem G_struct.decA_spec {a : Array Value} {k : G_struct → Prop} (h : G_struct.decA a k) : ∃ x : G_struct, a = List.toArray x.cells ∧ k x := by
  obtain ⟨x, e, h⟩ := G_struct.decL_spec h
  exact ⟨x, by rw [← e], h⟩
def G_struct.eqb (x y : G_struct) : Bool := (decide (x.x = y.x) && (decide (x.y = y.y) && ((x.signed == y.signed) && (decide (x.code = y.code) && true))))
theorem G_struct.eqb_iff {x y : G_struct} : G_struct.eqb x y = true ↔ x = y := by
  cases x; cases y; simp [G_struct.eqb, strEq_iff]
structure G_runtime_boundsError where
  x : Int
  y : Int
  signed : Bool
  code : Int
def G_runtime_boundsError.cells (x : G_runtime_boundsError) : List Value := [.int .i64 x.x, .int .i64 x.y, .bool x.signed, .int .u8 x.code]
def G_runtime_boundsError.decL (l : List Value) (k : G_runtime_boundsError → Prop) : Prop := match l with
  | [.int .i64 vx, .int .i64 vy, .bool vsigned, .int .u8 vcode] => k ⟨vx, vy, vsigned, vcode⟩
  | _ => False
theorem G_runtime_boundsError.decL_spec {l : List Value} {k : G_runtime_boundsError → Prop} (h : G_runtime_boundsError.decL l k) : ∃ x : G_runtime_boundsError, l = x.cells ∧ k x := by
  unfold G_runtime_boundsError.decL at h
  split at h
  · exact ⟨_, rfl, h⟩
  · exact h.elim
def G_runtime_boundsError.decA (a : Array Value) (k : G_runtime_boundsError → Prop) : Prop := G_runtime_boundsError.decL a.toList k
theorem G_runtime_boundsError.decA_spec {a : Array Value} {k : G_runtime_boundsError → Prop} (h : G_runtime_boundsError.decA a k) : ∃ x : G_runtime_boundsError, a = List.toArray x.cells ∧ k x := by
  obtain ⟨x, e, h⟩ := G_runtime_boundsError.decL_spec h
  exact ⟨x, by rw [← e], h⟩
def G_runtime_boundsError.eqb (x y : G_runtime_boundsError) : Bool := (decide (x.x = y.x) && (decide (x.y = y.y) && ((x.signed == y.signed) && (decide (x.code = y.code) && true))))
theorem G_runtime_boundsError.eqb_iff {x y : G_runtime_boundsError} : G_runtime_boundsError.eqb x y = true ↔ x = y := by
  cases x; cases y; simp [G_runtime_boundsError.eqb, strEq_iff]
structure G_struct_2 where
  msg : ByteArray
  addr : Int
def G_struct_2.cells (x : G_struct_2) : List Value := [.string x.msg, .int .u64 x.addr]
def G_struct_2.decL (l : List Value) (k : G_struct_2 → Prop) : Prop := match l with
  | [.string vmsg, .int .u64 vaddr] => k ⟨vmsg, vaddr⟩
  | _ => False
theorem G_struct_2.decL_spec {l : List Value} {k : G_struct_2 → Prop} (h : G_struct_2.decL l k) : ∃ x : G_struct_2, l = x.cells ∧ k x := by
  unfold G_struct_2.decL at h
  split at h
  · exact ⟨_, rfl, h⟩
  · exact h.elim
def G_struct_2.decA (a : Array Value) (k : G_struct_2 → Prop) : Prop := G_struct_2.decL a.toList k
theorem G_struct_2.decA_spec {a : Array Value} {k : G_struct_2 → Prop} (h : G_struct_2.decA a k) : ∃ x : G_struct_2, a = List.toArray x.cells ∧ k x := by
  obtain ⟨x, e, h⟩ := G_struct_2.decL_spec h
  exact ⟨x, by rw [← e], h⟩
def G_struct_2.eqb (x y : G_struct_2) : Bool := (strEq x.msg y.msg && (decide (x.addr = y.addr) && true))
theorem G_struct_2.eqb_iff {x y : G_struct_2} : G_struct_2.eqb x y = true ↔ x = y := by
  cases x; cases y; simp [G_struct_2.eqb, strEq_iff]
structure G_runtime_errorAddressString where
  msg : ByteArray
  addr : Int
def G_runtime_errorAddressString.cells (x : G_runtime_errorAddressString) : List Value := [.string x.msg, .int .u64 x.addr]
def G_runtime_errorAddressString.decL (l : List Value) (k : G_runtime_errorAddressString → Prop) : Prop := match l with
  | [.string vmsg, .int .u64 vaddr] => k ⟨vmsg, vaddr⟩
  | _ => False
theorem G_runtime_errorAddressString.decL_spec {l : List Value} {k : G_runtime_errorAddressString → Prop} (h : G_runtime_errorAddressString.decL l k) : ∃ x : G_runtime_errorAddressString, l = x.cells ∧ k x := by
  unfold G_runtime_errorAddressString.decL at h
  split at h
  · exact ⟨_, rfl, h⟩
  · exact h.elim
def G_runtime_errorAddressString.decA (a : Array Value) (k : G_runtime_errorAddressString → Prop) : Prop := G_runtime_errorAddressString.decL a.toList k
theorem G_runtime_errorAddressString.decA_spec {a : Array Value} {k : G_runtime_errorAddressString → Prop} (h : G_runtime_errorAddressString.decA a k) : ∃ x : G_runtime_errorAddressString, a = List.toArray x.cells ∧ k x := by
  obtain ⟨x, e, h⟩ := G_runtime_errorAddressString.decL_spec h
  exact ⟨x, by rw [← e], h⟩
def G_runtime_errorAddressString.eqb (x y : G_runtime_errorAddressString) : Bool := (strEq x.msg y.msg && (decide (x.addr = y.addr) && true))
theorem G_runtime_errorAddressString.eqb_iff {x y : G_runtime_errorAddressString} : G_runtime_errorAddressString.eqb x y = true ↔ x = y := by
  cases x; cases y; simp [G_runtime_errorAddressString.eqb, strEq_iff]
structure G_struct_3 where
  typ : Option Addr
def G_struct_3.cells (x : G_struct_3) : List Value := [.pointer x.typ]
def G_struct_3.decL (l : List Value) (k : G_struct_3 → Prop) : Prop := match l with
  | [.pointer vtyp] => k ⟨vtyp⟩
  | _ => False
theorem G_struct_3.decL_spec {l : List Value} {k : G_struct_3 → Prop} (h : G_struct_3.decL l k) : ∃ x : G_struct_3, l = x.cells ∧ k x := by
  unfold G_struct_3.decL at h
  split at h
  · exact ⟨_, rfl, h⟩
  · exact h.elim
def G_struct_3.decA (a : Array Value) (k : G_struct_3 → Prop) : Prop := G_struct_3.decL a.toList k
theorem G_struct_3.decA_spec {a : Array Value} {k : G_struct_3 → Prop} (h : G_struct_3.decA a k) : ∃ x : G_struct_3, a = List.toArray x.cells ∧ k x := by
  obtain ⟨x, e, h⟩ := G_struct_3.decL_spec h
  exact ⟨x, by rw [← e], h⟩
structure G_internal_runtime_maps_unhashableTypeError where
  typ : Option Addr
def G_internal_runtime_maps_unhashableTypeError.cells (x : G_internal_runtime_maps_unhashableTypeError) : List Value := [.pointer x.typ]
def G_internal_runtime_maps_unhashableTypeError.decL (l : List Value) (k : G_internal_runtime_maps_unhashableTypeError → Prop) : Prop := match l with
  | [.pointer vtyp] => k ⟨vtyp⟩
  | _ => False
theorem G_internal_runtime_maps_unhashableTypeError.decL_spec {l : List Value} {k : G_internal_runtime_maps_unhashableTypeError → Prop} (h : G_internal_runtime_maps_unhashableTypeError.decL l k) : ∃ x : G_internal_runtime_maps_unhashableTypeError, l = x.cells ∧ k x := by
  unfold G_internal_runtime_maps_unhashableTypeError.decL at h
  split at h
  · exact ⟨_, rfl, h⟩
  · exact h.elim
def G_internal_runtime_maps_unhashableTypeError.decA (a : Array Value) (k : G_internal_runtime_maps_unhashableTypeError → Prop) : Prop := G_internal_runtime_maps_unhashableTypeError.decL a.toList k
theorem G_internal_runtime_maps_unhashableTypeError.decA_spec {a : Array Value} {k : G_internal_runtime_maps_unhashableTypeError → Prop} (h : G_internal_runtime_maps_unhashableTypeError.decA a k) : ∃ x : G_internal_runtime_maps_unhashableTypeError, a = List.toArray x.cells ∧ k x := by
  obtain ⟨x, e, h⟩ := G_internal_runtime_maps_unhashableTypeError.decL_spec h
  exact ⟨x, by rw [← e], h⟩
structure G_struct_4 where
  Kind : Int
  Tick : Int
  Tenant : Int
  Cell : Int
  Other : Int
  Epoch : Int
  From : Int
  Until : Int
  N : Int
def G_struct_4.cells (x : G_struct_4) : List Value := [.int .i64 x.Kind, .int .i64 x.Tick, .int .i64 x.Tenant, .int .i64 x.Cell, .int .i64 x.Other, .int .i64 x.Epoch, .int .i64 x.From, .int .i64 x.Until, .int .i64 x.N]
def G_struct_4.decL (l : List Value) (k : G_struct_4 → Prop) : Prop := match l with
  | [.int .i64 vKind, .int .i64 vTick, .int .i64 vTenant, .int .i64 vCell, .int .i64 vOther, .int .i64 vEpoch, .int .i64 vFrom, .int .i64 vUntil, .int .i64 vN] => k ⟨vKind, vTick, vTenant, vCell, vOther, vEpoch, vFrom, vUntil, vN⟩
  | _ => False
theorem G_struct_4.decL_spec {l : List Value} {k : G_struct_4 → Prop} (h : G_struct_4.decL l k) : ∃ x : G_struct_4, l = x.cells ∧ k x := by
  unfold G_struct_4.decL at h
  split at h
  · exact ⟨_, rfl, h⟩
  · exact h.elim
def G_struct_4.decA (a : Array Value) (k : G_struct_4 → Prop) : Prop := G_struct_4.decL a.toList k
theorem G_struct_4.decA_spec {a : Array Value} {k : G_struct_4 → Prop} (h : G_struct_4.decA a k) : ∃ x : G_struct_4, a = List.toArray x.cells ∧ k x := by
  obtain ⟨x, e, h⟩ := G_struct_4.decL_spec h
  exact ⟨x, by rw [← e], h⟩
def G_struct_4.eqb (x y : G_struct_4) : Bool := (decide (x.Kind = y.Kind) && (decide (x.Tick = y.Tick) && (decide (x.Tenant = y.Tenant) && (decide (x.Cell = y.Cell) && (decide (x.Other = y.Other) && (decide (x.Epoch = y.Epoch) && (decide (x.From = y.From) && (decide (x.Until = y.Until) && (decide (x.N = y.N) && true)))))))))
theorem G_struct_4.eqb_iff {x y : G_struct_4} : G_struct_4.eqb x y = true ↔ x = y := by
  cases x; cases y; simp [G_struct_4.eqb, strEq_iff]
structure G_api_Entry where
  Kind : Int
  Tick : Int
  Tenant : Int
  Cell : Int
  Other : Int
  Epoch : Int
  From : Int
  Until : Int
  N : Int
def G_api_Entry.cells (x : G_api_Entry) : List Value := [.int .i64 x.Kind, .int .i64 x.Tick, .int .i64 x.Tenant, .int .i64 x.Cell, .int .i64 x.Other, .int .i64 x.Epoch, .int .i64 x.From, .int .i64 x.Until, .int .i64 x.N]
def G_api_Entry.decL (l : List Value) (k : G_api_Entry → Prop) : Prop := match l with
  | [.int .i64 vKind, .int .i64 vTick, .int .i64 vTenant, .int .i64 vCell, .int .i64 vOther, .int .i64 vEpoch, .int .i64 vFrom, .int .i64 vUntil, .int .i64 vN] => k ⟨vKind, vTick, vTenant, vCell, vOther, vEpoch, vFrom, vUntil, vN⟩
  | _ => False
theorem G_api_Entry.decL_spec {l : List Value} {k : G_api_Entry → Prop} (h : G_api_Entry.decL l k) : ∃ x : G_api_Entry, l = x.cells ∧ k x := by
  unfold G_api_Entry.decL at h
  split at h
  · exact ⟨_, rfl, h⟩
  · exact h.elim
def G_api_Entry.decA (a : Array Value) (k : G_api_Entry → Prop) : Prop := G_api_Entry.decL a.toList k
theorem G_api_Entry.decA_spec {a : Array Value} {k : G_api_Entry → Prop} (h : G_api_Entry.decA a k) : ∃ x : G_api_Entry, a = List.toArray x.cells ∧ k x := by
  obtain ⟨x, e, h⟩ := G_api_Entry.decL_spec h
  exact ⟨x, by rw [← e], h⟩
def G_api_Entry.eqb (x y : G_api_Entry) : Bool := (decide (x.Kind = y.Kind) && (decide (x.Tick = y.Tick) && (decide (x.Tenant = y.Tenant) && (decide (x.Cell = y.Cell) && (decide (x.Other = y.Other) && (decide (x.Epoch = y.Epoch) && (decide (x.From = y.From) && (decide (x.Until = y.Until) && (decide (x.N = y.N) && true)))))))))
theorem G_api_Entry.eqb_iff {x y : G_api_Entry} : G_api_Entry.eqb x y = true ↔ x = y := by
  cases x; cases y; simp [G_api_Entry.eqb, strEq_iff]
structure G_struct_5 where
  Term : Int
  Entry : G_api_Entry
def G_struct_5.cells (x : G_struct_5) : List Value := [.int .i64 x.Term, .int .i64 x.Entry.Kind, .int .i64 x.Entry.Tick, .int .i64 x.Entry.Tenant, .int .i64 x.Entry.Cell, .int .i64 x.Entry.Other, .int .i64 x.Entry.Epoch, .int .i64 x.Entry.From, .int .i64 x.Entry.Until, .int .i64 x.Entry.N]
def G_struct_5.decL (l : List Value) (k : G_struct_5 → Prop) : Prop := match l with
  | [.int .i64 vTerm, .int .i64 vEntry_Kind, .int .i64 vEntry_Tick, .int .i64 vEntry_Tenant, .int .i64 vEntry_Cell, .int .i64 vEntry_Other, .int .i64 vEntry_Epoch, .int .i64 vEntry_From, .int .i64 vEntry_Until, .int .i64 vEntry_N] => k ⟨vTerm, ⟨vEntry_Kind, vEntry_Tick, vEntry_Tenant, vEntry_Cell, vEntry_Other, vEntry_Epoch, vEntry_From, vEntry_Until, vEntry_N⟩⟩
  | _ => False
theorem G_struct_5.decL_spec {l : List Value} {k : G_struct_5 → Prop} (h : G_struct_5.decL l k) : ∃ x : G_struct_5, l = x.cells ∧ k x := by
  unfold G_struct_5.decL at h
  split at h
  · exact ⟨_, rfl, h⟩
  · exact h.elim
def G_struct_5.decA (a : Array Value) (k : G_struct_5 → Prop) : Prop := G_struct_5.decL a.toList k
theorem G_struct_5.decA_spec {a : Array Value} {k : G_struct_5 → Prop} (h : G_struct_5.decA a k) : ∃ x : G_struct_5, a = List.toArray x.cells ∧ k x := by
  obtain ⟨x, e, h⟩ := G_struct_5.decL_spec h
  exact ⟨x, by rw [← e], h⟩
def G_struct_5.eqb (x y : G_struct_5) : Bool := (decide (x.Term = y.Term) && (G_api_Entry.eqb x.Entry y.Entry && true))
theorem G_struct_5.eqb_iff {x y : G_struct_5} : G_struct_5.eqb x y = true ↔ x = y := by
  cases x; cases y; simp [G_struct_5.eqb, strEq_iff, G_api_Entry.eqb_iff]
structure G_api_Logged where
  Term : Int
  Entry : G_api_Entry
def G_api_Logged.cells (x : G_api_Logged) : List Value := [.int .i64 x.Term, .int .i64 x.Entry.Kind, .int .i64 x.Entry.Tick, .int .i64 x.Entry.Tenant, .int .i64 x.Entry.Cell, .int .i64 x.Entry.Other, .int .i64 x.Entry.Epoch, .int .i64 x.Entry.From, .int .i64 x.Entry.Until, .int .i64 x.Entry.N]
def G_api_Logged.decL (l : List Value) (k : G_api_Logged → Prop) : Prop := match l with
  | [.int .i64 vTerm, .int .i64 vEntry_Kind, .int .i64 vEntry_Tick, .int .i64 vEntry_Tenant, .int .i64 vEntry_Cell, .int .i64 vEntry_Other, .int .i64 vEntry_Epoch, .int .i64 vEntry_From, .int .i64 vEntry_Until, .int .i64 vEntry_N] => k ⟨vTerm, ⟨vEntry_Kind, vEntry_Tick, vEntry_Tenant, vEntry_Cell, vEntry_Other, vEntry_Epoch, vEntry_From, vEntry_Until, vEntry_N⟩⟩
  | _ => False
theorem G_api_Logged.decL_spec {l : List Value} {k : G_api_Logged → Prop} (h : G_api_Logged.decL l k) : ∃ x : G_api_Logged, l = x.cells ∧ k x := by
  unfold G_api_Logged.decL at h
  split at h
  · exact ⟨_, rfl, h⟩
  · exact h.elim
def G_api_Logged.decA (a : Array Value) (k : G_api_Logged → Prop) : Prop := G_api_Logged.decL a.toList k
theorem G_api_Logged.decA_spec {a : Array Value} {k : G_api_Logged → Prop} (h : G_api_Logged.decA a k) : ∃ x : G_api_Logged, a = List.toArray x.cells ∧ k x := by
  obtain ⟨x, e, h⟩ := G_api_Logged.decL_spec h
  exact ⟨x, by rw [← e], h⟩
def G_api_Logged.eqb (x y : G_api_Logged) : Bool := (decide (x.Term = y.Term) && (G_api_Entry.eqb x.Entry y.Entry && true))
theorem G_api_Logged.eqb_iff {x y : G_api_Logged} : G_api_Logged.eqb x y = true ↔ x = y := by
  cases x; cases y; simp [G_api_Logged.eqb, strEq_iff, G_api_Entry.eqb_iff]
structure G_struct_6 where
  Which : Int
  A : Int
  B : Int
def G_struct_6.cells (x : G_struct_6) : List Value := [.int .i64 x.Which, .int .i64 x.A, .int .i64 x.B]
def G_struct_6.decL (l : List Value) (k : G_struct_6 → Prop) : Prop := match l with
  | [.int .i64 vWhich, .int .i64 vA, .int .i64 vB] => k ⟨vWhich, vA, vB⟩
  | _ => False
theorem G_struct_6.decL_spec {l : List Value} {k : G_struct_6 → Prop} (h : G_struct_6.decL l k) : ∃ x : G_struct_6, l = x.cells ∧ k x := by
  unfold G_struct_6.decL at h
  split at h
  · exact ⟨_, rfl, h⟩
  · exact h.elim
def G_struct_6.decA (a : Array Value) (k : G_struct_6 → Prop) : Prop := G_struct_6.decL a.toList k
theorem G_struct_6.decA_spec {a : Array Value} {k : G_struct_6 → Prop} (h : G_struct_6.decA a k) : ∃ x : G_struct_6, a = List.toArray x.cells ∧ k x := by
  obtain ⟨x, e, h⟩ := G_struct_6.decL_spec h
  exact ⟨x, by rw [← e], h⟩
def G_struct_6.eqb (x y : G_struct_6) : Bool := (decide (x.Which = y.Which) && (decide (x.A = y.A) && (decide (x.B = y.B) && true)))
theorem G_struct_6.eqb_iff {x y : G_struct_6} : G_struct_6.eqb x y = true ↔ x = y := by
  cases x; cases y; simp [G_struct_6.eqb, strEq_iff]
structure G_cellplanelaw08_Act where
  Which : Int
  A : Int
  B : Int
def G_cellplanelaw08_Act.cells (x : G_cellplanelaw08_Act) : List Value := [.int .i64 x.Which, .int .i64 x.A, .int .i64 x.B]
def G_cellplanelaw08_Act.decL (l : List Value) (k : G_cellplanelaw08_Act → Prop) : Prop := match l with
  | [.int .i64 vWhich, .int .i64 vA, .int .i64 vB] => k ⟨vWhich, vA, vB⟩
  | _ => False
theorem G_cellplanelaw08_Act.decL_spec {l : List Value} {k : G_cellplanelaw08_Act → Prop} (h : G_cellplanelaw08_Act.decL l k) : ∃ x : G_cellplanelaw08_Act, l = x.cells ∧ k x := by
  unfold G_cellplanelaw08_Act.decL at h
  split at h
  · exact ⟨_, rfl, h⟩
  · exact h.elim
def G_cellplanelaw08_Act.decA (a : Array Value) (k : G_cellplanelaw08_Act → Prop) : Prop := G_cellplanelaw08_Act.decL a.toList k
theorem G_cellplanelaw08_Act.decA_spec {a : Array Value} {k : G_cellplanelaw08_Act → Prop} (h : G_cellplanelaw08_Act.decA a k) : ∃ x : G_cellplanelaw08_Act, a = List.toArray x.cells ∧ k x := by
  obtain ⟨x, e, h⟩ := G_cellplanelaw08_Act.decL_spec h
  exact ⟨x, by rw [← e], h⟩
def G_cellplanelaw08_Act.eqb (x y : G_cellplanelaw08_Act) : Bool := (decide (x.Which = y.Which) && (decide (x.A = y.A) && (decide (x.B = y.B) && true)))
theorem G_cellplanelaw08_Act.eqb_iff {x y : G_cellplanelaw08_Act} : G_cellplanelaw08_Act.eqb x y = true ↔ x = y := by
  cases x; cases y; simp [G_cellplanelaw08_Act.eqb, strEq_iff]
structure G_struct_7 where
  Disk : Option Addr
  term : Int
  vote : Int
  log : Sl
def G_struct_7.cells (x : G_struct_7) : List Value := [.pointer x.Disk, .int .i64 x.term, .int .i64 x.vote, .slice x.log.a x.log.n x.log.c]
def G_struct_7.decL (l : List Value) (k : G_struct_7 → Prop) : Prop := match l with
  | [.pointer vDisk, .int .i64 vterm, .int .i64 vvote, .slice vlog vlogn vlogc] => k ⟨vDisk, vterm, vvote, ⟨vlog, vlogn, vlogc⟩⟩
  | _ => False
theorem G_struct_7.decL_spec {l : List Value} {k : G_struct_7 → Prop} (h : G_struct_7.decL l k) : ∃ x : G_struct_7, l = x.cells ∧ k x := by
  unfold G_struct_7.decL at h
  split at h
  · exact ⟨_, rfl, h⟩
  · exact h.elim
def G_struct_7.decA (a : Array Value) (k : G_struct_7 → Prop) : Prop := G_struct_7.decL a.toList k
theorem G_struct_7.decA_spec {a : Array Value} {k : G_struct_7 → Prop} (h : G_struct_7.decA a k) : ∃ x : G_struct_7, a = List.toArray x.cells ∧ k x := by
  obtain ⟨x, e, h⟩ := G_struct_7.decL_spec h
  exact ⟨x, by rw [← e], h⟩
structure G_journal_Journal where
  Disk : Option Addr
  term : Int
  vote : Int
  log : Sl
def G_journal_Journal.cells (x : G_journal_Journal) : List Value := [.pointer x.Disk, .int .i64 x.term, .int .i64 x.vote, .slice x.log.a x.log.n x.log.c]
def G_journal_Journal.decL (l : List Value) (k : G_journal_Journal → Prop) : Prop := match l with
  | [.pointer vDisk, .int .i64 vterm, .int .i64 vvote, .slice vlog vlogn vlogc] => k ⟨vDisk, vterm, vvote, ⟨vlog, vlogn, vlogc⟩⟩
  | _ => False
theorem G_journal_Journal.decL_spec {l : List Value} {k : G_journal_Journal → Prop} (h : G_journal_Journal.decL l k) : ∃ x : G_journal_Journal, l = x.cells ∧ k x := by
  unfold G_journal_Journal.decL at h
  split at h
  · exact ⟨_, rfl, h⟩
  · exact h.elim
def G_journal_Journal.decA (a : Array Value) (k : G_journal_Journal → Prop) : Prop := G_journal_Journal.decL a.toList k
theorem G_journal_Journal.decA_spec {a : Array Value} {k : G_journal_Journal → Prop} (h : G_journal_Journal.decA a k) : ∃ x : G_journal_Journal, a = List.toArray x.cells ∧ k x := by
  obtain ⟨x, e, h⟩ := G_journal_Journal.decL_spec h
  exact ⟨x, by rw [← e], h⟩
structure G_struct_8 where
  D : Option Addr
  Term : Int
  Vote : Int
  L : Sl
def G_struct_8.cells (x : G_struct_8) : List Value := [.pointer x.D, .int .i64 x.Term, .int .i64 x.Vote, .slice x.L.a x.L.n x.L.c]
def G_struct_8.decL (l : List Value) (k : G_struct_8 → Prop) : Prop := match l with
  | [.pointer vD, .int .i64 vTerm, .int .i64 vVote, .slice vL vLn vLc] => k ⟨vD, vTerm, vVote, ⟨vL, vLn, vLc⟩⟩
  | _ => False
theorem G_struct_8.decL_spec {l : List Value} {k : G_struct_8 → Prop} (h : G_struct_8.decL l k) : ∃ x : G_struct_8, l = x.cells ∧ k x := by
  unfold G_struct_8.decL at h
  split at h
  · exact ⟨_, rfl, h⟩
  · exact h.elim
def G_struct_8.decA (a : Array Value) (k : G_struct_8 → Prop) : Prop := G_struct_8.decL a.toList k
theorem G_struct_8.decA_spec {a : Array Value} {k : G_struct_8 → Prop} (h : G_struct_8.decA a k) : ∃ x : G_struct_8, a = List.toArray x.cells ∧ k x := by
  obtain ⟨x, e, h⟩ := G_struct_8.decL_spec h
  exact ⟨x, by rw [← e], h⟩
structure G_cellplaneref08_Journal where
  D : Option Addr
  Term : Int
  Vote : Int
  L : Sl
def G_cellplaneref08_Journal.cells (x : G_cellplaneref08_Journal) : List Value := [.pointer x.D, .int .i64 x.Term, .int .i64 x.Vote, .slice x.L.a x.L.n x.L.c]
def G_cellplaneref08_Journal.decL (l : List Value) (k : G_cellplaneref08_Journal → Prop) : Prop := match l with
  | [.pointer vD, .int .i64 vTerm, .int .i64 vVote, .slice vL vLn vLc] => k ⟨vD, vTerm, vVote, ⟨vL, vLn, vLc⟩⟩
  | _ => False
theorem G_cellplaneref08_Journal.decL_spec {l : List Value} {k : G_cellplaneref08_Journal → Prop} (h : G_cellplaneref08_Journal.decL l k) : ∃ x : G_cellplaneref08_Journal, l = x.cells ∧ k x := by
  unfold G_cellplaneref08_Journal.decL at h
  split at h
  · exact ⟨_, rfl, h⟩
  · exact h.elim
def G_cellplaneref08_Journal.decA (a : Array Value) (k : G_cellplaneref08_Journal → Prop) : Prop := G_cellplaneref08_Journal.decL a.toList k
theorem G_cellplaneref08_Journal.decA_spec {a : Array Value} {k : G_cellplaneref08_Journal → Prop} (h : G_cellplaneref08_Journal.decA a k) : ∃ x : G_cellplaneref08_Journal, a = List.toArray x.cells ∧ k x := by
  obtain ⟨x, e, h⟩ := G_cellplaneref08_Journal.decL_spec h
  exact ⟨x, by rw [← e], h⟩
structure G_struct_9 where
  B : Sl
  D : Int
def G_struct_9.cells (x : G_struct_9) : List Value := [.slice x.B.a x.B.n x.B.c, .int .i64 x.D]
def G_struct_9.decL (l : List Value) (k : G_struct_9 → Prop) : Prop := match l with
  | [.slice vB vBn vBc, .int .i64 vD] => k ⟨⟨vB, vBn, vBc⟩, vD⟩
  | _ => False
theorem G_struct_9.decL_spec {l : List Value} {k : G_struct_9 → Prop} (h : G_struct_9.decL l k) : ∃ x : G_struct_9, l = x.cells ∧ k x := by
  unfold G_struct_9.decL at h
  split at h
  · exact ⟨_, rfl, h⟩
  · exact h.elim
def G_struct_9.decA (a : Array Value) (k : G_struct_9 → Prop) : Prop := G_struct_9.decL a.toList k
theorem G_struct_9.decA_spec {a : Array Value} {k : G_struct_9 → Prop} (h : G_struct_9.decA a k) : ∃ x : G_struct_9, a = List.toArray x.cells ∧ k x := by
  obtain ⟨x, e, h⟩ := G_struct_9.decL_spec h
  exact ⟨x, by rw [← e], h⟩
structure G_cellplaneref07_Disk where
  B : Sl
  D : Int
def G_cellplaneref07_Disk.cells (x : G_cellplaneref07_Disk) : List Value := [.slice x.B.a x.B.n x.B.c, .int .i64 x.D]
def G_cellplaneref07_Disk.decL (l : List Value) (k : G_cellplaneref07_Disk → Prop) : Prop := match l with
  | [.slice vB vBn vBc, .int .i64 vD] => k ⟨⟨vB, vBn, vBc⟩, vD⟩
  | _ => False
theorem G_cellplaneref07_Disk.decL_spec {l : List Value} {k : G_cellplaneref07_Disk → Prop} (h : G_cellplaneref07_Disk.decL l k) : ∃ x : G_cellplaneref07_Disk, l = x.cells ∧ k x := by
  unfold G_cellplaneref07_Disk.decL at h
  split at h
  · exact ⟨_, rfl, h⟩
  · exact h.elim
def G_cellplaneref07_Disk.decA (a : Array Value) (k : G_cellplaneref07_Disk → Prop) : Prop := G_cellplaneref07_Disk.decL a.toList k
theorem G_cellplaneref07_Disk.decA_spec {a : Array Value} {k : G_cellplaneref07_Disk → Prop} (h : G_cellplaneref07_Disk.decA a k) : ∃ x : G_cellplaneref07_Disk, a = List.toArray x.cells ∧ k x := by
  obtain ⟨x, e, h⟩ := G_cellplaneref07_Disk.decL_spec h
  exact ⟨x, by rw [← e], h⟩
structure G_struct_10 where
  Kind : Int
  From : Int
  To : Int
  Term : Int
  Index : Int
  PrevTerm : Int
  Commit : Int
  OK : Bool
  Entries : Sl
def G_struct_10.cells (x : G_struct_10) : List Value := [.int .i64 x.Kind, .int .i64 x.From, .int .i64 x.To, .int .i64 x.Term, .int .i64 x.Index, .int .i64 x.PrevTerm, .int .i64 x.Commit, .bool x.OK, .slice x.Entries.a x.Entries.n x.Entries.c]
def G_struct_10.decL (l : List Value) (k : G_struct_10 → Prop) : Prop := match l with
  | [.int .i64 vKind, .int .i64 vFrom, .int .i64 vTo, .int .i64 vTerm, .int .i64 vIndex, .int .i64 vPrevTerm, .int .i64 vCommit, .bool vOK, .slice vEntries vEntriesn vEntriesc] => k ⟨vKind, vFrom, vTo, vTerm, vIndex, vPrevTerm, vCommit, vOK, ⟨vEntries, vEntriesn, vEntriesc⟩⟩
  | _ => False
theorem G_struct_10.decL_spec {l : List Value} {k : G_struct_10 → Prop} (h : G_struct_10.decL l k) : ∃ x : G_struct_10, l = x.cells ∧ k x := by
  unfold G_struct_10.decL at h
  split at h
  · exact ⟨_, rfl, h⟩
  · exact h.elim
def G_struct_10.decA (a : Array Value) (k : G_struct_10 → Prop) : Prop := G_struct_10.decL a.toList k
theorem G_struct_10.decA_spec {a : Array Value} {k : G_struct_10 → Prop} (h : G_struct_10.decA a k) : ∃ x : G_struct_10, a = List.toArray x.cells ∧ k x := by
  obtain ⟨x, e, h⟩ := G_struct_10.decL_spec h
  exact ⟨x, by rw [← e], h⟩
structure G_api_Message where
  Kind : Int
  From : Int
  To : Int
  Term : Int
  Index : Int
  PrevTerm : Int
  Commit : Int
  OK : Bool
  Entries : Sl
def G_api_Message.cells (x : G_api_Message) : List Value := [.int .i64 x.Kind, .int .i64 x.From, .int .i64 x.To, .int .i64 x.Term, .int .i64 x.Index, .int .i64 x.PrevTerm, .int .i64 x.Commit, .bool x.OK, .slice x.Entries.a x.Entries.n x.Entries.c]
def G_api_Message.decL (l : List Value) (k : G_api_Message → Prop) : Prop := match l with
  | [.int .i64 vKind, .int .i64 vFrom, .int .i64 vTo, .int .i64 vTerm, .int .i64 vIndex, .int .i64 vPrevTerm, .int .i64 vCommit, .bool vOK, .slice vEntries vEntriesn vEntriesc] => k ⟨vKind, vFrom, vTo, vTerm, vIndex, vPrevTerm, vCommit, vOK, ⟨vEntries, vEntriesn, vEntriesc⟩⟩
  | _ => False
theorem G_api_Message.decL_spec {l : List Value} {k : G_api_Message → Prop} (h : G_api_Message.decL l k) : ∃ x : G_api_Message, l = x.cells ∧ k x := by
  unfold G_api_Message.decL at h
  split at h
  · exact ⟨_, rfl, h⟩
  · exact h.elim
def G_api_Message.decA (a : Array Value) (k : G_api_Message → Prop) : Prop := G_api_Message.decL a.toList k
theorem G_api_Message.decA_spec {a : Array Value} {k : G_api_Message → Prop} (h : G_api_Message.decA a k) : ∃ x : G_api_Message, a = List.toArray x.cells ∧ k x := by
  obtain ⟨x, e, h⟩ := G_api_Message.decL_spec h
  exact ⟨x, by rw [← e], h⟩
structure G_struct_11 where
  Journal : Option Addr
  id : Int
  n : Int
  role : Int
  commit : Int
  votes : Option Nat
  next_ : Sl
  match_ : Sl
def G_struct_11.cells (x : G_struct_11) : List Value := [.pointer x.Journal, .int .i64 x.id, .int .i64 x.n, .int .i64 x.role, .int .i64 x.commit, .map x.votes, .slice x.next_.a x.next_.n x.next_.c, .slice x.match_.a x.match_.n x.match_.c]
def G_struct_11.decL (l : List Value) (k : G_struct_11 → Prop) : Prop := match l with
  | [.pointer vJournal, .int .i64 vid, .int .i64 vn, .int .i64 vrole, .int .i64 vcommit, .map vvotes, .slice vnext_ vnext_n vnext_c, .slice vmatch_ vmatch_n vmatch_c] => k ⟨vJournal, vid, vn, vrole, vcommit, vvotes, ⟨vnext_, vnext_n, vnext_c⟩, ⟨vmatch_, vmatch_n, vmatch_c⟩⟩
  | _ => False
theorem G_struct_11.decL_spec {l : List Value} {k : G_struct_11 → Prop} (h : G_struct_11.decL l k) : ∃ x : G_struct_11, l = x.cells ∧ k x := by
  unfold G_struct_11.decL at h
  split at h
  · exact ⟨_, rfl, h⟩
  · exact h.elim
def G_struct_11.decA (a : Array Value) (k : G_struct_11 → Prop) : Prop := G_struct_11.decL a.toList k
theorem G_struct_11.decA_spec {a : Array Value} {k : G_struct_11 → Prop} (h : G_struct_11.decA a k) : ∃ x : G_struct_11, a = List.toArray x.cells ∧ k x := by
  obtain ⟨x, e, h⟩ := G_struct_11.decL_spec h
  exact ⟨x, by rw [← e], h⟩
structure G_replica_Replica where
  Journal : Option Addr
  id : Int
  n : Int
  role : Int
  commit : Int
  votes : Option Nat
  next_ : Sl
  match_ : Sl
def G_replica_Replica.cells (x : G_replica_Replica) : List Value := [.pointer x.Journal, .int .i64 x.id, .int .i64 x.n, .int .i64 x.role, .int .i64 x.commit, .map x.votes, .slice x.next_.a x.next_.n x.next_.c, .slice x.match_.a x.match_.n x.match_.c]
def G_replica_Replica.decL (l : List Value) (k : G_replica_Replica → Prop) : Prop := match l with
  | [.pointer vJournal, .int .i64 vid, .int .i64 vn, .int .i64 vrole, .int .i64 vcommit, .map vvotes, .slice vnext_ vnext_n vnext_c, .slice vmatch_ vmatch_n vmatch_c] => k ⟨vJournal, vid, vn, vrole, vcommit, vvotes, ⟨vnext_, vnext_n, vnext_c⟩, ⟨vmatch_, vmatch_n, vmatch_c⟩⟩
  | _ => False
theorem G_replica_Replica.decL_spec {l : List Value} {k : G_replica_Replica → Prop} (h : G_replica_Replica.decL l k) : ∃ x : G_replica_Replica, l = x.cells ∧ k x := by
  unfold G_replica_Replica.decL at h
  split at h
  · exact ⟨_, rfl, h⟩
  · exact h.elim
def G_replica_Replica.decA (a : Array Value) (k : G_replica_Replica → Prop) : Prop := G_replica_Replica.decL a.toList k
theorem G_replica_Replica.decA_spec {a : Array Value} {k : G_replica_Replica → Prop} (h : G_replica_Replica.decA a k) : ∃ x : G_replica_Replica, a = List.toArray x.cells ∧ k x := by
  obtain ⟨x, e, h⟩ := G_replica_Replica.decL_spec h
  exact ⟨x, by rw [← e], h⟩
structure G_struct_12 where
  Kind : Int
  Who : Int
  N : Int
  Entry : G_api_Entry
def G_struct_12.cells (x : G_struct_12) : List Value := [.int .i64 x.Kind, .int .i64 x.Who, .int .i64 x.N, .int .i64 x.Entry.Kind, .int .i64 x.Entry.Tick, .int .i64 x.Entry.Tenant, .int .i64 x.Entry.Cell, .int .i64 x.Entry.Other, .int .i64 x.Entry.Epoch, .int .i64 x.Entry.From, .int .i64 x.Entry.Until, .int .i64 x.Entry.N]
def G_struct_12.decL (l : List Value) (k : G_struct_12 → Prop) : Prop := match l with
  | [.int .i64 vKind, .int .i64 vWho, .int .i64 vN, .int .i64 vEntry_Kind, .int .i64 vEntry_Tick, .int .i64 vEntry_Tenant, .int .i64 vEntry_Cell, .int .i64 vEntry_Other, .int .i64 vEntry_Epoch, .int .i64 vEntry_From, .int .i64 vEntry_Until, .int .i64 vEntry_N] => k ⟨vKind, vWho, vN, ⟨vEntry_Kind, vEntry_Tick, vEntry_Tenant, vEntry_Cell, vEntry_Other, vEntry_Epoch, vEntry_From, vEntry_Until, vEntry_N⟩⟩
  | _ => False
theorem G_struct_12.decL_spec {l : List Value} {k : G_struct_12 → Prop} (h : G_struct_12.decL l k) : ∃ x : G_struct_12, l = x.cells ∧ k x := by
  unfold G_struct_12.decL at h
  split at h
  · exact ⟨_, rfl, h⟩
  · exact h.elim
def G_struct_12.decA (a : Array Value) (k : G_struct_12 → Prop) : Prop := G_struct_12.decL a.toList k
theorem G_struct_12.decA_spec {a : Array Value} {k : G_struct_12 → Prop} (h : G_struct_12.decA a k) : ∃ x : G_struct_12, a = List.toArray x.cells ∧ k x := by
  obtain ⟨x, e, h⟩ := G_struct_12.decL_spec h
  exact ⟨x, by rw [← e], h⟩
def G_struct_12.eqb (x y : G_struct_12) : Bool := (decide (x.Kind = y.Kind) && (decide (x.Who = y.Who) && (decide (x.N = y.N) && (G_api_Entry.eqb x.Entry y.Entry && true))))
theorem G_struct_12.eqb_iff {x y : G_struct_12} : G_struct_12.eqb x y = true ↔ x = y := by
  cases x; cases y; simp [G_struct_12.eqb, strEq_iff, G_api_Entry.eqb_iff]
structure G_api_NetAct where
  Kind : Int
  Who : Int
  N : Int
  Entry : G_api_Entry
def G_api_NetAct.cells (x : G_api_NetAct) : List Value := [.int .i64 x.Kind, .int .i64 x.Who, .int .i64 x.N, .int .i64 x.Entry.Kind, .int .i64 x.Entry.Tick, .int .i64 x.Entry.Tenant, .int .i64 x.Entry.Cell, .int .i64 x.Entry.Other, .int .i64 x.Entry.Epoch, .int .i64 x.Entry.From, .int .i64 x.Entry.Until, .int .i64 x.Entry.N]
def G_api_NetAct.decL (l : List Value) (k : G_api_NetAct → Prop) : Prop := match l with
  | [.int .i64 vKind, .int .i64 vWho, .int .i64 vN, .int .i64 vEntry_Kind, .int .i64 vEntry_Tick, .int .i64 vEntry_Tenant, .int .i64 vEntry_Cell, .int .i64 vEntry_Other, .int .i64 vEntry_Epoch, .int .i64 vEntry_From, .int .i64 vEntry_Until, .int .i64 vEntry_N] => k ⟨vKind, vWho, vN, ⟨vEntry_Kind, vEntry_Tick, vEntry_Tenant, vEntry_Cell, vEntry_Other, vEntry_Epoch, vEntry_From, vEntry_Until, vEntry_N⟩⟩
  | _ => False
theorem G_api_NetAct.decL_spec {l : List Value} {k : G_api_NetAct → Prop} (h : G_api_NetAct.decL l k) : ∃ x : G_api_NetAct, l = x.cells ∧ k x := by
  unfold G_api_NetAct.decL at h
  split at h
  · exact ⟨_, rfl, h⟩
  · exact h.elim
def G_api_NetAct.decA (a : Array Value) (k : G_api_NetAct → Prop) : Prop := G_api_NetAct.decL a.toList k
theorem G_api_NetAct.decA_spec {a : Array Value} {k : G_api_NetAct → Prop} (h : G_api_NetAct.decA a k) : ∃ x : G_api_NetAct, a = List.toArray x.cells ∧ k x := by
  obtain ⟨x, e, h⟩ := G_api_NetAct.decL_spec h
  exact ⟨x, by rw [← e], h⟩
def G_api_NetAct.eqb (x y : G_api_NetAct) : Bool := (decide (x.Kind = y.Kind) && (decide (x.Who = y.Who) && (decide (x.N = y.N) && (G_api_Entry.eqb x.Entry y.Entry && true))))
theorem G_api_NetAct.eqb_iff {x y : G_api_NetAct} : G_api_NetAct.eqb x y = true ↔ x = y := by
  cases x; cases y; simp [G_api_NetAct.eqb, strEq_iff, G_api_Entry.eqb_iff]
structure G_struct_13 where
  J : Option Addr
  ID : Int
  N : Int
  Role : Int
  Commit : Int
  Votes : Sl
  Next : Sl
  Match : Sl
def G_struct_13.cells (x : G_struct_13) : List Value := [.pointer x.J, .int .i64 x.ID, .int .i64 x.N, .int .i64 x.Role, .int .i64 x.Commit, .slice x.Votes.a x.Votes.n x.Votes.c, .slice x.Next.a x.Next.n x.Next.c, .slice x.Match.a x.Match.n x.Match.c]
def G_struct_13.decL (l : List Value) (k : G_struct_13 → Prop) : Prop := match l with
  | [.pointer vJ, .int .i64 vID, .int .i64 vN, .int .i64 vRole, .int .i64 vCommit, .slice vVotes vVotesn vVotesc, .slice vNext vNextn vNextc, .slice vMatch vMatchn vMatchc] => k ⟨vJ, vID, vN, vRole, vCommit, ⟨vVotes, vVotesn, vVotesc⟩, ⟨vNext, vNextn, vNextc⟩, ⟨vMatch, vMatchn, vMatchc⟩⟩
  | _ => False
theorem G_struct_13.decL_spec {l : List Value} {k : G_struct_13 → Prop} (h : G_struct_13.decL l k) : ∃ x : G_struct_13, l = x.cells ∧ k x := by
  unfold G_struct_13.decL at h
  split at h
  · exact ⟨_, rfl, h⟩
  · exact h.elim
def G_struct_13.decA (a : Array Value) (k : G_struct_13 → Prop) : Prop := G_struct_13.decL a.toList k
theorem G_struct_13.decA_spec {a : Array Value} {k : G_struct_13 → Prop} (h : G_struct_13.decA a k) : ∃ x : G_struct_13, a = List.toArray x.cells ∧ k x := by
  obtain ⟨x, e, h⟩ := G_struct_13.decL_spec h
  exact ⟨x, by rw [← e], h⟩
structure G_cellplaneref09_Replica where
  J : Option Addr
  ID : Int
  N : Int
  Role : Int
  Commit : Int
  Votes : Sl
  Next : Sl
  Match : Sl
def G_cellplaneref09_Replica.cells (x : G_cellplaneref09_Replica) : List Value := [.pointer x.J, .int .i64 x.ID, .int .i64 x.N, .int .i64 x.Role, .int .i64 x.Commit, .slice x.Votes.a x.Votes.n x.Votes.c, .slice x.Next.a x.Next.n x.Next.c, .slice x.Match.a x.Match.n x.Match.c]
def G_cellplaneref09_Replica.decL (l : List Value) (k : G_cellplaneref09_Replica → Prop) : Prop := match l with
  | [.pointer vJ, .int .i64 vID, .int .i64 vN, .int .i64 vRole, .int .i64 vCommit, .slice vVotes vVotesn vVotesc, .slice vNext vNextn vNextc, .slice vMatch vMatchn vMatchc] => k ⟨vJ, vID, vN, vRole, vCommit, ⟨vVotes, vVotesn, vVotesc⟩, ⟨vNext, vNextn, vNextc⟩, ⟨vMatch, vMatchn, vMatchc⟩⟩
  | _ => False
theorem G_cellplaneref09_Replica.decL_spec {l : List Value} {k : G_cellplaneref09_Replica → Prop} (h : G_cellplaneref09_Replica.decL l k) : ∃ x : G_cellplaneref09_Replica, l = x.cells ∧ k x := by
  unfold G_cellplaneref09_Replica.decL at h
  split at h
  · exact ⟨_, rfl, h⟩
  · exact h.elim
def G_cellplaneref09_Replica.decA (a : Array Value) (k : G_cellplaneref09_Replica → Prop) : Prop := G_cellplaneref09_Replica.decL a.toList k
theorem G_cellplaneref09_Replica.decA_spec {a : Array Value} {k : G_cellplaneref09_Replica → Prop} (h : G_cellplaneref09_Replica.decA a k) : ∃ x : G_cellplaneref09_Replica, a = List.toArray x.cells ∧ k x := by
  obtain ⟨x, e, h⟩ := G_cellplaneref09_Replica.decL_spec h
  exact ⟨x, by rw [← e], h⟩
structure G_struct_14 where
  bytes : Sl
  durable : Int
def G_struct_14.cells (x : G_struct_14) : List Value := [.slice x.bytes.a x.bytes.n x.bytes.c, .int .i64 x.durable]
def G_struct_14.decL (l : List Value) (k : G_struct_14 → Prop) : Prop := match l with
  | [.slice vbytes vbytesn vbytesc, .int .i64 vdurable] => k ⟨⟨vbytes, vbytesn, vbytesc⟩, vdurable⟩
  | _ => False
theorem G_struct_14.decL_spec {l : List Value} {k : G_struct_14 → Prop} (h : G_struct_14.decL l k) : ∃ x : G_struct_14, l = x.cells ∧ k x := by
  unfold G_struct_14.decL at h
  split at h
  · exact ⟨_, rfl, h⟩
  · exact h.elim
def G_struct_14.decA (a : Array Value) (k : G_struct_14 → Prop) : Prop := G_struct_14.decL a.toList k
theorem G_struct_14.decA_spec {a : Array Value} {k : G_struct_14 → Prop} (h : G_struct_14.decA a k) : ∃ x : G_struct_14, a = List.toArray x.cells ∧ k x := by
  obtain ⟨x, e, h⟩ := G_struct_14.decL_spec h
  exact ⟨x, by rw [← e], h⟩
structure G_disk_Disk where
  bytes : Sl
  durable : Int
def G_disk_Disk.cells (x : G_disk_Disk) : List Value := [.slice x.bytes.a x.bytes.n x.bytes.c, .int .i64 x.durable]
def G_disk_Disk.decL (l : List Value) (k : G_disk_Disk → Prop) : Prop := match l with
  | [.slice vbytes vbytesn vbytesc, .int .i64 vdurable] => k ⟨⟨vbytes, vbytesn, vbytesc⟩, vdurable⟩
  | _ => False
theorem G_disk_Disk.decL_spec {l : List Value} {k : G_disk_Disk → Prop} (h : G_disk_Disk.decL l k) : ∃ x : G_disk_Disk, l = x.cells ∧ k x := by
  unfold G_disk_Disk.decL at h
  split at h
  · exact ⟨_, rfl, h⟩
  · exact h.elim
def G_disk_Disk.decA (a : Array Value) (k : G_disk_Disk → Prop) : Prop := G_disk_Disk.decL a.toList k
theorem G_disk_Disk.decA_spec {a : Array Value} {k : G_disk_Disk → Prop} (h : G_disk_Disk.decA a k) : ∃ x : G_disk_Disk, a = List.toArray x.cells ∧ k x := by
  obtain ⟨x, e, h⟩ := G_disk_Disk.decL_spec h
  exact ⟨x, by rw [← e], h⟩
structure G_struct_15 where
  replicas : Sl
  net : Sl
  committed : Sl
def G_struct_15.cells (x : G_struct_15) : List Value := [.slice x.replicas.a x.replicas.n x.replicas.c, .slice x.net.a x.net.n x.net.c, .slice x.committed.a x.committed.n x.committed.c]
def G_struct_15.decL (l : List Value) (k : G_struct_15 → Prop) : Prop := match l with
  | [.slice vreplicas vreplicasn vreplicasc, .slice vnet vnetn vnetc, .slice vcommitted vcommittedn vcommittedc] => k ⟨⟨vreplicas, vreplicasn, vreplicasc⟩, ⟨vnet, vnetn, vnetc⟩, ⟨vcommitted, vcommittedn, vcommittedc⟩⟩
  | _ => False
theorem G_struct_15.decL_spec {l : List Value} {k : G_struct_15 → Prop} (h : G_struct_15.decL l k) : ∃ x : G_struct_15, l = x.cells ∧ k x := by
  unfold G_struct_15.decL at h
  split at h
  · exact ⟨_, rfl, h⟩
  · exact h.elim
def G_struct_15.decA (a : Array Value) (k : G_struct_15 → Prop) : Prop := G_struct_15.decL a.toList k
theorem G_struct_15.decA_spec {a : Array Value} {k : G_struct_15 → Prop} (h : G_struct_15.decA a k) : ∃ x : G_struct_15, a = List.toArray x.cells ∧ k x := by
  obtain ⟨x, e, h⟩ := G_struct_15.decL_spec h
  exact ⟨x, by rw [← e], h⟩
structure G_quorum_Quorum where
  replicas : Sl
  net : Sl
  committed : Sl
def G_quorum_Quorum.cells (x : G_quorum_Quorum) : List Value := [.slice x.replicas.a x.replicas.n x.replicas.c, .slice x.net.a x.net.n x.net.c, .slice x.committed.a x.committed.n x.committed.c]
def G_quorum_Quorum.decL (l : List Value) (k : G_quorum_Quorum → Prop) : Prop := match l with
  | [.slice vreplicas vreplicasn vreplicasc, .slice vnet vnetn vnetc, .slice vcommitted vcommittedn vcommittedc] => k ⟨⟨vreplicas, vreplicasn, vreplicasc⟩, ⟨vnet, vnetn, vnetc⟩, ⟨vcommitted, vcommittedn, vcommittedc⟩⟩
  | _ => False
theorem G_quorum_Quorum.decL_spec {l : List Value} {k : G_quorum_Quorum → Prop} (h : G_quorum_Quorum.decL l k) : ∃ x : G_quorum_Quorum, l = x.cells ∧ k x := by
  unfold G_quorum_Quorum.decL at h
  split at h
  · exact ⟨_, rfl, h⟩
  · exact h.elim
def G_quorum_Quorum.decA (a : Array Value) (k : G_quorum_Quorum → Prop) : Prop := G_quorum_Quorum.decL a.toList k
theorem G_quorum_Quorum.decA_spec {a : Array Value} {k : G_quorum_Quorum → Prop} (h : G_quorum_Quorum.decA a k) : ∃ x : G_quorum_Quorum, a = List.toArray x.cells ∧ k x := by
  obtain ⟨x, e, h⟩ := G_quorum_Quorum.decL_spec h
  exact ⟨x, by rw [← e], h⟩
structure G_struct_16 where
  R : Sl
  Net : Sl
  Done : Sl
def G_struct_16.cells (x : G_struct_16) : List Value := [.slice x.R.a x.R.n x.R.c, .slice x.Net.a x.Net.n x.Net.c, .slice x.Done.a x.Done.n x.Done.c]
def G_struct_16.decL (l : List Value) (k : G_struct_16 → Prop) : Prop := match l with
  | [.slice vR vRn vRc, .slice vNet vNetn vNetc, .slice vDone vDonen vDonec] => k ⟨⟨vR, vRn, vRc⟩, ⟨vNet, vNetn, vNetc⟩, ⟨vDone, vDonen, vDonec⟩⟩
  | _ => False
theorem G_struct_16.decL_spec {l : List Value} {k : G_struct_16 → Prop} (h : G_struct_16.decL l k) : ∃ x : G_struct_16, l = x.cells ∧ k x := by
  unfold G_struct_16.decL at h
  split at h
  · exact ⟨_, rfl, h⟩
  · exact h.elim
def G_struct_16.decA (a : Array Value) (k : G_struct_16 → Prop) : Prop := G_struct_16.decL a.toList k
theorem G_struct_16.decA_spec {a : Array Value} {k : G_struct_16 → Prop} (h : G_struct_16.decA a k) : ∃ x : G_struct_16, a = List.toArray x.cells ∧ k x := by
  obtain ⟨x, e, h⟩ := G_struct_16.decL_spec h
  exact ⟨x, by rw [← e], h⟩
structure G_cellplaneref10_Quorum where
  R : Sl
  Net : Sl
  Done : Sl
def G_cellplaneref10_Quorum.cells (x : G_cellplaneref10_Quorum) : List Value := [.slice x.R.a x.R.n x.R.c, .slice x.Net.a x.Net.n x.Net.c, .slice x.Done.a x.Done.n x.Done.c]
def G_cellplaneref10_Quorum.decL (l : List Value) (k : G_cellplaneref10_Quorum → Prop) : Prop := match l with
  | [.slice vR vRn vRc, .slice vNet vNetn vNetc, .slice vDone vDonen vDonec] => k ⟨⟨vR, vRn, vRc⟩, ⟨vNet, vNetn, vNetc⟩, ⟨vDone, vDonen, vDonec⟩⟩
  | _ => False
theorem G_cellplaneref10_Quorum.decL_spec {l : List Value} {k : G_cellplaneref10_Quorum → Prop} (h : G_cellplaneref10_Quorum.decL l k) : ∃ x : G_cellplaneref10_Quorum, l = x.cells ∧ k x := by
  unfold G_cellplaneref10_Quorum.decL at h
  split at h
  · exact ⟨_, rfl, h⟩
  · exact h.elim
def G_cellplaneref10_Quorum.decA (a : Array Value) (k : G_cellplaneref10_Quorum → Prop) : Prop := G_cellplaneref10_Quorum.decL a.toList k
theorem G_cellplaneref10_Quorum.decA_spec {a : Array Value} {k : G_cellplaneref10_Quorum → Prop} (h : G_cellplaneref10_Quorum.decA a k) : ∃ x : G_cellplaneref10_Quorum, a = List.toArray x.cells ∧ k x := by
  obtain ⟨x, e, h⟩ := G_cellplaneref10_Quorum.decL_spec h
  exact ⟨x, by rw [← e], h⟩
structure G_struct_17 where
  Which : Int
  Who : Int
  N : Int
def G_struct_17.cells (x : G_struct_17) : List Value := [.int .i64 x.Which, .int .i64 x.Who, .int .i64 x.N]
def G_struct_17.decL (l : List Value) (k : G_struct_17 → Prop) : Prop := match l with
  | [.int .i64 vWhich, .int .i64 vWho, .int .i64 vN] => k ⟨vWhich, vWho, vN⟩
  | _ => False
theorem G_struct_17.decL_spec {l : List Value} {k : G_struct_17 → Prop} (h : G_struct_17.decL l k) : ∃ x : G_struct_17, l = x.cells ∧ k x := by
  unfold G_struct_17.decL at h
  split at h
  · exact ⟨_, rfl, h⟩
  · exact h.elim
def G_struct_17.decA (a : Array Value) (k : G_struct_17 → Prop) : Prop := G_struct_17.decL a.toList k
theorem G_struct_17.decA_spec {a : Array Value} {k : G_struct_17 → Prop} (h : G_struct_17.decA a k) : ∃ x : G_struct_17, a = List.toArray x.cells ∧ k x := by
  obtain ⟨x, e, h⟩ := G_struct_17.decL_spec h
  exact ⟨x, by rw [← e], h⟩
def G_struct_17.eqb (x y : G_struct_17) : Bool := (decide (x.Which = y.Which) && (decide (x.Who = y.Who) && (decide (x.N = y.N) && true)))
theorem G_struct_17.eqb_iff {x y : G_struct_17} : G_struct_17.eqb x y = true ↔ x = y := by
  cases x; cases y; simp [G_struct_17.eqb, strEq_iff]
structure G_cellplanelaw10_Step where
  Which : Int
  Who : Int
  N : Int
def G_cellplanelaw10_Step.cells (x : G_cellplanelaw10_Step) : List Value := [.int .i64 x.Which, .int .i64 x.Who, .int .i64 x.N]
def G_cellplanelaw10_Step.decL (l : List Value) (k : G_cellplanelaw10_Step → Prop) : Prop := match l with
  | [.int .i64 vWhich, .int .i64 vWho, .int .i64 vN] => k ⟨vWhich, vWho, vN⟩
  | _ => False
theorem G_cellplanelaw10_Step.decL_spec {l : List Value} {k : G_cellplanelaw10_Step → Prop} (h : G_cellplanelaw10_Step.decL l k) : ∃ x : G_cellplanelaw10_Step, l = x.cells ∧ k x := by
  unfold G_cellplanelaw10_Step.decL at h
  split at h
  · exact ⟨_, rfl, h⟩
  · exact h.elim
def G_cellplanelaw10_Step.decA (a : Array Value) (k : G_cellplanelaw10_Step → Prop) : Prop := G_cellplanelaw10_Step.decL a.toList k
theorem G_cellplanelaw10_Step.decA_spec {a : Array Value} {k : G_cellplanelaw10_Step → Prop} (h : G_cellplanelaw10_Step.decA a k) : ∃ x : G_cellplanelaw10_Step, a = List.toArray x.cells ∧ k x := by
  obtain ⟨x, e, h⟩ := G_cellplanelaw10_Step.decL_spec h
  exact ⟨x, by rw [← e], h⟩
def G_cellplanelaw10_Step.eqb (x y : G_cellplanelaw10_Step) : Bool := (decide (x.Which = y.Which) && (decide (x.Who = y.Who) && (decide (x.N = y.N) && true)))
theorem G_cellplanelaw10_Step.eqb_iff {x y : G_cellplanelaw10_Step} : G_cellplanelaw10_Step.eqb x y = true ↔ x = y := by
  cases x; cases y; simp [G_cellplanelaw10_Step.eqb, strEq_iff]
structure G_ar9_p_i64 where
  a0 : Option Addr
  a1 : Option Addr
  a2 : Option Addr
  a3 : Option Addr
  a4 : Option Addr
  a5 : Option Addr
  a6 : Option Addr
  a7 : Option Addr
  a8 : Option Addr
def G_ar9_p_i64.cells (x : G_ar9_p_i64) : List Value := [.pointer x.a0, .pointer x.a1, .pointer x.a2, .pointer x.a3, .pointer x.a4, .pointer x.a5, .pointer x.a6, .pointer x.a7, .pointer x.a8]
def G_ar9_p_i64.decL (l : List Value) (k : G_ar9_p_i64 → Prop) : Prop := match l with
  | [.pointer va0, .pointer va1, .pointer va2, .pointer va3, .pointer va4, .pointer va5, .pointer va6, .pointer va7, .pointer va8] => k ⟨va0, va1, va2, va3, va4, va5, va6, va7, va8⟩
  | _ => False
theorem G_ar9_p_i64.decL_spec {l : List Value} {k : G_ar9_p_i64 → Prop} (h : G_ar9_p_i64.decL l k) : ∃ x : G_ar9_p_i64, l = x.cells ∧ k x := by
  unfold G_ar9_p_i64.decL at h
  split at h
  · exact ⟨_, rfl, h⟩
  · exact h.elim
def G_ar9_p_i64.decA (a : Array Value) (k : G_ar9_p_i64 → Prop) : Prop := G_ar9_p_i64.decL a.toList k
theorem G_ar9_p_i64.decA_spec {a : Array Value} {k : G_ar9_p_i64 → Prop} (h : G_ar9_p_i64.decA a k) : ∃ x : G_ar9_p_i64, a = List.toArray x.cells ∧ k x := by
  obtain ⟨x, e, h⟩ := G_ar9_p_i64.decL_spec h
  exact ⟨x, by rw [← e], h⟩
structure G_struct_18 where
  tenants : Int
  cells_ : Int
  regions : Int
  versions : Int
def G_struct_18.cells (x : G_struct_18) : List Value := [.int .i64 x.tenants, .int .i64 x.cells_, .int .i64 x.regions, .int .i64 x.versions]
def G_struct_18.decL (l : List Value) (k : G_struct_18 → Prop) : Prop := match l with
  | [.int .i64 vtenants, .int .i64 vcells_, .int .i64 vregions, .int .i64 vversions] => k ⟨vtenants, vcells_, vregions, vversions⟩
  | _ => False
theorem G_struct_18.decL_spec {l : List Value} {k : G_struct_18 → Prop} (h : G_struct_18.decL l k) : ∃ x : G_struct_18, l = x.cells ∧ k x := by
  unfold G_struct_18.decL at h
  split at h
  · exact ⟨_, rfl, h⟩
  · exact h.elim
def G_struct_18.decA (a : Array Value) (k : G_struct_18 → Prop) : Prop := G_struct_18.decL a.toList k
theorem G_struct_18.decA_spec {a : Array Value} {k : G_struct_18 → Prop} (h : G_struct_18.decA a k) : ∃ x : G_struct_18, a = List.toArray x.cells ∧ k x := by
  obtain ⟨x, e, h⟩ := G_struct_18.decL_spec h
  exact ⟨x, by rw [← e], h⟩
def G_struct_18.eqb (x y : G_struct_18) : Bool := (decide (x.tenants = y.tenants) && (decide (x.cells_ = y.cells_) && (decide (x.regions = y.regions) && (decide (x.versions = y.versions) && true))))
theorem G_struct_18.eqb_iff {x y : G_struct_18} : G_struct_18.eqb x y = true ↔ x = y := by
  cases x; cases y; simp [G_struct_18.eqb, strEq_iff]
structure G_entry_sizes where
  tenants : Int
  cells_ : Int
  regions : Int
  versions : Int
def G_entry_sizes.cells (x : G_entry_sizes) : List Value := [.int .i64 x.tenants, .int .i64 x.cells_, .int .i64 x.regions, .int .i64 x.versions]
def G_entry_sizes.decL (l : List Value) (k : G_entry_sizes → Prop) : Prop := match l with
  | [.int .i64 vtenants, .int .i64 vcells_, .int .i64 vregions, .int .i64 vversions] => k ⟨vtenants, vcells_, vregions, vversions⟩
  | _ => False
theorem G_entry_sizes.decL_spec {l : List Value} {k : G_entry_sizes → Prop} (h : G_entry_sizes.decL l k) : ∃ x : G_entry_sizes, l = x.cells ∧ k x := by
  unfold G_entry_sizes.decL at h
  split at h
  · exact ⟨_, rfl, h⟩
  · exact h.elim
def G_entry_sizes.decA (a : Array Value) (k : G_entry_sizes → Prop) : Prop := G_entry_sizes.decL a.toList k
theorem G_entry_sizes.decA_spec {a : Array Value} {k : G_entry_sizes → Prop} (h : G_entry_sizes.decA a k) : ∃ x : G_entry_sizes, a = List.toArray x.cells ∧ k x := by
  obtain ⟨x, e, h⟩ := G_entry_sizes.decL_spec h
  exact ⟨x, by rw [← e], h⟩
def G_entry_sizes.eqb (x y : G_entry_sizes) : Bool := (decide (x.tenants = y.tenants) && (decide (x.cells_ = y.cells_) && (decide (x.regions = y.regions) && (decide (x.versions = y.versions) && true))))
theorem G_entry_sizes.eqb_iff {x y : G_entry_sizes} : G_entry_sizes.eqb x y = true ↔ x = y := by
  cases x; cases y; simp [G_entry_sizes.eqb, strEq_iff]
structure G_ar9_i64 where
  a0 : Int
  a1 : Int
  a2 : Int
  a3 : Int
  a4 : Int
  a5 : Int
  a6 : Int
  a7 : Int
  a8 : Int
def G_ar9_i64.cells (x : G_ar9_i64) : List Value := [.int .i64 x.a0, .int .i64 x.a1, .int .i64 x.a2, .int .i64 x.a3, .int .i64 x.a4, .int .i64 x.a5, .int .i64 x.a6, .int .i64 x.a7, .int .i64 x.a8]
def G_ar9_i64.decL (l : List Value) (k : G_ar9_i64 → Prop) : Prop := match l with
  | [.int .i64 va0, .int .i64 va1, .int .i64 va2, .int .i64 va3, .int .i64 va4, .int .i64 va5, .int .i64 va6, .int .i64 va7, .int .i64 va8] => k ⟨va0, va1, va2, va3, va4, va5, va6, va7, va8⟩
  | _ => False
theorem G_ar9_i64.decL_spec {l : List Value} {k : G_ar9_i64 → Prop} (h : G_ar9_i64.decL l k) : ∃ x : G_ar9_i64, l = x.cells ∧ k x := by
  unfold G_ar9_i64.decL at h
  split at h
  · exact ⟨_, rfl, h⟩
  · exact h.elim
def G_ar9_i64.decA (a : Array Value) (k : G_ar9_i64 → Prop) : Prop := G_ar9_i64.decL a.toList k
theorem G_ar9_i64.decA_spec {a : Array Value} {k : G_ar9_i64 → Prop} (h : G_ar9_i64.decA a k) : ∃ x : G_ar9_i64, a = List.toArray x.cells ∧ k x := by
  obtain ⟨x, e, h⟩ := G_ar9_i64.decL_spec h
  exact ⟨x, by rw [← e], h⟩
structure G_struct_19 where
  interface : Option Addr
  concrete : Option Addr
  asserted : Option Addr
  missingMethod : ByteArray
def G_struct_19.cells (x : G_struct_19) : List Value := [.pointer x.interface, .pointer x.concrete, .pointer x.asserted, .string x.missingMethod]
def G_struct_19.decL (l : List Value) (k : G_struct_19 → Prop) : Prop := match l with
  | [.pointer vinterface, .pointer vconcrete, .pointer vasserted, .string vmissingMethod] => k ⟨vinterface, vconcrete, vasserted, vmissingMethod⟩
  | _ => False
theorem G_struct_19.decL_spec {l : List Value} {k : G_struct_19 → Prop} (h : G_struct_19.decL l k) : ∃ x : G_struct_19, l = x.cells ∧ k x := by
  unfold G_struct_19.decL at h
  split at h
  · exact ⟨_, rfl, h⟩
  · exact h.elim
def G_struct_19.decA (a : Array Value) (k : G_struct_19 → Prop) : Prop := G_struct_19.decL a.toList k
theorem G_struct_19.decA_spec {a : Array Value} {k : G_struct_19 → Prop} (h : G_struct_19.decA a k) : ∃ x : G_struct_19, a = List.toArray x.cells ∧ k x := by
  obtain ⟨x, e, h⟩ := G_struct_19.decL_spec h
  exact ⟨x, by rw [← e], h⟩
structure G_runtime_TypeAssertionError where
  interface : Option Addr
  concrete : Option Addr
  asserted : Option Addr
  missingMethod : ByteArray
def G_runtime_TypeAssertionError.cells (x : G_runtime_TypeAssertionError) : List Value := [.pointer x.interface, .pointer x.concrete, .pointer x.asserted, .string x.missingMethod]
def G_runtime_TypeAssertionError.decL (l : List Value) (k : G_runtime_TypeAssertionError → Prop) : Prop := match l with
  | [.pointer vinterface, .pointer vconcrete, .pointer vasserted, .string vmissingMethod] => k ⟨vinterface, vconcrete, vasserted, vmissingMethod⟩
  | _ => False
theorem G_runtime_TypeAssertionError.decL_spec {l : List Value} {k : G_runtime_TypeAssertionError → Prop} (h : G_runtime_TypeAssertionError.decL l k) : ∃ x : G_runtime_TypeAssertionError, l = x.cells ∧ k x := by
  unfold G_runtime_TypeAssertionError.decL at h
  split at h
  · exact ⟨_, rfl, h⟩
  · exact h.elim
def G_runtime_TypeAssertionError.decA (a : Array Value) (k : G_runtime_TypeAssertionError → Prop) : Prop := G_runtime_TypeAssertionError.decL a.toList k
theorem G_runtime_TypeAssertionError.decA_spec {a : Array Value} {k : G_runtime_TypeAssertionError → Prop} (h : G_runtime_TypeAssertionError.decA a k) : ∃ x : G_runtime_TypeAssertionError, a = List.toArray x.cells ∧ k x := by
  obtain ⟨x, e, h⟩ := G_runtime_TypeAssertionError.decL_spec h
  exact ⟨x, by rw [← e], h⟩
def repAt : List (Nat × Rep) → Nat → Option Rep
  | [], _ => none
  | x :: r, t => match Nat.beq x.1 t with | true => some x.2 | false => repAt r t
def repS : Nat → Option Rep := repAt [(7, ⟨G_struct, G_struct.cells⟩), (8, ⟨G_runtime_boundsError, G_runtime_boundsError.cells⟩), (13, ⟨G_struct_2, G_struct_2.cells⟩), (14, ⟨G_runtime_errorAddressString, G_runtime_errorAddressString.cells⟩), (18, ⟨G_struct_3, G_struct_3.cells⟩), (19, ⟨G_internal_runtime_maps_unhashableTypeError, G_internal_runtime_maps_unhashableTypeError.cells⟩), (40, ⟨G_struct_4, G_struct_4.cells⟩), (41, ⟨G_api_Entry, G_api_Entry.cells⟩), (42, ⟨G_struct_5, G_struct_5.cells⟩), (43, ⟨G_api_Logged, G_api_Logged.cells⟩), (50, ⟨G_struct_6, G_struct_6.cells⟩), (51, ⟨G_cellplanelaw08_Act, G_cellplanelaw08_Act.cells⟩), (53, ⟨G_struct_7, G_struct_7.cells⟩), (54, ⟨G_journal_Journal, G_journal_Journal.cells⟩), (66, ⟨G_struct_8, G_struct_8.cells⟩), (67, ⟨G_cellplaneref08_Journal, G_cellplaneref08_Journal.cells⟩), (69, ⟨G_struct_9, G_struct_9.cells⟩), (70, ⟨G_cellplaneref07_Disk, G_cellplaneref07_Disk.cells⟩), (83, ⟨G_struct_10, G_struct_10.cells⟩), (84, ⟨G_api_Message, G_api_Message.cells⟩), (90, ⟨G_struct_11, G_struct_11.cells⟩), (91, ⟨G_replica_Replica, G_replica_Replica.cells⟩), (109, ⟨G_struct_12, G_struct_12.cells⟩), (110, ⟨G_api_NetAct, G_api_NetAct.cells⟩), (113, ⟨G_struct_13, G_struct_13.cells⟩), (114, ⟨G_cellplaneref09_Replica, G_cellplaneref09_Replica.cells⟩), (122, ⟨G_struct_14, G_struct_14.cells⟩), (123, ⟨G_disk_Disk, G_disk_Disk.cells⟩), (137, ⟨G_struct_15, G_struct_15.cells⟩), (138, ⟨G_quorum_Quorum, G_quorum_Quorum.cells⟩), (140, ⟨G_struct_16, G_struct_16.cells⟩), (141, ⟨G_cellplaneref10_Quorum, G_cellplaneref10_Quorum.cells⟩), (143, ⟨G_struct_17, G_struct_17.cells⟩), (144, ⟨G_cellplanelaw10_Step, G_cellplanelaw10_Step.cells⟩), (162, ⟨G_ar9_p_i64, G_ar9_p_i64.cells⟩), (177, ⟨G_struct_18, G_struct_18.cells⟩), (178, ⟨G_entry_sizes, G_entry_sizes.cells⟩), (182, ⟨G_ar9_i64, G_ar9_i64.cells⟩), (185, ⟨G_struct_19, G_struct_19.cells⟩), (186, ⟨G_runtime_TypeAssertionError, G_runtime_TypeAssertionError.cells⟩)]
theorem ok2 : okFn PP 2 := ⟨Go.Proofs.Try.f2, by kernel_rfl, by kernel_rfl, by kernel_rfl⟩
theorem ok3 : okFn PP 3 := ⟨Go.Proofs.Try.f3, by kernel_rfl, by kernel_rfl, by kernel_rfl⟩
theorem ok4 : okFn PP 4 := ⟨Go.Proofs.Try.f4, by kernel_rfl, by kernel_rfl, by kernel_rfl⟩
theorem ok5 : okFn PP 5 := ⟨Go.Proofs.Try.f5, by kernel_rfl, by kernel_rfl, by kernel_rfl⟩
theorem ok6 : okFn PP 6 := ⟨Go.Proofs.Try.f6, by kernel_rfl, by kernel_rfl, by kernel_rfl⟩
theorem ok7 : okFn PP 7 := ⟨Go.Proofs.Try.f7, by kernel_rfl, by kernel_rfl, by kernel_rfl⟩
theorem ok8 : okFn PP 8 := ⟨Go.Proofs.Try.f8, by kernel_rfl, by kernel_rfl, by kernel_rfl⟩
theorem ok9 : okFn PP 9 := ⟨Go.Proofs.Try.f9, by kernel_rfl, by kernel_rfl, by kernel_rfl⟩
theorem ok10 : okFn PP 10 := ⟨Go.Proofs.Try.f10, by kernel_rfl, by kernel_rfl, by kernel_rfl⟩
theorem ok11 : okFn PP 11 := ⟨Go.Proofs.Try.f11, by kernel_rfl, by kernel_rfl, by kernel_rfl⟩
theorem ok12 : okFn PP 12 := ⟨Go.Proofs.Try.f12, by kernel_rfl, by kernel_rfl, by kernel_rfl⟩
theorem ok13 : okFn PP 13 := ⟨Go.Proofs.Try.f13, by kernel_rfl, by kernel_rfl, by kernel_rfl⟩
theorem ok14 : okFn PP 14 := ⟨Go.Proofs.Try.f14, by kernel_rfl, by kernel_rfl, by kernel_rfl⟩
theorem ok15 : okFn PP 15 := ⟨Go.Proofs.Try.f15, by kernel_rfl, by kernel_rfl, by kernel_rfl⟩
theorem ok16 : okFn PP 16 := ⟨Go.Proofs.Try.f16, by kernel_rfl, by kernel_rfl, by kernel_rfl⟩
theorem ok17 : okFn PP 17 := ⟨Go.Proofs.Try.f17, by kernel_rfl, by kernel_rfl, by kernel_rfl⟩
theorem ok18 : okFn PP 18 := ⟨Go.Proofs.Try.f18, by kernel_rfl, by kernel_rfl, by kernel_rfl⟩
theorem ok19 : okFn PP 19 := ⟨Go.Proofs.Try.f19, by kernel_rfl, by kernel_rfl, by kernel_rfl⟩
theorem ok20 : okFn PP 20 := ⟨Go.Proofs.Try.f20, by kernel_rfl, by kernel_rfl, by kernel_rfl⟩
theorem ok21 : okFn PP 21 := ⟨Go.Proofs.Try.f21, by kernel_rfl, by kernel_rfl, by kernel_rfl⟩
theorem ok22 : okFn PP 22 := ⟨Go.Proofs.Try.f22, by kernel_rfl, by kernel_rfl, by kernel_rfl⟩
theorem ok23 : okFn PP 23 := ⟨Go.Proofs.Try.f23, by kernel_rfl, by kernel_rfl, by kernel_rfl⟩
theorem ok24 : okFn PP 24 := ⟨Go.Proofs.Try.f24, by kernel_rfl, by kernel_rfl, by kernel_rfl⟩
theorem ok25 : okFn PP 25 := ⟨Go.Proofs.Try.f25, by kernel_rfl, by kernel_rfl, by kernel_rfl⟩
theorem ok26 : okFn PP 26 := ⟨Go.Proofs.Try.f26, by kernel_rfl, by kernel_rfl, by kernel_rfl⟩
theorem ok27 : okFn PP 27 := ⟨Go.Proofs.Try.f27, by kernel_rfl, by kernel_rfl, by kernel_rfl⟩
theorem ok28 : okFn PP 28 := ⟨Go.Proofs.Try.f28, by kernel_rfl, by kernel_rfl, by kernel_rfl⟩
theorem ok29 : okFn PP 29 := ⟨Go.Proofs.Try.f29, by kernel_rfl, by kernel_rfl, by kernel_rfl⟩
theorem ok30 : okFn PP 30 := ⟨Go.Proofs.Try.f30, by kernel_rfl, by kernel_rfl, by kernel_rfl⟩
theorem ok31 : okFn PP 31 := ⟨Go.Proofs.Try.f31, by kernel_rfl, by kernel_rfl, by kernel_rfl⟩
theorem ok32 : okFn PP 32 := ⟨Go.Proofs.Try.f32, by kernel_rfl, by kernel_rfl, by kernel_rfl⟩
theorem ok33 : okFn PP 33 := ⟨Go.Proofs.Try.f33, by kernel_rfl, by kernel_rfl, by kernel_rfl⟩
theorem ok34 : okFn PP 34 := ⟨Go.Proofs.Try.f34, by kernel_rfl, by kernel_rfl, by kernel_rfl⟩
theorem ok35 : okFn PP 35 := ⟨Go.Proofs.Try.f35, by kernel_rfl, by kernel_rfl, by kernel_rfl⟩
theorem ok36 : okFn PP 36 := ⟨Go.Proofs.Try.f36, by kernel_rfl, by kernel_rfl, by kernel_rfl⟩
theorem ok37 : okFn PP 37 := ⟨Go.Proofs.Try.f37, by kernel_rfl, by kernel_rfl, by kernel_rfl⟩
theorem ok38 : okFn PP 38 := ⟨Go.Proofs.Try.f38, by kernel_rfl, by kernel_rfl, by kernel_rfl⟩
theorem ok39 : okFn PP 39 := ⟨Go.Proofs.Try.f39, by kernel_rfl, by kernel_rfl, by kernel_rfl⟩
theorem ok40 : okFn PP 40 := ⟨Go.Proofs.Try.f40, by kernel_rfl, by kernel_rfl, by kernel_rfl⟩
theorem ok41 : okFn PP 41 := ⟨Go.Proofs.Try.f41, by kernel_rfl, by kernel_rfl, by kernel_rfl⟩
theorem ok42 : okFn PP 42 := ⟨Go.Proofs.Try.f42, by kernel_rfl, by kernel_rfl, by kernel_rfl⟩
theorem ok43 : okFn PP 43 := ⟨Go.Proofs.Try.f43, by kernel_rfl, by kernel_rfl, by kernel_rfl⟩
theorem ok44 : okFn PP 44 := ⟨Go.Proofs.Try.f44, by kernel_rfl, by kernel_rfl, by kernel_rfl⟩
theorem ok45 : okFn PP 45 := ⟨Go.Proofs.Try.f45, by kernel_rfl, by kernel_rfl, by kernel_rfl⟩
theorem ok46 : okFn PP 46 := ⟨Go.Proofs.Try.f46, by kernel_rfl, by kernel_rfl, by kernel_rfl⟩
theorem ok47 : okFn PP 47 := ⟨Go.Proofs.Try.f47, by kernel_rfl, by kernel_rfl, by kernel_rfl⟩
theorem ok48 : okFn PP 48 := ⟨Go.Proofs.Try.f48, by kernel_rfl, by kernel_rfl, by kernel_rfl⟩
theorem ok49 : okFn PP 49 := ⟨Go.Proofs.Try.f49, by kernel_rfl, by kernel_rfl, by kernel_rfl⟩
theorem ok50 : okFn PP 50 := ⟨Go.Proofs.Try.f50, by kernel_rfl, by kernel_rfl, by kernel_rfl⟩
theorem ok51 : okFn PP 51 := ⟨Go.Proofs.Try.f51, by kernel_rfl, by kernel_rfl, by kernel_rfl⟩
theorem ok52 : okFn PP 52 := ⟨Go.Proofs.Try.f52, by kernel_rfl, by kernel_rfl, by kernel_rfl⟩
theorem ok53 : okFn PP 53 := ⟨Go.Proofs.Try.f53, by kernel_rfl, by kernel_rfl, by kernel_rfl⟩
theorem ok54 : okFn PP 54 := ⟨Go.Proofs.Try.f54, by kernel_rfl, by kernel_rfl, by kernel_rfl⟩
theorem ok55 : okFn PP 55 := ⟨Go.Proofs.Try.f55, by kernel_rfl, by kernel_rfl, by kernel_rfl⟩
theorem ok56 : okFn PP 56 := ⟨Go.Proofs.Try.f56, by kernel_rfl, by kernel_rfl, by kernel_rfl⟩
theorem ok57 : okFn PP 57 := ⟨Go.Proofs.Try.f57, by kernel_rfl, by kernel_rfl, by kernel_rfl⟩
theorem ok58 : okFn PP 58 := ⟨Go.Proofs.Try.f58, by kernel_rfl, by kernel_rfl, by kernel_rfl⟩
theorem ok59 : okFn PP 59 := ⟨Go.Proofs.Try.f59, by kernel_rfl, by kernel_rfl, by kernel_rfl⟩
theorem ok60 : okFn PP 60 := ⟨Go.Proofs.Try.f60, by kernel_rfl, by kernel_rfl, by kernel_rfl⟩
theorem ok61 : okFn PP 61 := ⟨Go.Proofs.Try.f61, by kernel_rfl, by kernel_rfl, by kernel_rfl⟩
theorem ok62 : okFn PP 62 := ⟨Go.Proofs.Try.f62, by kernel_rfl, by kernel_rfl, by kernel_rfl⟩
theorem ok63 : okFn PP 63 := ⟨Go.Proofs.Try.f63, by kernel_rfl, by kernel_rfl, by kernel_rfl⟩
theorem ok64 : okFn PP 64 := ⟨Go.Proofs.Try.f64, by kernel_rfl, by kernel_rfl, by kernel_rfl⟩
theorem ok65 : okFn PP 65 := ⟨Go.Proofs.Try.f65, by kernel_rfl, by kernel_rfl, by kernel_rfl⟩
theorem ok66 : okFn PP 66 := ⟨Go.Proofs.Try.f66, by kernel_rfl, by kernel_rfl, by kernel_rfl⟩
theorem ok67 : okFn PP 67 := ⟨Go.Proofs.Try.f67, by kernel_rfl, by kernel_rfl, by kernel_rfl⟩
theorem ok68 : okFn PP 68 := ⟨Go.Proofs.Try.f68, by kernel_rfl, by kernel_rfl, by kernel_rfl⟩
theorem ok69 : okFn PP 69 := ⟨Go.Proofs.Try.f69, by kernel_rfl, by kernel_rfl, by kernel_rfl⟩
theorem ok70 : okFn PP 70 := ⟨Go.Proofs.Try.f70, by kernel_rfl, by kernel_rfl, by kernel_rfl⟩
theorem ok71 : okFn PP 71 := ⟨Go.Proofs.Try.f71, by kernel_rfl, by kernel_rfl, by kernel_rfl⟩
theorem ok72 : okFn PP 72 := ⟨Go.Proofs.Try.f72, by kernel_rfl, by kernel_rfl, by kernel_rfl⟩
theorem ok73 : okFn PP 73 := ⟨Go.Proofs.Try.f73, by kernel_rfl, by kernel_rfl, by kernel_rfl⟩
theorem ok74 : okFn PP 74 := ⟨Go.Proofs.Try.f74, by kernel_rfl, by kernel_rfl, by kernel_rfl⟩
theorem ok75 : okFn PP 75 := ⟨Go.Proofs.Try.f75, by kernel_rfl, by kernel_rfl, by kernel_rfl⟩
theorem ok76 : okFn PP 76 := ⟨Go.Proofs.Try.f76, by kernel_rfl, by kernel_rfl, by kernel_rfl⟩
theorem ok77 : okFn PP 77 := ⟨Go.Proofs.Try.f77, by kernel_rfl, by kernel_rfl, by kernel_rfl⟩
theorem ok78 : okFn PP 78 := ⟨Go.Proofs.Try.f78, by kernel_rfl, by kernel_rfl, by kernel_rfl⟩
theorem ok79 : okFn PP 79 := ⟨Go.Proofs.Try.f79, by kernel_rfl, by kernel_rfl, by kernel_rfl⟩
theorem ok80 : okFn PP 80 := ⟨Go.Proofs.Try.f80, by kernel_rfl, by kernel_rfl, by kernel_rfl⟩
theorem ok81 : okFn PP 81 := ⟨Go.Proofs.Try.f81, by kernel_rfl, by kernel_rfl, by kernel_rfl⟩
theorem ok82 : okFn PP 82 := ⟨Go.Proofs.Try.f82, by kernel_rfl, by kernel_rfl, by kernel_rfl⟩
theorem ok83 : okFn PP 83 := ⟨Go.Proofs.Try.f83, by kernel_rfl, by kernel_rfl, by kernel_rfl⟩
theorem ok84 : okFn PP 84 := ⟨Go.Proofs.Try.f84, by kernel_rfl, by kernel_rfl, by kernel_rfl⟩
theorem ok85 : okFn PP 85 := ⟨Go.Proofs.Try.f85, by kernel_rfl, by kernel_rfl, by kernel_rfl⟩
theorem ok86 : okFn PP 86 := ⟨Go.Proofs.Try.f86, by kernel_rfl, by kernel_rfl, by kernel_rfl⟩
theorem ok87 : okFn PP 87 := ⟨Go.Proofs.Try.f87, by kernel_rfl, by kernel_rfl, by kernel_rfl⟩
theorem ok88 : okFn PP 88 := ⟨Go.Proofs.Try.f88, by kernel_rfl, by kernel_rfl, by kernel_rfl⟩
theorem ok89 : okFn PP 89 := ⟨Go.Proofs.Try.f89, by kernel_rfl, by kernel_rfl, by kernel_rfl⟩
theorem ok90 : okFn PP 90 := ⟨Go.Proofs.Try.f90, by kernel_rfl, by kernel_rfl, by kernel_rfl⟩
theorem ok91 : okFn PP 91 := ⟨Go.Proofs.Try.f91, by kernel_rfl, by kernel_rfl, by kernel_rfl⟩
theorem ok92 : okFn PP 92 := ⟨Go.Proofs.Try.f92, by kernel_rfl, by kernel_rfl, by kernel_rfl⟩
theorem ok93 : okFn PP 93 := ⟨Go.Proofs.Try.f93, by kernel_rfl, by kernel_rfl, by kernel_rfl⟩
theorem ok94 : okFn PP 94 := ⟨Go.Proofs.Try.f94, by kernel_rfl, by kernel_rfl, by kernel_rfl⟩
theorem ok95 : okFn PP 95 := ⟨Go.Proofs.Try.f95, by kernel_rfl, by kernel_rfl, by kernel_rfl⟩
theorem ok96 : okFn PP 96 := ⟨Go.Proofs.Try.f96, by kernel_rfl, by kernel_rfl, by kernel_rfl⟩
theorem ok97 : okFn PP 97 := ⟨Go.Proofs.Try.f97, by kernel_rfl, by kernel_rfl, by kernel_rfl⟩
theorem ok98 : okFn PP 98 := ⟨Go.Proofs.Try.f98, by kernel_rfl, by kernel_rfl, by kernel_rfl⟩
theorem ok99 : okFn PP 99 := ⟨Go.Proofs.Try.f99, by kernel_rfl, by kernel_rfl, by kernel_rfl⟩
theorem ok100 : okFn PP 100 := ⟨Go.Proofs.Try.f100, by kernel_rfl, by kernel_rfl, by kernel_rfl⟩
theorem ok101 : okFn PP 101 := ⟨Go.Proofs.Try.f101, by kernel_rfl, by kernel_rfl, by kernel_rfl⟩
theorem ok102 : okFn PP 102 := ⟨Go.Proofs.Try.f102, by kernel_rfl, by kernel_rfl, by kernel_rfl⟩
theorem ok103 : okFn PP 103 := ⟨Go.Proofs.Try.f103, by kernel_rfl, by kernel_rfl, by kernel_rfl⟩
theorem ok104 : okFn PP 104 := ⟨Go.Proofs.Try.f104, by kernel_rfl, by kernel_rfl, by kernel_rfl⟩
theorem ok105 : okFn PP 105 := ⟨Go.Proofs.Try.f105, by kernel_rfl, by kernel_rfl, by kernel_rfl⟩
theorem ok106 : okFn PP 106 := ⟨Go.Proofs.Try.f106, by kernel_rfl, by kernel_rfl, by kernel_rfl⟩
theorem ok107 : okFn PP 107 := ⟨Go.Proofs.Try.f107, by kernel_rfl, by kernel_rfl, by kernel_rfl⟩
theorem ok108 : okFn PP 108 := ⟨Go.Proofs.Try.f108, by kernel_rfl, by kernel_rfl, by kernel_rfl⟩
theorem ok109 : okFn PP 109 := ⟨Go.Proofs.Try.f109, by kernel_rfl, by kernel_rfl, by kernel_rfl⟩
theorem ok110 : okFn PP 110 := ⟨Go.Proofs.Try.f110, by kernel_rfl, by kernel_rfl, by kernel_rfl⟩
theorem ok111 : okFn PP 111 := ⟨Go.Proofs.Try.f111, by kernel_rfl, by kernel_rfl, by kernel_rfl⟩
theorem ok112 : okFn PP 112 := ⟨Go.Proofs.Try.f112, by kernel_rfl, by kernel_rfl, by kernel_rfl⟩
theorem ok113 : okFn PP 113 := ⟨Go.Proofs.Try.f113, by kernel_rfl, by kernel_rfl, by kernel_rfl⟩
theorem ok114 : okFn PP 114 := ⟨Go.Proofs.Try.f114, by kernel_rfl, by kernel_rfl, by kernel_rfl⟩
theorem ok115 : okFn PP 115 := ⟨Go.Proofs.Try.f115, by kernel_rfl, by kernel_rfl, by kernel_rfl⟩
theorem ok116 : okFn PP 116 := ⟨Go.Proofs.Try.f116, by kernel_rfl, by kernel_rfl, by kernel_rfl⟩
theorem ok117 : okFn PP 117 := ⟨Go.Proofs.Try.f117, by kernel_rfl, by kernel_rfl, by kernel_rfl⟩
theorem ok118 : okFn PP 118 := ⟨Go.Proofs.Try.f118, by kernel_rfl, by kernel_rfl, by kernel_rfl⟩
theorem ok119 : okFn PP 119 := ⟨Go.Proofs.Try.f119, by kernel_rfl, by kernel_rfl, by kernel_rfl⟩
theorem ok120 : okFn PP 120 := ⟨Go.Proofs.Try.f120, by kernel_rfl, by kernel_rfl, by kernel_rfl⟩
theorem ok121 : okFn PP 121 := ⟨Go.Proofs.Try.f121, by kernel_rfl, by kernel_rfl, by kernel_rfl⟩
theorem ok122 : okFn PP 122 := ⟨Go.Proofs.Try.f122, by kernel_rfl, by kernel_rfl, by kernel_rfl⟩
theorem ok123 : okFn PP 123 := ⟨Go.Proofs.Try.f123, by kernel_rfl, by kernel_rfl, by kernel_rfl⟩
theorem ok124 : okFn PP 124 := ⟨Go.Proofs.Try.f124, by kernel_rfl, by kernel_rfl, by kernel_rfl⟩
theorem ok125 : okFn PP 125 := ⟨Go.Proofs.Try.f125, by kernel_rfl, by kernel_rfl, by kernel_rfl⟩
theorem ok126 : okFn PP 126 := ⟨Go.Proofs.Try.f126, by kernel_rfl, by kernel_rfl, by kernel_rfl⟩
theorem ok127 : okFn PP 127 := ⟨Go.Proofs.Try.f127, by kernel_rfl, by kernel_rfl, by kernel_rfl⟩
theorem ok128 : okFn PP 128 := ⟨Go.Proofs.Try.f128, by kernel_rfl, by kernel_rfl, by kernel_rfl⟩
theorem ok129 : okFn PP 129 := ⟨Go.Proofs.Try.f129, by kernel_rfl, by kernel_rfl, by kernel_rfl⟩
theorem ok130 : okFn PP 130 := ⟨Go.Proofs.Try.f130, by kernel_rfl, by kernel_rfl, by kernel_rfl⟩
theorem ok131 : okFn PP 131 := ⟨Go.Proofs.Try.f131, by kernel_rfl, by kernel_rfl, by kernel_rfl⟩
theorem ok132 : okFn PP 132 := ⟨Go.Proofs.Try.f132, by kernel_rfl, by kernel_rfl, by kernel_rfl⟩
theorem ok133 : okFn PP 133 := ⟨Go.Proofs.Try.f133, by kernel_rfl, by kernel_rfl, by kernel_rfl⟩
theorem ok134 : okFn PP 134 := ⟨Go.Proofs.Try.f134, by kernel_rfl, by kernel_rfl, by kernel_rfl⟩
theorem ok135 : okFn PP 135 := ⟨Go.Proofs.Try.f135, by kernel_rfl, by kernel_rfl, by kernel_rfl⟩
theorem ok136 : okFn PP 136 := ⟨Go.Proofs.Try.f136, by kernel_rfl, by kernel_rfl, by kernel_rfl⟩
theorem ok137 : okFn PP 137 := ⟨Go.Proofs.Try.f137, by kernel_rfl, by kernel_rfl, by kernel_rfl⟩
theorem ok138 : okFn PP 138 := ⟨Go.Proofs.Try.f138, by kernel_rfl, by kernel_rfl, by kernel_rfl⟩
theorem ok139 : okFn PP 139 := ⟨Go.Proofs.Try.f139, by kernel_rfl, by kernel_rfl, by kernel_rfl⟩
theorem ok140 : okFn PP 140 := ⟨Go.Proofs.Try.f140, by kernel_rfl, by kernel_rfl, by kernel_rfl⟩
theorem ok141 : okFn PP 141 := ⟨Go.Proofs.Try.f141, by kernel_rfl, by kernel_rfl, by kernel_rfl⟩
theorem ok142 : okFn PP 142 := ⟨Go.Proofs.Try.f142, by kernel_rfl, by kernel_rfl, by kernel_rfl⟩
theorem ok143 : okFn PP 143 := ⟨Go.Proofs.Try.f143, by kernel_rfl, by kernel_rfl, by kernel_rfl⟩
theorem ok144 : okFn PP 144 := ⟨Go.Proofs.Try.f144, by kernel_rfl, by kernel_rfl, by kernel_rfl⟩
theorem ok145 : okFn PP 145 := ⟨Go.Proofs.Try.f145, by kernel_rfl, by kernel_rfl, by kernel_rfl⟩
theorem ok146 : okFn PP 146 := ⟨Go.Proofs.Try.f146, by kernel_rfl, by kernel_rfl, by kernel_rfl⟩
theorem ok147 : okFn PP 147 := ⟨Go.Proofs.Try.f147, by kernel_rfl, by kernel_rfl, by kernel_rfl⟩
theorem ok148 : okFn PP 148 := ⟨Go.Proofs.Try.f148, by kernel_rfl, by kernel_rfl, by kernel_rfl⟩
theorem ok149 : okFn PP 149 := ⟨Go.Proofs.Try.f149, by kernel_rfl, by kernel_rfl, by kernel_rfl⟩
theorem ok150 : okFn PP 150 := ⟨Go.Proofs.Try.f150, by kernel_rfl, by kernel_rfl, by kernel_rfl⟩
theorem ok151 : okFn PP 151 := ⟨Go.Proofs.Try.f151, by kernel_rfl, by kernel_rfl, by kernel_rfl⟩
theorem ok152 : okFn PP 152 := ⟨Go.Proofs.Try.f152, by kernel_rfl, by kernel_rfl, by kernel_rfl⟩
theorem ok153 : okFn PP 153 := ⟨Go.Proofs.Try.f153, by kernel_rfl, by kernel_rfl, by kernel_rfl⟩
theorem ok154 : okFn PP 154 := ⟨Go.Proofs.Try.f154, by kernel_rfl, by kernel_rfl, by kernel_rfl⟩
theorem ok155 : okFn PP 155 := ⟨Go.Proofs.Try.f155, by kernel_rfl, by kernel_rfl, by kernel_rfl⟩
theorem ok156 : okFn PP 156 := ⟨Go.Proofs.Try.f156, by kernel_rfl, by kernel_rfl, by kernel_rfl⟩
theorem ok157 : okFn PP 157 := ⟨Go.Proofs.Try.f157, by kernel_rfl, by kernel_rfl, by kernel_rfl⟩
theorem ok158 : okFn PP 158 := ⟨Go.Proofs.Try.f158, by kernel_rfl, by kernel_rfl, by kernel_rfl⟩
theorem ok159 : okFn PP 159 := ⟨Go.Proofs.Try.f159, by kernel_rfl, by kernel_rfl, by kernel_rfl⟩
theorem ok160 : okFn PP 160 := ⟨Go.Proofs.Try.f160, by kernel_rfl, by kernel_rfl, by kernel_rfl⟩
theorem ok161 : okFn PP 161 := ⟨Go.Proofs.Try.f161, by kernel_rfl, by kernel_rfl, by kernel_rfl⟩
theorem ok162 : okFn PP 162 := ⟨Go.Proofs.Try.f162, by kernel_rfl, by kernel_rfl, by kernel_rfl⟩
theorem ok163 : okFn PP 163 := ⟨Go.Proofs.Try.f163, by kernel_rfl, by kernel_rfl, by kernel_rfl⟩
theorem ok164 : okFn PP 164 := ⟨Go.Proofs.Try.f164, by kernel_rfl, by kernel_rfl, by kernel_rfl⟩
theorem ok165 : okFn PP 165 := ⟨Go.Proofs.Try.f165, by kernel_rfl, by kernel_rfl, by kernel_rfl⟩
theorem ok166 : okFn PP 166 := ⟨Go.Proofs.Try.f166, by kernel_rfl, by kernel_rfl, by kernel_rfl⟩
theorem ok167 : okFn PP 167 := ⟨Go.Proofs.Try.f167, by kernel_rfl, by kernel_rfl, by kernel_rfl⟩
theorem ok168 : okFn PP 168 := ⟨Go.Proofs.Try.f168, by kernel_rfl, by kernel_rfl, by kernel_rfl⟩
theorem ok169 : okFn PP 169 := ⟨Go.Proofs.Try.f169, by kernel_rfl, by kernel_rfl, by kernel_rfl⟩
theorem ok170 : okFn PP 170 := ⟨Go.Proofs.Try.f170, by kernel_rfl, by kernel_rfl, by kernel_rfl⟩
theorem ok171 : okFn PP 171 := ⟨Go.Proofs.Try.f171, by kernel_rfl, by kernel_rfl, by kernel_rfl⟩
theorem ok172 : okFn PP 172 := ⟨Go.Proofs.Try.f172, by kernel_rfl, by kernel_rfl, by kernel_rfl⟩
theorem ok173 : okFn PP 173 := ⟨Go.Proofs.Try.f173, by kernel_rfl, by kernel_rfl, by kernel_rfl⟩
theorem ok174 : okFn PP 174 := ⟨Go.Proofs.Try.f174, by kernel_rfl, by kernel_rfl, by kernel_rfl⟩
theorem okAll : ∀ g ∈ [2, 3, 4, 5, 6, 7, 8, 9, 10, 11, 12, 13, 14, 15, 16, 17, 18, 19, 20, 21, 22, 23, 24, 25, 26, 27, 28, 29, 30, 31, 32, 33, 34, 35, 36, 37, 38, 39, 40, 41, 42, 43, 44, 45, 46, 47, 48, 49, 50, 51, 52, 53, 54, 55, 56, 57, 58, 59, 60, 61, 62, 63, 64, 65, 66, 67, 68, 69, 70, 71, 72, 73, 74, 75, 76, 77, 78, 79, 80, 81, 82, 83, 84, 85, 86, 87, 88, 89, 90, 91, 92, 93, 94, 95, 96, 97, 98, 99, 100, 101, 102, 103, 104, 105, 106, 107, 108, 109, 110, 111, 112, 113, 114, 115, 116, 117, 118, 119, 120, 121, 122, 123, 124, 125, 126, 127, 128, 129, 130, 131, 132, 133, 134, 135, 136, 137, 138, 139, 140, 141, 142, 143, 144, 145, 146, 147, 148, 149, 150, 151, 152, 153, 154, 155, 156, 157, 158, 159, 160, 161, 162, 163, 164, 165, 166, 167, 168, 169, 170, 171, 172, 173, 174], okFn PP g :=
  List.forall_mem_cons.2 ⟨ok2, List.forall_mem_cons.2 ⟨ok3, List.forall_mem_cons.2 ⟨ok4, List.forall_mem_cons.2 ⟨ok5, List.forall_mem_cons.2 ⟨ok6, List.forall_mem_cons.2 ⟨ok7, List.forall_mem_cons.2 ⟨ok8, List.forall_mem_cons.2 ⟨ok9, List.forall_mem_cons.2 ⟨ok10, List.forall_mem_cons.2 ⟨ok11, List.forall_mem_cons.2 ⟨ok12, List.forall_mem_cons.2 ⟨ok13, List.forall_mem_cons.2 ⟨ok14, List.forall_mem_cons.2 ⟨ok15, List.forall_mem_cons.2 ⟨ok16, List.forall_mem_cons.2 ⟨ok17, List.forall_mem_cons.2 ⟨ok18, List.forall_mem_cons.2 ⟨ok19, List.forall_mem_cons.2 ⟨ok20, List.forall_mem_cons.2 ⟨ok21, List.forall_mem_cons.2 ⟨ok22, List.forall_mem_cons.2 ⟨ok23, List.forall_mem_cons.2 ⟨ok24, List.forall_mem_cons.2 ⟨ok25, List.forall_mem_cons.2 ⟨ok26, List.forall_mem_cons.2 ⟨ok27, List.forall_mem_cons.2 ⟨ok28, List.forall_mem_cons.2 ⟨ok29, List.forall_mem_cons.2 ⟨ok30, List.forall_mem_cons.2 ⟨ok31, List.forall_mem_cons.2 ⟨ok32, List.forall_mem_cons.2 ⟨ok33, List.forall_mem_cons.2 ⟨ok34, List.forall_mem_cons.2 ⟨ok35, List.forall_mem_cons.2 ⟨ok36, List.forall_mem_cons.2 ⟨ok37, List.forall_mem_cons.2 ⟨ok38, List.forall_mem_cons.2 ⟨ok39, List.forall_mem_cons.2 ⟨ok40, List.forall_mem_cons.2 ⟨ok41, List.forall_mem_cons.2 ⟨ok42, List.forall_mem_cons.2 ⟨ok43, List.forall_mem_cons.2 ⟨ok44, List.forall_mem_cons.2 ⟨ok45, List.forall_mem_cons.2 ⟨ok46, List.forall_mem_cons.2 ⟨ok47, List.forall_mem_cons.2 ⟨ok48, List.forall_mem_cons.2 ⟨ok49, List.forall_mem_cons.2 ⟨ok50, List.forall_mem_cons.2 ⟨ok51, List.forall_mem_cons.2 ⟨ok52, List.forall_mem_cons.2 ⟨ok53, List.forall_mem_cons.2 ⟨ok54, List.forall_mem_cons.2 ⟨ok55, List.forall_mem_cons.2 ⟨ok56, List.forall_mem_cons.2 ⟨ok57, List.forall_mem_cons.2 ⟨ok58, List.forall_mem_cons.2 ⟨ok59, List.forall_mem_cons.2 ⟨ok60, List.forall_mem_cons.2 ⟨ok61, List.forall_mem_cons.2 ⟨ok62, List.forall_mem_cons.2 ⟨ok63, List.forall_mem_cons.2 ⟨ok64, List.forall_mem_cons.2 ⟨ok65, List.forall_mem_cons.2 ⟨ok66, List.forall_mem_cons.2 ⟨ok67, List.forall_mem_cons.2 ⟨ok68, List.forall_mem_cons.2 ⟨ok69, List.forall_mem_cons.2 ⟨ok70, List.forall_mem_cons.2 ⟨ok71, List.forall_mem_cons.2 ⟨ok72, List.forall_mem_cons.2 ⟨ok73, List.forall_mem_cons.2 ⟨ok74, List.forall_mem_cons.2 ⟨ok75, List.forall_mem_cons.2 ⟨ok76, List.forall_mem_cons.2 ⟨ok77, List.forall_mem_cons.2 ⟨ok78, List.forall_mem_cons.2 ⟨ok79, List.forall_mem_cons.2 ⟨ok80, List.forall_mem_cons.2 ⟨ok81, List.forall_mem_cons.2 ⟨ok82, List.forall_mem_cons.2 ⟨ok83, List.forall_mem_cons.2 ⟨ok84, List.forall_mem_cons.2 ⟨ok85, List.forall_mem_cons.2 ⟨ok86, List.forall_mem_cons.2 ⟨ok87, List.forall_mem_cons.2 ⟨ok88, List.forall_mem_cons.2 ⟨ok89, List.forall_mem_cons.2 ⟨ok90, List.forall_mem_cons.2 ⟨ok91, List.forall_mem_cons.2 ⟨ok92, List.forall_mem_cons.2 ⟨ok93, List.forall_mem_cons.2 ⟨ok94, List.forall_mem_cons.2 ⟨ok95, List.forall_mem_cons.2 ⟨ok96, List.forall_mem_cons.2 ⟨ok97, List.forall_mem_cons.2 ⟨ok98, List.forall_mem_cons.2 ⟨ok99, List.forall_mem_cons.2 ⟨ok100, List.forall_mem_cons.2 ⟨ok101, List.forall_mem_cons.2 ⟨ok102, List.forall_mem_cons.2 ⟨ok103, List.forall_mem_cons.2 ⟨ok104, List.forall_mem_cons.2 ⟨ok105, List.forall_mem_cons.2 ⟨ok106, List.forall_mem_cons.2 ⟨ok107, List.forall_mem_cons.2 ⟨ok108, List.forall_mem_cons.2 ⟨ok109, List.forall_mem_cons.2 ⟨ok110, List.forall_mem_cons.2 ⟨ok111, List.forall_mem_cons.2 ⟨ok112, List.forall_mem_cons.2 ⟨ok113, List.forall_mem_cons.2 ⟨ok114, List.forall_mem_cons.2 ⟨ok115, List.forall_mem_cons.2 ⟨ok116, List.forall_mem_cons.2 ⟨ok117, List.forall_mem_cons.2 ⟨ok118, List.forall_mem_cons.2 ⟨ok119, List.forall_mem_cons.2 ⟨ok120, List.forall_mem_cons.2 ⟨ok121, List.forall_mem_cons.2 ⟨ok122, List.forall_mem_cons.2 ⟨ok123, List.forall_mem_cons.2 ⟨ok124, List.forall_mem_cons.2 ⟨ok125, List.forall_mem_cons.2 ⟨ok126, List.forall_mem_cons.2 ⟨ok127, List.forall_mem_cons.2 ⟨ok128, List.forall_mem_cons.2 ⟨ok129, List.forall_mem_cons.2 ⟨ok130, List.forall_mem_cons.2 ⟨ok131, List.forall_mem_cons.2 ⟨ok132, List.forall_mem_cons.2 ⟨ok133, List.forall_mem_cons.2 ⟨ok134, List.forall_mem_cons.2 ⟨ok135, List.forall_mem_cons.2 ⟨ok136, List.forall_mem_cons.2 ⟨ok137, List.forall_mem_cons.2 ⟨ok138, List.forall_mem_cons.2 ⟨ok139, List.forall_mem_cons.2 ⟨ok140, List.forall_mem_cons.2 ⟨ok141, List.forall_mem_cons.2 ⟨ok142, List.forall_mem_cons.2 ⟨ok143, List.forall_mem_cons.2 ⟨ok144, List.forall_mem_cons.2 ⟨ok145, List.forall_mem_cons.2 ⟨ok146, List.forall_mem_cons.2 ⟨ok147, List.forall_mem_cons.2 ⟨ok148, List.forall_mem_cons.2 ⟨ok149, List.forall_mem_cons.2 ⟨ok150, List.forall_mem_cons.2 ⟨ok151, List.forall_mem_cons.2 ⟨ok152, List.forall_mem_cons.2 ⟨ok153, List.forall_mem_cons.2 ⟨ok154, List.forall_mem_cons.2 ⟨ok155, List.forall_mem_cons.2 ⟨ok156, List.forall_mem_cons.2 ⟨ok157, List.forall_mem_cons.2 ⟨ok158, List.forall_mem_cons.2 ⟨ok159, List.forall_mem_cons.2 ⟨ok160, List.forall_mem_cons.2 ⟨ok161, List.forall_mem_cons.2 ⟨ok162, List.forall_mem_cons.2 ⟨ok163, List.forall_mem_cons.2 ⟨ok164, List.forall_mem_cons.2 ⟨ok165, List.forall_mem_cons.2 ⟨ok166, List.forall_mem_cons.2 ⟨ok167, List.forall_mem_cons.2 ⟨ok168, List.forall_mem_cons.2 ⟨ok169, List.forall_mem_cons.2 ⟨ok170, List.forall_mem_cons.2 ⟨ok171, List.forall_mem_cons.2 ⟨ok172, List.forall_mem_cons.2 ⟨ok173, List.forall_mem_cons.2 ⟨ok174, by simp⟩⟩⟩⟩⟩⟩⟩⟩⟩⟩⟩⟩⟩⟩⟩⟩⟩⟩⟩⟩⟩⟩⟩⟩⟩⟩⟩⟩⟩⟩⟩⟩⟩⟩⟩⟩⟩⟩⟩⟩⟩⟩⟩⟩⟩⟩⟩⟩⟩⟩⟩⟩⟩⟩⟩⟩⟩⟩⟩⟩⟩⟩⟩⟩⟩⟩⟩⟩⟩⟩⟩⟩⟩⟩⟩⟩⟩⟩⟩⟩⟩⟩⟩⟩⟩⟩⟩⟩⟩⟩⟩⟩⟩⟩⟩⟩⟩⟩⟩⟩⟩⟩⟩⟩⟩⟩⟩⟩⟩⟩⟩⟩⟩⟩⟩⟩⟩⟩⟩⟩⟩⟩⟩⟩⟩⟩⟩⟩⟩⟩⟩⟩⟩⟩⟩⟩⟩⟩⟩⟩⟩⟩⟩⟩⟩⟩⟩⟩⟩⟩⟩⟩⟩⟩⟩⟩⟩⟩⟩⟩⟩⟩⟩⟩⟩⟩⟩⟩⟩⟩⟩⟩⟩
def callB (g : Nat) : Bool := memN g [2, 3, 4, 5, 6, 7, 8, 9, 10, 11, 12, 13, 14, 15, 16, 17, 18, 19, 20, 21, 22, 23, 24, 25, 26, 27, 28, 29, 30, 31, 32, 33, 34, 35, 36, 37, 38, 39, 40, 41, 42, 43, 44, 45, 46, 47, 48, 49, 50, 51, 52, 53, 54, 55, 56, 57, 58, 59, 60, 61, 62, 63, 64, 65, 66, 67, 68, 69, 70, 71, 72, 73, 74, 75, 76, 77, 78, 79, 80, 81, 82, 83, 84, 85, 86, 87, 88, 89, 90, 91, 92, 93, 94, 95, 96, 97, 98, 99, 100, 101, 102, 103, 104, 105, 106, 107, 108, 109, 110, 111, 112, 113, 114, 115, 116, 117, 118, 119, 120, 121, 122, 123, 124, 125, 126, 127, 128, 129, 130, 131, 132, 133, 134, 135, 136, 137, 138, 139, 140, 141, 142, 143, 144, 145, 146, 147, 148, 149, 150, 151, 152, 153, 154, 155, 156, 157, 158, 159, 160, 161, 162, 163, 164, 165, 166, 167, 168, 169, 170, 171, 172, 173, 174]
noncomputable def cx (N : Nat) (prom : Nat → Bool) : Ctx := { P := PP, N := N, prom := prom, call := callB, rep := repS }
noncomputable abbrev cy (N : Nat) (l : List Nat) : Ctx := cx N fun d => memN d l
abbrev R_struct : RepD := ⟨G_struct, G_struct.cells, G_struct.decL, fun h => G_struct.decL_spec h⟩
abbrev R_runtime_boundsError : RepD := ⟨G_runtime_boundsError, G_runtime_boundsError.cells, G_runtime_boundsError.decL, fun h => G_runtime_boundsError.decL_spec h⟩
abbrev R_struct_2 : RepD := ⟨G_struct_2, G_struct_2.cells, G_struct_2.decL, fun h => G_struct_2.decL_spec h⟩
abbrev R_runtime_errorAddressString : RepD := ⟨G_runtime_errorAddressString, G_runtime_errorAddressString.cells, G_runtime_errorAddressString.decL, fun h => G_runtime_errorAddressString.decL_spec h⟩
abbrev R_struct_3 : RepD := ⟨G_struct_3, G_struct_3.cells, G_struct_3.decL, fun h => G_struct_3.decL_spec h⟩
abbrev R_internal_runtime_maps_unhashableTypeError : RepD := ⟨G_internal_runtime_maps_unhashableTypeError, G_internal_runtime_maps_unhashableTypeError.cells, G_internal_runtime_maps_unhashableTypeError.decL, fun h => G_internal_runtime_maps_unhashableTypeError.decL_spec h⟩
abbrev R_struct_4 : RepD := ⟨G_struct_4, G_struct_4.cells, G_struct_4.decL, fun h => G_struct_4.decL_spec h⟩
abbrev R_api_Entry : RepD := ⟨G_api_Entry, G_api_Entry.cells, G_api_Entry.decL, fun h => G_api_Entry.decL_spec h⟩
abbrev R_struct_5 : RepD := ⟨G_struct_5, G_struct_5.cells, G_struct_5.decL, fun h => G_struct_5.decL_spec h⟩
abbrev R_api_Logged : RepD := ⟨G_api_Logged, G_api_Logged.cells, G_api_Logged.decL, fun h => G_api_Logged.decL_spec h⟩
abbrev R_struct_6 : RepD := ⟨G_struct_6, G_struct_6.cells, G_struct_6.decL, fun h => G_struct_6.decL_spec h⟩
abbrev R_cellplanelaw08_Act : RepD := ⟨G_cellplanelaw08_Act, G_cellplanelaw08_Act.cells, G_cellplanelaw08_Act.decL, fun h => G_cellplanelaw08_Act.decL_spec h⟩
abbrev R_struct_7 : RepD := ⟨G_struct_7, G_struct_7.cells, G_struct_7.decL, fun h => G_struct_7.decL_spec h⟩
abbrev R_journal_Journal : RepD := ⟨G_journal_Journal, G_journal_Journal.cells, G_journal_Journal.decL, fun h => G_journal_Journal.decL_spec h⟩
abbrev R_struct_8 : RepD := ⟨G_struct_8, G_struct_8.cells, G_struct_8.decL, fun h => G_struct_8.decL_spec h⟩
abbrev R_cellplaneref08_Journal : RepD := ⟨G_cellplaneref08_Journal, G_cellplaneref08_Journal.cells, G_cellplaneref08_Journal.decL, fun h => G_cellplaneref08_Journal.decL_spec h⟩
abbrev R_struct_9 : RepD := ⟨G_struct_9, G_struct_9.cells, G_struct_9.decL, fun h => G_struct_9.decL_spec h⟩
abbrev R_cellplaneref07_Disk : RepD := ⟨G_cellplaneref07_Disk, G_cellplaneref07_Disk.cells, G_cellplaneref07_Disk.decL, fun h => G_cellplaneref07_Disk.decL_spec h⟩
abbrev R_struct_10 : RepD := ⟨G_struct_10, G_struct_10.cells, G_struct_10.decL, fun h => G_struct_10.decL_spec h⟩
abbrev R_api_Message : RepD := ⟨G_api_Message, G_api_Message.cells, G_api_Message.decL, fun h => G_api_Message.decL_spec h⟩
abbrev R_struct_11 : RepD := ⟨G_struct_11, G_struct_11.cells, G_struct_11.decL, fun h => G_struct_11.decL_spec h⟩
abbrev R_replica_Replica : RepD := ⟨G_replica_Replica, G_replica_Replica.cells, G_replica_Replica.decL, fun h => G_replica_Replica.decL_spec h⟩
abbrev R_struct_12 : RepD := ⟨G_struct_12, G_struct_12.cells, G_struct_12.decL, fun h => G_struct_12.decL_spec h⟩
abbrev R_api_NetAct : RepD := ⟨G_api_NetAct, G_api_NetAct.cells, G_api_NetAct.decL, fun h => G_api_NetAct.decL_spec h⟩
abbrev R_struct_13 : RepD := ⟨G_struct_13, G_struct_13.cells, G_struct_13.decL, fun h => G_struct_13.decL_spec h⟩
abbrev R_cellplaneref09_Replica : RepD := ⟨G_cellplaneref09_Replica, G_cellplaneref09_Replica.cells, G_cellplaneref09_Replica.decL, fun h => G_cellplaneref09_Replica.decL_spec h⟩
abbrev R_struct_14 : RepD := ⟨G_struct_14, G_struct_14.cells, G_struct_14.decL, fun h => G_struct_14.decL_spec h⟩
abbrev R_disk_Disk : RepD := ⟨G_disk_Disk, G_disk_Disk.cells, G_disk_Disk.decL, fun h => G_disk_Disk.decL_spec h⟩
abbrev R_struct_15 : RepD := ⟨G_struct_15, G_struct_15.cells, G_struct_15.decL, fun h => G_struct_15.decL_spec h⟩
abbrev R_quorum_Quorum : RepD := ⟨G_quorum_Quorum, G_quorum_Quorum.cells, G_quorum_Quorum.decL, fun h => G_quorum_Quorum.decL_spec h⟩
abbrev R_struct_16 : RepD := ⟨G_struct_16, G_struct_16.cells, G_struct_16.decL, fun h => G_struct_16.decL_spec h⟩
abbrev R_cellplaneref10_Quorum : RepD := ⟨G_cellplaneref10_Quorum, G_cellplaneref10_Quorum.cells, G_cellplaneref10_Quorum.decL, fun h => G_cellplaneref10_Quorum.decL_spec h⟩
abbrev R_struct_17 : RepD := ⟨G_struct_17, G_struct_17.cells, G_struct_17.decL, fun h => G_struct_17.decL_spec h⟩
abbrev R_cellplanelaw10_Step : RepD := ⟨G_cellplanelaw10_Step, G_cellplanelaw10_Step.cells, G_cellplanelaw10_Step.decL, fun h => G_cellplanelaw10_Step.decL_spec h⟩
abbrev R_ar9_p_i64 : RepD := ⟨G_ar9_p_i64, G_ar9_p_i64.cells, G_ar9_p_i64.decL, fun h => G_ar9_p_i64.decL_spec h⟩
abbrev R_struct_18 : RepD := ⟨G_struct_18, G_struct_18.cells, G_struct_18.decL, fun h => G_struct_18.decL_spec h⟩
abbrev R_entry_sizes : RepD := ⟨G_entry_sizes, G_entry_sizes.cells, G_entry_sizes.decL, fun h => G_entry_sizes.decL_spec h⟩
abbrev R_ar9_i64 : RepD := ⟨G_ar9_i64, G_ar9_i64.cells, G_ar9_i64.decL, fun h => G_ar9_i64.decL_spec h⟩
abbrev R_struct_19 : RepD := ⟨G_struct_19, G_struct_19.cells, G_struct_19.decL, fun h => G_struct_19.decL_spec h⟩
abbrev R_runtime_TypeAssertionError : RepD := ⟨G_runtime_TypeAssertionError, G_runtime_TypeAssertionError.cells, G_runtime_TypeAssertionError.decL, fun h => G_runtime_TypeAssertionError.decL_spec h⟩
theorem okc {N : Nat} {prom : Nat → Bool} : ∀ g, (cx N prom).call g = true → okFn (cx N prom).P g := fun g hg => okAll g (memN_iff.1 hg)
theorem mixed {N : Nat} {prom : Nat → Bool} : (cx N prom).P.follows .mixedOrders = true := by kernel_rfl
theorem dsm {N : Nat} {l : List Nat} {c : Code} {Q : Cont} {s : St} {w : World} {p : Prop} (h : p) (e : den (cy N l) c Q s w = p := by kernel_rfl) : Snd (cy N l) c Q s w := den_sound okc mixed _ _ _ _ (mpr' e h)
end Go.Sh
