/- What the program's table says of each slice's elements.
   Conditions: none. -/
import Derived.Test.YtoenaheehpjmiaaLib3
import Derived.Test.YtoenaheehpjmiaaBase
namespace Go.Sh
open Go
theorem el_sl_i64 : ElemZ PP t_sl_i64 t_i64_2 1 8 [(.int .i64 0)] := ElemZ.of (by kernel_rfl) (by kernel_rfl) (by kernel_rfl) rfl (by decide)
theorem el_sl_api_Logged : ElemZ PP t_sl_api_Logged t_api_Logged 10 80 ((⟨0, (⟨0, 0, 0, 0, 0, 0, 0, 0, 0⟩ : G_api_Entry)⟩ : G_api_Logged).cells) := ElemZ.of (by kernel_rfl) (by kernel_rfl) (by kernel_rfl) rfl (by decide)
theorem el_sl_cellplanelaw08_Act : ElemZ PP t_sl_cellplanelaw08_Act t_cellplanelaw08_Act 3 24 ((⟨0, 0, 0⟩ : G_cellplanelaw08_Act).cells) := ElemZ.of (by kernel_rfl) (by kernel_rfl) (by kernel_rfl) rfl (by decide)
theorem el_sl_u8 : ElemZ PP t_sl_u8 t_u8 1 1 [(.int .u8 0)] := ElemZ.of (by kernel_rfl) (by kernel_rfl) (by kernel_rfl) rfl (by decide)
theorem el_sl_sl_u8 : ElemZ PP t_sl_sl_u8 t_sl_u8 1 24 [(.slice none 0 0)] := ElemZ.of (by kernel_rfl) (by kernel_rfl) (by kernel_rfl) rfl (by decide)
theorem el_sl_api_Message : ElemZ PP t_sl_api_Message t_api_Message 9 88 ((⟨0, 0, 0, 0, 0, 0, 0, false, (⟨none, 0, 0⟩ : Sl)⟩ : G_api_Message).cells) := ElemZ.of (by kernel_rfl) (by kernel_rfl) (by kernel_rfl) rfl (by decide)
theorem el_sl_cellplanelaw10_Step : ElemZ PP t_sl_cellplanelaw10_Step t_cellplanelaw10_Step 3 24 ((⟨0, 0, 0⟩ : G_cellplanelaw10_Step).cells) := ElemZ.of (by kernel_rfl) (by kernel_rfl) (by kernel_rfl) rfl (by decide)
theorem el_sl_api_Entry : ElemZ PP t_sl_api_Entry t_api_Entry 9 72 ((⟨0, 0, 0, 0, 0, 0, 0, 0, 0⟩ : G_api_Entry).cells) := ElemZ.of (by kernel_rfl) (by kernel_rfl) (by kernel_rfl) rfl (by decide)
theorem el_sl_bool : ElemZ PP t_sl_bool t_bool 1 1 [(.bool false)] := ElemZ.of (by kernel_rfl) (by kernel_rfl) (by kernel_rfl) rfl (by decide)
theorem el_sl_p_replica_Replica : ElemZ PP t_sl_p_replica_Replica t_p_replica_Replica 1 8 [(.pointer none)] := ElemZ.of (by kernel_rfl) (by kernel_rfl) (by kernel_rfl) rfl (by decide)
theorem el_sl_p_cellplaneref09_Replica : ElemZ PP t_sl_p_cellplaneref09_Replica t_p_cellplaneref09_Replica 1 8 [(.pointer none)] := ElemZ.of (by kernel_rfl) (by kernel_rfl) (by kernel_rfl) rfl (by decide)
theorem el_sl_string : ElemZ PP t_sl_string t_string 1 16 [(.string ByteArray.empty)] := ElemZ.of (by kernel_rfl) (by kernel_rfl) (by kernel_rfl) rfl (by decide)
end Go.Sh
