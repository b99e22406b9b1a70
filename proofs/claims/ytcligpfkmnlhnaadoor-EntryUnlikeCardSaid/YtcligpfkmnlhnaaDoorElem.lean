/- What the program's table says of each slice's elements.
   Conditions: none. -/
import Derived.Test.YtcligpfkmnlhnaaDoorLib3
import Derived.Test.YtcligpfkmnlhnaaDoorBase
namespace Go.Sh
open Go
theorem el_sl_i64 : ElemZ PP t_sl_i64 t_i64_2 1 8 [(.int .i64 0)] := ElemZ.of (by kernel_rfl) (by kernel_rfl) (by kernel_rfl) rfl (by decide)
theorem el_sl_api_Zone : ElemZ PP t_sl_api_Zone t_api_Zone 1 8 ((⟨0⟩ : G_api_Zone).cells) := ElemZ.of (by kernel_rfl) (by kernel_rfl) (by kernel_rfl) rfl (by decide)
theorem el_sl_api_Cell : ElemZ PP t_sl_api_Cell t_api_Cell 2 16 ((⟨0, 0⟩ : G_api_Cell).cells) := ElemZ.of (by kernel_rfl) (by kernel_rfl) (by kernel_rfl) rfl (by decide)
theorem el_sl_api_Tenant : ElemZ PP t_sl_api_Tenant t_api_Tenant 7 56 ((⟨0, 0, 0, 0, 0, 0, false⟩ : G_api_Tenant).cells) := ElemZ.of (by kernel_rfl) (by kernel_rfl) (by kernel_rfl) rfl (by decide)
theorem el_sl_api_Version : ElemZ PP t_sl_api_Version t_api_Version 2 16 ((⟨0, 0⟩ : G_api_Version).cells) := ElemZ.of (by kernel_rfl) (by kernel_rfl) (by kernel_rfl) rfl (by decide)
theorem el_sl_u8 : ElemZ PP t_sl_u8 t_u8 1 1 [(.int .u8 0)] := ElemZ.of (by kernel_rfl) (by kernel_rfl) (by kernel_rfl) rfl (by decide)
theorem el_sl_api_TenantState : ElemZ PP t_sl_api_TenantState t_api_TenantState 12 88 ((⟨false, false, 0, 0, 0, 0, 0, (⟨0, 0, 0, 0, 0⟩ : G_api_Window)⟩ : G_api_TenantState).cells) := ElemZ.of (by kernel_rfl) (by kernel_rfl) (by kernel_rfl) rfl (by decide)
theorem el_sl_api_CellState : ElemZ PP t_sl_api_CellState t_api_CellState 4 32 ((⟨0, 0, 0, 0⟩ : G_api_CellState).cells) := ElemZ.of (by kernel_rfl) (by kernel_rfl) (by kernel_rfl) rfl (by decide)
theorem el_sl_string : ElemZ PP t_sl_string t_string 1 16 [(.string ByteArray.empty)] := ElemZ.of (by kernel_rfl) (by kernel_rfl) (by kernel_rfl) rfl (by decide)
theorem el_sl_api_Entry : ElemZ PP t_sl_api_Entry t_api_Entry 9 72 ((⟨0, 0, 0, 0, 0, 0, 0, 0, 0⟩ : G_api_Entry).cells) := ElemZ.of (by kernel_rfl) (by kernel_rfl) (by kernel_rfl) rfl (by decide)
end Go.Sh
