/- A part of the proof (printed smaller by a program of ours). Conditions: none. -/
import Derived.Test.YtoenaheehpjmiaaDoorKL
import Derived.Test.YtoenaheehpjmiaaDoorKBase
namespace Go.Sh
open Go
theorem aKG : ElemZ PP lG eP 1 8 [(.int .i64 0)] := ElemZ.of (by kernel_rfl) (by kernel_rfl) (by kernel_rfl) rfl (by decide)
theorem aZF : ElemZ PP aII aH8 1 8 ((⟨0⟩ : bK).cells) := ElemZ.of (by kernel_rfl) (by kernel_rfl) (by kernel_rfl) rfl (by decide)
theorem aZM : ElemZ PP aIH aIC 2 16 ((⟨0, 0⟩ : bJ).cells) := ElemZ.of (by kernel_rfl) (by kernel_rfl) (by kernel_rfl) rfl (by decide)
theorem aXS : ElemZ PP aGD aY 7 56 ((⟨0, 0, 0, 0, 0, 0, false⟩ : aO).cells) := ElemZ.of (by kernel_rfl) (by kernel_rfl) (by kernel_rfl) rfl (by decide)
theorem aW6 : ElemZ PP aDW vD 2 16 ((⟨0, 0⟩ : aP).cells) := ElemZ.of (by kernel_rfl) (by kernel_rfl) (by kernel_rfl) rfl (by decide)
theorem a0P : ElemZ PP aDX t_u8 1 1 [(.int .u8 0)] := ElemZ.of (by kernel_rfl) (by kernel_rfl) (by kernel_rfl) rfl (by decide)
theorem a2B : ElemZ PP a0R aDX 1 24 [(.slice none 0 0)] := ElemZ.of (by kernel_rfl) (by kernel_rfl) (by kernel_rfl) rfl (by decide)
theorem aH4 : ElemZ PP fP aR 12 88 ((⟨false, false, 0, 0, 0, 0, 0, (⟨0, 0, 0, 0, 0⟩ : aT)⟩ : aJ).cells) := ElemZ.of (by kernel_rfl) (by kernel_rfl) (by kernel_rfl) rfl (by decide)
theorem aJM : ElemZ PP iQ bY 4 32 ((⟨0, 0, 0, 0⟩ : aL).cells) := ElemZ.of (by kernel_rfl) (by kernel_rfl) (by kernel_rfl) rfl (by decide)
theorem a18 : ElemZ PP a0L aFS 1 16 [(.string ByteArray.empty)] := ElemZ.of (by kernel_rfl) (by kernel_rfl) (by kernel_rfl) rfl (by decide)
theorem aYJ : ElemZ PP aHP aD 9 72 ((⟨0, 0, 0, 0, 0, 0, 0, 0, 0⟩ : aC).cells) := ElemZ.of (by kernel_rfl) (by kernel_rfl) (by kernel_rfl) rfl (by decide)
end Go.Sh
