/- The document's free runs, of 31 to 70 pages: there are some (printed). -/
import Derived.Test.YtfppinabdalblaaGreatR9New
namespace Go.Proofs.YtfppinabdalblaaGreat
open Go.RowKit
set_option linter.unusedVariables false
set_option maxRecDepth 100000
theorem R9_31t : isPtr (evCall (ev Tryz.prog Orc.none 0 5000) Tryz.prog Orc.none [] 44 #[vI 31, vZ] (baseWorld 0 [])) = true := by decide +kernel
theorem R9_32t : isPtr (evCall (ev Tryz.prog Orc.none 0 5000) Tryz.prog Orc.none [] 44 #[vI 32, vZ] (baseWorld 0 [])) = true := by decide +kernel
theorem R9_33t : isPtr (evCall (ev Tryz.prog Orc.none 0 5000) Tryz.prog Orc.none [] 44 #[vI 33, vZ] (baseWorld 0 [])) = true := by decide +kernel
theorem R9_34t : isPtr (evCall (ev Tryz.prog Orc.none 0 5000) Tryz.prog Orc.none [] 44 #[vI 34, vZ] (baseWorld 0 [])) = true := by decide +kernel
theorem R9_35t : isPtr (evCall (ev Tryz.prog Orc.none 0 5000) Tryz.prog Orc.none [] 44 #[vI 35, vZ] (baseWorld 0 [])) = true := by decide +kernel
theorem R9_36t : isPtr (evCall (ev Tryz.prog Orc.none 0 5000) Tryz.prog Orc.none [] 44 #[vI 36, vZ] (baseWorld 0 [])) = true := by decide +kernel
theorem R9_37t : isPtr (evCall (ev Tryz.prog Orc.none 0 5000) Tryz.prog Orc.none [] 44 #[vI 37, vZ] (baseWorld 0 [])) = true := by decide +kernel
theorem R9_38t : isPtr (evCall (ev Tryz.prog Orc.none 0 5000) Tryz.prog Orc.none [] 44 #[vI 38, vZ] (baseWorld 0 [])) = true := by decide +kernel
theorem R9_39t : isPtr (evCall (ev Tryz.prog Orc.none 0 5000) Tryz.prog Orc.none [] 44 #[vI 39, vZ] (baseWorld 0 [])) = true := by decide +kernel
theorem R9_40t : isPtr (evCall (ev Tryz.prog Orc.none 0 5000) Tryz.prog Orc.none [] 44 #[vI 40, vZ] (baseWorld 0 [])) = true := by decide +kernel
theorem R9_41t : isPtr (evCall (ev Tryz.prog Orc.none 0 5000) Tryz.prog Orc.none [] 44 #[vI 41, vZ] (baseWorld 0 [])) = true := by decide +kernel
theorem R9_42t : isPtr (evCall (ev Tryz.prog Orc.none 0 5000) Tryz.prog Orc.none [] 44 #[vI 42, vZ] (baseWorld 0 [])) = true := by decide +kernel
theorem R9_43t : isPtr (evCall (ev Tryz.prog Orc.none 0 5000) Tryz.prog Orc.none [] 44 #[vI 43, vZ] (baseWorld 0 [])) = true := by decide +kernel
theorem R9_44t : isPtr (evCall (ev Tryz.prog Orc.none 0 5000) Tryz.prog Orc.none [] 44 #[vI 44, vZ] (baseWorld 0 [])) = true := by decide +kernel
theorem R9_45t : isPtr (evCall (ev Tryz.prog Orc.none 0 5000) Tryz.prog Orc.none [] 44 #[vI 45, vZ] (baseWorld 0 [])) = true := by decide +kernel
theorem R9_46t : isPtr (evCall (ev Tryz.prog Orc.none 0 5000) Tryz.prog Orc.none [] 44 #[vI 46, vZ] (baseWorld 0 [])) = true := by decide +kernel
theorem R9_47t : isPtr (evCall (ev Tryz.prog Orc.none 0 5000) Tryz.prog Orc.none [] 44 #[vI 47, vZ] (baseWorld 0 [])) = true := by decide +kernel
theorem R9_48t : isPtr (evCall (ev Tryz.prog Orc.none 0 5000) Tryz.prog Orc.none [] 44 #[vI 48, vZ] (baseWorld 0 [])) = true := by decide +kernel
theorem R9_49t : isPtr (evCall (ev Tryz.prog Orc.none 0 5000) Tryz.prog Orc.none [] 44 #[vI 49, vZ] (baseWorld 0 [])) = true := by decide +kernel
theorem R9_50t : isPtr (evCall (ev Tryz.prog Orc.none 0 5000) Tryz.prog Orc.none [] 44 #[vI 50, vZ] (baseWorld 0 [])) = true := by decide +kernel
theorem R9_51t : isPtr (evCall (ev Tryz.prog Orc.none 0 5000) Tryz.prog Orc.none [] 44 #[vI 51, vZ] (baseWorld 0 [])) = true := by decide +kernel
theorem R9_52t : isPtr (evCall (ev Tryz.prog Orc.none 0 5000) Tryz.prog Orc.none [] 44 #[vI 52, vZ] (baseWorld 0 [])) = true := by decide +kernel
theorem R9_53t : isPtr (evCall (ev Tryz.prog Orc.none 0 5000) Tryz.prog Orc.none [] 44 #[vI 53, vZ] (baseWorld 0 [])) = true := by decide +kernel
theorem R9_54t : isPtr (evCall (ev Tryz.prog Orc.none 0 5000) Tryz.prog Orc.none [] 44 #[vI 54, vZ] (baseWorld 0 [])) = true := by decide +kernel
theorem R9_55t : isPtr (evCall (ev Tryz.prog Orc.none 0 5000) Tryz.prog Orc.none [] 44 #[vI 55, vZ] (baseWorld 0 [])) = true := by decide +kernel
theorem R9_56t : isPtr (evCall (ev Tryz.prog Orc.none 0 5000) Tryz.prog Orc.none [] 44 #[vI 56, vZ] (baseWorld 0 [])) = true := by decide +kernel
theorem R9_57t : isPtr (evCall (ev Tryz.prog Orc.none 0 5000) Tryz.prog Orc.none [] 44 #[vI 57, vZ] (baseWorld 0 [])) = true := by decide +kernel
theorem R9_58t : isPtr (evCall (ev Tryz.prog Orc.none 0 5000) Tryz.prog Orc.none [] 44 #[vI 58, vZ] (baseWorld 0 [])) = true := by decide +kernel
theorem R9_59t : isPtr (evCall (ev Tryz.prog Orc.none 0 5000) Tryz.prog Orc.none [] 44 #[vI 59, vZ] (baseWorld 0 [])) = true := by decide +kernel
theorem R9_60t : isPtr (evCall (ev Tryz.prog Orc.none 0 5000) Tryz.prog Orc.none [] 44 #[vI 60, vZ] (baseWorld 0 [])) = true := by decide +kernel
theorem R9_61t : isPtr (evCall (ev Tryz.prog Orc.none 0 5000) Tryz.prog Orc.none [] 44 #[vI 61, vZ] (baseWorld 0 [])) = true := by decide +kernel
theorem R9_62t : isPtr (evCall (ev Tryz.prog Orc.none 0 5000) Tryz.prog Orc.none [] 44 #[vI 62, vZ] (baseWorld 0 [])) = true := by decide +kernel
theorem R9_63t : isPtr (evCall (ev Tryz.prog Orc.none 0 5000) Tryz.prog Orc.none [] 44 #[vI 63, vZ] (baseWorld 0 [])) = true := by decide +kernel
theorem R9_64t : isPtr (evCall (ev Tryz.prog Orc.none 0 5000) Tryz.prog Orc.none [] 44 #[vI 64, vZ] (baseWorld 0 [])) = true := by decide +kernel
theorem R9_65t : isPtr (evCall (ev Tryz.prog Orc.none 0 5000) Tryz.prog Orc.none [] 44 #[vI 65, vZ] (baseWorld 0 [])) = true := by decide +kernel
theorem R9_66t : isPtr (evCall (ev Tryz.prog Orc.none 0 5000) Tryz.prog Orc.none [] 44 #[vI 66, vZ] (baseWorld 0 [])) = true := by decide +kernel
theorem R9_67t : isPtr (evCall (ev Tryz.prog Orc.none 0 5000) Tryz.prog Orc.none [] 44 #[vI 67, vZ] (baseWorld 0 [])) = true := by decide +kernel
theorem R9_68t : isPtr (evCall (ev Tryz.prog Orc.none 0 5000) Tryz.prog Orc.none [] 44 #[vI 68, vZ] (baseWorld 0 [])) = true := by decide +kernel
theorem R9_69t : isPtr (evCall (ev Tryz.prog Orc.none 0 5000) Tryz.prog Orc.none [] 44 #[vI 69, vZ] (baseWorld 0 [])) = true := by decide +kernel
theorem R9_70t : isPtr (evCall (ev Tryz.prog Orc.none 0 5000) Tryz.prog Orc.none [] 44 #[vI 70, vZ] (baseWorld 0 [])) = true := by decide +kernel
end Go.Proofs.YtfppinabdalblaaGreat
