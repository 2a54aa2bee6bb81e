/- The document's free runs, of 114 to 128 pages: there are some (printed). -/
import Derived.Test.YtfppinabdalblaaGreatR9New
namespace Go.Proofs.YtfppinabdalblaaGreat
open Go.RowKit
set_option linter.unusedVariables false
set_option maxRecDepth 100000
theorem R9_114t : isPtr (evCall (ev Tryz.prog Orc.none 0 5000) Tryz.prog Orc.none [] 44 #[vI 114, vZ] (baseWorld 0 [])) = true := by decide +kernel
theorem R9_115t : isPtr (evCall (ev Tryz.prog Orc.none 0 5000) Tryz.prog Orc.none [] 44 #[vI 115, vZ] (baseWorld 0 [])) = true := by decide +kernel
theorem R9_116t : isPtr (evCall (ev Tryz.prog Orc.none 0 5000) Tryz.prog Orc.none [] 44 #[vI 116, vZ] (baseWorld 0 [])) = true := by decide +kernel
theorem R9_117t : isPtr (evCall (ev Tryz.prog Orc.none 0 5000) Tryz.prog Orc.none [] 44 #[vI 117, vZ] (baseWorld 0 [])) = true := by decide +kernel
theorem R9_118t : isPtr (evCall (ev Tryz.prog Orc.none 0 5000) Tryz.prog Orc.none [] 44 #[vI 118, vZ] (baseWorld 0 [])) = true := by decide +kernel
theorem R9_119t : isPtr (evCall (ev Tryz.prog Orc.none 0 5000) Tryz.prog Orc.none [] 44 #[vI 119, vZ] (baseWorld 0 [])) = true := by decide +kernel
theorem R9_120t : isPtr (evCall (ev Tryz.prog Orc.none 0 5000) Tryz.prog Orc.none [] 44 #[vI 120, vZ] (baseWorld 0 [])) = true := by decide +kernel
theorem R9_121t : isPtr (evCall (ev Tryz.prog Orc.none 0 5000) Tryz.prog Orc.none [] 44 #[vI 121, vZ] (baseWorld 0 [])) = true := by decide +kernel
theorem R9_122t : isPtr (evCall (ev Tryz.prog Orc.none 0 5000) Tryz.prog Orc.none [] 44 #[vI 122, vZ] (baseWorld 0 [])) = true := by decide +kernel
theorem R9_123t : isPtr (evCall (ev Tryz.prog Orc.none 0 5000) Tryz.prog Orc.none [] 44 #[vI 123, vZ] (baseWorld 0 [])) = true := by decide +kernel
theorem R9_124t : isPtr (evCall (ev Tryz.prog Orc.none 0 5000) Tryz.prog Orc.none [] 44 #[vI 124, vZ] (baseWorld 0 [])) = true := by decide +kernel
theorem R9_125t : isPtr (evCall (ev Tryz.prog Orc.none 0 5000) Tryz.prog Orc.none [] 44 #[vI 125, vZ] (baseWorld 0 [])) = true := by decide +kernel
theorem R9_126t : isPtr (evCall (ev Tryz.prog Orc.none 0 5000) Tryz.prog Orc.none [] 44 #[vI 126, vZ] (baseWorld 0 [])) = true := by decide +kernel
theorem R9_127t : isPtr (evCall (ev Tryz.prog Orc.none 0 5000) Tryz.prog Orc.none [] 44 #[vI 127, vZ] (baseWorld 0 [])) = true := by decide +kernel
theorem R9_128t : isPtr (evCall (ev Tryz.prog Orc.none 0 5000) Tryz.prog Orc.none [] 44 #[vI 128, vZ] (baseWorld 0 [])) = true := by decide +kernel
end Go.Proofs.YtfppinabdalblaaGreat
