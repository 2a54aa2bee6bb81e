/- The document's free runs, of 96 to 113 pages: there are some (printed). -/
import Derived.Test.YtfppinabdalblaaGreatR9New
namespace Go.Proofs.YtfppinabdalblaaGreat
open Go.RowKit
set_option linter.unusedVariables false
set_option maxRecDepth 100000
theorem R9_96t : isPtr (evCall (ev Tryz.prog Orc.none 0 5000) Tryz.prog Orc.none [] 44 #[vI 96, vZ] (baseWorld 0 [])) = true := by decide +kernel
theorem R9_97t : isPtr (evCall (ev Tryz.prog Orc.none 0 5000) Tryz.prog Orc.none [] 44 #[vI 97, vZ] (baseWorld 0 [])) = true := by decide +kernel
theorem R9_98t : isPtr (evCall (ev Tryz.prog Orc.none 0 5000) Tryz.prog Orc.none [] 44 #[vI 98, vZ] (baseWorld 0 [])) = true := by decide +kernel
theorem R9_99t : isPtr (evCall (ev Tryz.prog Orc.none 0 5000) Tryz.prog Orc.none [] 44 #[vI 99, vZ] (baseWorld 0 [])) = true := by decide +kernel
theorem R9_100t : isPtr (evCall (ev Tryz.prog Orc.none 0 5000) Tryz.prog Orc.none [] 44 #[vI 100, vZ] (baseWorld 0 [])) = true := by decide +kernel
theorem R9_101t : isPtr (evCall (ev Tryz.prog Orc.none 0 5000) Tryz.prog Orc.none [] 44 #[vI 101, vZ] (baseWorld 0 [])) = true := by decide +kernel
theorem R9_102t : isPtr (evCall (ev Tryz.prog Orc.none 0 5000) Tryz.prog Orc.none [] 44 #[vI 102, vZ] (baseWorld 0 [])) = true := by decide +kernel
theorem R9_103t : isPtr (evCall (ev Tryz.prog Orc.none 0 5000) Tryz.prog Orc.none [] 44 #[vI 103, vZ] (baseWorld 0 [])) = true := by decide +kernel
theorem R9_104t : isPtr (evCall (ev Tryz.prog Orc.none 0 5000) Tryz.prog Orc.none [] 44 #[vI 104, vZ] (baseWorld 0 [])) = true := by decide +kernel
theorem R9_105t : isPtr (evCall (ev Tryz.prog Orc.none 0 5000) Tryz.prog Orc.none [] 44 #[vI 105, vZ] (baseWorld 0 [])) = true := by decide +kernel
theorem R9_106t : isPtr (evCall (ev Tryz.prog Orc.none 0 5000) Tryz.prog Orc.none [] 44 #[vI 106, vZ] (baseWorld 0 [])) = true := by decide +kernel
theorem R9_107t : isPtr (evCall (ev Tryz.prog Orc.none 0 5000) Tryz.prog Orc.none [] 44 #[vI 107, vZ] (baseWorld 0 [])) = true := by decide +kernel
theorem R9_108t : isPtr (evCall (ev Tryz.prog Orc.none 0 5000) Tryz.prog Orc.none [] 44 #[vI 108, vZ] (baseWorld 0 [])) = true := by decide +kernel
theorem R9_109t : isPtr (evCall (ev Tryz.prog Orc.none 0 5000) Tryz.prog Orc.none [] 44 #[vI 109, vZ] (baseWorld 0 [])) = true := by decide +kernel
theorem R9_110t : isPtr (evCall (ev Tryz.prog Orc.none 0 5000) Tryz.prog Orc.none [] 44 #[vI 110, vZ] (baseWorld 0 [])) = true := by decide +kernel
theorem R9_111t : isPtr (evCall (ev Tryz.prog Orc.none 0 5000) Tryz.prog Orc.none [] 44 #[vI 111, vZ] (baseWorld 0 [])) = true := by decide +kernel
theorem R9_112t : isPtr (evCall (ev Tryz.prog Orc.none 0 5000) Tryz.prog Orc.none [] 44 #[vI 112, vZ] (baseWorld 0 [])) = true := by decide +kernel
theorem R9_113t : isPtr (evCall (ev Tryz.prog Orc.none 0 5000) Tryz.prog Orc.none [] 44 #[vI 113, vZ] (baseWorld 0 [])) = true := by decide +kernel
end Go.Proofs.YtfppinabdalblaaGreat
