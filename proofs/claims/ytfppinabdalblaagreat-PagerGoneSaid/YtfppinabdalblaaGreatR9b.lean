/- The document's free runs, of 71 to 95 pages: there are some (printed). -/
import Derived.Test.YtfppinabdalblaaGreatR9New
namespace Go.Proofs.YtfppinabdalblaaGreat
open Go.RowKit
set_option linter.unusedVariables false
set_option maxRecDepth 100000
theorem R9_71t : isPtr (evCall (ev Tryz.prog Orc.none 0 5000) Tryz.prog Orc.none [] 44 #[vI 71, vZ] (baseWorld 0 [])) = true := by decide +kernel
theorem R9_72t : isPtr (evCall (ev Tryz.prog Orc.none 0 5000) Tryz.prog Orc.none [] 44 #[vI 72, vZ] (baseWorld 0 [])) = true := by decide +kernel
theorem R9_73t : isPtr (evCall (ev Tryz.prog Orc.none 0 5000) Tryz.prog Orc.none [] 44 #[vI 73, vZ] (baseWorld 0 [])) = true := by decide +kernel
theorem R9_74t : isPtr (evCall (ev Tryz.prog Orc.none 0 5000) Tryz.prog Orc.none [] 44 #[vI 74, vZ] (baseWorld 0 [])) = true := by decide +kernel
theorem R9_75t : isPtr (evCall (ev Tryz.prog Orc.none 0 5000) Tryz.prog Orc.none [] 44 #[vI 75, vZ] (baseWorld 0 [])) = true := by decide +kernel
theorem R9_76t : isPtr (evCall (ev Tryz.prog Orc.none 0 5000) Tryz.prog Orc.none [] 44 #[vI 76, vZ] (baseWorld 0 [])) = true := by decide +kernel
theorem R9_77t : isPtr (evCall (ev Tryz.prog Orc.none 0 5000) Tryz.prog Orc.none [] 44 #[vI 77, vZ] (baseWorld 0 [])) = true := by decide +kernel
theorem R9_78t : isPtr (evCall (ev Tryz.prog Orc.none 0 5000) Tryz.prog Orc.none [] 44 #[vI 78, vZ] (baseWorld 0 [])) = true := by decide +kernel
theorem R9_79t : isPtr (evCall (ev Tryz.prog Orc.none 0 5000) Tryz.prog Orc.none [] 44 #[vI 79, vZ] (baseWorld 0 [])) = true := by decide +kernel
theorem R9_80t : isPtr (evCall (ev Tryz.prog Orc.none 0 5000) Tryz.prog Orc.none [] 44 #[vI 80, vZ] (baseWorld 0 [])) = true := by decide +kernel
theorem R9_81t : isPtr (evCall (ev Tryz.prog Orc.none 0 5000) Tryz.prog Orc.none [] 44 #[vI 81, vZ] (baseWorld 0 [])) = true := by decide +kernel
theorem R9_82t : isPtr (evCall (ev Tryz.prog Orc.none 0 5000) Tryz.prog Orc.none [] 44 #[vI 82, vZ] (baseWorld 0 [])) = true := by decide +kernel
theorem R9_83t : isPtr (evCall (ev Tryz.prog Orc.none 0 5000) Tryz.prog Orc.none [] 44 #[vI 83, vZ] (baseWorld 0 [])) = true := by decide +kernel
theorem R9_84t : isPtr (evCall (ev Tryz.prog Orc.none 0 5000) Tryz.prog Orc.none [] 44 #[vI 84, vZ] (baseWorld 0 [])) = true := by decide +kernel
theorem R9_85t : isPtr (evCall (ev Tryz.prog Orc.none 0 5000) Tryz.prog Orc.none [] 44 #[vI 85, vZ] (baseWorld 0 [])) = true := by decide +kernel
theorem R9_86t : isPtr (evCall (ev Tryz.prog Orc.none 0 5000) Tryz.prog Orc.none [] 44 #[vI 86, vZ] (baseWorld 0 [])) = true := by decide +kernel
theorem R9_87t : isPtr (evCall (ev Tryz.prog Orc.none 0 5000) Tryz.prog Orc.none [] 44 #[vI 87, vZ] (baseWorld 0 [])) = true := by decide +kernel
theorem R9_88t : isPtr (evCall (ev Tryz.prog Orc.none 0 5000) Tryz.prog Orc.none [] 44 #[vI 88, vZ] (baseWorld 0 [])) = true := by decide +kernel
theorem R9_89t : isPtr (evCall (ev Tryz.prog Orc.none 0 5000) Tryz.prog Orc.none [] 44 #[vI 89, vZ] (baseWorld 0 [])) = true := by decide +kernel
theorem R9_90t : isPtr (evCall (ev Tryz.prog Orc.none 0 5000) Tryz.prog Orc.none [] 44 #[vI 90, vZ] (baseWorld 0 [])) = true := by decide +kernel
theorem R9_91t : isPtr (evCall (ev Tryz.prog Orc.none 0 5000) Tryz.prog Orc.none [] 44 #[vI 91, vZ] (baseWorld 0 [])) = true := by decide +kernel
theorem R9_92t : isPtr (evCall (ev Tryz.prog Orc.none 0 5000) Tryz.prog Orc.none [] 44 #[vI 92, vZ] (baseWorld 0 [])) = true := by decide +kernel
theorem R9_93t : isPtr (evCall (ev Tryz.prog Orc.none 0 5000) Tryz.prog Orc.none [] 44 #[vI 93, vZ] (baseWorld 0 [])) = true := by decide +kernel
theorem R9_94t : isPtr (evCall (ev Tryz.prog Orc.none 0 5000) Tryz.prog Orc.none [] 44 #[vI 94, vZ] (baseWorld 0 [])) = true := by decide +kernel
theorem R9_95t : isPtr (evCall (ev Tryz.prog Orc.none 0 5000) Tryz.prog Orc.none [] 44 #[vI 95, vZ] (baseWorld 0 [])) = true := by decide +kernel
end Go.Proofs.YtfppinabdalblaaGreat
