/- The document's free runs, of 1 to 128 pages: there are some (printed). -/
import Derived.Test.YtfppinabdalblaaGreatR9a
import Derived.Test.YtfppinabdalblaaGreatR9b
import Derived.Test.YtfppinabdalblaaGreatR9c
import Derived.Test.YtfppinabdalblaaGreatR9d
namespace Go.Proofs.YtfppinabdalblaaGreat
open Go.RowKit
set_option linter.unusedVariables false
set_option maxRecDepth 100000
theorem r9ch31 (P : Int) (w : World) (h : 31 ≤ P ∧ P ≤ 44) : Calls Tryz.prog 44 #[.int .i64 P, .slice none 0 0] w fun e w' => ∃ v', e = .returned v' ∧ OneC v' ∧ Ext w w' := by
  rcases (show P = 31 ∨ P = 32 ∨ P = 33 ∨ P = 34 ∨ P = 35 ∨ P = 36 ∨ P = 37 ∨ P = 38 ∨ P = 39 ∨ P = 40 ∨ P = 41 ∨ P = 42 ∨ P = 43 ∨ P = 44 by omega) with rfl | rfl | rfl | rfl | rfl | rfl | rfl | rfl | rfl | rfl | rfl | rfl | rfl | rfl
  · exact ev_ptr (G := 0) (n := 5000) (Nat.zero_le _) rfl R9_31t
  · exact ev_ptr (G := 0) (n := 5000) (Nat.zero_le _) rfl R9_32t
  · exact ev_ptr (G := 0) (n := 5000) (Nat.zero_le _) rfl R9_33t
  · exact ev_ptr (G := 0) (n := 5000) (Nat.zero_le _) rfl R9_34t
  · exact ev_ptr (G := 0) (n := 5000) (Nat.zero_le _) rfl R9_35t
  · exact ev_ptr (G := 0) (n := 5000) (Nat.zero_le _) rfl R9_36t
  · exact ev_ptr (G := 0) (n := 5000) (Nat.zero_le _) rfl R9_37t
  · exact ev_ptr (G := 0) (n := 5000) (Nat.zero_le _) rfl R9_38t
  · exact ev_ptr (G := 0) (n := 5000) (Nat.zero_le _) rfl R9_39t
  · exact ev_ptr (G := 0) (n := 5000) (Nat.zero_le _) rfl R9_40t
  · exact ev_ptr (G := 0) (n := 5000) (Nat.zero_le _) rfl R9_41t
  · exact ev_ptr (G := 0) (n := 5000) (Nat.zero_le _) rfl R9_42t
  · exact ev_ptr (G := 0) (n := 5000) (Nat.zero_le _) rfl R9_43t
  · exact ev_ptr (G := 0) (n := 5000) (Nat.zero_le _) rfl R9_44t
theorem r9ch45 (P : Int) (w : World) (h : 45 ≤ P ∧ P ≤ 58) : Calls Tryz.prog 44 #[.int .i64 P, .slice none 0 0] w fun e w' => ∃ v', e = .returned v' ∧ OneC v' ∧ Ext w w' := by
  rcases (show P = 45 ∨ P = 46 ∨ P = 47 ∨ P = 48 ∨ P = 49 ∨ P = 50 ∨ P = 51 ∨ P = 52 ∨ P = 53 ∨ P = 54 ∨ P = 55 ∨ P = 56 ∨ P = 57 ∨ P = 58 by omega) with rfl | rfl | rfl | rfl | rfl | rfl | rfl | rfl | rfl | rfl | rfl | rfl | rfl | rfl
  · exact ev_ptr (G := 0) (n := 5000) (Nat.zero_le _) rfl R9_45t
  · exact ev_ptr (G := 0) (n := 5000) (Nat.zero_le _) rfl R9_46t
  · exact ev_ptr (G := 0) (n := 5000) (Nat.zero_le _) rfl R9_47t
  · exact ev_ptr (G := 0) (n := 5000) (Nat.zero_le _) rfl R9_48t
  · exact ev_ptr (G := 0) (n := 5000) (Nat.zero_le _) rfl R9_49t
  · exact ev_ptr (G := 0) (n := 5000) (Nat.zero_le _) rfl R9_50t
  · exact ev_ptr (G := 0) (n := 5000) (Nat.zero_le _) rfl R9_51t
  · exact ev_ptr (G := 0) (n := 5000) (Nat.zero_le _) rfl R9_52t
  · exact ev_ptr (G := 0) (n := 5000) (Nat.zero_le _) rfl R9_53t
  · exact ev_ptr (G := 0) (n := 5000) (Nat.zero_le _) rfl R9_54t
  · exact ev_ptr (G := 0) (n := 5000) (Nat.zero_le _) rfl R9_55t
  · exact ev_ptr (G := 0) (n := 5000) (Nat.zero_le _) rfl R9_56t
  · exact ev_ptr (G := 0) (n := 5000) (Nat.zero_le _) rfl R9_57t
  · exact ev_ptr (G := 0) (n := 5000) (Nat.zero_le _) rfl R9_58t
theorem r9ch59 (P : Int) (w : World) (h : 59 ≤ P ∧ P ≤ 72) : Calls Tryz.prog 44 #[.int .i64 P, .slice none 0 0] w fun e w' => ∃ v', e = .returned v' ∧ OneC v' ∧ Ext w w' := by
  rcases (show P = 59 ∨ P = 60 ∨ P = 61 ∨ P = 62 ∨ P = 63 ∨ P = 64 ∨ P = 65 ∨ P = 66 ∨ P = 67 ∨ P = 68 ∨ P = 69 ∨ P = 70 ∨ P = 71 ∨ P = 72 by omega) with rfl | rfl | rfl | rfl | rfl | rfl | rfl | rfl | rfl | rfl | rfl | rfl | rfl | rfl
  · exact ev_ptr (G := 0) (n := 5000) (Nat.zero_le _) rfl R9_59t
  · exact ev_ptr (G := 0) (n := 5000) (Nat.zero_le _) rfl R9_60t
  · exact ev_ptr (G := 0) (n := 5000) (Nat.zero_le _) rfl R9_61t
  · exact ev_ptr (G := 0) (n := 5000) (Nat.zero_le _) rfl R9_62t
  · exact ev_ptr (G := 0) (n := 5000) (Nat.zero_le _) rfl R9_63t
  · exact ev_ptr (G := 0) (n := 5000) (Nat.zero_le _) rfl R9_64t
  · exact ev_ptr (G := 0) (n := 5000) (Nat.zero_le _) rfl R9_65t
  · exact ev_ptr (G := 0) (n := 5000) (Nat.zero_le _) rfl R9_66t
  · exact ev_ptr (G := 0) (n := 5000) (Nat.zero_le _) rfl R9_67t
  · exact ev_ptr (G := 0) (n := 5000) (Nat.zero_le _) rfl R9_68t
  · exact ev_ptr (G := 0) (n := 5000) (Nat.zero_le _) rfl R9_69t
  · exact ev_ptr (G := 0) (n := 5000) (Nat.zero_le _) rfl R9_70t
  · exact ev_ptr (G := 0) (n := 5000) (Nat.zero_le _) rfl R9_71t
  · exact ev_ptr (G := 0) (n := 5000) (Nat.zero_le _) rfl R9_72t
theorem r9ch73 (P : Int) (w : World) (h : 73 ≤ P ∧ P ≤ 86) : Calls Tryz.prog 44 #[.int .i64 P, .slice none 0 0] w fun e w' => ∃ v', e = .returned v' ∧ OneC v' ∧ Ext w w' := by
  rcases (show P = 73 ∨ P = 74 ∨ P = 75 ∨ P = 76 ∨ P = 77 ∨ P = 78 ∨ P = 79 ∨ P = 80 ∨ P = 81 ∨ P = 82 ∨ P = 83 ∨ P = 84 ∨ P = 85 ∨ P = 86 by omega) with rfl | rfl | rfl | rfl | rfl | rfl | rfl | rfl | rfl | rfl | rfl | rfl | rfl | rfl
  · exact ev_ptr (G := 0) (n := 5000) (Nat.zero_le _) rfl R9_73t
  · exact ev_ptr (G := 0) (n := 5000) (Nat.zero_le _) rfl R9_74t
  · exact ev_ptr (G := 0) (n := 5000) (Nat.zero_le _) rfl R9_75t
  · exact ev_ptr (G := 0) (n := 5000) (Nat.zero_le _) rfl R9_76t
  · exact ev_ptr (G := 0) (n := 5000) (Nat.zero_le _) rfl R9_77t
  · exact ev_ptr (G := 0) (n := 5000) (Nat.zero_le _) rfl R9_78t
  · exact ev_ptr (G := 0) (n := 5000) (Nat.zero_le _) rfl R9_79t
  · exact ev_ptr (G := 0) (n := 5000) (Nat.zero_le _) rfl R9_80t
  · exact ev_ptr (G := 0) (n := 5000) (Nat.zero_le _) rfl R9_81t
  · exact ev_ptr (G := 0) (n := 5000) (Nat.zero_le _) rfl R9_82t
  · exact ev_ptr (G := 0) (n := 5000) (Nat.zero_le _) rfl R9_83t
  · exact ev_ptr (G := 0) (n := 5000) (Nat.zero_le _) rfl R9_84t
  · exact ev_ptr (G := 0) (n := 5000) (Nat.zero_le _) rfl R9_85t
  · exact ev_ptr (G := 0) (n := 5000) (Nat.zero_le _) rfl R9_86t
theorem r9ch87 (P : Int) (w : World) (h : 87 ≤ P ∧ P ≤ 100) : Calls Tryz.prog 44 #[.int .i64 P, .slice none 0 0] w fun e w' => ∃ v', e = .returned v' ∧ OneC v' ∧ Ext w w' := by
  rcases (show P = 87 ∨ P = 88 ∨ P = 89 ∨ P = 90 ∨ P = 91 ∨ P = 92 ∨ P = 93 ∨ P = 94 ∨ P = 95 ∨ P = 96 ∨ P = 97 ∨ P = 98 ∨ P = 99 ∨ P = 100 by omega) with rfl | rfl | rfl | rfl | rfl | rfl | rfl | rfl | rfl | rfl | rfl | rfl | rfl | rfl
  · exact ev_ptr (G := 0) (n := 5000) (Nat.zero_le _) rfl R9_87t
  · exact ev_ptr (G := 0) (n := 5000) (Nat.zero_le _) rfl R9_88t
  · exact ev_ptr (G := 0) (n := 5000) (Nat.zero_le _) rfl R9_89t
  · exact ev_ptr (G := 0) (n := 5000) (Nat.zero_le _) rfl R9_90t
  · exact ev_ptr (G := 0) (n := 5000) (Nat.zero_le _) rfl R9_91t
  · exact ev_ptr (G := 0) (n := 5000) (Nat.zero_le _) rfl R9_92t
  · exact ev_ptr (G := 0) (n := 5000) (Nat.zero_le _) rfl R9_93t
  · exact ev_ptr (G := 0) (n := 5000) (Nat.zero_le _) rfl R9_94t
  · exact ev_ptr (G := 0) (n := 5000) (Nat.zero_le _) rfl R9_95t
  · exact ev_ptr (G := 0) (n := 5000) (Nat.zero_le _) rfl R9_96t
  · exact ev_ptr (G := 0) (n := 5000) (Nat.zero_le _) rfl R9_97t
  · exact ev_ptr (G := 0) (n := 5000) (Nat.zero_le _) rfl R9_98t
  · exact ev_ptr (G := 0) (n := 5000) (Nat.zero_le _) rfl R9_99t
  · exact ev_ptr (G := 0) (n := 5000) (Nat.zero_le _) rfl R9_100t
theorem r9ch101 (P : Int) (w : World) (h : 101 ≤ P ∧ P ≤ 114) : Calls Tryz.prog 44 #[.int .i64 P, .slice none 0 0] w fun e w' => ∃ v', e = .returned v' ∧ OneC v' ∧ Ext w w' := by
  rcases (show P = 101 ∨ P = 102 ∨ P = 103 ∨ P = 104 ∨ P = 105 ∨ P = 106 ∨ P = 107 ∨ P = 108 ∨ P = 109 ∨ P = 110 ∨ P = 111 ∨ P = 112 ∨ P = 113 ∨ P = 114 by omega) with rfl | rfl | rfl | rfl | rfl | rfl | rfl | rfl | rfl | rfl | rfl | rfl | rfl | rfl
  · exact ev_ptr (G := 0) (n := 5000) (Nat.zero_le _) rfl R9_101t
  · exact ev_ptr (G := 0) (n := 5000) (Nat.zero_le _) rfl R9_102t
  · exact ev_ptr (G := 0) (n := 5000) (Nat.zero_le _) rfl R9_103t
  · exact ev_ptr (G := 0) (n := 5000) (Nat.zero_le _) rfl R9_104t
  · exact ev_ptr (G := 0) (n := 5000) (Nat.zero_le _) rfl R9_105t
  · exact ev_ptr (G := 0) (n := 5000) (Nat.zero_le _) rfl R9_106t
  · exact ev_ptr (G := 0) (n := 5000) (Nat.zero_le _) rfl R9_107t
  · exact ev_ptr (G := 0) (n := 5000) (Nat.zero_le _) rfl R9_108t
  · exact ev_ptr (G := 0) (n := 5000) (Nat.zero_le _) rfl R9_109t
  · exact ev_ptr (G := 0) (n := 5000) (Nat.zero_le _) rfl R9_110t
  · exact ev_ptr (G := 0) (n := 5000) (Nat.zero_le _) rfl R9_111t
  · exact ev_ptr (G := 0) (n := 5000) (Nat.zero_le _) rfl R9_112t
  · exact ev_ptr (G := 0) (n := 5000) (Nat.zero_le _) rfl R9_113t
  · exact ev_ptr (G := 0) (n := 5000) (Nat.zero_le _) rfl R9_114t
theorem r9ch115 (P : Int) (w : World) (h : 115 ≤ P ∧ P ≤ 128) : Calls Tryz.prog 44 #[.int .i64 P, .slice none 0 0] w fun e w' => ∃ v', e = .returned v' ∧ OneC v' ∧ Ext w w' := by
  rcases (show P = 115 ∨ P = 116 ∨ P = 117 ∨ P = 118 ∨ P = 119 ∨ P = 120 ∨ P = 121 ∨ P = 122 ∨ P = 123 ∨ P = 124 ∨ P = 125 ∨ P = 126 ∨ P = 127 ∨ P = 128 by omega) with rfl | rfl | rfl | rfl | rfl | rfl | rfl | rfl | rfl | rfl | rfl | rfl | rfl | rfl
  · exact ev_ptr (G := 0) (n := 5000) (Nat.zero_le _) rfl R9_115t
  · exact ev_ptr (G := 0) (n := 5000) (Nat.zero_le _) rfl R9_116t
  · exact ev_ptr (G := 0) (n := 5000) (Nat.zero_le _) rfl R9_117t
  · exact ev_ptr (G := 0) (n := 5000) (Nat.zero_le _) rfl R9_118t
  · exact ev_ptr (G := 0) (n := 5000) (Nat.zero_le _) rfl R9_119t
  · exact ev_ptr (G := 0) (n := 5000) (Nat.zero_le _) rfl R9_120t
  · exact ev_ptr (G := 0) (n := 5000) (Nat.zero_le _) rfl R9_121t
  · exact ev_ptr (G := 0) (n := 5000) (Nat.zero_le _) rfl R9_122t
  · exact ev_ptr (G := 0) (n := 5000) (Nat.zero_le _) rfl R9_123t
  · exact ev_ptr (G := 0) (n := 5000) (Nat.zero_le _) rfl R9_124t
  · exact ev_ptr (G := 0) (n := 5000) (Nat.zero_le _) rfl R9_125t
  · exact ev_ptr (G := 0) (n := 5000) (Nat.zero_le _) rfl R9_126t
  · exact ev_ptr (G := 0) (n := 5000) (Nat.zero_le _) rfl R9_127t
  · exact ev_ptr (G := 0) (n := 5000) (Nat.zero_le _) rfl R9_128t
theorem r9new128 (P : Int) (w : World) (h : 1 ≤ P ∧ P ≤ 128) : Calls Tryz.prog 44 #[.int .i64 P, .slice none 0 0] w fun e w' => ∃ v', e = .returned v' ∧ OneC v' ∧ Ext w w' := by
  by_cases h0 : P ≤ 30
  · exact r9new_any P w ⟨h.1, h0⟩
  by_cases h44 : P ≤ 44
  · exact r9ch31 P w ⟨by omega, by omega⟩
  by_cases h58 : P ≤ 58
  · exact r9ch45 P w ⟨by omega, by omega⟩
  by_cases h72 : P ≤ 72
  · exact r9ch59 P w ⟨by omega, by omega⟩
  by_cases h86 : P ≤ 86
  · exact r9ch73 P w ⟨by omega, by omega⟩
  by_cases h100 : P ≤ 100
  · exact r9ch87 P w ⟨by omega, by omega⟩
  by_cases h114 : P ≤ 114
  · exact r9ch101 P w ⟨by omega, by omega⟩
  exact r9ch115 P w ⟨by omega, by omega⟩
end Go.Proofs.YtfppinabdalblaaGreat
