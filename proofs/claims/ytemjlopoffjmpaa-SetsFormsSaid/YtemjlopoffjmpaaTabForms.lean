/-
  A table of functions, to run them by themselves. Written by gentab.py.
-/
import Derived.Test.YtemjlopoffjmpaaAbs35
import Derived.Test.YtemjlopoffjmpaaCode0
import Derived.Test.YtemjlopoffjmpaaCode1
import Derived.Test.YtemjlopoffjmpaaCode2
import Derived.Test.YtemjlopoffjmpaaCode3
import Derived.Test.YtemjlopoffjmpaaCode4
import Derived.Test.YtemjlopoffjmpaaCode5
import Derived.Test.YtemjlopoffjmpaaCode6
import Derived.Test.YtemjlopoffjmpaaCode7
import Derived.Test.YtemjlopoffjmpaaCode8
import Derived.Test.YtemjlopoffjmpaaCode9
namespace Go.Proofs.Ytemjlopoffjmpaa.Abs
open Go
def tabForms : List (Nat × FD) := [
  (62, ⟨2, 6, [.tmp 4], c62⟩),
  (82, ⟨2, 6, [.tmp 3], c82⟩),
  (81, ⟨2, 17, [.tmp 4], c81⟩),
  (63, ⟨3, 19, [.tmp 6], c63⟩),
  (59, ⟨1, 22, [.tmp 2], c59⟩),
  (40, ⟨1, 7, [.tmp 2], c40⟩),
  (41, ⟨1, 7, [.tmp 2], c41⟩),
  (60, ⟨3, 42, [.tmp 6, .tmp 7], c60⟩),
  (25, ⟨3, 21, [.tmp 6, .tmp 7], c25⟩),
  (26, ⟨3, 33, [.tmp 6, .tmp 7], c26⟩),
  (27, ⟨3, 33, [.tmp 6, .tmp 7], c27⟩),
  (28, ⟨2, 117, [.tmp 4, .tmp 5], c28⟩),
  (29, ⟨3, 69, [.tmp 6, .tmp 7], c29⟩),
  (30, ⟨2, 52, [.tmp 4, .tmp 5], c30⟩),
  (42, ⟨2, 17, [.cell 4 true 5, .tmp 5], c42⟩),
  (57, ⟨1, 28, [.tmp 2], c57⟩),
  (77, ⟨1, 71, [.tmp 2], c77⟩),
  (92, ⟨1, 5, [.tmp 2], c92⟩),
  (100, ⟨1, 63, [.tmp 2], c100⟩),
  (106, ⟨2, 36, [.tmp 4], c106⟩),
  (107, ⟨2, 17, [.tmp 4], c107⟩),
  (108, ⟨2, 48, [.tmp 4], c108⟩),
  (113, ⟨2, 21, [.tmp 4], c113⟩),
  (93, ⟨2, 24, [.tmp 4], c93⟩),
  (58, ⟨2, 6, [.tmp 4], c58⟩),
  (78, ⟨3, 29, [.tmp 6], c78⟩),
  (79, ⟨2, 36, [.tmp 4], c79⟩),
  (80, ⟨2, 6, [.tmp 4], c80⟩),
  (94, ⟨2, 24, [.tmp 4], c94⟩),
  (61, ⟨0, 7, [.tmp 0], c61⟩),
  (64, ⟨3, 17, [.tmp 4], c64⟩),
  (65, ⟨2, 7, [.tmp 4], c65⟩),
  (66, ⟨2, 6, [.tmp 3], c66⟩),
  (67, ⟨3, 30, [.tmp 6], c67⟩),
  (112, ⟨1, 21, [.tmp 2], c112⟩),
  (114, ⟨1, 15, [.tmp 2], c114⟩),
  (23, ⟨0, 89, [.tmp 0], c23⟩),
  (7, ⟨0, 291, [.tmp 0], c7⟩)]
theorem tabForms_ok : ∀ p ∈ tabForms, FnD Try.prog p.1 p.2.np p.2.nt p.2.res p.2.ac := by
  intro p hp
  simp only [tabForms, List.mem_cons, List.not_mem_nil, or_false] at hp
  rcases hp with rfl | rfl | rfl | rfl | rfl | rfl | rfl | rfl | rfl | rfl | rfl | rfl | rfl | rfl | rfl | rfl | rfl | rfl | rfl | rfl | rfl | rfl | rfl | rfl | rfl | rfl | rfl | rfl | rfl | rfl | rfl | rfl | rfl | rfl | rfl | rfl | rfl | rfl
  · exact d62
  · exact d82
  · exact d81
  · exact d63
  · exact d59
  · exact d40
  · exact d41
  · exact d60
  · exact d25
  · exact d26
  · exact d27
  · exact d28
  · exact d29
  · exact d30
  · exact d42
  · exact d57
  · exact d77
  · exact d92
  · exact d100
  · exact d106
  · exact d107
  · exact d108
  · exact d113
  · exact d93
  · exact d58
  · exact d78
  · exact d79
  · exact d80
  · exact d94
  · exact d61
  · exact d64
  · exact d65
  · exact d66
  · exact d67
  · exact d112
  · exact d114
  · exact d23
  · exact d7
end Go.Proofs.Ytemjlopoffjmpaa.Abs
