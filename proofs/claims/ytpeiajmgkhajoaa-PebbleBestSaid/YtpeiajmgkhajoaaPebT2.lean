/- The distances of the search of Best, as the kernel reckons them (printed by wip/gen/pebtab.py). -/
import Derived.Test.YtpeiajmgkhajoaaPebT1
namespace Go.Proofs.Ytpeiajmgkhajoaa
set_option linter.unusedVariables false
open Go.RowKit

set_option maxRecDepth 100000 in
theorem tab_6_1 : Tab 6 1 (none) :=
  tab_of (far := [(-1), (-1), (-1), (-1), (-1), (-1), (-1), (-1), (-1), (-1), (-1), (-1), (-1), (-1), (-1), (-1), (-1), (-1), (-1), (-1), (-1), (-1), (-1), (-1), (-1), (-1), (-1), (-1), (-1), (-1), (-1), (-1), 0, (-1), (-1), (-1), (-1), (-1), (-1), (-1), (-1), (-1), (-1), (-1), (-1), (-1), (-1), (-1), (-1), (-1), (-1), (-1), (-1), (-1), (-1), (-1), (-1), (-1), (-1), (-1), (-1), (-1), (-1), (-1)]) (by decide +kernel) (by decide +kernel) (by decide +kernel) (by decide +kernel) (by decide +kernel) (by decide +kernel) (by decide +kernel)
set_option maxRecDepth 100000 in
theorem tab_6_2 : Tab 6 2 (none) :=
  tab_of (far := [(-1), (-1), (-1), (-1), (-1), (-1), (-1), (-1), (-1), (-1), (-1), (-1), (-1), (-1), (-1), (-1), (-1), (-1), (-1), (-1), (-1), (-1), (-1), (-1), (-1), (-1), (-1), (-1), (-1), (-1), (-1), (-1), 0, 1, (-1), (-1), (-1), (-1), (-1), (-1), (-1), (-1), (-1), (-1), (-1), (-1), (-1), (-1), (-1), (-1), (-1), (-1), (-1), (-1), (-1), (-1), (-1), (-1), (-1), (-1), (-1), (-1), (-1), (-1)]) (by decide +kernel) (by decide +kernel) (by decide +kernel) (by decide +kernel) (by decide +kernel) (by decide +kernel) (by decide +kernel)
set_option maxRecDepth 100000 in
theorem tab_6_3 : Tab 6 3 (none) :=
  tab_of (far := [(-1), (-1), (-1), (-1), (-1), (-1), (-1), (-1), (-1), (-1), (-1), (-1), (-1), (-1), (-1), (-1), (-1), (-1), (-1), (-1), (-1), (-1), (-1), (-1), (-1), (-1), (-1), (-1), (-1), (-1), (-1), (-1), 0, 1, 3, 2, (-1), (-1), 4, (-1), (-1), (-1), (-1), (-1), (-1), (-1), (-1), (-1), (-1), (-1), (-1), (-1), (-1), (-1), (-1), (-1), (-1), (-1), (-1), (-1), (-1), (-1), (-1), (-1)]) (by decide +kernel) (by decide +kernel) (by decide +kernel) (by decide +kernel) (by decide +kernel) (by decide +kernel) (by decide +kernel)
set_option maxRecDepth 100000 in
theorem tab_6_4 : Tab 6 4 (some [1, 2, (-1), 3, 4, (-3), 5, 6, (-5), 3, (-4), (-3), 1, (-2), (-1)]) :=
  tab_of (far := [15, 14, 12, 13, 10, 11, 11, 12, 12, 11, 9, 10, 9, 10, 10, 11, 14, 13, 11, 12, 9, 10, 10, 11, 11, 10, 8, 9, 8, 9, 9, (-1), 0, 1, 3, 2, 5, 4, 4, 3, 9, 8, 6, 7, 6, 5, 5, (-1), 15, 14, 12, 13, 8, 9, 11, (-1), 10, 9, 7, (-1), 7, (-1), (-1), (-1)]) (by decide +kernel) (by decide +kernel) (by decide +kernel) (by decide +kernel) (by decide +kernel) (by decide +kernel) (by decide +kernel)
set_option maxRecDepth 100000 in
theorem tab_6_5 : Tab 6 5 (some [1, 2, (-1), 3, 4, 5, 6, (-5), (-4), (-3), 1, (-2), (-1)]) :=
  tab_of (far := [13, 12, 10, 11, 10, 9, 9, 10, 10, 9, 9, 8, 9, 8, 8, 9, 12, 11, 9, 10, 9, 8, 8, 9, 9, 8, 8, 7, 8, 7, 7, 8, 0, 1, 3, 2, 5, 4, 4, 3, 7, 6, 6, 5, 6, 5, 5, 4, 11, 10, 8, 9, 8, 7, 7, 8, 8, 7, 7, 6, 7, 6, 6, (-1)]) (by decide +kernel) (by decide +kernel) (by decide +kernel) (by decide +kernel) (by decide +kernel) (by decide +kernel) (by decide +kernel)
set_option maxRecDepth 100000 in
theorem tab_6_6 : Tab 6 6 (some [1, 2, 3, 4, 5, 6, (-5), (-4), (-3), (-2), (-1)]) :=
  tab_of (far := [11, 10, 10, 9, 10, 9, 9, 8, 10, 9, 9, 8, 9, 8, 8, 7, 10, 9, 9, 8, 9, 8, 8, 7, 9, 8, 8, 7, 8, 7, 7, 6, 0, 1, 3, 2, 5, 4, 4, 3, 7, 6, 6, 5, 6, 5, 5, 4, 9, 8, 8, 7, 8, 7, 7, 6, 8, 7, 7, 6, 7, 6, 6, 5]) (by decide +kernel) (by decide +kernel) (by decide +kernel) (by decide +kernel) (by decide +kernel) (by decide +kernel) (by decide +kernel)
end Go.Proofs.Ytpeiajmgkhajoaa
