/-
  Tactics for regions that draw, at hand. No condition.
-/
import Derived.Test.YthmnchemfigneaaGreatW1
import Derived.Deep.QuietTactic
import Derived.BigQuiet
import Derived.Deep.RegionHeld3
