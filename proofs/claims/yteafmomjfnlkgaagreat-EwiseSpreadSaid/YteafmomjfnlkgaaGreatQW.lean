/- The walks in use. Conditions: none. -/
import Derived.Test.YteafmomjfnlkgaaGreatQ6W4
