/- The walks in use. Conditions: none. -/
import Derived.Test.YteafmomjfnlkgaaGreatQ8W1
