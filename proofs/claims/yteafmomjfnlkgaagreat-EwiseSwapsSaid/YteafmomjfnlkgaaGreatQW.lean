/- The walks in use. Conditions: none. -/
import Derived.Test.YteafmomjfnlkgaaGreatQ5W2
