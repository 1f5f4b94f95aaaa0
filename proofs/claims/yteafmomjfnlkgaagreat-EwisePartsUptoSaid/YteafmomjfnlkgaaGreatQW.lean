/- The walks in use. Conditions: none. -/
import Derived.Test.YteafmomjfnlkgaaGreatQ4W5
