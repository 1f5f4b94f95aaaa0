/- The plain functions in use. Conditions: none. -/
import Derived.Test.YteafmomjfnlkgaaGreatQ8S
