/- The plain functions in use. Conditions: none. -/
import Derived.Test.YteafmomjfnlkgaaGreatQ6S
