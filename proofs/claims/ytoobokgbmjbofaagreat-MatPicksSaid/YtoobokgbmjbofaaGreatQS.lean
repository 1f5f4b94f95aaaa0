/- The plain functions in use. Conditions: none. -/
import Derived.Test.YtoobokgbmjbofaaGreatQ5S
