/- The walks in use. Conditions: none. -/
import Derived.Test.YtoobokgbmjbofaaGreatQ5W3
