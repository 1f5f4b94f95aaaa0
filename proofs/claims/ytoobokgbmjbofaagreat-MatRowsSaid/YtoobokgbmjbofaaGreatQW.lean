/- The walks in use. Conditions: none. -/
import Derived.Test.YtoobokgbmjbofaaGreatQ7W3
