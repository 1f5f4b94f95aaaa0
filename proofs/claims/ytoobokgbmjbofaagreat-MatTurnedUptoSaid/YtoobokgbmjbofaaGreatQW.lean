/- The walks in use. Conditions: none. -/
import Derived.Test.YtoobokgbmjbofaaGreatQ4W2
