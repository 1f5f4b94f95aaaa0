/- The walks in use. Conditions: none. -/
import Derived.Test.YtpbegnnholhkdaaGreatQ6W2
