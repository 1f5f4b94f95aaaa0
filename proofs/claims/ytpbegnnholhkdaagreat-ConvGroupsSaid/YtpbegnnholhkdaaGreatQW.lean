/- The walks in use. Conditions: none. -/
import Derived.Test.YtpbegnnholhkdaaGreatQ3W2
