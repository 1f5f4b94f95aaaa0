/- The walks in use. Conditions: none. -/
import Derived.Test.YtpbegnnholhkdaaGreatQ5W2
