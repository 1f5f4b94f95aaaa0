/- The walks in use. Conditions: none. -/
import Derived.Test.YtpbegnnholhkdaaGreatQ4W3
