/- The plain functions in use. Conditions: none. -/
import Derived.Test.YtpbegnnholhkdaaGreatQ3S
