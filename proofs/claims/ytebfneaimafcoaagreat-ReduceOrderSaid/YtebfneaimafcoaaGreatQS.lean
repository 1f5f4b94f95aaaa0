/- The plain functions in use. Conditions: none. -/
import Derived.Test.YtebfneaimafcoaaGreatQ4S
