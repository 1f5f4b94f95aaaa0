/- The walks in use. Conditions: none. -/
import Derived.Test.YtebfneaimafcoaaGreatQ3W1
