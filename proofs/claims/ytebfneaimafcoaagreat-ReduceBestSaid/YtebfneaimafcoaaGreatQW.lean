/- The walks in use. Conditions: none. -/
import Derived.Test.YtebfneaimafcoaaGreatQ5W2
