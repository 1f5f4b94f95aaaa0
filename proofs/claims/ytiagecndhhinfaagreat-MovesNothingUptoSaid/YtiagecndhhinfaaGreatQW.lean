/- The walks in use. Conditions: none. -/
import Derived.Test.YtiagecndhhinfaaGreatQ4W4
