/- The plain functions in use. Conditions: none. -/
import Derived.Test.YtiagecndhhinfaaGreatQ4S
