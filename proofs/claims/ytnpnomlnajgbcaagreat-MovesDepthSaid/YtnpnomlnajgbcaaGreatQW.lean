/- The walks in use. Conditions: none. -/
import Derived.Test.YtnpnomlnajgbcaaGreatQ5W3
