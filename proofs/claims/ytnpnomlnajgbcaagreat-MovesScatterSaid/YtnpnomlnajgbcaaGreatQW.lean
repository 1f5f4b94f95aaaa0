/- The walks in use. Conditions: none. -/
import Derived.Test.YtnpnomlnajgbcaaGreatQ8W2
