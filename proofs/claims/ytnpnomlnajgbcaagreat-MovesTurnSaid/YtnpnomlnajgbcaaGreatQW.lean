/- The walks in use. Conditions: none. -/
import Derived.Test.YtnpnomlnajgbcaaGreatQ3W2
