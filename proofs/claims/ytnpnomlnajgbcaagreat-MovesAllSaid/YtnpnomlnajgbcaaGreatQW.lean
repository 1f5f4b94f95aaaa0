/- The walks in use. Conditions: none. -/
import Derived.Test.YtnpnomlnajgbcaaGreatQ7W2
